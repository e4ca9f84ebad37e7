/- Chapter 15: book.Check. -/
import Derived.Test.YtgaiepficjiclaaGreatDoorBkB
import Derived.Test.YtgaiepficjiclaaGreatDoorBkA
import Derived.Test.YtgaiepficjiclaaGreatDoorTra
namespace Go.Proofs.YtgaiepficjiclaaGreatDoor
set_option maxRecDepth 100000
set_option maxHeartbeats 4000000
set_option linter.unusedVariables false
set_option linter.unusedSimpArgs false
open Go.RowKit

theorem Bk.badM_take {m : List (List UInt8 × JV)} {i : Nat} (hi : i < m.length) : Bk.badM (m.take (i + 1)) = Bk.badM (m.take i) ++ (if Bk.may m[i].1 m[i].2 then [] else [m[i].1]) := by
 rw [List.take_succ_eq_append_getElem hi]
 unfold Bk.badM
 rw [List.filter_append, List.map_append]
 cases h : Bk.may m[i].1 m[i].2 <;> simp [h]
theorem Bk.badM_len (m : List (List UInt8 × JV)) : (Bk.badM m).length ≤ m.length := by
 unfold Bk.badM
 rw [List.length_map]
 exact List.length_filter_le _ _
theorem bkcheck_is (v : JV) (B : Option Addr) (d : Nat) (B' : Option Addr) (d' : Nat) (w : World) (Z : Nat) (hZ : Z ≤ w.heap.size) (h : InV w (Lo Z) v (vA v B d B' d')) (hn : v.ms.length ≤ 1048576) :
  Calls Tryz.prog 11 #[.agg #[.int .i64 v.kd, .int .i64 v.nm, .string ⟨v.tx.toArray⟩, .slice B v.ls.length d, .slice B' v.ms.length d']] w fun e w' => (∃ A c, e = .returned (.slice A (Bk.wrong v).length c) ∧ PsC w' A (Bk.wrong v)) ∧ Fr w w' := by
 have H := Lib.hid h
 obtain ⟨A, c, A', c', he, _, hms⟩ := h.open_
 have hA : B' = A' := by obtain ⟨_, _, _, _, e4⟩ := five he; injection e4
 subst hA
 have HMS := Lib.hid hms
 have hM' : (v.ms.length : Int) ≤ 1048576 := by omega
 clear h he hms
 by_cases h6 : v.kd = 6
 ·have q6 : (v.kd != 6) = false := by rw [h6]; rfl
  have HG : Hid (∀ W, Fr w W → Calls Tryz.prog 16 #[.agg #[.int .i64 v.kd, .int .i64 v.nm, .string ⟨v.tx.toArray⟩, .slice B v.ls.length d, .slice B' v.ms.length d'], .string ⟨#[110, 97, 109, 101]⟩] W (OpP Z W (Pt.get v Bk.nName))) := Lib.hid (fun W hW => get_is v B d B' d' Bk.nName W Z (Nat.le_trans hZ hW.size) (H.out.keep hZ hW))
  have HW : Hid (Bk.wrong v = Lib.compact ((Bk.badM v.ms ++ if (Pt.get v Bk.nName).isSome then [] else [Bk.nName]).mergeSort fun x y => decide (x ≤ y))) := Lib.hid (by rw [Srt.sorted_puts]; unfold Bk.wrong Bk.names; rw [if_pos h6])
  clear h6
  go_enter Tryz.func11, Tryz.ntmps11
  go_upto_region 4 with fail
  have hb0 := Blk.made w #[.int .i64 v.kd, .int .i64 v.nm, .string ⟨v.tx.toArray⟩, .slice B v.ls.length d, .slice B' v.ms.length d'] 25
  have hf0 : Fr w (w.alloc (.cells #[.int .i64 v.kd, .int .i64 v.nm, .string ⟨v.tx.toArray⟩, .slice B v.ls.length d, .slice B' v.ms.length d'] 25)) := (Fr.refl w).alloc _
  generalize (w.alloc (.cells #[.int .i64 v.kd, .int .i64 v.nm, .string ⟨v.tx.toArray⟩, .slice B v.ls.length d, .slice B' v.ms.length d'] 25)) = W0 at hb0 hf0 ⊢
  obtain ⟨X1, hX⟩ : ∃ X, w.heap.size = X := ⟨_, rfl⟩
  rw [hX] at hb0 ⊢
  obtain ⟨⟨y0, y1, y2, y3, y4⟩, _⟩ := box5 hb0
  have HB0 := Lib.hid hb0
  have HF0 := Lib.hid hf0
  clear hb0 hf0
  go_wp2_with fail
  clear y0 y1 y2 y3 y4
  go_loopw [3, 15] (fun bv j wr => ∃ (i : Nat) (acc : List (List UInt8)), i ≤ v.ms.length ∧ j = .int .i64 i ∧ Hid (Ssl wr W0.heap.size bv acc) ∧ Hid (Fr W0 wr) ∧ Hid (acc = Bk.badM (v.ms.take i))) (fun _ j _ => v.ms.length - (intOf j).toNat)
  case atStart => exact ⟨0, [], by omega, rfl, Lib.hid (Ssl.none_ _ _), Lib.hid (Fr.refl W0), Lib.hid rfl⟩
  case round =>
   obtain ⟨i, acc, hi, rfl, hS, hF, hA⟩ := hrel
   have hal : acc.length ≤ i := by
    rw [hA.out]
    exact Nat.le_trans (Bk.badM_len _) (by simp; omega)
   have hk : (acc.length + 1) * 16 ≤ 140737488355328 := by omega
   obtain ⟨sa, sc, rfl, _⟩ := hS.out.shows
   by_cases hlt : i < v.ms.length
   ·have hlt' : (i : Int) < (v.ms.length : Int) := by omega
    obtain ⟨b5, o5, E, e, E', e', rfl, hbb, hnl, c0, ⟨c1, c2, c3, c4, c5⟩, hiv⟩ := (HMS.out.keep hZ (HF0.out.trans hF.out)) i hlt
    have hnx := Bk.badM_take hlt
    rw [← hA.out] at hnx
    obtain ⟨pu, hpu⟩ : ∃ pu, v.ms[i] = pu := ⟨_, rfl⟩
    rw [hpu] at c0 c1 c2 c3 c4 c5 hiv hnl hnx
    obtain ⟨nm, u⟩ := pu
    simp only at c0 c1 c2 c3 c4 c5 hiv hnl hnx
    have hux := hiv.facts.2.2.1
    obtain ⟨mb, hmb⟩ : ∃ b, Bk.may nm u = b := ⟨_, rfl⟩
    have HMY : Hid (∀ W, Calls Tryz.prog 26 #[.agg #[.string ⟨nm.toArray⟩, .int .i64 u.kd, .int .i64 u.nm, .string ⟨u.tx.toArray⟩, .slice E u.ls.length e, .slice E' u.ms.length e']] W fun e w' => e = .returned (.bool mb) ∧ Fr W w') := Lib.hid (fun W => by rw [← hmb]; exact may_is nm u E e E' e' W hux)
    rw [hmb] at hnx
    have HNX := Lib.hid hnx
    clear hnx hmb hpu hiv hux
    go_upto_region 7 with fail
    have hw7 := (Fr.refl wr).alloc (.cells #[.string ⟨nm.toArray⟩, .int .i64 u.kd, .int .i64 u.nm, .string ⟨u.tx.toArray⟩, .slice E u.ls.length e, .slice E' u.ms.length e'] 37)
    have hb7 := Blk.made wr #[.string ⟨nm.toArray⟩, .int .i64 u.kd, .int .i64 u.nm, .string ⟨u.tx.toArray⟩, .slice E u.ls.length e, .slice E' u.ms.length e'] 37
    generalize (wr.alloc (.cells #[.string ⟨nm.toArray⟩, .int .i64 u.kd, .int .i64 u.nm, .string ⟨u.tx.toArray⟩, .slice E u.ls.length e, .slice E' u.ms.length e'] 37)) = W7 at hw7 hb7 ⊢
    generalize wr.heap.size = X7 at hb7 ⊢
    have HS7 := Lib.hid (hS.out.keep hw7)
    have HF7 := Lib.hid (hF.out.trans hw7)
    have HB7 := Lib.hid hb7
    obtain ⟨⟨m0, m1, m2, m3, m4, m5⟩, _⟩ := box6 hb7
    clear hw7 hb7 c0 c1 c2 c3 c4 c5
    cases mb
    ·go_upto_region 8 with (go_at_call 26; refine (HMY.out _).mono ?_; rintro e w8 ⟨rfl, hf8⟩; have hb8 := HB7.out.keep hf8; obtain ⟨⟨n0, n1, n2, n3, n4, n5⟩, _⟩ := box6 hb8; have HS8 := Lib.hid (HS7.out.keep hf8); have HF8 := Lib.hid (HF7.out.trans hf8); clear hf8 hb8)
     clear m0 m1 m2 m3 m4 m5
     go_wp2_with (at_builtin; refine wpl_ss_lit rfl (.tmp 22) (.tmp 25) rfl W0 HF8.out _ acc rfl HS8.out [nm] rfl rfl rfl rfl rfl (by simpa using hk) ?_; intro v9 w9 hv9 hf9; have HS9 := Lib.hid hv9; have HF9 := Lib.hid hf9; clear hv9 hf9)
     exact ⟨⟨i + 1, acc ++ [nm], by omega, by go_num, HS9, HF9, Lib.hid HNX.out.symm⟩, by simp [intOf]; omega⟩
    ·go_wp2_with (go_at_call 26; refine (HMY.out _).mono ?_; rintro e w8 ⟨rfl, hf8⟩; have HS8 := Lib.hid (HS7.out.keep hf8); have HF8 := Lib.hid (HF7.out.trans hf8); clear hf8)
     exact ⟨⟨i + 1, acc, by omega, by go_num, HS8, HF8, Lib.hid (by rw [HNX.out]; simp)⟩, by simp [intOf]; omega⟩
   ·obtain rfl : i = v.ms.length := by omega
    have hac : acc = Bk.badM v.ms := by rw [hA.out, List.take_length]
    rw [← hac] at HW
    have hbr := HB0.out.keep hF.out
    obtain ⟨⟨y0, y1, y2, y3, y4⟩, _⟩ := box5 hbr
    have hkl : acc.length ≤ 1048576 := by omega
    clear hbr hA hac
    cases hg : Pt.get v Bk.nName with
    | none =>
     rw [hg] at HG HW
     go_upto_region 12 with (go_at_call 16; refine (HG.out _ (HF0.out.trans hF.out)).mono ?_; rintro e w1 ⟨rfl, hf1⟩; have HS1 := Lib.hid ((hS.out.keep hf1).keep ((Fr.refl w1).alloc (.cells #[.int .i64 0, .int .i64 0, .string ⟨#[]⟩, .slice none 0 0, .slice none 0 0] 25))); have HF1 := Lib.hid ((hF.out.trans hf1).alloc (.cells #[.int .i64 0, .int .i64 0, .string ⟨#[]⟩, .slice none 0 0, .slice none 0 0] 25)); clear hf1)
     go_upto_region 13 with (at_builtin; refine wpl_ss_lit rfl (.tmp 35) (.tmp 36) rfl W0 HF1.out _ acc rfl HS1.out [Bk.nName] rfl (congrArg (fun n => Addr.mk n 0 none) (Array.size_push _).symm) rfl rfl rfl (by simpa using hk) ?_; intro v9 w9 hv9 hf9; have HS9 := Lib.hid hv9; have HF9 := Lib.hid (HF0.out.trans hf9); clear hv9 hf9)
     have hl9 : (acc ++ [Bk.nName]).length < 4611686018427387904 := by simp; omega
     go_wp2_with (first
      | (go_at_call 27; refine (sort_ss _ _ W0.heap.size _ HS9.out hl9).mono ?_; rintro e w7 ⟨rfl, hs7, hg7⟩; have HS7 := Lib.hid hs7; have HF7 := Lib.hid (Below.grown HF9.out hg7 HF9.out.size (fun k hk => Nat.le_trans HF0.out.size (Row.block_lt HS9.out k hk).1)); clear hs7 hg7)
      | (go_at_call 28; refine (compact_ss _ _ W0.heap.size _ HS7.out (by simp; omega)).mono ?_; rintro e w8 ⟨⟨A8, c8, rfl, hp8⟩, hg8⟩; have HP8 := Lib.hid hp8; have HF8 := Lib.hid (Below.grown HF7.out hg8 HF7.out.size (fun k hk => Nat.le_trans HF0.out.size (Row.block_lt HS7.out k hk).1)); clear hp8 hg8))
     go_ret
     refine ⟨⟨A8, c8, ?_, ?_⟩, HF8.out⟩
     ·rw [HW.out]; rfl
     ·rw [HW.out]; exact HP8.out
    | some y =>
     rw [hg] at HG HW
     go_upto_region 13 with (go_at_call 16; refine (HG.out _ (HF0.out.trans hF.out)).mono ?_; rintro e w1 ⟨D, f, D', f', rfl, hin1, hf1⟩; have HS9 := Lib.hid ((hS.out.keep hf1).keep ((Fr.refl w1).alloc (.cells #[.int .i64 y.kd, .int .i64 y.nm, .string ⟨y.tx.toArray⟩, .slice D y.ls.length f, .slice D' y.ms.length f'] 25))); have HF9 := Lib.hid (HF0.out.trans ((hF.out.trans hf1).alloc (.cells #[.int .i64 y.kd, .int .i64 y.nm, .string ⟨y.tx.toArray⟩, .slice D y.ls.length f, .slice D' y.ms.length f'] 25))); clear hf1 hin1)
     have hl9 : acc.length < 4611686018427387904 := by omega
     go_wp2_with (first
      | (go_at_call 27; refine (sort_ss _ _ W0.heap.size _ HS9.out hl9).mono ?_; rintro e w7 ⟨rfl, hs7, hg7⟩; have HS7 := Lib.hid hs7; have HF7 := Lib.hid (Below.grown HF9.out hg7 HF9.out.size (fun k hk => Nat.le_trans HF0.out.size (Row.block_lt HS9.out k hk).1)); clear hs7 hg7)
      | (go_at_call 28; refine (compact_ss _ _ W0.heap.size _ HS7.out (by simp; omega)).mono ?_; rintro e w8 ⟨⟨A8, c8, rfl, hp8⟩, hg8⟩; have HP8 := Lib.hid hp8; have HF8 := Lib.hid (Below.grown HF7.out hg8 HF7.out.size (fun k hk => Nat.le_trans HF0.out.size (Row.block_lt HS7.out k hk).1)); clear hp8 hg8))
     go_ret
     refine ⟨⟨A8, c8, ?_, ?_⟩, HF8.out⟩
     ·rw [HW.out]; simp
     ·rw [HW.out]; simpa using HP8.out
 ·have q6 : (v.kd != 6) = true := (ikind h6).2
  have hw : Bk.wrong v = [Bk.nName] := by
   unfold Bk.wrong Bk.names Pt.get
   rw [if_neg h6, if_neg h6]
   rfl
  rw [hw]
  have HR : Hid (∀ W : World, Ssl (W.alloc (.cells (svs [Bk.nName]).toArray 9)) W.heap.size (.slice (some ⟨W.heap.size, 0, none⟩) 1 1) [Bk.nName]) := Lib.hid (fun W => Row.made W _ (svs [Bk.nName]) (by unfold maxLen; simp [svs]))
  clear h6 hw
  go_enter Tryz.func11, Tryz.ntmps11
  go_wp2_with fail
  go_ret
  obtain ⟨A9, c9, e9, hp9⟩ := (HR.out (w.alloc (.cells #[.int .i64 v.kd, .int .i64 v.nm, .string ⟨v.tx.toArray⟩, .slice B v.ls.length d, .slice B' v.ms.length d'] 25))).shows
  injection e9 with e91 _ e93
  have hz : (w.alloc (.cells #[.int .i64 v.kd, .int .i64 v.nm, .string ⟨v.tx.toArray⟩, .slice B v.ls.length d, .slice B' v.ms.length d'] 25)).heap.size = w.heap.size + 1 := by unfold World.alloc; exact Array.size_push _
  rw [hz] at e91
  exact ⟨⟨A9, c9, by rw [← e91, ← e93]; rfl, hp9⟩, ((Fr.refl w).alloc _).alloc _⟩
end Go.Proofs.YtgaiepficjiclaaGreatDoor
