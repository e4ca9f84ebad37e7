/- The walk of chapter 08's law of stars: the loop. -/
import Derived.Test.YtfjcgbbphkfkgaaGreatDoorPtSA
import Derived.Test.YtfjcgbbphkfkgaaGreatDoorNumsBr
import Derived.Deep.CutRange
namespace Go.Proofs.YtfjcgbbphkfkgaaGreatDoor
set_option linter.unusedVariables false
set_option linter.unusedSimpArgs false
open Go.RowKit

theorem Pt.find_nv : ∀ (ps : List (List UInt8)) (v y : JV), Pt.find false ps v = some y → Rd.nv y ≤ Rd.nv v
  | [], v, y, h => by obtain rfl := Option.some.inj h; exact Nat.le_refl _
  | p :: ps, v, y, h => by
    rw [Pt.find_cons, if_neg (by simp)] at h
    cases hs : Pt.step v p with
    | none => rw [hs] at h; cases h
    | some x =>
      rw [hs] at h
      have h1 := Pt.find_nv ps x y h
      have h2 := Pt.step_nv hs
      omega
theorem Pt.ans_nv {ps : Option (List (List UInt8))} {v l : JV} (h : Pt.ans false ps v = (l, 0)) : Rd.nv l ≤ Rd.nv v := by
  cases ps with
  | none => simp [Pt.ans] at h
  | some ps =>
    unfold Pt.ans at h
    simp only at h
    cases hf : Pt.find false ps v with
    | none => rw [hf] at h; simp at h
    | some y =>
      rw [hf] at h
      obtain rfl : y = l := by simpa using h
      exact Pt.find_nv _ _ _ hf
theorem notpth {s : ByteArray} {c : UInt8} (h : 0 < s.size) (hc : s[0] = c) (h47 : c ≠ 47) : ¬ Pt.pth s.data.toList := by
  rintro (e | ⟨r, e⟩)
  · have : s.data.toList.length = s.size := by simp
    rw [e] at this; simp at this; omega
  · have := drop_at h (c := s[0]) rfl
    rw [List.drop_zero, e] at this
    exact h47 (hc.symm.trans (List.cons.inj this).1.symm)
/-- In the loop. -/
structure GS (Z : Nat) (W0 wr : World) (v : Value) (acc : List JV) : Prop where
  vs : VsB wr Z (W0.heap.size + 1) v acc
  bx : Blk wr W0.heap.size #[.int .i64 5, .int .i64 0, .string ⟨#[]⟩, v, .slice none 0 0] 29
  fr : Fr W0 wr
theorem GS.keep {Z : Nat} {W0 wr w' : World} {v : Value} {acc : List JV} (h : GS Z W0 wr v acc) (hf : Fr wr w') : GS Z W0 w' v acc := ⟨h.vs.keep hf, h.bx.keep hf, h.fr.trans hf⟩
/-- Behind an append and the store of what it answers. -/
theorem GS.app {Z : Nat} {W0 w3 w4 : World} {v v4 : Value} {acc new : List JV} (h : GS Z W0 w3 v acc) (hZ : Z ≤ W0.heap.size) (hv : VsB w4 Z (W0.heap.size + 1) v4 (acc ++ new)) (hg : w3.grownBy w4 v.ownBlock) :
    GS Z W0 (w4.setCell ⟨W0.heap.size, 3, none⟩ v4) v4 (acc ++ new) := by
  have hne : ∀ k, k < W0.heap.size + 1 → v.ownBlock ≠ some k := fun k hk e => by have := (h.vs.own_lt e).1; omega
  have hY : Blk w4 W0.heap.size _ _ := (hg.block _ h.bx.lt (fun e => hne _ (by omega) e.symm)).trans h.bx
  refine ⟨hv.frx (X := W0.heap.size) (by omega) (by omega) ((FrX.refl _ _).setCell rfl _), hY.set 3 _, ?_⟩
  exact (Below.grown h.fr hg h.fr.size (fun k hk => by have := (h.vs.own_lt hk).1; omega) : Fr W0 w4).setCell (p := ⟨W0.heap.size, 3, none⟩) (Nat.le_refl _) _
theorem sizeS (w : World) (X : Nat) (u0 u1 u2 u3 u4 : Value) : (((((w.setCell ⟨X, 0, none⟩ u0).setCell ⟨X, 1, none⟩ u1).setCell ⟨X, 2, none⟩ u2).setCell ⟨X, 3, none⟩ u3).setCell ⟨X, 4, none⟩ u4).heap.size = w.heap.size := by simp [World.setCell]
theorem InV.putS {w : World} {S : Nat → Prop} {v : JV} {x : Value} (h : InV w S v x) {X : Nat} (hX : ∀ b, S b → b ≠ X) (u0 u1 u2 u3 u4 : Value) : InV (((((w.setCell ⟨X, 0, none⟩ u0).setCell ⟨X, 1, none⟩ u1).setCell ⟨X, 2, none⟩ u2).setCell ⟨X, 3, none⟩ u3).setCell ⟨X, 4, none⟩ u4) S v x :=
  h.map (fun _ h => h) (fun b o hb => by
    have hne := hX b hb
    unfold World.cell?
    rw [Below.heap_setCell _ _ _ _ hne, Below.heap_setCell _ _ _ _ hne, Below.heap_setCell _ _ _ _ hne, Below.heap_setCell _ _ _ _ hne, Below.heap_setCell _ _ _ _ hne])

set_option maxHeartbeats 4000000 in
set_option maxRecDepth 100000 in
theorem stars_main (v : JV) (A : Option Addr) (c0 : Nat) (A' : Option Addr) (c0' : Nat) (hd tl : ByteArray) (w : World) (hv : InV w (Lo w.heap.size) v (vA v A c0 A' c0')) (hbk : JV.bulk v ≤ 1048576) (hs1 : hd.size ≤ 140737488351232) (hs2 : tl.size ≤ 140737488351232) (hT : LowTabs w) (hM : MxL w) (hb1 : hd.size ≤ 50) (hb2 : tl.size ≤ 50) (l : JV) (hl : Pt.ans false (Pt.parts hd.data.toList) v = (l, 0)) (h5 : l.kd = 5) (hp1 : Pt.pth hd.data.toList) (hp2 : Pt.pth tl.data.toList) (hn1 : (42 : UInt8) ∉ hd.data.toList) (hn2 : (42 : UInt8) ∉ tl.data.toList) :
    Calls Tryz.prog 9 #[.agg #[.int .i64 v.kd, .int .i64 v.nm, .string ⟨v.tx.toArray⟩, .slice A v.ls.length c0, .slice A' v.ms.length c0'], .string hd, .string tl] w fun e w' => e = .returned (.bool true) ∧ Fr w w' := by
  have hs1' : (hd.size : Int) ≤ 140737488351232 := by omega
  have hs2' : (tl.size : Int) ≤ 140737488351232 := by omega
  have HT := Lib.hid hT
  have HM := Lib.hid hM
  have hnv := nv_bulk v
  have HBX : Hid (∀ W, Fr (w.alloc (.cells #[.int .i64 v.kd, .int .i64 v.nm, .string ⟨v.tx.toArray⟩, .slice A v.ls.length c0, .slice A' v.ms.length c0'] 29)) W → Blk W w.heap.size #[.int .i64 v.kd, .int .i64 v.nm, .string ⟨v.tx.toArray⟩, .slice A v.ls.length c0, .slice A' v.ms.length c0'] 29) := Lib.hid (fun W hW => (Blk.made w _ _).keep hW)
  have HF0 : Hid (Fr w (w.alloc (.cells #[.int .i64 v.kd, .int .i64 v.nm, .string ⟨v.tx.toArray⟩, .slice A v.ls.length c0, .slice A' v.ms.length c0'] 29))) := (Fr.refl w).alloc _
  have HFW : Hid (∀ n : Int, 0 ≤ n → n ≤ 9000000000000000000 → ∀ W, Fr w W → Calls Tryz.prog 27 #[.agg #[.int .i64 v.kd, .int .i64 v.nm, .string ⟨v.tx.toArray⟩, .slice A v.ls.length c0, .slice A' v.ms.length c0'], .int .i64 n] W fun e w' => (∃ b : Bool, e = .returned (.bool b)) ∧ Fr W w') := Lib.hid (fun n h1 h2 W hW => few7_is v A c0 A' c0' W ((hv.keep (Nat.le_refl _) hW).lo hW.size) (by omega) n h1 h2)
  have h1' : ¬ (hd.size : Int) > 50 := by omega
  have h2' : ¬ (tl.size : Int) > 50 := by omega
  have hb1' : (hd.size : Int) ≤ 50 := by omega
  have hb2' : (tl.size : Int) ≤ 50 := by omega
  have q5 : (l.kd != 5) = false := by rw [bne_eq_false_iff_eq]; exact h5
  have hlnv := Pt.ans_nv hl
  have hlnl : Rd.nvL l.ls ≤ 1048576 := by have := Pt.nv_eq l; omega
  have hll := Pt.nvL_len l.ls
  have hlen : (l.ls.length : Int) ≤ 1048576 := by omega
  obtain ⟨hst, hsi⟩ := Pt.ans_star2 hp1 hp2 hn1 hl h5
  obtain ⟨S1, hS1⟩ : ∃ S1 : ByteArray, S1 = hd ++ ⟨#[47, 42]⟩ ++ tl := ⟨_, rfl⟩
  obtain ⟨y2, c2, hy2⟩ : ∃ y c, Pt.ans true (Pt.parts S1.data.toList) v = (y, c) := ⟨_, _, rfl⟩
  have hSA : S1.data.toList = hd.data.toList ++ 47 :: ([42] ++ tl.data.toList) := by rw [hS1]; exact Pt.sa_data hd tl
  have hSz : S1.size ≤ 110 := by rw [hS1, Pt.sa_size]; omega
  have hrs0 : Pt.RS tl.data.toList l.ls y2 c2 0 [] := Pt.RS.start2 (by rw [← hst, ← hSA]; exact hy2) hlnl
  have HRS0 := Lib.hid hrs0
  have HD1 : Hid (∀ W, Fr w W → Calls Tryz.prog 28 #[.agg #[.int .i64 v.kd, .int .i64 v.nm, .string ⟨v.tx.toArray⟩, .slice A v.ls.length c0, .slice A' v.ms.length c0'], .string hd] W fun e w' => ∃ (P : Option Addr) (r : Nat) (P' : Option Addr) (r' : Nat), e = .returned (.tuple #[.agg #[.int .i64 l.kd, .int .i64 l.nm, .string ⟨l.tx.toArray⟩, .slice P l.ls.length r, .slice P' l.ms.length r'], .int .i64 0]) ∧ InV w' (Ne w.heap.size W w') l (vA l P r P' r') ∧ Fr W w') :=
    Lib.hid (fun W hW => (pfind_is v A c0 A' c0' hd W w.heap.size hW.size (hv.keep (Nat.le_refl _) hW) (by omega) (by omega) (HM.out.keep hW)).mono fun e w' h => h.ans hW.size hl)
  have HE : Hid (∀ W, Fr w W → Calls Tryz.prog 30 #[.agg #[.int .i64 v.kd, .int .i64 v.nm, .string ⟨v.tx.toArray⟩, .slice A v.ls.length c0, .slice A' v.ms.length c0'], .string S1] W fun e w' => ∃ (Q : Option Addr) (s : Nat) (Q' : Option Addr) (s' : Nat), e = .returned (.tuple #[.agg #[.int .i64 y2.kd, .int .i64 y2.nm, .string ⟨y2.tx.toArray⟩, .slice Q y2.ls.length s, .slice Q' y2.ms.length s'], .int .i64 c2]) ∧ InV w' (Ne w.heap.size W w') y2 (vA y2 Q s Q' s') ∧ Fr W w') :=
    Lib.hid (fun W hW => (peach_is v A c0 A' c0' S1 W w.heap.size hW.size (hv.keep (Nat.le_refl _) hW) (by omega) (by omega) (HM.out.keep hW)).mono fun e w' h => h.ans hW.size hy2)
  have HEJ : Hid (∀ (i : Nat) (hi : i < l.ls.length) (y : JV) (c : Int), Pt.tailA tl.data.toList l.ls[i] = (y, c) → ∀ S : ByteArray, S = hd ++ ⟨#[47]⟩ ++ ⟨(Nm.put (i : Int)).toArray⟩ ++ tl → ∀ W, Fr w W → Calls Tryz.prog 30 #[.agg #[.int .i64 v.kd, .int .i64 v.nm, .string ⟨v.tx.toArray⟩, .slice A v.ls.length c0, .slice A' v.ms.length c0'], .string S] W fun e w' => ∃ (D : Option Addr) (g : Nat) (D' : Option Addr) (g' : Nat), e = .returned (.tuple #[.agg #[.int .i64 y.kd, .int .i64 y.nm, .string ⟨y.tx.toArray⟩, .slice D y.ls.length g, .slice D' y.ms.length g'], .int .i64 c]) ∧ InV w' (Ne w.heap.size W w') y (vA y D g D' g') ∧ Fr W w') := Lib.hid (fun i hi y c hy S hS W hW => by
    have hpl := Nm.put_len (n := (i : Int)) (by omega) (by omega)
    have e2 : S.size ≤ 150 := by rw [hS, Pt.si_size]; omega
    have e4 : Pt.ans true (Pt.parts S.data.toList) v = (y, c) := by rw [hS, Pt.si_data, hsi i hi (by omega)]; exact hy
    exact (peach_is v A c0 A' c0' S W w.heap.size hW.size (hv.keep (Nat.le_refl _) hW) (by omega) (by omega) (HM.out.keep hW)).mono fun e w' h => h.ans hW.size e4)
  have HPL : Hid (∀ i : Nat, i < l.ls.length → (⟨(Nm.put (i : Int)).toArray⟩ : ByteArray).size ≤ 20) := Lib.hid (fun i hi => by
    have hpl := Nm.put_len (n := (i : Int)) (by omega) (by omega)
    rw [Pt.ba_size]; exact hpl)
  have HST1 : Hid (∀ W, Calls Tryz.prog 34 #[.string hd] W fun e w' => e = .returned (.bool false) ∧ Fr W w') := Lib.hid (fun W => star_b hd W (by omega) false (decide_eq_false hn1).symm)
  have HST2 : Hid (∀ W, Calls Tryz.prog 34 #[.string tl] W fun e w' => e = .returned (.bool false) ∧ Fr W w') := Lib.hid (fun W => star_b tl W (by omega) false (decide_eq_false hn2).symm)
  have HP1 := Lib.hid hp1
  have HP2' := Lib.hid hp2
  clear hv hbk hs1 hs2 hT hM hnv hl hb1 hb2 h5 hp1 hp2 hn1 hn2 hlnv hlnl hll hst hsi hy2 hSA hSz hrs0
  subst hS1
  go_enter Tryz.func9, Tryz.ntmps9
  go_upto_region 4 with (first
    | (go_at_call 28; have hm := HF2.out; refine (HD1.out _ (HF0.out.trans hm)).mono ?_; rintro e w3 ⟨P, r, P', r', rfl, hin, hf⟩; have hk := (Fr.refl w3).alloc (.cells #[.int .i64 l.kd, .int .i64 l.nm, .string ⟨l.tx.toArray⟩, .slice P l.ls.length r, .slice P' l.ms.length r'] 29); have HF3 := Lib.hid (HF0.out.trans (hm.trans (hf.trans hk))); have HB3 := Lib.hid (Blk.made w3 #[.int .i64 l.kd, .int .i64 l.nm, .string ⟨l.tx.toArray⟩, .slice P l.ls.length r, .slice P' l.ms.length r'] 29); have HVB := Lib.hid (HBX.out (w3.alloc (.cells #[.int .i64 l.kd, .int .i64 l.nm, .string ⟨l.tx.toArray⟩, .slice P l.ls.length r, .slice P' l.ms.length r'] 29)) (hm.trans (hf.trans hk))); clear hin hf hk hm)
    | (go_at_call 26; have hg := HF0.out.trans HF2.out; refine (awake08 _ (HT.out.keep hg) (HM.out.keep hg)).mono ?_; rintro e w3 ⟨rfl, hf⟩; have HFF := Lib.hid (hg.trans hf); clear hf hg)
    | (go_at_call 27; have hm := HF1.out; refine (HFW.out _ (by omega) (by omega) _ (HF0.out.trans hm)).mono ?_; rintro e w2 ⟨⟨b2, rfl⟩, hf⟩; obtain ⟨⟨kb0, kb1, kb2, kb3, kb4⟩, _⟩ := box5 (HBX.out w2 (hm.trans hf)); have HF2 := Lib.hid (hm.trans hf); clear hf hm; cases b2)
    | (go_at_call 26; refine (awake08 _ (HT.out.keep HF0.out) (HM.out.keep HF0.out)).mono ?_; rintro e w1 ⟨rfl, hf⟩; obtain ⟨⟨ka0, ka1, ka2, ka3, ka4⟩, _⟩ := box5 (HBX.out w1 hf); have HF1 := Lib.hid hf; clear hf))
  all_goals try (have hffo := HFF.out; go_ret; exact ⟨rfl, hffo⟩)
  have hf3 := HF3.out
  have hb3 := HB3.out
  have hvb := HVB.out
  clear HF3 HB3 HVB
  generalize (w3.alloc (.cells #[.int .i64 l.kd, .int .i64 l.nm, .string ⟨l.tx.toArray⟩, .slice P l.ls.length r, .slice P' l.ms.length r'] 29)) = W3 at hf3 hb3 hvb ⊢
  generalize w3.heap.size = X7 at hb3 ⊢
  have HF3 := Lib.hid hf3
  have HB3 := Lib.hid hb3
  have HVB := Lib.hid hvb
  obtain ⟨⟨l0, l1, l2, l3, l4⟩, _⟩ := box5 hb3
  clear hf3 hb3 hvb
  go_cut [71] from 13 (fun b wx => b = .bool false ∧ Hid (Fr W3 wx))
  case first =>
    rcases form3 hd with rfl | ⟨c, h0, hc, hc47, hne, hp1⟩ | ⟨c, h0, hc, hc47, hne⟩
    · skip
      rcases form3 tl with rfl | ⟨ct, ht0, htc, ht47, htne, hp2⟩ | ⟨ct, ht0, htc, ht47, htne⟩
      · skip
        go_wp2_with (first
          | (go_at_call 34; have hm := HF4.out; refine (HST2.out _).mono ?_; rintro e w5 ⟨rfl, hf⟩; have HF5 := Lib.hid (hm.trans hf); clear hf hm)
          | (go_at_call 34; refine (HST1.out _).mono ?_; rintro e w4 ⟨rfl, hf⟩; have HF4 := Lib.hid (hf); clear hf))
        go_meet
        exact ⟨rfl, HF5.out⟩
      · skip
        have b2 := b47.1 ht47
        have ht0' : (0 : Int) < (tl.size : Int) := by omega
        go_wp2_with (first
          | (go_at_call 34; have hm := HF4.out; refine (HST2.out _).mono ?_; rintro e w5 ⟨rfl, hf⟩; have HF5 := Lib.hid (hm.trans hf); clear hf hm)
          | (go_at_call 34; refine (HST1.out _).mono ?_; rintro e w4 ⟨rfl, hf⟩; have HF4 := Lib.hid (hf); clear hf))
        go_meet
        exact ⟨rfl, HF5.out⟩
      · exact absurd HP2'.out (notpth ht0 htc ht47)
    · skip
      have b1 := b47.1 hc47
      have h0' : (0 : Int) < (hd.size : Int) := by omega
      rcases form3 tl with rfl | ⟨ct, ht0, htc, ht47, htne, hp2⟩ | ⟨ct, ht0, htc, ht47, htne⟩
      · skip
        go_wp2_with (first
          | (go_at_call 34; have hm := HF4.out; refine (HST2.out _).mono ?_; rintro e w5 ⟨rfl, hf⟩; have HF5 := Lib.hid (hm.trans hf); clear hf hm)
          | (go_at_call 34; refine (HST1.out _).mono ?_; rintro e w4 ⟨rfl, hf⟩; have HF4 := Lib.hid (hf); clear hf))
        go_meet
        exact ⟨rfl, HF5.out⟩
      · skip
        have b2 := b47.1 ht47
        have ht0' : (0 : Int) < (tl.size : Int) := by omega
        go_wp2_with (first
          | (go_at_call 34; have hm := HF4.out; refine (HST2.out _).mono ?_; rintro e w5 ⟨rfl, hf⟩; have HF5 := Lib.hid (hm.trans hf); clear hf hm)
          | (go_at_call 34; refine (HST1.out _).mono ?_; rintro e w4 ⟨rfl, hf⟩; have HF4 := Lib.hid (hf); clear hf))
        go_meet
        exact ⟨rfl, HF5.out⟩
      · exact absurd HP2'.out (notpth ht0 htc ht47)
    · exact absurd HP1.out (notpth h0 hc hc47)
  case rest =>
  obtain ⟨rfl, hf4⟩ := hcut
  have HF4 : Hid (Fr w wc) := HF3.out.trans hf4.out
  have hvb := HVB.out.keep hf4.out
  have hb3 := HB3.out.keep hf4.out
  obtain ⟨⟨v0, v1, v2, v3, v4⟩, _⟩ := box5 hvb
  go_upto_region 7 with (go_at_call 30; refine (HE.out _ HF4.out).mono ?_; rintro e w6 ⟨Q, s, Q', s', rfl, hin, hf⟩; have hk := (Fr.refl w6).alloc (.cells #[.int .i64 y2.kd, .int .i64 y2.nm, .string ⟨y2.tx.toArray⟩, .slice Q y2.ls.length s, .slice Q' y2.ms.length s'] 29); have hfk := hf.trans hk; have HF6 := Lib.hid (HF4.out.trans hfk); have HB6 := Lib.hid (Blk.made w6 #[.int .i64 y2.kd, .int .i64 y2.nm, .string ⟨y2.tx.toArray⟩, .slice Q y2.ls.length s, .slice Q' y2.ms.length s'] 29); have HV6 := Lib.hid ((Ne.low hin HF4.out.size hf.size).keep (Nat.le_refl _) hk); have hvb6 := hvb.keep hfk; have hb36 := hb3.keep hfk; clear hin hf hk hfk)
  have hf6 := HF6.out
  have hb6 := HB6.out
  have hv6 := HV6.out
  have hs6 : w6.heap.size < (w6.alloc (.cells #[.int .i64 y2.kd, .int .i64 y2.nm, .string ⟨y2.tx.toArray⟩, .slice Q y2.ls.length s, .slice Q' y2.ms.length s'] 29)).heap.size := by simp
  clear HF6 HB6 HV6 v0 v1 v2 v3 v4 hvb hb3 l0 l1 l2 l3 l4
  generalize (w6.alloc (.cells #[.int .i64 y2.kd, .int .i64 y2.nm, .string ⟨y2.tx.toArray⟩, .slice Q y2.ls.length s, .slice Q' y2.ms.length s'] 29)) = W0 at hf6 hb6 hv6 hs6 hvb6 hb36 ⊢
  generalize w6.heap.size = X9 at hb6 hv6 hs6 ⊢
  have HFW0 := Lib.hid hf6
  have HY2 := Lib.hid hb6
  have HYV := Lib.hid (hv6.lo (Nat.le_of_lt hs6))
  have HVB0 := Lib.hid hvb6
  have HLB0 := Lib.hid hb36
  have hG0 : Hid (GS w.heap.size W0 (W0.alloc (.cells #[.int .i64 5, .int .i64 0, .string ⟨#[]⟩, (.slice none 0 0), .slice none 0 0] 29)) (.slice none 0 0) []) :=
    ⟨VsB.none_ _ ⟨Nat.le_trans HFW0.out.size (Nat.le_succ _), by simp⟩, Blk.made W0 _ _, (Fr.refl W0).alloc _⟩
  clear hf6 hb6 hv6 hs6 hvb6 hb36
  go_wp2_with fail
  go_loopw [12] (fun j wr => ∃ (i : Nat) (nv : Value) (acc : List JV), i ≤ l.ls.length ∧ j = .int .i64 i ∧ Hid (GS w.heap.size W0 wr nv acc) ∧ Hid (Pt.RS tl.data.toList l.ls y2 c2 i acc)) (fun j _ => l.ls.length - (intOf j).toNat)
  case atStart => exact ⟨0, _, [], by omega, rfl, hG0, HRS0⟩
  case round =>
    obtain ⟨i, nv, acc, hi, rfl, hG, hI⟩ := hrel
    obtain ⟨sa, sc, rfl⟩ := hG.out.vs.is_slice
    obtain ⟨⟨g0, g1, g2, g3, g4⟩, gf0, gf1, gf2, gf3, gf4⟩ := box5 hG.out.bx
    obtain ⟨⟨l0, l1, l2, l3, l4⟩, _⟩ := box5 (HLB0.out.keep hG.out.fr)
    by_cases hlt : i < l.ls.length
    · have hlt' : (i : Int) < (l.ls.length : Int) := by omega
      obtain ⟨y, c, hyc⟩ : ∃ y c, Pt.tailA tl.data.toList l.ls[i] = (y, c) := ⟨_, _, rfl⟩
      have hstep := hI.out.step hlt hyc
      have hKr : W0.heap.size + 1 ≤ wr.heap.size := hG.out.bx.lt
      have hwW : w.heap.size ≤ W0.heap.size := HFW0.out.size
      have HSZ : Hid (w.heap.size ≤ wr.heap.size) := Nat.le_trans hwW hG.out.fr.size
      have hZW : w.heap.size ≤ W0.heap.size := hwW
      have hpl := HPL.out i hlt
      obtain ⟨PI, hPI⟩ : ∃ PI : ByteArray, PI = ⟨(Nm.put (i : Int)).toArray⟩ := ⟨_, rfl⟩
      have hpi : PI.size ≤ 20 := by rw [hPI]; exact hpl
      have HPT : Hid (∀ W, Calls Tryz.prog 35 #[.int .i64 (i : Int)] W fun e w' => e = .returned (.string PI) ∧ Fr W w') := Lib.hid (fun W => by rw [hPI]; exact rput_any i _ _ (by omega) (by omega) (by omega))
      obtain ⟨SI, hSI⟩ : ∃ SI : ByteArray, SI = hd ++ ⟨#[47]⟩ ++ PI ++ tl := ⟨_, rfl⟩
      have HEI : Hid (∀ W, Fr wr W → Calls Tryz.prog 30 #[.agg #[.int .i64 v.kd, .int .i64 v.nm, .string ⟨v.tx.toArray⟩, .slice A v.ls.length c0, .slice A' v.ms.length c0'], .string SI] W fun e w' => ∃ (D : Option Addr) (g : Nat) (D' : Option Addr) (g' : Nat), e = .returned (.tuple #[.agg #[.int .i64 y.kd, .int .i64 y.nm, .string ⟨y.tx.toArray⟩, .slice D y.ls.length g, .slice D' y.ms.length g'], .int .i64 c]) ∧ InV w' (Ne w.heap.size W w') y (vA y D g D' g') ∧ Fr W w') := Lib.hid (fun W hW => HEJ.out i hlt y c hyc SI (by rw [hSI, hPI]) W (HFW0.out.trans (hG.out.fr.trans hW)))
      subst hSI
      have no1 : ¬ (9223372036854775807 < hd.size + 1) := by omega
      have no2 : ¬ (9223372036854775807 < hd.size + 1 + PI.size) := by omega
      have no3 : ¬ (9223372036854775807 < hd.size + 1 + PI.size + tl.size) := by omega
      have no4 : ¬ (9223372036854775807 < (hd ++ ⟨#[47]⟩).size + PI.size) := by rw [ByteArray.size_append]; exact no2
      have no5 : ¬ (9223372036854775807 < (hd ++ ⟨#[47]⟩ ++ PI).size + tl.size) := by rw [ByteArray.size_append, ByteArray.size_append]; exact no3
      clear hPI hpl
      have HS : Hid (∀ W, Fr wr W → W.cell? ⟨w.heap.size, 0, none⟩ = some (Value.int .i64 v.kd) ∧ W.cell? ⟨w.heap.size, 1, none⟩ = some (Value.int .i64 v.nm) ∧ W.cell? ⟨w.heap.size, 2, none⟩ = some (Value.string ⟨v.tx.toArray⟩) ∧ W.cell? ⟨w.heap.size, 3, none⟩ = some (Value.slice A v.ls.length c0) ∧ W.cell? ⟨w.heap.size, 4, none⟩ = some (Value.slice A' v.ms.length c0')) := Lib.hid (fun W hW => by
        have h := HVB0.out.keep (hG.out.fr.trans hW)
        exact ⟨h.cell 0, h.cell 1, h.cell 2, h.cell 3, h.cell 4⟩)
      clear hyc
      go_wp2_with fail
      go_region_held3 (fun W => W.cell? ⟨w.heap.size, 0, none⟩ = some (Value.int .i64 v.kd) ∧ W.cell? ⟨w.heap.size, 1, none⟩ = some (Value.int .i64 v.nm) ∧ W.cell? ⟨w.heap.size, 2, none⟩ = some (Value.string ⟨v.tx.toArray⟩) ∧ W.cell? ⟨w.heap.size, 3, none⟩ = some (Value.slice A v.ls.length c0) ∧ W.cell? ⟨w.heap.size, 4, none⟩ = some (Value.slice A' v.ms.length c0'))
        (first | with_reducible exact HS.out _ (HP2.out _ (Nat.le_refl _) _ _ _ _ _) | with_reducible exact HS.out _ (HP2.out _ HF1.out.size _ _ _ _ _) | with_reducible exact HS.out _ (HQ2.out _ _ _ _ _) | with_reducible exact HS.out _ (HG2.out.alloc _) | with_reducible exact HS.out _ HG2.out | with_reducible exact HS.out _ (HF1.out.alloc _) | with_reducible exact HS.out _ HF1.out | with_reducible exact HS.out _ ((Fr.refl _).alloc _).drew | with_reducible exact HS.out _ (Fr.refl _).drew | with_reducible exact HS.out _ (Fr.refl _))
        (first
          | (go_at_call 30; have hm := HB8.out; refine (HEI.out _ HF1.out).mono ?_; rintro e w2 ⟨D, g, D', g', rfl, hin, hf⟩; have hlt := hm.lt; have hb2 := hm.keep hf; obtain ⟨⟨s0, s1, s2, s3, s4⟩, sf0, sf1, sf2, sf3, sf4⟩ := box5 hb2; have HBx := Lib.hid hb2; have HIN := Lib.hid (hin.more (S' := fun b => (b < w.heap.size ∨ wr.heap.size ≤ b) ∧ b < w2.heap.size ∧ b ≠ wr.heap.size) (fun b hb => by have := hf.size; have := HF1.out.size; have := HSZ.out; rcases hb with hb | hb <;> (refine ⟨?_, ?_, ?_⟩ <;> omega))); clear hin hb2 hm hlt; have hg2 := HF1.out.trans hf; have HP2 : Hid (∀ (X : Nat), wr.heap.size ≤ X → ∀ u0 u1 u2 u3 u4, Fr wr (((((w2.setCell ⟨X, 0, none⟩ u0).setCell ⟨X, 1, none⟩ u1).setCell ⟨X, 2, none⟩ u2).setCell ⟨X, 3, none⟩ u3).setCell ⟨X, 4, none⟩ u4)) := Lib.hid (fun X hX u0 u1 u2 u3 u4 => hg2.put5 hX u0 u1 u2 u3 u4); have HQ2 : Hid (∀ u0 u1 u2 u3 u4, Fr wr ((((((w2.alloc (.cells #[.int .i64 0, .int .i64 0, .string ⟨#[]⟩, .slice none 0 0, .slice none 0 0] 29)).setCell ⟨w2.heap.size, 0, none⟩ u0).setCell ⟨w2.heap.size, 1, none⟩ u1).setCell ⟨w2.heap.size, 2, none⟩ u2).setCell ⟨w2.heap.size, 3, none⟩ u3).setCell ⟨w2.heap.size, 4, none⟩ u4)) := Lib.hid (fun u0 u1 u2 u3 u4 => (hg2.alloc _).put5 (X := w2.heap.size) hg2.size u0 u1 u2 u3 u4); have HG2 := Lib.hid hg2; clear hg2 hf)
          | (go_at_call 30; refine (HEI.out _ (by with_reducible exact HF1.out.alloc _)).mono ?_; rintro e w2 ⟨D, g, D', g', rfl, hin, hf⟩; have hb2 := (Blk.made w1 #[.int .i64 0, .int .i64 0, .string ⟨#[]⟩, .slice none 0 0, .slice none 0 0] 29).keep hf; obtain ⟨⟨s0, s1, s2, s3, s4⟩, sf0, sf1, sf2, sf3, sf4⟩ := box5 hb2; have HBx := Lib.hid hb2; have h1s : w1.heap.size < (w1.alloc (.cells #[.int .i64 0, .int .i64 0, .string ⟨#[]⟩, .slice none 0 0, .slice none 0 0] 29)).heap.size := (by simp); have HIN := Lib.hid (hin.more (S' := fun b => (b < w.heap.size ∨ wr.heap.size ≤ b) ∧ b < w2.heap.size ∧ b ≠ w1.heap.size) (fun b hb => by have := hf.size; have := HF1.out.size; have := HSZ.out; rcases hb with hb | hb <;> (refine ⟨?_, ?_, ?_⟩ <;> omega))); clear hin hb2 h1s; have hg2 := (HF1.out.alloc _).trans hf; have HP2 : Hid (∀ (X : Nat), wr.heap.size ≤ X → ∀ u0 u1 u2 u3 u4, Fr wr (((((w2.setCell ⟨X, 0, none⟩ u0).setCell ⟨X, 1, none⟩ u1).setCell ⟨X, 2, none⟩ u2).setCell ⟨X, 3, none⟩ u3).setCell ⟨X, 4, none⟩ u4)) := Lib.hid (fun X hX u0 u1 u2 u3 u4 => hg2.put5 hX u0 u1 u2 u3 u4); have HQ2 : Hid (∀ u0 u1 u2 u3 u4, Fr wr ((((((w2.alloc (.cells #[.int .i64 0, .int .i64 0, .string ⟨#[]⟩, .slice none 0 0, .slice none 0 0] 29)).setCell ⟨w2.heap.size, 0, none⟩ u0).setCell ⟨w2.heap.size, 1, none⟩ u1).setCell ⟨w2.heap.size, 2, none⟩ u2).setCell ⟨w2.heap.size, 3, none⟩ u3).setCell ⟨w2.heap.size, 4, none⟩ u4)) := Lib.hid (fun u0 u1 u2 u3 u4 => (hg2.alloc _).put5 (X := w2.heap.size) hg2.size u0 u1 u2 u3 u4); have HG2 := Lib.hid hg2; clear hg2 hf)
          | (go_at_call 30; refine (HEI.out _ (by with_reducible exact HF1.out)).mono ?_; rintro e w2 ⟨D, g, D', g', rfl, hin, hf⟩; have HIN := Lib.hid (hin.more (S' := fun b => (b < w.heap.size ∨ wr.heap.size ≤ b) ∧ b < w2.heap.size) (fun b hb => by have := hf.size; have := HF1.out.size; have := HSZ.out; rcases hb with hb | hb <;> (refine ⟨?_, ?_⟩ <;> omega))); clear hin; have hg2 := HF1.out.trans hf; have HP2 : Hid (∀ (X : Nat), wr.heap.size ≤ X → ∀ u0 u1 u2 u3 u4, Fr wr (((((w2.setCell ⟨X, 0, none⟩ u0).setCell ⟨X, 1, none⟩ u1).setCell ⟨X, 2, none⟩ u2).setCell ⟨X, 3, none⟩ u3).setCell ⟨X, 4, none⟩ u4)) := Lib.hid (fun X hX u0 u1 u2 u3 u4 => hg2.put5 hX u0 u1 u2 u3 u4); have HQ2 : Hid (∀ u0 u1 u2 u3 u4, Fr wr ((((((w2.alloc (.cells #[.int .i64 0, .int .i64 0, .string ⟨#[]⟩, .slice none 0 0, .slice none 0 0] 29)).setCell ⟨w2.heap.size, 0, none⟩ u0).setCell ⟨w2.heap.size, 1, none⟩ u1).setCell ⟨w2.heap.size, 2, none⟩ u2).setCell ⟨w2.heap.size, 3, none⟩ u3).setCell ⟨w2.heap.size, 4, none⟩ u4)) := Lib.hid (fun u0 u1 u2 u3 u4 => (hg2.alloc _).put5 (X := w2.heap.size) hg2.size u0 u1 u2 u3 u4); have HG2 := Lib.hid hg2; clear hg2 hf)
          | (go_at_call 35; have hk := ((Fr.refl wr).alloc (.cells #[.int .i64 0, .int .i64 0, .string ⟨#[]⟩, .slice none 0 0, .slice none 0 0] 29)).drew; refine (HPT.out ((wr.alloc (.cells #[.int .i64 0, .int .i64 0, .string ⟨#[]⟩, .slice none 0 0, .slice none 0 0] 29)).drew)).mono ?_; rintro e w1 ⟨rfl, hf⟩; have hb8 : Blk w1 wr.heap.size #[.int .i64 0, .int .i64 0, .string ⟨#[]⟩, .slice none 0 0, .slice none 0 0] 29 := (Blk.made wr _ _).keep ((Fr.refl _).drew.trans (by with_reducible exact hf)); have HB8 := Lib.hid hb8; have hf1 : Fr wr w1 := ((Fr.refl _).alloc _).drew.trans hf; have HF1 := Lib.hid hf1; clear hf hb8 hf1 hk)
          | (go_at_call 35; refine (HPT.out _).mono ?_; rintro e w1 ⟨rfl, hf⟩; have hf1 : Fr wr w1 := (by first | exact hf | exact (Fr.refl _).drew.trans hf); have HF1 := Lib.hid hf1; clear hf hf1))
      · skip
        have hw9 := HG2.out.alloc (.cells #[.int .i64 y.kd, .int .i64 y.nm, .string ⟨y.tx.toArray⟩, .slice D y.ls.length g, .slice D' y.ms.length g'] 29)
        have hbx := Blk.made w2 #[.int .i64 y.kd, .int .i64 y.nm, .string ⟨y.tx.toArray⟩, .slice D y.ls.length g, .slice D' y.ms.length g'] 29
        have hin2 : InV (w2.alloc (.cells #[.int .i64 y.kd, .int .i64 y.nm, .string ⟨y.tx.toArray⟩, .slice D y.ls.length g, .slice D' y.ms.length g'] 29)) (InB w.heap.size (W0.heap.size + 1) (w2.alloc (.cells #[.int .i64 y.kd, .int .i64 y.nm, .string ⟨y.tx.toArray⟩, .slice D y.ls.length g, .slice D' y.ms.length g'] 29)) (.slice sa acc.length sc)) y (vA y D g D' g') := HIN.out.map (fun b hb => by
          rcases hb.1 with hb1 | hb1
          · exact .inl hb1
          · exact .inr ⟨by omega, by have := hb.2; simp; omega, fun e => by have := (hG.out.vs.own_lt e).2; omega⟩) (fun b o hb => ((Fr.refl w2).alloc _).cell hb.2)
        generalize (w2.alloc (.cells #[.int .i64 y.kd, .int .i64 y.nm, .string ⟨y.tx.toArray⟩, .slice D y.ls.length g, .slice D' y.ms.length g'] 29)) = Wf at hw9 hbx hin2 ⊢
        generalize w2.heap.size = X8 at hbx ⊢
        have HG := Lib.hid (hG.out.keep hw9)
        have HIN2 := Lib.hid hin2
        have HW9 := Lib.hid hw9
        obtain ⟨⟨p0, p1, p2, p3, p4⟩, f0, f1, f2, f3, f4⟩ := box5 HG.out.bx
        obtain ⟨⟨m0, m1, m2, m3, m4⟩, _⟩ := box5 hbx
        clear hw9 hbx hin2
        rcases hstep with ⟨hcn, rfl⟩ | ⟨rfl, hrs, hfew⟩
        · have qn : (c2 != 0) = true := by rw [bne_iff_ne]; exact hcn
          have qe : (c2 == c2) = true := beq_self_eq_true _
          clear hcn
          go_wp2_with fail
          go_ret
          exact ⟨rfl, HFW0.out.trans (hG.out.fr.trans HW9.out)⟩
        · have HRS := Lib.hid hrs
          by_cases hk : y.kd = 5
          · have hfl : Pt.flat y = y.ls := by unfold Pt.flat; exact if_pos hk
            rw [hfl] at hfew
            have HRS2 : Hid (Pt.RS tl.data.toList l.ls y2 c2 (i + 1) (acc ++ y.ls)) := by have := HRS.out; rw [hfl] at this; exact this
            have q5 : (y.kd == 5) = true := by rw [beq_iff_eq]; exact hk
            have hk63 : (acc.length + y.ls.length) * 80 ≤ 140737488355328 := by simp only [List.length_append] at hfew; omega
            obtain ⟨D1, g1', D1', g2', he1, hls1, _⟩ := HIN2.out.open_
            have hD : D = D1 := by obtain ⟨_, _, _, e3, _⟩ := five he1; injection e3
            subst hD
            have HL3 := Lib.hid hls1
            clear hk hfl hls1 he1 hrs hfew
            go_wp2_with (at_builtin; refine wpl_vB rfl (.tmp 110) (.tmp 112) rfl w.heap.size (W0.heap.size + 1) _ acc rfl HG.out.vs D g y.ls.length y.ls rfl rfl HL3.out hk63 ?_; intro v4 w4 hv4 hg4; obtain ⟨a4, c4, rfl⟩ := hv4.is_slice2 (n := y.ls.length) rfl; have hg5 := HG.out.app hZW hv4 hg4; have HG5 := Lib.hid hg5; have hne4 : ∀ k, k < W0.heap.size + 1 → (Value.slice sa acc.length sc).ownBlock ≠ some k := (fun k hk e => by have := (HG.out.vs.own_lt e).1; omega); have hy4 : Blk w4 W0.heap.size _ _ := (hg4.block _ HG.out.bx.lt (fun e => hne4 _ (by omega) e.symm)).trans HG.out.bx; have zz3 := hy4.cell 3; have zzf := hy4.free 3; clear hv4 hg4 hg5 hy4 hne4)
            exact ⟨⟨i + 1, _, acc ++ y.ls, by omega, by go_num, HG5, HRS2⟩, by simp [intOf]; omega⟩
          · have hfl : Pt.flat y = [y] := by unfold Pt.flat; exact if_neg hk
            rw [hfl] at hfew
            have HRS2 : Hid (Pt.RS tl.data.toList l.ls y2 c2 (i + 1) (acc ++ [y])) := by have := HRS.out; rw [hfl] at this; exact this
            obtain ⟨q5, _⟩ := ikind hk
            have hk63 : (acc.length + 1) * 80 ≤ 140737488355328 := by simp at hfew; omega
            clear hk hfl hrs hfew
            go_wp2_with (at_builtin; refine wpl_vB_lit rfl (.tmp 116) (.tmp 118) rfl w.heap.size (W0.heap.size + 1) _ acc rfl HG.out.vs y D g D' g' rfl HIN2.out rfl (by simp) hk63 ?_; intro v4 w4 hv4 hg4; obtain ⟨a4, c4, rfl⟩ := hv4.is_slice2 (n := 1) rfl; have hga := HG.out.keep ((Fr.refl _).alloc (.cells #[.int .i64 y.kd, .int .i64 y.nm, .string ⟨y.tx.toArray⟩, .slice D y.ls.length g, .slice D' y.ms.length g'] 29)); have hg5 := hga.app hZW hv4 hg4; have HG5 := Lib.hid hg5; have hne4 : ∀ k, k < W0.heap.size + 1 → (Value.slice sa acc.length sc).ownBlock ≠ some k := (fun k hk e => by have := (HG.out.vs.own_lt e).1; omega); have hy4 : Blk w4 W0.heap.size _ _ := (hg4.block _ hga.bx.lt (fun e => hne4 _ (by omega) e.symm)).trans hga.bx; have zz3 := hy4.cell 3; have zzf := hy4.free 3; clear hv4 hg4 hg5 hy4 hne4; clear hga)
            exact ⟨⟨i + 1, _, acc ++ [y], by omega, by go_num, HG5, HRS2⟩, by simp [intOf]; omega⟩
      · skip
        have hw9 := HP2.out w1.heap.size HF1.out.size (.int .i64 y.kd) (.int .i64 y.nm) (.string ⟨y.tx.toArray⟩) (.slice D y.ls.length g) (.slice D' y.ms.length g')
        have hbx : Blk _ w1.heap.size #[.int .i64 y.kd, .int .i64 y.nm, .string ⟨y.tx.toArray⟩, .slice D y.ls.length g, .slice D' y.ms.length g'] 29 := set5 HBx.out (v0 := .int .i64 y.kd) (v1 := .int .i64 y.nm) (v2 := .string ⟨y.tx.toArray⟩) (v3 := .slice D y.ls.length g) (v4 := .slice D' y.ms.length g')
        have hin2 : InV (((((w2.setCell ⟨w1.heap.size, 0, none⟩ (.int .i64 y.kd)).setCell ⟨w1.heap.size, 1, none⟩ (.int .i64 y.nm)).setCell ⟨w1.heap.size, 2, none⟩ (.string ⟨y.tx.toArray⟩)).setCell ⟨w1.heap.size, 3, none⟩ (.slice D y.ls.length g)).setCell ⟨w1.heap.size, 4, none⟩ (.slice D' y.ms.length g')) (InB w.heap.size (W0.heap.size + 1) (((((w2.setCell ⟨w1.heap.size, 0, none⟩ (.int .i64 y.kd)).setCell ⟨w1.heap.size, 1, none⟩ (.int .i64 y.nm)).setCell ⟨w1.heap.size, 2, none⟩ (.string ⟨y.tx.toArray⟩)).setCell ⟨w1.heap.size, 3, none⟩ (.slice D y.ls.length g)).setCell ⟨w1.heap.size, 4, none⟩ (.slice D' y.ms.length g')) (.slice sa acc.length sc)) y (vA y D g D' g') := (HIN.out.putS (fun b hb => hb.2.2) _ _ _ _ _).more (fun b hb => by
          rcases hb.1 with hb1 | hb1
          · exact .inl hb1
          · exact .inr ⟨by omega, by simp only [sizeS]; exact hb.2.1, fun e => by have := (hG.out.vs.own_lt e).2; omega⟩)
        generalize (((((w2.setCell ⟨w1.heap.size, 0, none⟩ (.int .i64 y.kd)).setCell ⟨w1.heap.size, 1, none⟩ (.int .i64 y.nm)).setCell ⟨w1.heap.size, 2, none⟩ (.string ⟨y.tx.toArray⟩)).setCell ⟨w1.heap.size, 3, none⟩ (.slice D y.ls.length g)).setCell ⟨w1.heap.size, 4, none⟩ (.slice D' y.ms.length g')) = Wf at hw9 hbx hin2 ⊢
        generalize hX8 : w1.heap.size = X8 at hbx ⊢
        have HG := Lib.hid (hG.out.keep hw9)
        have HIN2 := Lib.hid hin2
        have HW9 := Lib.hid hw9
        obtain ⟨⟨p0, p1, p2, p3, p4⟩, f0, f1, f2, f3, f4⟩ := box5 HG.out.bx
        obtain ⟨⟨m0, m1, m2, m3, m4⟩, _⟩ := box5 hbx
        clear hw9 hbx hin2
        rcases hstep with ⟨hcn, rfl⟩ | ⟨rfl, hrs, hfew⟩
        · have qn : (c2 != 0) = true := by rw [bne_iff_ne]; exact hcn
          have qe : (c2 == c2) = true := beq_self_eq_true _
          clear hcn
          go_wp2_with fail
          go_ret
          exact ⟨rfl, HFW0.out.trans (hG.out.fr.trans HW9.out)⟩
        · have HRS := Lib.hid hrs
          by_cases hk : y.kd = 5
          · have hfl : Pt.flat y = y.ls := by unfold Pt.flat; exact if_pos hk
            rw [hfl] at hfew
            have HRS2 : Hid (Pt.RS tl.data.toList l.ls y2 c2 (i + 1) (acc ++ y.ls)) := by have := HRS.out; rw [hfl] at this; exact this
            have q5 : (y.kd == 5) = true := by rw [beq_iff_eq]; exact hk
            have hk63 : (acc.length + y.ls.length) * 80 ≤ 140737488355328 := by simp only [List.length_append] at hfew; omega
            obtain ⟨D1, g1', D1', g2', he1, hls1, _⟩ := HIN2.out.open_
            have hD : D = D1 := by obtain ⟨_, _, _, e3, _⟩ := five he1; injection e3
            subst hD
            have HL3 := Lib.hid hls1
            clear hk hfl hls1 he1 hrs hfew
            go_wp2_with (at_builtin; refine wpl_vB rfl (.tmp 110) (.tmp 112) rfl w.heap.size (W0.heap.size + 1) _ acc rfl HG.out.vs D g y.ls.length y.ls rfl rfl HL3.out hk63 ?_; intro v4 w4 hv4 hg4; obtain ⟨a4, c4, rfl⟩ := hv4.is_slice2 (n := y.ls.length) rfl; have hg5 := HG.out.app hZW hv4 hg4; have HG5 := Lib.hid hg5; have hne4 : ∀ k, k < W0.heap.size + 1 → (Value.slice sa acc.length sc).ownBlock ≠ some k := (fun k hk e => by have := (HG.out.vs.own_lt e).1; omega); have hy4 : Blk w4 W0.heap.size _ _ := (hg4.block _ HG.out.bx.lt (fun e => hne4 _ (by omega) e.symm)).trans HG.out.bx; have zz3 := hy4.cell 3; have zzf := hy4.free 3; clear hv4 hg4 hg5 hy4 hne4)
            exact ⟨⟨i + 1, _, acc ++ y.ls, by omega, by go_num, HG5, HRS2⟩, by simp [intOf]; omega⟩
          · have hfl : Pt.flat y = [y] := by unfold Pt.flat; exact if_neg hk
            rw [hfl] at hfew
            have HRS2 : Hid (Pt.RS tl.data.toList l.ls y2 c2 (i + 1) (acc ++ [y])) := by have := HRS.out; rw [hfl] at this; exact this
            obtain ⟨q5, _⟩ := ikind hk
            have hk63 : (acc.length + 1) * 80 ≤ 140737488355328 := by simp at hfew; omega
            clear hk hfl hrs hfew
            go_wp2_with (at_builtin; refine wpl_vB_lit rfl (.tmp 116) (.tmp 118) rfl w.heap.size (W0.heap.size + 1) _ acc rfl HG.out.vs y D g D' g' rfl HIN2.out rfl (by simp) hk63 ?_; intro v4 w4 hv4 hg4; obtain ⟨a4, c4, rfl⟩ := hv4.is_slice2 (n := 1) rfl; have hga := HG.out.keep ((Fr.refl _).alloc (.cells #[.int .i64 y.kd, .int .i64 y.nm, .string ⟨y.tx.toArray⟩, .slice D y.ls.length g, .slice D' y.ms.length g'] 29)); have hg5 := hga.app hZW hv4 hg4; have HG5 := Lib.hid hg5; have hne4 : ∀ k, k < W0.heap.size + 1 → (Value.slice sa acc.length sc).ownBlock ≠ some k := (fun k hk e => by have := (HG.out.vs.own_lt e).1; omega); have hy4 : Blk w4 W0.heap.size _ _ := (hg4.block _ hga.bx.lt (fun e => hne4 _ (by omega) e.symm)).trans hga.bx; have zz3 := hy4.cell 3; have zzf := hy4.free 3; clear hv4 hg4 hg5 hy4 hne4; clear hga)
            exact ⟨⟨i + 1, _, acc ++ [y], by omega, by go_num, HG5, HRS2⟩, by simp [intOf]; omega⟩
      · skip
        have hw9 := HP2.out wr.heap.size (Nat.le_refl _) (.int .i64 y.kd) (.int .i64 y.nm) (.string ⟨y.tx.toArray⟩) (.slice D y.ls.length g) (.slice D' y.ms.length g')
        have hbx : Blk _ wr.heap.size #[.int .i64 y.kd, .int .i64 y.nm, .string ⟨y.tx.toArray⟩, .slice D y.ls.length g, .slice D' y.ms.length g'] 29 := set5 HBx.out (v0 := .int .i64 y.kd) (v1 := .int .i64 y.nm) (v2 := .string ⟨y.tx.toArray⟩) (v3 := .slice D y.ls.length g) (v4 := .slice D' y.ms.length g')
        have hin2 : InV (((((w2.setCell ⟨wr.heap.size, 0, none⟩ (.int .i64 y.kd)).setCell ⟨wr.heap.size, 1, none⟩ (.int .i64 y.nm)).setCell ⟨wr.heap.size, 2, none⟩ (.string ⟨y.tx.toArray⟩)).setCell ⟨wr.heap.size, 3, none⟩ (.slice D y.ls.length g)).setCell ⟨wr.heap.size, 4, none⟩ (.slice D' y.ms.length g')) (InB w.heap.size (W0.heap.size + 1) (((((w2.setCell ⟨wr.heap.size, 0, none⟩ (.int .i64 y.kd)).setCell ⟨wr.heap.size, 1, none⟩ (.int .i64 y.nm)).setCell ⟨wr.heap.size, 2, none⟩ (.string ⟨y.tx.toArray⟩)).setCell ⟨wr.heap.size, 3, none⟩ (.slice D y.ls.length g)).setCell ⟨wr.heap.size, 4, none⟩ (.slice D' y.ms.length g')) (.slice sa acc.length sc)) y (vA y D g D' g') := (HIN.out.putS (fun b hb => hb.2.2) _ _ _ _ _).more (fun b hb => by
          rcases hb.1 with hb1 | hb1
          · exact .inl hb1
          · exact .inr ⟨by omega, by simp only [sizeS]; exact hb.2.1, fun e => by have := (hG.out.vs.own_lt e).2; omega⟩)
        generalize (((((w2.setCell ⟨wr.heap.size, 0, none⟩ (.int .i64 y.kd)).setCell ⟨wr.heap.size, 1, none⟩ (.int .i64 y.nm)).setCell ⟨wr.heap.size, 2, none⟩ (.string ⟨y.tx.toArray⟩)).setCell ⟨wr.heap.size, 3, none⟩ (.slice D y.ls.length g)).setCell ⟨wr.heap.size, 4, none⟩ (.slice D' y.ms.length g')) = Wf at hw9 hbx hin2 ⊢
        generalize hX8 : wr.heap.size = X8 at hbx ⊢
        have HG := Lib.hid (hG.out.keep hw9)
        have HIN2 := Lib.hid hin2
        have HW9 := Lib.hid hw9
        obtain ⟨⟨p0, p1, p2, p3, p4⟩, f0, f1, f2, f3, f4⟩ := box5 HG.out.bx
        obtain ⟨⟨m0, m1, m2, m3, m4⟩, _⟩ := box5 hbx
        clear hw9 hbx hin2
        rcases hstep with ⟨hcn, rfl⟩ | ⟨rfl, hrs, hfew⟩
        · have qn : (c2 != 0) = true := by rw [bne_iff_ne]; exact hcn
          have qe : (c2 == c2) = true := beq_self_eq_true _
          clear hcn
          go_wp2_with fail
          go_ret
          exact ⟨rfl, HFW0.out.trans (hG.out.fr.trans HW9.out)⟩
        · have HRS := Lib.hid hrs
          by_cases hk : y.kd = 5
          · have hfl : Pt.flat y = y.ls := by unfold Pt.flat; exact if_pos hk
            rw [hfl] at hfew
            have HRS2 : Hid (Pt.RS tl.data.toList l.ls y2 c2 (i + 1) (acc ++ y.ls)) := by have := HRS.out; rw [hfl] at this; exact this
            have q5 : (y.kd == 5) = true := by rw [beq_iff_eq]; exact hk
            have hk63 : (acc.length + y.ls.length) * 80 ≤ 140737488355328 := by simp only [List.length_append] at hfew; omega
            obtain ⟨D1, g1', D1', g2', he1, hls1, _⟩ := HIN2.out.open_
            have hD : D = D1 := by obtain ⟨_, _, _, e3, _⟩ := five he1; injection e3
            subst hD
            have HL3 := Lib.hid hls1
            clear hk hfl hls1 he1 hrs hfew
            go_wp2_with (at_builtin; refine wpl_vB rfl (.tmp 110) (.tmp 112) rfl w.heap.size (W0.heap.size + 1) _ acc rfl HG.out.vs D g y.ls.length y.ls rfl rfl HL3.out hk63 ?_; intro v4 w4 hv4 hg4; obtain ⟨a4, c4, rfl⟩ := hv4.is_slice2 (n := y.ls.length) rfl; have hg5 := HG.out.app hZW hv4 hg4; have HG5 := Lib.hid hg5; have hne4 : ∀ k, k < W0.heap.size + 1 → (Value.slice sa acc.length sc).ownBlock ≠ some k := (fun k hk e => by have := (HG.out.vs.own_lt e).1; omega); have hy4 : Blk w4 W0.heap.size _ _ := (hg4.block _ HG.out.bx.lt (fun e => hne4 _ (by omega) e.symm)).trans HG.out.bx; have zz3 := hy4.cell 3; have zzf := hy4.free 3; clear hv4 hg4 hg5 hy4 hne4)
            exact ⟨⟨i + 1, _, acc ++ y.ls, by omega, by go_num, HG5, HRS2⟩, by simp [intOf]; omega⟩
          · have hfl : Pt.flat y = [y] := by unfold Pt.flat; exact if_neg hk
            rw [hfl] at hfew
            have HRS2 : Hid (Pt.RS tl.data.toList l.ls y2 c2 (i + 1) (acc ++ [y])) := by have := HRS.out; rw [hfl] at this; exact this
            obtain ⟨q5, _⟩ := ikind hk
            have hk63 : (acc.length + 1) * 80 ≤ 140737488355328 := by simp at hfew; omega
            clear hk hfl hrs hfew
            go_wp2_with (at_builtin; refine wpl_vB_lit rfl (.tmp 116) (.tmp 118) rfl w.heap.size (W0.heap.size + 1) _ acc rfl HG.out.vs y D g D' g' rfl HIN2.out rfl (by simp) hk63 ?_; intro v4 w4 hv4 hg4; obtain ⟨a4, c4, rfl⟩ := hv4.is_slice2 (n := 1) rfl; have hga := HG.out.keep ((Fr.refl _).alloc (.cells #[.int .i64 y.kd, .int .i64 y.nm, .string ⟨y.tx.toArray⟩, .slice D y.ls.length g, .slice D' y.ms.length g'] 29)); have hg5 := hga.app hZW hv4 hg4; have HG5 := Lib.hid hg5; have hne4 : ∀ k, k < W0.heap.size + 1 → (Value.slice sa acc.length sc).ownBlock ≠ some k := (fun k hk e => by have := (HG.out.vs.own_lt e).1; omega); have hy4 : Blk w4 W0.heap.size _ _ := (hg4.block _ hga.bx.lt (fun e => hne4 _ (by omega) e.symm)).trans hga.bx; have zz3 := hy4.cell 3; have zzf := hy4.free 3; clear hv4 hg4 hg5 hy4 hne4; clear hga)
            exact ⟨⟨i + 1, _, acc ++ [y], by omega, by go_num, HG5, HRS2⟩, by simp [intOf]; omega⟩
    · obtain rfl : l.ls.length = i := by omega
      obtain ⟨⟨t0, t1, t2, t3, t4⟩, _⟩ := box5 (HY2.out.keep hG.out.fr)
      have hfew := hI.out.few
      rcases hI.out.stop with ⟨h00, rfl⟩ | ⟨rfl, rfl⟩
      · have qq : ((l.ls.length : Int) == 0) = true := by rw [beq_iff_eq]; omega
        go_wp2_with fail
        go_ret
        exact ⟨rfl, HFW0.out.trans hG.out.fr⟩
      · have hwx := hG.out.vs.inV (by omega)
        have HWX : Hid (InV wr (Lo wr.heap.size) (JV.listV acc) (vA (JV.listV acc) sa sc none 0)) := hwx.more (fun b hb => by show b < _; have := hG.out.vs.1; have := hG.out.bx.lt; rcases hb with hb | hb <;> omega)
        have HYX := Lib.hid ((HYV.out.keep (Nat.le_refl _) hG.out.fr).lo hG.out.fr.size)
        clear hwx hfew
        have alt : ((l.ls.length : Int) == 0) = true ∨ ((l.ls.length : Int) == 0) = false := by cases ((l.ls.length : Int) == 0) <;> simp
        rcases alt with qq | qq
        all_goals
          go_wp2_with (go_at_call 15; refine ((same_is (JV.listV acc) (JV.listV acc) _ _).call true (by simp) rfl rfl HYX.out HWX.out).mono ?_; rintro e w9 ⟨rfl, hf⟩; have HFF := Lib.hid (HFW0.out.trans (hG.out.fr.trans hf)); clear hf)
          go_ret
          exact ⟨rfl, HFF.out⟩

theorem pstars_law (v : JV) (A : Option Addr) (c0 : Nat) (A' : Option Addr) (c0' : Nat) (hd tl : ByteArray) (w : World) (hv : InV w (Lo w.heap.size) v (vA v A c0 A' c0')) (hbk : JV.bulk v ≤ 1048576) (hs1 : hd.size ≤ 140737488351232) (hs2 : tl.size ≤ 140737488351232) (hT : LowTabs w) (hM : MxL w) :
    Calls Tryz.prog 9 #[vA v A c0 A' c0', .string hd, .string tl] w fun e w' => e = .returned (.bool true) ∧ Fr w w' := by
  by_cases hb : hd.size ≤ 50 ∧ tl.size ≤ 50
  · obtain ⟨l, c1, hl⟩ : ∃ l c, Pt.ans false (Pt.parts hd.data.toList) v = (l, c) := ⟨_, _, rfl⟩
    by_cases hg : c1 = 0 ∧ l.kd = 5 ∧ Pt.pth hd.data.toList ∧ Pt.pth tl.data.toList ∧ (42 : UInt8) ∉ hd.data.toList ∧ (42 : UInt8) ∉ tl.data.toList
    · obtain ⟨rfl, h5, h1, h2, h3, h4⟩ := hg
      exact stars_main v A c0 A' c0' hd tl w hv hbk hs1 hs2 hT hM hb.1 hb.2 l hl h5 h1 h2 h3 h4
    · exact stars_out v A c0 A' c0' hd tl w hv hbk hs1 hs2 hT hM hb.1 hb.2 l c1 hl hg
  · exact stars_long v A c0 A' c0' hd tl w hv hbk hs1 hs2 hT hM hb
end Go.Proofs.YtfjcgbbphkfkgaaGreatDoor
