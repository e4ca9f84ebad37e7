/- Chapter 15: book.Whole. -/
import Derived.Test.YtgaiepficjiclaaGreatDoorBkC
import Derived.Test.YtgaiepficjiclaaGreatDoorCpa
namespace Go.Proofs.YtgaiepficjiclaaGreatDoor
set_option maxRecDepth 100000
set_option maxHeartbeats 8000000
set_option linter.unusedVariables false
set_option linter.unusedSimpArgs false
open Go.RowKit

theorem Bk.get_nv {v y : JV} {s : List UInt8} (h : Pt.get v s = some y) : Rd.nv y ≤ Rd.nv v := by
  have h1 := Pt.nvM_mem (Bk.get_mem h).2
  have h2 := Pt.nv_eq v
  have h3 : Rd.nv y ≤ Rd.nvM v.ms := h1
  omega
theorem Bk.val_nv {v : JV} {s : List UInt8} (h : Rd.nv v ≤ 1048576) : Rd.nv (Bk.val v s) ≤ 1048576 := by
  unfold Bk.val
  cases hg : Pt.get v s with
  | some y => exact Nat.le_trans (Bk.get_nv hg) h
  | none => show Rd.nv (Bk.usual s) ≤ _; unfold Bk.usual; split; decide; split <;> decide
theorem Bk.usual_tx (s : List UInt8) : (Bk.usual s).tx = [] ∧ (Bk.usual s).ls = [] ∧ (Bk.usual s).ms = [] := by
  unfold Bk.usual; split; exact ⟨rfl, rfl, rfl⟩; split <;> exact ⟨rfl, rfl, rfl⟩
theorem Bk.usual_in (w : World) (S : Nat → Prop) (s : List UInt8) : InV w S (Bk.usual s) (vA (Bk.usual s) none 0 none 0) := by
  unfold Bk.usual
  split
  · exact InV.leaf w S 2 1 [] none none 0 0 (by decide) (by decide) (by decide) (by decide) (by decide)
  · split
    · exact InV.leaf w S 3 0 [] none none 0 0 (by decide) (by decide) (by decide) (by decide) (by decide)
    · exact InV.leaf w S 1 0 [] none none 0 0 (by decide) (by decide) (by decide) (by decide) (by decide)
theorem Bk.val_none {v us : JV} {s : List UInt8} (h : none = Pt.get v s) (hu : us = Bk.usual s) : Bk.val v s = us := by unfold Bk.val; rw [← h, hu]; rfl
theorem Bk.val_some {v y : JV} {s : List UInt8} (h : some y = Pt.get v s) : Bk.val v s = y := by unfold Bk.val; rw [← h]; rfl
theorem Bk.take_val {v u : JV} {k : Nat} {s : List UInt8} (hk : (Bk.wholeM v)[k]? = some (s, Bk.val v s)) (hu : Bk.val v s = u) : (Bk.wholeM v).take k ++ [(s, u)] = (Bk.wholeM v).take (k + 1) := by
  rw [List.take_add_one, hk, hu]; rfl
theorem bkusual_any (nm : List UInt8) (W : World) : Calls Tryz.prog 31 #[.string ⟨nm.toArray⟩] W fun e w' => ∃ us, us = Bk.usual nm ∧ e = .returned (.agg #[.int .i64 us.kd, .int .i64 us.nm, .string ⟨us.tx.toArray⟩, .slice none us.ls.length 0, .slice none us.ms.length 0]) ∧ Fr W w' := by
  obtain ⟨h1, h2, h3⟩ := Bk.usual_tx nm
  refine (usual_is nm W).mono ?_
  rintro e w' ⟨rfl, hf⟩
  exact ⟨_, rfl, by rw [h1, h2, h3]; rfl, hf⟩
theorem bkget_any (v : JV) (B : Option Addr) (d : Nat) (B' : Option Addr) (d' : Nat) (s : List UInt8) (w : World) (Z : Nat) (hZ : Z ≤ w.heap.size) (h : InV w (Lo Z) v (vA v B d B' d')) :
    Calls Tryz.prog 16 #[.agg #[.int .i64 v.kd, .int .i64 v.nm, .string ⟨v.tx.toArray⟩, .slice B v.ls.length d, .slice B' v.ms.length d'], .string ⟨s.toArray⟩] w fun e w' => ∃ og, og = Pt.get v s ∧ OpP Z w og e w' :=
  (get_is v B d B' d' s w Z hZ h).mono (fun e w' h => ⟨_, rfl, h⟩)
theorem bkwhole_no (v : JV) (B : Option Addr) (d : Nat) (B' : Option Addr) (d' : Nat) (w : World) (Z : Nat) (hZ : Z ≤ w.heap.size) (h : InV w (Lo Z) v (vA v B d B' d')) (hn : Rd.nv v ≤ 1048576) (hw : Bk.wrong v ≠ []) :
    Calls Tryz.prog 14 #[.agg #[.int .i64 v.kd, .int .i64 v.nm, .string ⟨v.tx.toArray⟩, .slice B v.ls.length d, .slice B' v.ms.length d']] w fun e w' => e = .returned (.agg #[.int .i64 0, .int .i64 0, .string ⟨#[]⟩, .slice none 0 0, .slice none 0 0]) ∧ Fr w w' := by
  have hml := Cp.nvM_len v.ms
  have hnv := Pt.nv_eq v
  obtain ⟨n, hn1⟩ : ∃ n, (Bk.wrong v).length = n := ⟨_, rfl⟩
  have hpos : 0 < n := by rw [← hn1]; exact List.length_pos_iff.2 hw
  have hpos' : (0 : Int) < (n : Int) := by omega
  have HCK : Hid (∀ W, Fr w W → Calls Tryz.prog 11 #[.agg #[.int .i64 v.kd, .int .i64 v.nm, .string ⟨v.tx.toArray⟩, .slice B v.ls.length d, .slice B' v.ms.length d']] W fun e w' => (∃ A c, e = .returned (.slice A n c)) ∧ Fr W w') := Lib.hid (fun W hW => (bkcheck_is v B d B' d' W Z (Nat.le_trans hZ hW.size) (h.keep hZ hW) (by omega)).mono (by rintro e w' ⟨⟨A, c, rfl, _⟩, hf⟩; exact ⟨⟨A, c, by rw [hn1]⟩, hf⟩))
  clear h hn hw hml hnv hn1
  go_enter Tryz.func14, Tryz.ntmps14
  go_upto_region 1 with fail
  have hx0 : Blk ((w.alloc (.cells #[.int .i64 v.kd, .int .i64 v.nm, .string ⟨v.tx.toArray⟩, .slice B v.ls.length d, .slice B' v.ms.length d'] 25)).alloc (.cells #[.int .i64 0, .int .i64 0, .string ⟨#[]⟩, .slice none 0 0, .slice none 0 0] 25)) w.heap.size #[.int .i64 v.kd, .int .i64 v.nm, .string ⟨v.tx.toArray⟩, .slice B v.ls.length d, .slice B' v.ms.length d'] 25 := (Blk.made w _ _).keep ((Fr.refl _).alloc _)
  have hy0 : Blk ((w.alloc (.cells #[.int .i64 v.kd, .int .i64 v.nm, .string ⟨v.tx.toArray⟩, .slice B v.ls.length d, .slice B' v.ms.length d'] 25)).alloc (.cells #[.int .i64 0, .int .i64 0, .string ⟨#[]⟩, .slice none 0 0, .slice none 0 0] 25)) (w.heap.size + 1) #[.int .i64 0, .int .i64 0, .string ⟨#[]⟩, .slice none 0 0, .slice none 0 0] 25 := boxz (Blk.made (w.alloc _) _ _)
  have hf0 : Fr w ((w.alloc (.cells #[.int .i64 v.kd, .int .i64 v.nm, .string ⟨v.tx.toArray⟩, .slice B v.ls.length d, .slice B' v.ms.length d'] 25)).alloc (.cells #[.int .i64 0, .int .i64 0, .string ⟨#[]⟩, .slice none 0 0, .slice none 0 0] 25)) := ((Fr.refl w).alloc _).alloc _
  generalize ((w.alloc (.cells #[.int .i64 v.kd, .int .i64 v.nm, .string ⟨v.tx.toArray⟩, .slice B v.ls.length d, .slice B' v.ms.length d'] 25)).alloc (.cells #[.int .i64 0, .int .i64 0, .string ⟨#[]⟩, .slice none 0 0, .slice none 0 0] 25)) = W1 at hx0 hy0 hf0 ⊢
  have HX2 : Hid (w.heap.size ≤ w.heap.size + 1) := Lib.hid (by omega)
  generalize w.heap.size + 1 = X2 at hy0 HX2 ⊢
  obtain ⟨X1, hX1⟩ : ∃ X, w.heap.size = X := ⟨_, rfl⟩
  rw [hX1] at hx0 ⊢
  clear hX1
  obtain ⟨⟨y0, y1, y2, y3, y4⟩, _⟩ := box5 hx0
  have HY0 := Lib.hid hy0
  have HF0 := Lib.hid hf0
  clear hx0 hy0 hf0
  go_wp2_with (go_at_call 11; refine (HCK.out _ HF0.out).mono ?_; rintro e w2 ⟨⟨A, c, rfl⟩, hf⟩; have hy2 := HY0.out.keep hf; obtain ⟨⟨x0, x1, x2, x3, x4⟩, xf0, xf1, xf2, xf3, xf4⟩ := box5 hy2; have HY2 := Lib.hid hy2; have HF2 := Lib.hid (HF0.out.trans hf); clear hy2 hf)
  refine bodyPost_ret (results_cv (by rfl) rfl _ X2 (by rfl) _ _ _ _ _ (set5 HY2.out)) rfl ?_
  exact ⟨rfl, st5_fr HF2.out HX2.out _ _ _ _ _⟩
theorem bkwhole_yes2 (v : JV) (B : Option Addr) (d : Nat) (B' : Option Addr) (d' : Nat) (w : World) (Z : Nat) (hZ : Z ≤ w.heap.size) (h : InV w (Lo Z) v (vA v B d B' d')) (hml : v.ms.length ≤ 1048576) (hn : ∀ s, Rd.nv (Bk.val v s) ≤ 1048576) (hw : Bk.wrong v = []) :
    Calls Tryz.prog 14 #[.agg #[.int .i64 v.kd, .int .i64 v.nm, .string ⟨v.tx.toArray⟩, .slice B v.ls.length d, .slice B' v.ms.length d']] w fun e w' => (∃ A c, e = .returned (.agg #[.int .i64 6, .int .i64 0, .string ⟨#[]⟩, .slice none 0 0, (.slice A 4 c)]) ∧ InV w' (Be w.heap.size w'.heap.size) (JV.mapV (Bk.wholeM v)) (.agg #[.int .i64 6, .int .i64 0, .string ⟨#[]⟩, .slice none 0 0, (.slice A 4 c)]) ∧ ∃ g cur, A = some ⟨g, 0, none⟩ ∧ w.heap.size ≤ g ∧ Blk w' g cur 37 ∧ 24 ≤ cur.size) ∧ Fr w w' := by
  have HV := Lib.hid h
  have HCK : Hid (∀ W, Fr w W → Calls Tryz.prog 11 #[.agg #[.int .i64 v.kd, .int .i64 v.nm, .string ⟨v.tx.toArray⟩, .slice B v.ls.length d, .slice B' v.ms.length d']] W fun e w' => (∃ A c, e = .returned (.slice A 0 c)) ∧ Fr W w') := Lib.hid (fun W hW => (bkcheck_is v B d B' d' W Z (Nat.le_trans hZ hW.size) (h.keep hZ hW) hml).mono (by rintro e w' ⟨⟨A, c, rfl, _⟩, hf⟩; exact ⟨⟨A, c, by rw [hw]; rfl⟩, hf⟩))
  have HNV := Lib.hid hn
  clear h hn hw hml
  go_enter Tryz.func14, Tryz.ntmps14
  go_upto_region 1 with fail
  have hx0 : Blk ((w.alloc (.cells #[.int .i64 v.kd, .int .i64 v.nm, .string ⟨v.tx.toArray⟩, .slice B v.ls.length d, .slice B' v.ms.length d'] 25)).alloc (.cells #[.int .i64 0, .int .i64 0, .string ⟨#[]⟩, .slice none 0 0, .slice none 0 0] 25)) w.heap.size #[.int .i64 v.kd, .int .i64 v.nm, .string ⟨v.tx.toArray⟩, .slice B v.ls.length d, .slice B' v.ms.length d'] 25 := (Blk.made w _ _).keep ((Fr.refl _).alloc _)
  have hy0 : Blk ((w.alloc (.cells #[.int .i64 v.kd, .int .i64 v.nm, .string ⟨v.tx.toArray⟩, .slice B v.ls.length d, .slice B' v.ms.length d'] 25)).alloc (.cells #[.int .i64 0, .int .i64 0, .string ⟨#[]⟩, .slice none 0 0, .slice none 0 0] 25)) (w.heap.size + 1) #[.int .i64 0, .int .i64 0, .string ⟨#[]⟩, .slice none 0 0, .slice none 0 0] 25 := boxz (Blk.made (w.alloc _) _ _)
  have hf0 : Fr w ((w.alloc (.cells #[.int .i64 v.kd, .int .i64 v.nm, .string ⟨v.tx.toArray⟩, .slice B v.ls.length d, .slice B' v.ms.length d'] 25)).alloc (.cells #[.int .i64 0, .int .i64 0, .string ⟨#[]⟩, .slice none 0 0, .slice none 0 0] 25)) := ((Fr.refl w).alloc _).alloc _
  generalize ((w.alloc (.cells #[.int .i64 v.kd, .int .i64 v.nm, .string ⟨v.tx.toArray⟩, .slice B v.ls.length d, .slice B' v.ms.length d'] 25)).alloc (.cells #[.int .i64 0, .int .i64 0, .string ⟨#[]⟩, .slice none 0 0, .slice none 0 0] 25)) = W1 at hx0 hy0 hf0 ⊢
  have HX12 : Hid (w.heap.size < w.heap.size + 1 ∧ w.heap.size + 1 < W1.heap.size) := Lib.hid ⟨by omega, hy0.lt⟩
  generalize w.heap.size + 1 = X2 at hy0 HX12 ⊢
  obtain ⟨X1, hX1⟩ : ∃ X, w.heap.size = X := ⟨_, rfl⟩
  have HX1 := Lib.hid hX1
  rw [hX1] at hx0 HX12 ⊢
  clear hX1
  obtain ⟨⟨y0, y1, y2, y3, y4⟩, _⟩ := box5 hx0
  have HX0 := Lib.hid hx0
  have HY0 := Lib.hid hy0
  have HF0 := Lib.hid hf0
  clear hx0 hy0 hf0
  go_upto_region 3 with (go_at_call 11; refine (HCK.out _ HF0.out).mono ?_; rintro e w2 ⟨⟨A, c, rfl⟩, hf⟩; have HF2 := Lib.hid hf; clear hf)
  clear y0 y1 y2 y3 y4
  go_upto_region 4 with fail
  have hb3 : Blk (w2.alloc (.cells #[.int .i64 6, .int .i64 0, .string ⟨#[]⟩, .slice none 0 0, (.slice none 0 0)] 25)) w2.heap.size #[.int .i64 6, .int .i64 0, .string ⟨#[]⟩, .slice none 0 0, (.slice none 0 0)] 25 := Blk.made _ _ _
  have hf3 : Fr W1 (w2.alloc (.cells #[.int .i64 6, .int .i64 0, .string ⟨#[]⟩, .slice none 0 0, (.slice none 0 0)] 25)) := HF2.out.alloc _
  have HX3 : Hid (X2 < w2.heap.size) := Lib.hid (Nat.lt_of_lt_of_le HX12.out.2 HF2.out.size)
  generalize (w2.alloc (.cells #[.int .i64 6, .int .i64 0, .string ⟨#[]⟩, .slice none 0 0, (.slice none 0 0)] 25)) = W4 at hb3 hf3 ⊢
  generalize w2.heap.size = X3 at hb3 HX3 ⊢
  have HX4 := Lib.hid (HX0.out.keep hf3)
  have HY4 := Lib.hid (HY0.out.keep hf3)
  have HB3 := Lib.hid hb3
  have HF4 := Lib.hid (HF0.out.trans hf3)
  have HK0 : Hid (X3 < W4.heap.size) := Lib.hid hb3.lt
  clear hb3 hf3 HX0 HY0 HF2
  go_wp2_with fail
  go_loopw [15] (fun j wr => ∃ (i : Nat) (sv : Value), i ≤ 4 ∧ j = .int .i64 i ∧ Hid (FrX X3 W4 wr) ∧ Hid (Blk wr X3 #[.int .i64 6, .int .i64 0, .string ⟨#[]⟩, .slice none 0 0, sv] 25) ∧ Hid (MgN wr W4.heap.size W4.heap.size sv ((Bk.wholeM v).take i))) (fun j _ => 4 - (intOf j).toNat)
  case atStart => exact ⟨0, _, by omega, rfl, Lib.hid (FrX.refl X3 W4), HB3, Lib.hid (MgN.none_ _ (Nat.le_refl _))⟩
  case round =>
    obtain ⟨i, sv, hi, hj, hX, hB, hM⟩ := hrel
    have hX10 : X3 ≠ X1 := by have := HX12.out; have := HX3.out; omega
    have hX20 : X3 ≠ X2 := by have := HX12.out; have := HX3.out; omega
    have hxr := HX4.out.frx hX.out (fun e => hX10 e.symm)
    have hyr := HY4.out.frx hX.out (fun e => hX20 e.symm)
    have hfr : Fr w wr := Fr.thenY HF4.out (by have := HX12.out; have := HX3.out; have := HX1.out; omega) (Nat.le_of_lt HK0.out) hX.out
    by_cases h4 : i = 4
    · subst h4
      obtain rfl : u15 = .int .i64 4 := hj
      have hv4 : MgN wr W4.heap.size W4.heap.size sv (Bk.wholeM v) := hM.out
      obtain ⟨A4, c4, e4⟩ := hv4.is_slice
      replace e4 : sv = .slice A4 4 c4 := e4
      subst e4
      obtain ⟨g, cur, rfl, hg, hbl, hcs⟩ := hv4.blk (by show 0 < 4; omega)
      have hin := hv4.inV (Nat.le_refl _) (by show 4 ≤ _; omega)
      have HIN := Lib.hid hin
      have HBL := Lib.hid hbl
      have HGX : Hid (w.heap.size ≤ g ∧ X2 < g ∧ w.heap.size ≤ X2 ∧ X2 < W4.heap.size ∧ w.heap.size ≤ W4.heap.size) := Lib.hid (by have := HX12.out; have := HX3.out; have := HX1.out; have := HK0.out; omega)
      have HYR := Lib.hid hyr
      have HFR := Lib.hid hfr
      obtain ⟨⟨y0, y1, y2, y3, y4⟩, _⟩ := box5 hB.out
      obtain ⟨⟨x0, x1, x2, x3, x4⟩, xf0, xf1, xf2, xf3, xf4⟩ := box5 hyr
      clear hxr hyr hfr hin hbl hv4 hM
      go_wp2_with fail
      refine bodyPost_ret (results_cv (by rfl) rfl _ X2 (by rfl) _ _ _ _ _ (set5 HYR.out)) rfl ?_
      refine ⟨⟨_, c4, rfl, ?_, g, cur, rfl, HGX.out.1, HBL.out.frx (st5_frx _ X2 _ _ _ _ _) (by have := HGX.out; omega), hcs⟩, st5_fr HFR.out HGX.out.2.2.1 _ _ _ _ _⟩
      refine (HIN.out.map (fun b hb => ?_) (fun b o hb => (st5_frx wr X2 _ _ _ _ _).cell hb.2 (by have := hb.1; have := HGX.out; omega)))
      exact ⟨by have := hb.1; have := HGX.out; omega, Nat.lt_of_lt_of_eq hb.2 (by simp [World.setCell])⟩
    · obtain ⟨k, hk⟩ : ∃ k, k = i := ⟨_, rfl⟩
      rw [← hk] at hM
      have hk4 : k < 4 := by omega
      have HAL : Hid (((Bk.wholeM v).take k).length = k) := Lib.hid (by rw [List.length_take]; show min k 4 = k; omega)
      have HFR := Lib.hid hfr
      have HB3R := hB
      obtain ⟨⟨y0, y1, y2, y3, y4⟩, _⟩ := box5 hxr
      have HLT : Hid (∀ k, sv.ownBlock = some k → k < wr.heap.size) := Lib.hid (fun k hk => by obtain ⟨S, h1, _⟩ := hM.out; exact (h1.own_lt hk).2)
      clear hyr hxr hfr hX10 hX20
      have hij : (i = 0 ∧ u15 = .int .i64 0) ∨ (i = 1 ∧ u15 = .int .i64 1) ∨ (i = 2 ∧ u15 = .int .i64 2) ∨ (i = 3 ∧ u15 = .int .i64 3) := by
        rcases (by omega : i = 0 ∨ i = 1 ∨ i = 2 ∨ i = 3) with rfl | rfl | rfl | rfl
        · exact .inl ⟨rfl, hj⟩
        · exact .inr (.inl ⟨rfl, hj⟩)
        · exact .inr (.inr (.inl ⟨rfl, hj⟩))
        · exact .inr (.inr (.inr ⟨rfl, hj⟩))
      clear hj
      have ix0 : ∀ W : World, (Instr.index 54 (.agg #[.string ⟨#[100, 101, 115, 99, 114, 105, 112, 116, 105, 111, 110]⟩, .string ⟨#[105, 115, 83, 117, 98, 115, 99, 114, 105, 98, 101, 100]⟩, .string ⟨#[110, 97, 109, 101]⟩, .string ⟨#[115, 111, 114, 116, 79, 114, 100, 101, 114]⟩]) (.int .i64 0)).run Tryz.prog W = .ok (.string ⟨#[100, 101, 115, 99, 114, 105, 112, 116, 105, 111, 110]⟩) W := fun _ => by kernel_rfl
      have ix1 : ∀ W : World, (Instr.index 54 (.agg #[.string ⟨#[100, 101, 115, 99, 114, 105, 112, 116, 105, 111, 110]⟩, .string ⟨#[105, 115, 83, 117, 98, 115, 99, 114, 105, 98, 101, 100]⟩, .string ⟨#[110, 97, 109, 101]⟩, .string ⟨#[115, 111, 114, 116, 79, 114, 100, 101, 114]⟩]) (.int .i64 1)).run Tryz.prog W = .ok (.string ⟨#[105, 115, 83, 117, 98, 115, 99, 114, 105, 98, 101, 100]⟩) W := fun _ => by kernel_rfl
      have ix2 : ∀ W : World, (Instr.index 54 (.agg #[.string ⟨#[100, 101, 115, 99, 114, 105, 112, 116, 105, 111, 110]⟩, .string ⟨#[105, 115, 83, 117, 98, 115, 99, 114, 105, 98, 101, 100]⟩, .string ⟨#[110, 97, 109, 101]⟩, .string ⟨#[115, 111, 114, 116, 79, 114, 100, 101, 114]⟩]) (.int .i64 2)).run Tryz.prog W = .ok (.string ⟨#[110, 97, 109, 101]⟩) W := fun _ => by kernel_rfl
      have ix3 : ∀ W : World, (Instr.index 54 (.agg #[.string ⟨#[100, 101, 115, 99, 114, 105, 112, 116, 105, 111, 110]⟩, .string ⟨#[105, 115, 83, 117, 98, 115, 99, 114, 105, 98, 101, 100]⟩, .string ⟨#[110, 97, 109, 101]⟩, .string ⟨#[115, 111, 114, 116, 79, 114, 100, 101, 114]⟩]) (.int .i64 3)).run Tryz.prog W = .ok (.string ⟨#[115, 111, 114, 116, 79, 114, 100, 101, 114]⟩) W := fun _ => by kernel_rfl
      rcases hij with ⟨rfl, rfl⟩ | ⟨rfl, rfl⟩ | ⟨rfl, rfl⟩ | ⟨rfl, rfl⟩
      all_goals (go_upto_region 10 with (first
        | (go_at_call 31; have hq := HN1.out; refine (bkusual_any _ _).mono ?_; rintro e w2 ⟨u, hus, rfl, hf2⟩; have HU := Lib.hid hus; have HN2 := Lib.hid hf2; have hbz := HBZ.out.keep hf2; obtain ⟨⟨z0, z1, z2, z3, z4⟩, zf0, zf1, zf2, zf3, zf4⟩ := box5 hbz; have HBZ2 := Lib.hid hbz; clear hf2 hus hq hbz)
        | (go_at_call 16; refine (bkget_any v B d B' d' _ _ Z (Nat.le_trans hZ HFR.out.size) (HV.out.keep hZ HFR.out)).mono ?_; rintro e w1 ⟨og, hog, h1⟩; have HOG := Lib.hid hog; clear hog; rcases og with _ | u; obtain ⟨rfl, hf1⟩ := h1; have HN1 := Lib.hid hf1; have HBZ := Lib.hid (Blk.made w1 #[.int .i64 0, .int .i64 0, .string ⟨#[]⟩, .slice none 0 0, .slice none 0 0] 25); clear hf1; rotate_left; obtain ⟨C, f, C', f', rfl, hi1, hf1⟩ := h1; have HS1 := Lib.hid hf1; have HI1 := Lib.hid hi1; clear hi1 hf1)))
      all_goals clear y0 y1 y2 y3 y4
      all_goals first
        | (have hq := HS1.out
           have hb9 := Blk.made w1 #[.int .i64 u.kd, .int .i64 u.nm, .string ⟨u.tx.toArray⟩, .slice C u.ls.length f, .slice C' u.ms.length f'] 25
           have hf9 : Fr wr (w1.alloc (.cells #[.int .i64 u.kd, .int .i64 u.nm, .string ⟨u.tx.toArray⟩, .slice C u.ls.length f, .slice C' u.ms.length f'] 25)) := hq.alloc _
           have hi9 : InV (w1.alloc (.cells #[.int .i64 u.kd, .int .i64 u.nm, .string ⟨u.tx.toArray⟩, .slice C u.ls.length f, .slice C' u.ms.length f'] 25)) (Lo (w1.alloc (.cells #[.int .i64 u.kd, .int .i64 u.nm, .string ⟨u.tx.toArray⟩, .slice C u.ls.length f, .slice C' u.ms.length f'] 25)).heap.size) u (vA u C f C' f') := (HI1.out.keep (Nat.le_trans hZ (HFR.out.trans hq).size) ((Fr.refl w1).alloc _)).lo (Nat.le_trans hZ (HFR.out.trans hf9).size)
           have huv := Bk.val_some HOG.out
           have hx6 := hq.size
           clear hq HS1 HI1 HOG
           generalize (w1.alloc (.cells #[.int .i64 u.kd, .int .i64 u.nm, .string ⟨u.tx.toArray⟩, .slice C u.ls.length f, .slice C' u.ms.length f'] 25)) = W9 at hb9 hf9 hi9 ⊢
           generalize w1.heap.size = X6 at hb9 hx6 ⊢)
        | (have hq := HN1.out
           have hq2 := hq.trans (((Fr.refl w1).alloc _).trans HN2.out)
           have hf9 : Fr wr (((((w2.setCell ⟨w1.heap.size, 0, none⟩ (.int .i64 u.kd)).setCell ⟨w1.heap.size, 1, none⟩ (.int .i64 u.nm)).setCell ⟨w1.heap.size, 2, none⟩ (.string ⟨u.tx.toArray⟩)).setCell ⟨w1.heap.size, 3, none⟩ (.slice none u.ls.length 0)).setCell ⟨w1.heap.size, 4, none⟩ (.slice none u.ms.length 0)) := st5_fr hq2 hq.size _ _ _ _ _
           obtain ⟨C, f, C', f', hb9, hi9⟩ : ∃ C f C' f', Blk (((((w2.setCell ⟨w1.heap.size, 0, none⟩ (.int .i64 u.kd)).setCell ⟨w1.heap.size, 1, none⟩ (.int .i64 u.nm)).setCell ⟨w1.heap.size, 2, none⟩ (.string ⟨u.tx.toArray⟩)).setCell ⟨w1.heap.size, 3, none⟩ (.slice none u.ls.length 0)).setCell ⟨w1.heap.size, 4, none⟩ (.slice none u.ms.length 0)) w1.heap.size #[.int .i64 u.kd, .int .i64 u.nm, .string ⟨u.tx.toArray⟩, .slice C u.ls.length f, .slice C' u.ms.length f'] 25 ∧ InV (((((w2.setCell ⟨w1.heap.size, 0, none⟩ (.int .i64 u.kd)).setCell ⟨w1.heap.size, 1, none⟩ (.int .i64 u.nm)).setCell ⟨w1.heap.size, 2, none⟩ (.string ⟨u.tx.toArray⟩)).setCell ⟨w1.heap.size, 3, none⟩ (.slice none u.ls.length 0)).setCell ⟨w1.heap.size, 4, none⟩ (.slice none u.ms.length 0)) (Lo (((((w2.setCell ⟨w1.heap.size, 0, none⟩ (.int .i64 u.kd)).setCell ⟨w1.heap.size, 1, none⟩ (.int .i64 u.nm)).setCell ⟨w1.heap.size, 2, none⟩ (.string ⟨u.tx.toArray⟩)).setCell ⟨w1.heap.size, 3, none⟩ (.slice none u.ls.length 0)).setCell ⟨w1.heap.size, 4, none⟩ (.slice none u.ms.length 0)).heap.size) u (vA u C f C' f') := ⟨none, 0, none, 0, st5_x HBZ2.out _ _ _ _ _, by rw [HU.out]; exact Bk.usual_in _ _ _⟩
           have huv := Bk.val_none HOG.out HU.out
           have hx6 := hq.size
           clear z0 z1 z2 z3 z4 zf0 zf1 zf2 zf3 zf4 hq hq2 HN1 HN2 HBZ HBZ2 HU HOG
           generalize (((((w2.setCell ⟨w1.heap.size, 0, none⟩ (.int .i64 u.kd)).setCell ⟨w1.heap.size, 1, none⟩ (.int .i64 u.nm)).setCell ⟨w1.heap.size, 2, none⟩ (.string ⟨u.tx.toArray⟩)).setCell ⟨w1.heap.size, 3, none⟩ (.slice none u.ls.length 0)).setCell ⟨w1.heap.size, 4, none⟩ (.slice none u.ms.length 0)) = W9 at hb9 hf9 hi9 ⊢
           generalize w1.heap.size = X6 at hb9 hx6 ⊢)
      all_goals (
        have HNX := Lib.hid (Bk.take_val (v := v) (k := k) (by rw [hk]; rfl) huv)
        have hnu : Rd.nv u ≤ 1048576 := by rw [← huv]; exact HNV.out _
        have HB69 := Lib.hid hb9
        have HB39 := Lib.hid (HB3R.out.keep hf9)
        have HMN := Lib.hid (hM.out.keep hf9)
        have HFX : Hid (FrX X3 W4 W9) := Lib.hid (hX.out.fr hf9)
        have HK9 : Hid (W4.heap.size ≤ W9.heap.size) := Lib.hid (Nat.le_trans hX.out.size hf9.size)
        have HMX : Hid (sv.ownBlock ≠ some X6) := Lib.hid (fun e => by have := HLT.out _ e; omega)
        have HSB : Hid (∀ W : World, W.heap[X3]? = W9.heap[X3]? → W.heap[X6]? = W9.heap[X6]? → W.cell? ⟨X3, 4, none⟩ = some sv ∧ W.cell? ⟨X6, 0, none⟩ = some (.int .i64 u.kd) ∧ W.cell? ⟨X6, 1, none⟩ = some (.int .i64 u.nm) ∧ W.cell? ⟨X6, 2, none⟩ = some (.string ⟨u.tx.toArray⟩) ∧ W.cell? ⟨X6, 3, none⟩ = some (.slice C u.ls.length f) ∧ W.cell? ⟨X6, 4, none⟩ = some (.slice C' u.ms.length f')) := Lib.hid (fun W h1 h2 => by
          have a : Blk W X3 _ _ := h1.trans HB39.out
          have b : Blk W X6 _ _ := h2.trans HB69.out
          exact ⟨a.cell 4, b.cell 0, b.cell 1, b.cell 2, b.cell 3, b.cell 4⟩)
        have HSW : Hid (∀ W, Fr W9 W → W.cell? ⟨X3, 4, none⟩ = some sv ∧ W.cell? ⟨X6, 0, none⟩ = some (.int .i64 u.kd) ∧ W.cell? ⟨X6, 1, none⟩ = some (.int .i64 u.nm) ∧ W.cell? ⟨X6, 2, none⟩ = some (.string ⟨u.tx.toArray⟩) ∧ W.cell? ⟨X6, 3, none⟩ = some (.slice C u.ls.length f) ∧ W.cell? ⟨X6, 4, none⟩ = some (.slice C' u.ms.length f')) := Lib.hid (fun W hW => HSB.out W (Below.block hW _ HB39.out.lt) (Below.block hW _ HB69.out.lt))
        have HCP : Hid (∀ W, Fr W9 W → Calls Tryz.prog 32 #[.agg #[.int .i64 u.kd, .int .i64 u.nm, .string ⟨u.tx.toArray⟩, .slice C u.ls.length f, .slice C' u.ms.length f']] W fun e w' => (∃ (D : Option Addr) (d9 : Nat) (D' : Option Addr) (d9' : Nat), e = .returned (.agg #[.int .i64 u.kd, .int .i64 u.nm, .string ⟨u.tx.toArray⟩, .slice D u.ls.length d9, .slice D' u.ms.length d9']) ∧ InV w' (Be W.heap.size w'.heap.size) u (vA u D d9 D' d9')) ∧ Fr W w') := Lib.hid (fun W hW => copy_is u (vA u C f C' f') W ((hi9.keep (Nat.le_refl _) hW).lo hW.size) hnu)
        clear hb9 hf9 hi9 huv hnu hx6
        refine OrdL.begin (x := 9) (fun W => W.cell? ⟨X3, 4, none⟩ = some sv ∧ W.cell? ⟨X6, 0, none⟩ = some (.int .i64 u.kd) ∧ W.cell? ⟨X6, 1, none⟩ = some (.int .i64 u.nm) ∧ W.cell? ⟨X6, 2, none⟩ = some (.string ⟨u.tx.toArray⟩) ∧ W.cell? ⟨X6, 3, none⟩ = some (.slice C u.ls.length f) ∧ W.cell? ⟨X6, 4, none⟩ = some (.slice C' u.ms.length f')) (by kernel_rfl) ?_ (fun hH => ?_)
        · exact HSW.out _ (Fr.refl _).drew
        refine lq 0 [1,7] rfl hH ?_
        try simp only [Act.put, fl]
        refine lq 1 [7] rfl hH ?_
        try simp only [Act.put, fl]
        refine lq 2 [5,6,7] rfl hH ?_
        try simp only [Act.put, fl]
        refine lq 3 [4,5,6,7] rfl hH ?_
        try simp only [Act.put, fl]
        refine OrdL.one (i := 4) rfl (by kernel_rfl) (by rfl) (fun K hK => ?_)
        (go_simp; go_at_call 32; refine (HCP.out _ (Fr.refl W9).drew).mono ?_; rintro e w4 ⟨⟨D, d9, D', d9', rfl, hv4⟩, hf4⟩; have HV4 := Lib.hid hv4; have HF4 : Hid (Fr W9 w4) := Lib.hid ((Fr.refl W9).drew.trans hf4); clear hv4 hf4)
        refine hK.out _ _ (HSW.out _ HF4.out) (fun hH3 => ?_)
        clear hK K
        try simp only [Act.put, fl]
        refine lq 5 [6,7] rfl hH3 ?_
        try simp only [Act.put, fl]
        refine OrdL.one (i := 6) rfl (by kernel_rfl) (by rfl) (fun K hK => ?_)
        go_simp
        refine hK.out _ _ (HSW.out _ (HF4.out.alloc _)) (fun hH4 => ?_)
        clear hK K
        try simp only [Act.put, fl]
        obtain ⟨S9, hm4, hS9, hi4⟩ := HMN.out.with HF4.out HK9.out
        have hin4 := HV4.out.more (fun b hb => hi4 b hb)
        refine OrdL.one (i := 7) rfl (by kernel_rfl) (by rfl) (fun K hK => ?_)
        refine step_mT_lit rfl (.tmp 29) (.tmp 34) rfl S9 W4.heap.size sv ((Bk.wholeM v).take k) rfl hm4 _ u D d9 D' d9' rfl (by simp) hin4 1 1 rfl rfl rfl (by rw [HAL.out]; omega) ?_
        intro v9 w9 hs9 hg9 ho9
        have hl3 := HB39.out.lt
        have hw3 : w9.heap[X3]? = W9.heap[X3]? := (hg9.block X3 (Nat.lt_of_lt_of_le hl3 (HF4.out.alloc _).size) (fun e => by have := (HMN.out.own_lt e.symm).1; have := HK0.out; omega)).trans (Below.block (HF4.out.alloc _) X3 hl3)
        have hb39 : Blk w9 X3 _ _ := hw3.trans HB39.out
        have hl6 := HB69.out.lt
        have hw6 : w9.heap[X6]? = W9.heap[X6]? := (hg9.block X6 (Nat.lt_of_lt_of_le hl6 (HF4.out.alloc _).size) (fun e => HMX.out e.symm)).trans (Below.block (HF4.out.alloc _) X6 hl6)
        have hfx9 : FrX X3 W4 w9 := FrX.grown2 (HFX.out.fr (HF4.out.alloc _)) hg9 (fun k hk => (HMN.out.own_lt hk).1)
        obtain ⟨A9, n9, c9, rfl⟩ : ∃ A n c, v9 = .slice A n c := by obtain ⟨A, c, e⟩ := hs9.is_slice; exact ⟨A, _, c, e⟩
        refine hK.out _ _ (HSB.out _ hw3 hw6) (fun hH5 => ?_)
        clear hK K
        try simp only [Act.put, fl]
        obtain ⟨⟨y0, y1, y2, y3, y4⟩, yf0, yf1, yf2, yf3, yf4⟩ := box5 hb39
        refine lq 8 [] rfl hH5 ?_
        try simp only [Act.put, fl]
        refine OrdL.last rfl (by kernel_rfl) (by kernel_rfl) (fun K hK => ?_)
        go_simp
        refine hK.out _ _ ?_
        clear hK K
        try simp only [Act.put, fl]
        have hst := hs9.frx (fun b hb => by have := hS9 b hb; have := HK0.out; omega) HK0.out ((FrX.refl X3 w9).setCell (p := ⟨X3, 4, none⟩) rfl (.slice A9 n9 c9))
        rw [HNX.out] at hst
        go_wp2_with fail
        exact ⟨⟨k + 1, _, by omega, by subst hk; rfl, Lib.hid (hfx9.setCell rfl _), Lib.hid (hb39.set 4 _), Lib.hid ⟨S9, hst, hS9⟩⟩, by subst hk; decide⟩)
theorem bkwhole_yes (v : JV) (B : Option Addr) (d : Nat) (B' : Option Addr) (d' : Nat) (w : World) (Z : Nat) (hZ : Z ≤ w.heap.size) (h : InV w (Lo Z) v (vA v B d B' d')) (hn : Rd.nv v ≤ 1048576) (hw : Bk.wrong v = []) :
    Calls Tryz.prog 14 #[.agg #[.int .i64 v.kd, .int .i64 v.nm, .string ⟨v.tx.toArray⟩, .slice B v.ls.length d, .slice B' v.ms.length d']] w fun e w' => (∃ A c, e = .returned (.agg #[.int .i64 6, .int .i64 0, .string ⟨#[]⟩, .slice none 0 0, (.slice A 4 c)]) ∧ InV w' (Be w.heap.size w'.heap.size) (JV.mapV (Bk.wholeM v)) (.agg #[.int .i64 6, .int .i64 0, .string ⟨#[]⟩, .slice none 0 0, (.slice A 4 c)]) ∧ ∃ g cur, A = some ⟨g, 0, none⟩ ∧ w.heap.size ≤ g ∧ Blk w' g cur 37 ∧ 24 ≤ cur.size) ∧ Fr w w' :=
  bkwhole_yes2 v B d B' d' w Z hZ h (by have := Cp.nvM_len v.ms; have := Pt.nv_eq v; omega) (fun s => Bk.val_nv hn) hw
end Go.Proofs.YtgaiepficjiclaaGreatDoor
