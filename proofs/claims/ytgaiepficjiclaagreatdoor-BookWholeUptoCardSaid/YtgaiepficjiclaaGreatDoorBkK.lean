/- Chapter 15: the document's Whole. -/
import Derived.Test.YtgaiepficjiclaaGreatDoorBkf
import Derived.Test.YtgaiepficjiclaaGreatDoorBkD
import Derived.Deep.WholeRow
namespace Go.Proofs.YtgaiepficjiclaaGreatDoor
set_option maxRecDepth 100000
set_option maxHeartbeats 8000000
set_option linter.unusedVariables false
set_option linter.unusedSimpArgs false
open Go.RowKit

theorem wv2 {P : Program} {ops : Array Oper} {Q : Exit → Act → World → Prop} {rest : List Oper} {o : Oper} {a : Act} {w : World} (v : Value) (w' : World) (hw : Region.wanted o (yielded ops a.tmps) = true) (hy : (execOp a.eval o).run P w = .ok (.value v) w') (h : wpList P ops Q rest (a.put o.dst v) w') : wpList P ops Q (o :: rest) a w := by
 unfold wpList
 rw [if_pos hw]
 refine .inl ?_
 unfold Oper.wp
 rw [hy]
 exact h
theorem ws {P : Program} {ops : Array Oper} {Q : Exit → Act → World → Prop} {rest : List Oper} {o : Oper} {a : Act} {w : World} (w' : World) (hw : Region.wanted o (yielded ops a.tmps) = true) (hy : (execOp a.eval o).run P w = .ok .skip w') (h : wpList P ops Q rest (a.put o.dst undef) w') : wpList P ops Q (o :: rest) a w := by
 unfold wpList
 rw [if_pos hw]
 refine .inl ?_
 unfold Oper.wp
 rw [hy]
 exact h
theorem rwhole15_no (v : JV) (B : Option Addr) (d : Nat) (B' : Option Addr) (d' : Nat) (w : World) (Z : Nat) (hZ : Z ≤ w.heap.size) (h : InV w (Lo Z) v (vA v B d B' d')) (hn : Rd.nv v ≤ 1048576) (hw : Bk.wrong v ≠ []) :
  Calls Tryz.prog 15 #[.agg #[.int .i64 v.kd, .int .i64 v.nm, .string ⟨v.tx.toArray⟩, .slice B v.ls.length d, .slice B' v.ms.length d']] w fun e w' => e = .returned (.agg #[.int .i64 0, .int .i64 0, .string ⟨#[]⟩, .slice none 0 0, .slice none 0 0]) ∧ Fr w w' := by
 have hml := Cp.nvM_len v.ms
 have hnv := Pt.nv_eq v
 obtain ⟨n, hn1⟩ : ∃ n, (Bk.wrong v).length = n := ⟨_, rfl⟩
 have hpos : 0 < n := by rw [← hn1]; exact List.length_pos_iff.2 hw
 have hpos' : (0 : Int) < (n : Int) := by omega
 have HCK : Hid (∀ W, Fr w W → Calls Tryz.prog 12 #[.agg #[.int .i64 v.kd, .int .i64 v.nm, .string ⟨v.tx.toArray⟩, .slice B v.ls.length d, .slice B' v.ms.length d']] W fun e w' => (∃ A c, e = .returned (.slice A n c)) ∧ Fr W w') := Lib.hid (fun W hW => (rcheck15_is v B d B' d' W Z (Nat.le_trans hZ hW.size) (h.keep hZ hW) (by omega)).mono (by rintro e w' ⟨⟨A, c, rfl, _⟩, hf⟩; exact ⟨⟨A, c, by rw [hn1]⟩, hf⟩))
 clear h hn hw hml hnv hn1
 go_enter Tryz.func15, Tryz.ntmps15
 go_upto_region 1 with fail
 have hx0 : Blk ((w.alloc (.cells #[.int .i64 v.kd, .int .i64 v.nm, .string ⟨v.tx.toArray⟩, .slice B v.ls.length d, .slice B' v.ms.length d'] 25)).alloc (.cells #[.int .i64 0, .int .i64 0, .string ⟨#[]⟩, .slice none 0 0, .slice none 0 0] 25)) w.heap.size #[.int .i64 v.kd, .int .i64 v.nm, .string ⟨v.tx.toArray⟩, .slice B v.ls.length d, .slice B' v.ms.length d'] 25 := (Blk.made w _ _).keep ((Fr.refl _).alloc _)
 have hy0 : Blk ((w.alloc (.cells #[.int .i64 v.kd, .int .i64 v.nm, .string ⟨v.tx.toArray⟩, .slice B v.ls.length d, .slice B' v.ms.length d'] 25)).alloc (.cells #[.int .i64 0, .int .i64 0, .string ⟨#[]⟩, .slice none 0 0, .slice none 0 0] 25)) (w.heap.size + 1) #[.int .i64 0, .int .i64 0, .string ⟨#[]⟩, .slice none 0 0, .slice none 0 0] 25 := boxz (Blk.made (w.alloc _) _ _)
 have hf0 : Fr w ((w.alloc (.cells #[.int .i64 v.kd, .int .i64 v.nm, .string ⟨v.tx.toArray⟩, .slice B v.ls.length d, .slice B' v.ms.length d'] 25)).alloc (.cells #[.int .i64 0, .int .i64 0, .string ⟨#[]⟩, .slice none 0 0, .slice none 0 0] 25)) := ((Fr.refl w).alloc _).alloc _
 generalize ((w.alloc (.cells #[.int .i64 v.kd, .int .i64 v.nm, .string ⟨v.tx.toArray⟩, .slice B v.ls.length d, .slice B' v.ms.length d'] 25)).alloc (.cells #[.int .i64 0, .int .i64 0, .string ⟨#[]⟩, .slice none 0 0, .slice none 0 0] 25)) = W1 at hx0 hy0 hf0 ⊢
 have HX2 : Hid (w.heap.size ≤ w.heap.size + 1) := Lib.hid (by omega)
 generalize w.heap.size + 1 = X2 at hy0 HX2 ⊢
 obtain ⟨X1, hX1⟩ : ∃ X, w.heap.size = X := ⟨_, rfl⟩
 rw [hX1] at hx0 ⊢
 clear hX1
 obtain ⟨⟨y0, y1, y2, y3, y4⟩, _⟩ := box5 hx0
 have HY0 := Lib.hid hy0
 have HF0 := Lib.hid hf0
 clear hx0 hy0 hf0
 go_wp2_with (go_at_call 12; refine (HCK.out _ HF0.out).mono ?_; rintro e w2 ⟨⟨A, c, rfl⟩, hf⟩; have hy2 := HY0.out.keep hf; obtain ⟨⟨x0, x1, x2, x3, x4⟩, xf0, xf1, xf2, xf3, xf4⟩ := box5 hy2; have HY2 := Lib.hid hy2; have HF2 := Lib.hid (HF0.out.trans hf); clear hy2 hf)
 refine bodyPost_ret (results_cv (by rfl) rfl _ X2 (by rfl) _ _ _ _ _ (set5 HY2.out)) rfl ?_
 exact ⟨rfl, st5_fr HF2.out HX2.out _ _ _ _ _⟩
theorem rwhole15_yes (v : JV) (B : Option Addr) (d : Nat) (B' : Option Addr) (d' : Nat) (w : World) (Z : Nat) (hZ : Z ≤ w.heap.size) (h : InV w (Lo Z) v (vA v B d B' d')) (hn : Rd.nv v ≤ 1048576) (hw : Bk.wrong v = []) :
  Calls Tryz.prog 15 #[.agg #[.int .i64 v.kd, .int .i64 v.nm, .string ⟨v.tx.toArray⟩, .slice B v.ls.length d, .slice B' v.ms.length d']] w fun e w' => (∃ A c, e = .returned (.agg #[.int .i64 6, .int .i64 0, .string ⟨#[]⟩, .slice none 0 0, (.slice A 4 c)]) ∧ InV w' (Lo w'.heap.size) (JV.mapV (Bk.wholeM v)) (.agg #[.int .i64 6, .int .i64 0, .string ⟨#[]⟩, .slice none 0 0, (.slice A 4 c)])) ∧ Fr w w' := by
 have hml := Cp.nvM_len v.ms
 have hnv := Pt.nv_eq v
 have HV := Lib.hid h
 have HCK : Hid (∀ W, Fr w W → Calls Tryz.prog 12 #[.agg #[.int .i64 v.kd, .int .i64 v.nm, .string ⟨v.tx.toArray⟩, .slice B v.ls.length d, .slice B' v.ms.length d']] W fun e w' => (∃ A c, e = .returned (.slice A 0 c)) ∧ Fr W w') := Lib.hid (fun W hW => (rcheck15_is v B d B' d' W Z (Nat.le_trans hZ hW.size) (h.keep hZ hW) (by omega)).mono (by rintro e w' ⟨⟨A, c, rfl, _⟩, hf⟩; exact ⟨⟨A, c, by rw [hw]; rfl⟩, hf⟩))
 obtain ⟨xn, hxn⟩ := (Bk.wrong_nil.1 hw).2.2
 have HXN : Hid (∃ x, Pt.get v Bk.nName = some x) := Lib.hid ⟨xn, hxn⟩
 clear h hn hw hml hnv hxn
 go_enter Tryz.func15, Tryz.ntmps15
 go_upto_region 1 with fail
 have hx0 : Blk ((w.alloc (.cells #[.int .i64 v.kd, .int .i64 v.nm, .string ⟨v.tx.toArray⟩, .slice B v.ls.length d, .slice B' v.ms.length d'] 25)).alloc (.cells #[.int .i64 0, .int .i64 0, .string ⟨#[]⟩, .slice none 0 0, .slice none 0 0] 25)) w.heap.size #[.int .i64 v.kd, .int .i64 v.nm, .string ⟨v.tx.toArray⟩, .slice B v.ls.length d, .slice B' v.ms.length d'] 25 := (Blk.made w _ _).keep ((Fr.refl _).alloc _)
 have hy0 : Blk ((w.alloc (.cells #[.int .i64 v.kd, .int .i64 v.nm, .string ⟨v.tx.toArray⟩, .slice B v.ls.length d, .slice B' v.ms.length d'] 25)).alloc (.cells #[.int .i64 0, .int .i64 0, .string ⟨#[]⟩, .slice none 0 0, .slice none 0 0] 25)) (w.heap.size + 1) #[.int .i64 0, .int .i64 0, .string ⟨#[]⟩, .slice none 0 0, .slice none 0 0] 25 := boxz (Blk.made (w.alloc _) _ _)
 have hf0 : Fr w ((w.alloc (.cells #[.int .i64 v.kd, .int .i64 v.nm, .string ⟨v.tx.toArray⟩, .slice B v.ls.length d, .slice B' v.ms.length d'] 25)).alloc (.cells #[.int .i64 0, .int .i64 0, .string ⟨#[]⟩, .slice none 0 0, .slice none 0 0] 25)) := ((Fr.refl w).alloc _).alloc _
 generalize ((w.alloc (.cells #[.int .i64 v.kd, .int .i64 v.nm, .string ⟨v.tx.toArray⟩, .slice B v.ls.length d, .slice B' v.ms.length d'] 25)).alloc (.cells #[.int .i64 0, .int .i64 0, .string ⟨#[]⟩, .slice none 0 0, .slice none 0 0] 25)) = W1 at hx0 hy0 hf0 ⊢
 have HX12 : Hid (w.heap.size < w.heap.size + 1 ∧ w.heap.size + 1 < W1.heap.size) := Lib.hid ⟨by omega, hy0.lt⟩
 generalize w.heap.size + 1 = X2 at hy0 HX12 ⊢
 obtain ⟨X1, hX1⟩ : ∃ X, w.heap.size = X := ⟨_, rfl⟩
 have HX1 := Lib.hid hX1
 rw [hX1] at hx0 HX12 ⊢
 clear hX1
 obtain ⟨⟨y0, y1, y2, y3, y4⟩, _⟩ := box5 hx0
 have HX0 := Lib.hid hx0
 have HY0 := Lib.hid hy0
 have HF0 := Lib.hid hf0
 clear hx0 hy0 hf0
 go_upto_region 3 with (go_at_call 12; refine (HCK.out _ HF0.out).mono ?_; rintro e w2 ⟨⟨A, c, rfl⟩, hf⟩; have HF2 := Lib.hid hf; clear hf)
 clear y0 y1 y2 y3 y4
 go_upto_region 5 with fail
 have hb3 : Blk ((w2.alloc (.cells #[.int .i64 6, .int .i64 0, .string ⟨#[]⟩, .slice none 0 0, (.slice none 0 0)] 25)).alloc (.cells #[.string ⟨#[100, 101, 115, 99, 114, 105, 112, 116, 105, 111, 110]⟩, .string ⟨#[105, 115, 83, 117, 98, 115, 99, 114, 105, 98, 101, 100]⟩, .string ⟨#[110, 97, 109, 101]⟩, .string ⟨#[115, 111, 114, 116, 79, 114, 100, 101, 114]⟩] 54)) w2.heap.size #[.int .i64 6, .int .i64 0, .string ⟨#[]⟩, .slice none 0 0, (.slice none 0 0)] 25 := (Blk.made w2 _ _).keep ((Fr.refl _).alloc _)
 have hb4 : Blk ((w2.alloc (.cells #[.int .i64 6, .int .i64 0, .string ⟨#[]⟩, .slice none 0 0, (.slice none 0 0)] 25)).alloc (.cells #[.string ⟨#[100, 101, 115, 99, 114, 105, 112, 116, 105, 111, 110]⟩, .string ⟨#[105, 115, 83, 117, 98, 115, 99, 114, 105, 98, 101, 100]⟩, .string ⟨#[110, 97, 109, 101]⟩, .string ⟨#[115, 111, 114, 116, 79, 114, 100, 101, 114]⟩] 54)) (w2.heap.size + 1) #[.string ⟨#[100, 101, 115, 99, 114, 105, 112, 116, 105, 111, 110]⟩, .string ⟨#[105, 115, 83, 117, 98, 115, 99, 114, 105, 98, 101, 100]⟩, .string ⟨#[110, 97, 109, 101]⟩, .string ⟨#[115, 111, 114, 116, 79, 114, 100, 101, 114]⟩] 54 := boxz (Blk.made (w2.alloc _) _ _)
 have hf4 : Fr W1 ((w2.alloc (.cells #[.int .i64 6, .int .i64 0, .string ⟨#[]⟩, .slice none 0 0, (.slice none 0 0)] 25)).alloc (.cells #[.string ⟨#[100, 101, 115, 99, 114, 105, 112, 116, 105, 111, 110]⟩, .string ⟨#[105, 115, 83, 117, 98, 115, 99, 114, 105, 98, 101, 100]⟩, .string ⟨#[110, 97, 109, 101]⟩, .string ⟨#[115, 111, 114, 116, 79, 114, 100, 101, 114]⟩] 54)) := (HF2.out.alloc _).alloc _
 have HX3 : Hid (X2 < w2.heap.size ∧ w2.heap.size < w2.heap.size + 1) := Lib.hid ⟨Nat.lt_of_lt_of_le HX12.out.2 HF2.out.size, by omega⟩
 generalize ((w2.alloc (.cells #[.int .i64 6, .int .i64 0, .string ⟨#[]⟩, .slice none 0 0, (.slice none 0 0)] 25)).alloc (.cells #[.string ⟨#[100, 101, 115, 99, 114, 105, 112, 116, 105, 111, 110]⟩, .string ⟨#[105, 115, 83, 117, 98, 115, 99, 114, 105, 98, 101, 100]⟩, .string ⟨#[110, 97, 109, 101]⟩, .string ⟨#[115, 111, 114, 116, 79, 114, 100, 101, 114]⟩] 54)) = W4 at hb3 hb4 hf4 ⊢
 generalize w2.heap.size + 1 = X4 at hb4 HX3 ⊢
 generalize w2.heap.size = X3 at hb3 HX3 ⊢
 iterate 13 (first | go_skip | go_step)
 refine wv2 (.agg #[.int .i64 1, .int .i64 0, .string ⟨#[]⟩, .slice none 0 0, .slice none 0 0, .int .i64 2, .int .i64 1, .string ⟨#[]⟩, .slice none 0 0, .slice none 0 0, .int .i64 0, .int .i64 0, .string ⟨#[]⟩, .slice none 0 0, .slice none 0 0, .int .i64 3, .int .i64 0, .string ⟨#[]⟩, .slice none 0 0, .slice none 0 0]) W4 (by rfl) (by go_simp; try with_reducible rfl) ?_
 try simp only [Act.put, fl]
 refine wv2 (.pointer (some ⟨W4.heap.size, 0, none⟩)) (W4.alloc (.cells #[.int .i64 0, .int .i64 0, .string ⟨#[]⟩, .slice none 0 0, .slice none 0 0, .int .i64 0, .int .i64 0, .string ⟨#[]⟩, .slice none 0 0, .slice none 0 0, .int .i64 0, .int .i64 0, .string ⟨#[]⟩, .slice none 0 0, .slice none 0 0, .int .i64 0, .int .i64 0, .string ⟨#[]⟩, .slice none 0 0, .slice none 0 0] 56)) (by rfl) (by go_simp; try with_reducible rfl) ?_
 try simp only [Act.put, fl]
 refine ws (w' := W4.alloc (.cells #[.int .i64 1, .int .i64 0, .string ⟨#[]⟩, .slice none 0 0, .slice none 0 0, .int .i64 2, .int .i64 1, .string ⟨#[]⟩, .slice none 0 0, .slice none 0 0, .int .i64 0, .int .i64 0, .string ⟨#[]⟩, .slice none 0 0, .slice none 0 0, .int .i64 3, .int .i64 0, .string ⟨#[]⟩, .slice none 0 0, .slice none 0 0] 56)) (by rfl) ?_ ?_
 ·have h := run_storeAt_new (P := Tryz.prog) W4 56 #[.int .i64 0, .int .i64 0, .string ⟨#[]⟩, .slice none 0 0, .slice none 0 0, .int .i64 0, .int .i64 0, .string ⟨#[]⟩, .slice none 0 0, .slice none 0 0, .int .i64 0, .int .i64 0, .string ⟨#[]⟩, .slice none 0 0, .slice none 0 0, .int .i64 0, .int .i64 0, .string ⟨#[]⟩, .slice none 0 0, .slice none 0 0] #[.int .i64 1, .int .i64 0, .string ⟨#[]⟩, .slice none 0 0, .slice none 0 0, .int .i64 2, .int .i64 1, .string ⟨#[]⟩, .slice none 0 0, .slice none 0 0, .int .i64 0, .int .i64 0, .string ⟨#[]⟩, .slice none 0 0, .slice none 0 0, .int .i64 3, .int .i64 0, .string ⟨#[]⟩, .slice none 0 0, .slice none 0 0] (by kernel_rfl) rfl (by kernel_rfl)
  unfold execOp
  simp only [Sem.run_bind]
  exact congrArg (fun r => Result.andThen r (fun _ w' => (pure Next.skip : Sem Next).run Tryz.prog w')) h
 try simp only [Act.put, fl]
 have hb5 := Blk.made W4 #[.int .i64 1, .int .i64 0, .string ⟨#[]⟩, .slice none 0 0, .slice none 0 0, .int .i64 2, .int .i64 1, .string ⟨#[]⟩, .slice none 0 0, .slice none 0 0, .int .i64 0, .int .i64 0, .string ⟨#[]⟩, .slice none 0 0, .slice none 0 0, .int .i64 3, .int .i64 0, .string ⟨#[]⟩, .slice none 0 0, .slice none 0 0] 56
 have hf5 : Fr W4 (W4.alloc (.cells #[.int .i64 1, .int .i64 0, .string ⟨#[]⟩, .slice none 0 0, .slice none 0 0, .int .i64 2, .int .i64 1, .string ⟨#[]⟩, .slice none 0 0, .slice none 0 0, .int .i64 0, .int .i64 0, .string ⟨#[]⟩, .slice none 0 0, .slice none 0 0, .int .i64 3, .int .i64 0, .string ⟨#[]⟩, .slice none 0 0, .slice none 0 0] 56)) := (Fr.refl W4).alloc _
 have hX5 : X4 < W4.heap.size := hb4.lt
 generalize (W4.alloc (.cells #[.int .i64 1, .int .i64 0, .string ⟨#[]⟩, .slice none 0 0, .slice none 0 0, .int .i64 2, .int .i64 1, .string ⟨#[]⟩, .slice none 0 0, .slice none 0 0, .int .i64 0, .int .i64 0, .string ⟨#[]⟩, .slice none 0 0, .slice none 0 0, .int .i64 3, .int .i64 0, .string ⟨#[]⟩, .slice none 0 0, .slice none 0 0] 56)) = W5 at hb5 hf5 ⊢
 generalize W4.heap.size = X5 at hb5 hX5 ⊢
 have HB1 := Lib.hid (HX0.out.keep (hf4.trans hf5))
 have HB2 := Lib.hid (HY0.out.keep (hf4.trans hf5))
 have HB3 := Lib.hid (hb3.keep hf5)
 have HB4 := Lib.hid (hb4.keep hf5)
 have HB5 := Lib.hid hb5
 have HF5 := Lib.hid (HF0.out.trans (hf4.trans hf5))
 have HXX : Hid (w.heap.size = X1 ∧ X1 < X2 ∧ X2 < X3 ∧ X3 < X4 ∧ X4 < X5 ∧ X5 < W5.heap.size) := Lib.hid ⟨HX1.out, HX12.out.1, HX3.out.1, HX3.out.2, hX5, hb5.lt⟩
 clear hb3 hb4 hf4 hb5 hf5 hX5 HX0 HY0 HF0 HF2 HX12 HX3 HX1
 go_wp2_with fail
 go_loopw [6] (fun j wr => ∃ (i : Nat) (sv : Value), i ≤ 4 ∧ j = .int .i64 i ∧ Hid (FrX X3 W5 wr) ∧ Hid (Blk wr X3 #[.int .i64 6, .int .i64 0, .string ⟨#[]⟩, .slice none 0 0, sv] 25) ∧ Hid (MgT wr (Lo Z) W5.heap.size sv ((Bk.wholeM v).take i))) (fun j _ => 4 - (intOf j).toNat)
 case atStart => exact ⟨0, _, by omega, rfl, Lib.hid (FrX.refl X3 W5), HB3, Lib.hid (MgT.none_ _ ⟨fun b hb => by have : b < Z := hb; have := HXX.out; omega, Nat.le_refl _⟩)⟩
 case round =>
  obtain ⟨i, sv, hi, rfl, hX, hB, hM⟩ := hrel
  have hxx := HXX.out
  have hb1 := HB1.out.frx hX.out (by omega)
  have hb2 := HB2.out.frx hX.out (by omega)
  have hb4 := HB4.out.frx hX.out (by omega)
  have hb5 := HB5.out.frx hX.out (by omega)
  have hsz := hX.out.size
  have hfr : Fr w wr := Fr.thenY HF5.out (by omega) (by omega) hX.out
  by_cases hlt : i < 4
  ·have hlt' : (i : Int) < 4 := by omega
   obtain ⟨nm, hnm, hn63, h4c, h5c⟩ : ∃ nm, (Bk.wholeM v)[i]? = some (nm, Bk.val v nm) ∧ nm.length ≤ 1000 ∧ (#[.string ⟨#[100, 101, 115, 99, 114, 105, 112, 116, 105, 111, 110]⟩, .string ⟨#[105, 115, 83, 117, 98, 115, 99, 114, 105, 98, 101, 100]⟩, .string ⟨#[110, 97, 109, 101]⟩, .string ⟨#[115, 111, 114, 116, 79, 114, 100, 101, 114]⟩] : Array Value)[i]? = some (.string ⟨nm.toArray⟩) ∧ (Pt.get v nm = none → (#[.int .i64 1, .int .i64 0, .string ⟨#[]⟩, .slice none 0 0, .slice none 0 0, .int .i64 2, .int .i64 1, .string ⟨#[]⟩, .slice none 0 0, .slice none 0 0, .int .i64 0, .int .i64 0, .string ⟨#[]⟩, .slice none 0 0, .slice none 0 0, .int .i64 3, .int .i64 0, .string ⟨#[]⟩, .slice none 0 0, .slice none 0 0] : Array Value)[i * 5]? = some (.int .i64 (Bk.val v nm).kd) ∧ (#[.int .i64 1, .int .i64 0, .string ⟨#[]⟩, .slice none 0 0, .slice none 0 0, .int .i64 2, .int .i64 1, .string ⟨#[]⟩, .slice none 0 0, .slice none 0 0, .int .i64 0, .int .i64 0, .string ⟨#[]⟩, .slice none 0 0, .slice none 0 0, .int .i64 3, .int .i64 0, .string ⟨#[]⟩, .slice none 0 0, .slice none 0 0] : Array Value)[i * 5 + 1]? = some (.int .i64 (Bk.val v nm).nm) ∧ (#[.int .i64 1, .int .i64 0, .string ⟨#[]⟩, .slice none 0 0, .slice none 0 0, .int .i64 2, .int .i64 1, .string ⟨#[]⟩, .slice none 0 0, .slice none 0 0, .int .i64 0, .int .i64 0, .string ⟨#[]⟩, .slice none 0 0, .slice none 0 0, .int .i64 3, .int .i64 0, .string ⟨#[]⟩, .slice none 0 0, .slice none 0 0] : Array Value)[i * 5 + 2]? = some (.string ⟨(Bk.val v nm).tx.toArray⟩) ∧ (#[.int .i64 1, .int .i64 0, .string ⟨#[]⟩, .slice none 0 0, .slice none 0 0, .int .i64 2, .int .i64 1, .string ⟨#[]⟩, .slice none 0 0, .slice none 0 0, .int .i64 0, .int .i64 0, .string ⟨#[]⟩, .slice none 0 0, .slice none 0 0, .int .i64 3, .int .i64 0, .string ⟨#[]⟩, .slice none 0 0, .slice none 0 0] : Array Value)[i * 5 + 3]? = some (.slice none (Bk.val v nm).ls.length 0) ∧ (#[.int .i64 1, .int .i64 0, .string ⟨#[]⟩, .slice none 0 0, .slice none 0 0, .int .i64 2, .int .i64 1, .string ⟨#[]⟩, .slice none 0 0, .slice none 0 0, .int .i64 0, .int .i64 0, .string ⟨#[]⟩, .slice none 0 0, .slice none 0 0, .int .i64 3, .int .i64 0, .string ⟨#[]⟩, .slice none 0 0, .slice none 0 0] : Array Value)[i * 5 + 4]? = some (.slice none (Bk.val v nm).ms.length 0)) := by
    rcases (by omega : i = 0 ∨ i = 1 ∨ i = 2 ∨ i = 3) with rfl | rfl | rfl | rfl
    ·exact ⟨Bk.nDesc, rfl, by decide, rfl, fun h => by rw [Bk.val_none h.symm rfl]; exact ⟨rfl, rfl, rfl, rfl, rfl⟩⟩
    ·exact ⟨Bk.nSub, rfl, by decide, rfl, fun h => by rw [Bk.val_none h.symm rfl]; exact ⟨rfl, rfl, rfl, rfl, rfl⟩⟩
    ·exact ⟨Bk.nName, rfl, by decide, rfl, fun h => by obtain ⟨x, hx⟩ := HXN.out; rw [hx] at h; cases h⟩
    ·exact ⟨Bk.nSort, rfl, by decide, rfl, fun h => by rw [Bk.val_none h.symm rfl]; exact ⟨rfl, rfl, rfl, rfl, rfl⟩⟩
   obtain ⟨u, hu⟩ : ∃ u, Bk.val v nm = u := ⟨_, rfl⟩
   have hus : Pt.get v nm = none → InV wr (Lo Z) u (vA u none 0 none 0) := fun h => by rw [← hu, Bk.val_none h.symm rfl]; exact Bk.usual_in _ _ _
   have HNX := Lib.hid (Bk.take_val hnm hu)
   have HAL : Hid (((Bk.wholeM v).take i).length = i) := Lib.hid (by rw [List.length_take]; show min i 4 = i; omega)
   rw [hu] at h5c
   have HNL : Hid (nm.length ≤ 140737488355328) := Lib.hid (by omega)
   have HSW : Hid (∀ W, Fr wr W → W.cell? ⟨X1, 0, none⟩ = some (.int .i64 v.kd) ∧ W.cell? ⟨X1, 1, none⟩ = some (.int .i64 v.nm) ∧ W.cell? ⟨X1, 2, none⟩ = some (.string ⟨v.tx.toArray⟩) ∧ W.cell? ⟨X1, 3, none⟩ = some (.slice B v.ls.length d) ∧ W.cell? ⟨X1, 4, none⟩ = some (.slice B' v.ms.length d') ∧ W.cell? ⟨X4, i, none⟩ = some (.string ⟨nm.toArray⟩)) := Lib.hid (fun W hW => by
    have a := hb1.keep hW
    have b := hb4.keep hW
    exact ⟨a.cell 0, a.cell 1, a.cell 2, a.cell 3, a.cell 4, (b.cell i).trans h4c⟩)
   have HBR5 := Lib.hid hb5
   have HFR := Lib.hid hfr
   have HH5 := Lib.hid h5c
   have HUS := Lib.hid hus
   have HU := Lib.hid hu
   have HNM := Lib.hid hnm
   clear hb1 hb2 hb4 hb5 hfr h4c h5c hus hu hnm hn63
   go_upto_region 9 with fail
   obtain ⟨r, bb, hrb⟩ : ∃ (r : JV) (bb : Bool), (bb = true ∧ Pt.get v nm = some r ∧ r = u) ∨ (bb = false ∧ Pt.get v nm = none ∧ r = JV.zeroV) := by
    cases hg : Pt.get v nm with
    | none => exact ⟨_, _, .inr ⟨rfl, rfl, rfl⟩⟩
    | some y => exact ⟨y, _, .inl ⟨rfl, rfl, by rw [← HU.out, Bk.val_some hg.symm]⟩⟩
   have HGT : Hid (∀ W, Fr wr W → Calls Tryz.prog 33 #[.agg #[.int .i64 v.kd, .int .i64 v.nm, .string ⟨v.tx.toArray⟩, .slice B v.ls.length d, .slice B' v.ms.length d'], .string ⟨nm.toArray⟩] W fun e w' => ∃ (C : Option Addr) (f : Nat) (C' : Option Addr) (f' : Nat), e = .returned (.tuple #[.agg #[.int .i64 r.kd, .int .i64 r.nm, .string ⟨r.tx.toArray⟩, .slice C r.ls.length f, .slice C' r.ms.length f'], .bool bb]) ∧ InV w' (Lo Z) r (vA r C f C' f') ∧ Fr W w') := Lib.hid (fun W hW => by
    have h := get7_is v B d B' d' nm W Z (Nat.le_trans hZ (HFR.out.trans hW).size) (HV.out.keep hZ (HFR.out.trans hW))
    rcases hrb with ⟨rfl, hg, hr⟩ | ⟨rfl, hg, rfl⟩
    ·rw [hg] at h; exact h
    ·rw [hg] at h; exact h.mono (fun e w' k => ⟨none, 0, none, 0, k.1, zeroV_in _ _, k.2⟩))
   have HRB := Lib.hid hrb
   clear hrb
   go_cut [7, 8] from 26 to 37 (fun p q wx => ∃ (X7 : Nat) (C : Option Addr) (f : Nat) (C' : Option Addr) (f' : Nat), p = .pointer (some ⟨X7, 0, none⟩) ∧ q = .bool bb ∧ Hid (wr.heap.size ≤ X7) ∧ Hid (Blk wx X7 #[.int .i64 r.kd, .int .i64 r.nm, .string ⟨r.tx.toArray⟩, .slice C r.ls.length f, .slice C' r.ms.length f'] 25) ∧ Hid (InV wx (Lo Z) r (vA r C f C' f')) ∧ Hid (Fr wr wx))
   case first =>
    refine wp_region_held_drew (S := (fun W => W.cell? ⟨X1, 0, none⟩ = some (.int .i64 v.kd) ∧ W.cell? ⟨X1, 1, none⟩ = some (.int .i64 v.nm) ∧ W.cell? ⟨X1, 2, none⟩ = some (.string ⟨v.tx.toArray⟩) ∧ W.cell? ⟨X1, 3, none⟩ = some (.slice B v.ls.length d) ∧ W.cell? ⟨X1, 4, none⟩ = some (.slice B' v.ms.length d') ∧ W.cell? ⟨X4, i, none⟩ = some (.string ⟨nm.toArray⟩))) (by kernel_rfl) ?_ (fun hHeld => ?_)
    ·exact HSW.out _ (Fr.refl _).drew
    refine tk (i := 0) (v := ?_) rfl ⟨by rfl, ?_⟩ hHeld ?_
    rotate_left
    ·(intro w' hSw; (try dsimp only at hSw); go_simp; try with_reducible rfl)
    try simp only [Act.put, fl]
    refine tk (i := 1) (v := ?_) rfl ⟨by rfl, ?_⟩ hHeld ?_
    rotate_left
    ·(intro w' hSw; (try dsimp only at hSw); go_simp; try with_reducible rfl)
    try simp only [Act.put, fl]
    refine tk (i := 2) (v := ?_) rfl ⟨by rfl, ?_⟩ hHeld ?_
    rotate_left
    ·(intro w' hSw; (try dsimp only at hSw); go_simp; try with_reducible rfl)
    try simp only [Act.put, fl]
    refine tk (i := 3) (v := ?_) rfl ⟨by rfl, ?_⟩ hHeld ?_
    rotate_left
    ·(intro w' hSw; (try dsimp only at hSw); go_simp; try with_reducible rfl)
    try simp only [Act.put, fl]
    refine wpAnyH_ready (rs := [4, 8]) (by kernel_rfl) (by simp) ?_
    refine AllReadyH.cons rfl (fun K hK => ?_) (AllReadyH.cons rfl (fun K hK => ?_) AllReadyH.nil)
    ·go_simp
     (go_at_call 33; refine (HGT.out _ (Fr.refl wr).drew).mono ?_; rintro e w1 ⟨C, f, C', f', rfl, hi, hf⟩; have HI := Lib.hid hi; clear hi; have HF1 : Hid (Fr wr w1) := Lib.hid ((Fr.refl wr).drew.trans hf); clear hf)
     refine hK.out _ _ (HSW.out _ HF1.out) (fun hH2 => ?_)
     clear hK K
     try simp only [Act.put, fl]
     refine tk (i := 5) (v := ?_) rfl ⟨by rfl, ?_⟩ hH2 ?_
     rotate_left
     ·(intro w' hSw; (try dsimp only at hSw); go_simp; try with_reducible rfl)
     try simp only [Act.put, fl]
     refine tk (i := 6) (v := ?_) rfl ⟨by rfl, ?_⟩ hH2 ?_
     rotate_left
     ·(intro w' hSw; (try dsimp only at hSw); go_simp; try with_reducible rfl)
     try simp only [Act.put, fl]
     refine tk (i := 7) (v := ?_) rfl ⟨by rfl, ?_⟩ hH2 ?_
     rotate_left
     ·(intro w' hSw; (try dsimp only at hSw); go_simp; try with_reducible rfl)
     try simp only [Act.put, fl]
     refine wpAnyH_ready (rs := [8]) (by kernel_rfl) (by simp) ?_
     refine AllReadyH.cons rfl (fun K hK => ?_) AllReadyH.nil
     go_simp
     refine hK.out _ _ (HSW.out _ (HF1.out.alloc _)) (fun hH3 => ?_)
     clear hK K
     try simp only [Act.put, fl]
     have HB7 : Hid (Blk (w1.alloc (.cells #[.int .i64 0, .int .i64 0, .string ⟨#[]⟩, .slice none 0 0, .slice none 0 0] 25)) w1.heap.size #[.int .i64 0, .int .i64 0, .string ⟨#[]⟩, .slice none 0 0, .slice none 0 0] 25) := Lib.hid (Blk.made w1 _ _)
     have HF7 : Hid (Fr wr (w1.alloc (.cells #[.int .i64 0, .int .i64 0, .string ⟨#[]⟩, .slice none 0 0, .slice none 0 0] 25))) := Lib.hid (HF1.out.alloc _)
     have HX7 : Hid (wr.heap.size ≤ w1.heap.size) := Lib.hid HF1.out.size
     have HH7 : Hid (Fr w1 (w1.alloc (.cells #[.int .i64 0, .int .i64 0, .string ⟨#[]⟩, .slice none 0 0, .slice none 0 0] 25))) := Lib.hid ((Fr.refl w1).alloc _)
     generalize (w1.alloc (.cells #[.int .i64 0, .int .i64 0, .string ⟨#[]⟩, .slice none 0 0, .slice none 0 0] 25)) = W7 at HB7 HF7 HH7 ⊢
     generalize w1.heap.size = X7 at HB7 HX7 ⊢
     obtain ⟨⟨z0, z1, z2, z3, z4⟩, zf0, zf1, zf2, zf3, zf4⟩ := box5 HB7.out
     refine wpAnyH_ready (rs := [9]) (by kernel_rfl) (by simp) ?_
     refine AllReadyH.cons rfl (fun K hK => ?_) AllReadyH.nil
     go_simp
     refine hK.out _ _ (HSW.out _ (st5_fr HF7.out HX7.out _ _ _ _ _)) (fun hH5 => ?_)
     clear hK K
     try simp only [Act.put, fl]
     refine tk (i := 10) (v := ?_) rfl ⟨by rfl, ?_⟩ hH5 ?_
     rotate_left
     ·(intro w' hSw; (try dsimp only at hSw); go_simp; try with_reducible rfl)
     try simp only [Act.put, fl]
     refine wpAnyH_done (by kernel_rfl) ?_ _
     have hb9 : Blk (((((W7.setCell ⟨X7, 0, none⟩ (.int .i64 r.kd)).setCell ⟨X7, 1, none⟩ (.int .i64 r.nm)).setCell ⟨X7, 2, none⟩ (.string ⟨r.tx.toArray⟩)).setCell ⟨X7, 3, none⟩ (.slice C r.ls.length f)).setCell ⟨X7, 4, none⟩ (.slice C' r.ms.length f')) X7 #[.int .i64 r.kd, .int .i64 r.nm, .string ⟨r.tx.toArray⟩, .slice C r.ls.length f, .slice C' r.ms.length f'] 25 := set5 HB7.out
     have hf9 : Fr wr (((((W7.setCell ⟨X7, 0, none⟩ (.int .i64 r.kd)).setCell ⟨X7, 1, none⟩ (.int .i64 r.nm)).setCell ⟨X7, 2, none⟩ (.string ⟨r.tx.toArray⟩)).setCell ⟨X7, 3, none⟩ (.slice C r.ls.length f)).setCell ⟨X7, 4, none⟩ (.slice C' r.ms.length f')) := st5_fr HF7.out HX7.out _ _ _ _ _
     have HZ1 : Hid (w.heap.size ≤ w1.heap.size) := Lib.hid (HFR.out.trans HF1.out).size
     have hi9 : InV (((((W7.setCell ⟨X7, 0, none⟩ (.int .i64 r.kd)).setCell ⟨X7, 1, none⟩ (.int .i64 r.nm)).setCell ⟨X7, 2, none⟩ (.string ⟨r.tx.toArray⟩)).setCell ⟨X7, 3, none⟩ (.slice C r.ls.length f)).setCell ⟨X7, 4, none⟩ (.slice C' r.ms.length f')) (Lo Z) r (vA r C f C' f') := (HI.out.keep (Nat.le_trans hZ HZ1.out) HH7.out).map (fun b hb => hb) (fun b o hb => (st5_frx W7 X7 _ _ _ _ _).cell (by have : b < Z := hb; have := HFR.out.size; have := HF7.out.size; omega) (by have : b < Z := hb; have := HFR.out.size; have := HX7.out; omega))
     clear z0 z1 z2 z3 z4 zf0 zf1 zf2 zf3 zf4
     generalize (((((W7.setCell ⟨X7, 0, none⟩ (.int .i64 r.kd)).setCell ⟨X7, 1, none⟩ (.int .i64 r.nm)).setCell ⟨X7, 2, none⟩ (.string ⟨r.tx.toArray⟩)).setCell ⟨X7, 3, none⟩ (.slice C r.ls.length f)).setCell ⟨X7, 4, none⟩ (.slice C' r.ms.length f')) = W9 at hb9 hf9 hi9 ⊢
     have HB9 := Lib.hid hb9
     have HF9 := Lib.hid hf9
     have HI9 := Lib.hid hi9
     clear hb9 hf9 hi9
     repeat (first | go_skip | go_step)
     go_meet
     exact ⟨X7, C, f, C', f', rfl, rfl, HX7, HB9, HI9, HF9⟩
    ·go_simp
     refine hK.out _ _ (HSW.out _ ((Fr.refl wr).drew.alloc _)) (fun hH2 => ?_)
     clear hK K
     try simp only [Act.put, fl]
     refine wpAnyH_ready (rs := [4]) (by kernel_rfl) (by simp) ?_
     refine AllReadyH.cons rfl (fun K hK => ?_) AllReadyH.nil
     go_simp
     (go_at_call 33; refine (HGT.out _ ((Fr.refl wr).drew.alloc _)).mono ?_; rintro e w1 ⟨C, f, C', f', rfl, hi, hf⟩; have HI := Lib.hid hi; clear hi; have HF7 : Hid (Fr wr w1) := Lib.hid (((Fr.refl wr).drew.alloc _).trans hf); have HB7 : Hid (Blk w1 wr.heap.size #[.int .i64 0, .int .i64 0, .string ⟨#[]⟩, .slice none 0 0, .slice none 0 0] 25) := Lib.hid ((Blk.made wr.drew _ _).keep hf); have HX7 : Hid (wr.heap.size ≤ wr.heap.size) := Lib.hid (Nat.le_refl _); have HH7 : Hid (Fr w1 w1) := Lib.hid (Fr.refl w1); clear hf)
     refine hK.out _ _ (HSW.out _ HF7.out) (fun hH3 => ?_)
     clear hK K
     try simp only [Act.put, fl]
     refine tk (i := 5) (v := ?_) rfl ⟨by rfl, ?_⟩ hH3 ?_
     rotate_left
     ·(intro w' hSw; (try dsimp only at hSw); go_simp; try with_reducible rfl)
     try simp only [Act.put, fl]
     refine tk (i := 6) (v := ?_) rfl ⟨by rfl, ?_⟩ hH3 ?_
     rotate_left
     ·(intro w' hSw; (try dsimp only at hSw); go_simp; try with_reducible rfl)
     try simp only [Act.put, fl]
     refine tk (i := 7) (v := ?_) rfl ⟨by rfl, ?_⟩ hH3 ?_
     rotate_left
     ·(intro w' hSw; (try dsimp only at hSw); go_simp; try with_reducible rfl)
     try simp only [Act.put, fl]
     obtain ⟨⟨z0, z1, z2, z3, z4⟩, zf0, zf1, zf2, zf3, zf4⟩ := box5 HB7.out
     refine wpAnyH_ready (rs := [9]) (by kernel_rfl) (by simp) ?_
     refine AllReadyH.cons rfl (fun K hK => ?_) AllReadyH.nil
     go_simp
     refine hK.out _ _ (HSW.out _ (st5_fr HF7.out HX7.out _ _ _ _ _)) (fun hH5 => ?_)
     clear hK K
     try simp only [Act.put, fl]
     refine tk (i := 10) (v := ?_) rfl ⟨by rfl, ?_⟩ hH5 ?_
     rotate_left
     ·(intro w' hSw; (try dsimp only at hSw); go_simp; try with_reducible rfl)
     try simp only [Act.put, fl]
     refine wpAnyH_done (by kernel_rfl) ?_ _
     have hb9 : Blk (((((w1.setCell ⟨wr.heap.size, 0, none⟩ (.int .i64 r.kd)).setCell ⟨wr.heap.size, 1, none⟩ (.int .i64 r.nm)).setCell ⟨wr.heap.size, 2, none⟩ (.string ⟨r.tx.toArray⟩)).setCell ⟨wr.heap.size, 3, none⟩ (.slice C r.ls.length f)).setCell ⟨wr.heap.size, 4, none⟩ (.slice C' r.ms.length f')) wr.heap.size #[.int .i64 r.kd, .int .i64 r.nm, .string ⟨r.tx.toArray⟩, .slice C r.ls.length f, .slice C' r.ms.length f'] 25 := set5 HB7.out
     have hf9 : Fr wr (((((w1.setCell ⟨wr.heap.size, 0, none⟩ (.int .i64 r.kd)).setCell ⟨wr.heap.size, 1, none⟩ (.int .i64 r.nm)).setCell ⟨wr.heap.size, 2, none⟩ (.string ⟨r.tx.toArray⟩)).setCell ⟨wr.heap.size, 3, none⟩ (.slice C r.ls.length f)).setCell ⟨wr.heap.size, 4, none⟩ (.slice C' r.ms.length f')) := st5_fr HF7.out HX7.out _ _ _ _ _
     have HZ1 : Hid (w.heap.size ≤ w1.heap.size) := Lib.hid (HFR.out.trans HF7.out).size
     have hi9 : InV (((((w1.setCell ⟨wr.heap.size, 0, none⟩ (.int .i64 r.kd)).setCell ⟨wr.heap.size, 1, none⟩ (.int .i64 r.nm)).setCell ⟨wr.heap.size, 2, none⟩ (.string ⟨r.tx.toArray⟩)).setCell ⟨wr.heap.size, 3, none⟩ (.slice C r.ls.length f)).setCell ⟨wr.heap.size, 4, none⟩ (.slice C' r.ms.length f')) (Lo Z) r (vA r C f C' f') := (HI.out.keep (Nat.le_trans hZ HZ1.out) HH7.out).map (fun b hb => hb) (fun b o hb => (st5_frx w1 wr.heap.size _ _ _ _ _).cell (by have : b < Z := hb; have := HFR.out.size; have := HF7.out.size; omega) (by have : b < Z := hb; have := HFR.out.size; have := HX7.out; omega))
     clear z0 z1 z2 z3 z4 zf0 zf1 zf2 zf3 zf4
     generalize (((((w1.setCell ⟨wr.heap.size, 0, none⟩ (.int .i64 r.kd)).setCell ⟨wr.heap.size, 1, none⟩ (.int .i64 r.nm)).setCell ⟨wr.heap.size, 2, none⟩ (.string ⟨r.tx.toArray⟩)).setCell ⟨wr.heap.size, 3, none⟩ (.slice C r.ls.length f)).setCell ⟨wr.heap.size, 4, none⟩ (.slice C' r.ms.length f')) = W9 at hb9 hf9 hi9 ⊢
     have HB9 := Lib.hid hb9
     have HF9 := Lib.hid hf9
     have HI9 := Lib.hid hi9
     clear hb9 hf9 hi9
     repeat (first | go_skip | go_step)
     go_meet
     exact ⟨wr.heap.size, C, f, C', f', rfl, rfl, HX7, HB9, HI9, HF9⟩
   obtain ⟨X7, C, f, C', f', rfl, rfl, hX7, hB7, hI7, hF7⟩ := hcut
   obtain ⟨W7, hW7⟩ : ∃ W, W = wc := ⟨wc, rfl⟩
   subst hW7
   cases bb
   ·have hg : Pt.get v nm = none := by rcases HRB.out with ⟨h, _⟩ | ⟨_, h, _⟩; cases h; exact h
    have H5 := Lib.hid (HH5.out hg)
    have HUI := Lib.hid (HUS.out hg)
    have k5 := HBR5.out.keep hF7.out
    have e0 := (k5.cell (i * 5)).trans H5.out.1
    have e1 := (k5.cell (i * 5 + 1)).trans H5.out.2.1
    have e2 := (k5.cell (i * 5 + 2)).trans H5.out.2.2.1
    have e3 := (k5.cell (i * 5 + 3)).trans H5.out.2.2.2.1
    have e4 := (k5.cell (i * 5 + 4)).trans H5.out.2.2.2.2
    obtain ⟨⟨z0, z1, z2, z3, z4⟩, zf0, zf1, zf2, zf3, zf4⟩ := box5 hB7.out
    clear k5 hg
    go_upto_region 12 with fail
    have hf9 : Fr wr (((((W7.setCell ⟨X7, 0, none⟩ (.int .i64 u.kd)).setCell ⟨X7, 1, none⟩ (.int .i64 u.nm)).setCell ⟨X7, 2, none⟩ (.string ⟨u.tx.toArray⟩)).setCell ⟨X7, 3, none⟩ (.slice none u.ls.length 0)).setCell ⟨X7, 4, none⟩ (.slice none u.ms.length 0)) := st5_fr hF7.out hX7.out _ _ _ _ _
    have hb9 : Blk (((((W7.setCell ⟨X7, 0, none⟩ (.int .i64 u.kd)).setCell ⟨X7, 1, none⟩ (.int .i64 u.nm)).setCell ⟨X7, 2, none⟩ (.string ⟨u.tx.toArray⟩)).setCell ⟨X7, 3, none⟩ (.slice none u.ls.length 0)).setCell ⟨X7, 4, none⟩ (.slice none u.ms.length 0)) X7 #[.int .i64 u.kd, .int .i64 u.nm, .string ⟨u.tx.toArray⟩, .slice none u.ls.length 0, .slice none u.ms.length 0] 25 := set5 hB7.out
    have hi9 : InV (((((W7.setCell ⟨X7, 0, none⟩ (.int .i64 u.kd)).setCell ⟨X7, 1, none⟩ (.int .i64 u.nm)).setCell ⟨X7, 2, none⟩ (.string ⟨u.tx.toArray⟩)).setCell ⟨X7, 3, none⟩ (.slice none u.ls.length 0)).setCell ⟨X7, 4, none⟩ (.slice none u.ms.length 0)) (Lo Z) u (vA u none 0 none 0) := HUI.out.keep (Nat.le_trans hZ HFR.out.size) hf9
    obtain ⟨D, g, D', g', hD⟩ : ∃ (D : Option Addr) (g : Nat) (D' : Option Addr) (g' : Nat), D = none ∧ g = 0 ∧ D' = none ∧ g' = 0 := ⟨_, _, _, _, rfl, rfl, rfl, rfl⟩
    obtain ⟨hD1, hD2, hD3, hD4⟩ := hD
    clear e0 e1 e2 e3 e4 z0 z1 z2 z3 z4 zf0 zf1 zf2 zf3 zf4 hF7 hB7 hI7 HGT H5 HUI
    generalize (((((W7.setCell ⟨X7, 0, none⟩ (.int .i64 u.kd)).setCell ⟨X7, 1, none⟩ (.int .i64 u.nm)).setCell ⟨X7, 2, none⟩ (.string ⟨u.tx.toArray⟩)).setCell ⟨X7, 3, none⟩ (.slice none u.ls.length 0)).setCell ⟨X7, 4, none⟩ (.slice none u.ms.length 0)) = W9 at hf9 hb9 hi9 ⊢
    have HB69 := Lib.hid hb9
    have HB39 := Lib.hid (hB.out.keep hf9)
    have HM9 := Lib.hid (hM.out.keep hf9)
    have HFX : Hid (FrX X3 W5 W9) := Lib.hid (hX.out.fr hf9)
    have HMX : Hid (sv.ownBlock ≠ some X7) := Lib.hid (fun e => by have := (hM.out.own_lt e).2; have := hX7.out; omega)
    have HI9 := Lib.hid hi9
    have hb4r := (HB4.out.frx hX.out (by have := HXX.out; omega)).keep hf9
    have HB49 := Lib.hid hb4r
    have h4n : W9.cell? ⟨X4, i, none⟩ = some (.string ⟨nm.toArray⟩) := (HSW.out _ hf9).2.2.2.2.2
    have HSB : Hid (∀ W : World, W.heap[X3]? = W9.heap[X3]? → W.heap[X7]? = W9.heap[X7]? → W.heap[X4]? = W9.heap[X4]? → W.cell? ⟨X3, 4, none⟩ = some sv ∧ W.cell? ⟨X7, 0, none⟩ = some (.int .i64 u.kd) ∧ W.cell? ⟨X7, 1, none⟩ = some (.int .i64 u.nm) ∧ W.cell? ⟨X7, 2, none⟩ = some (.string ⟨u.tx.toArray⟩) ∧ W.cell? ⟨X7, 3, none⟩ = some (.slice none u.ls.length 0) ∧ W.cell? ⟨X7, 4, none⟩ = some (.slice none u.ms.length 0) ∧ W.cell? ⟨X4, i, none⟩ = some (.string ⟨nm.toArray⟩)) := Lib.hid (fun W h1 h2 h3 => by
     have a : Blk W X3 _ _ := h1.trans HB39.out
     have b : Blk W X7 _ _ := h2.trans HB69.out
     have c : W.cell? ⟨X4, i, none⟩ = W9.cell? ⟨X4, i, none⟩ := by unfold World.cell?; rw [h3]
     exact ⟨a.cell 4, b.cell 0, b.cell 1, b.cell 2, b.cell 3, b.cell 4, c.trans h4n⟩)
    have HSW2 : Hid (∀ W, Fr W9 W → W.cell? ⟨X3, 4, none⟩ = some sv ∧ W.cell? ⟨X7, 0, none⟩ = some (.int .i64 u.kd) ∧ W.cell? ⟨X7, 1, none⟩ = some (.int .i64 u.nm) ∧ W.cell? ⟨X7, 2, none⟩ = some (.string ⟨u.tx.toArray⟩) ∧ W.cell? ⟨X7, 3, none⟩ = some (.slice none u.ls.length 0) ∧ W.cell? ⟨X7, 4, none⟩ = some (.slice none u.ms.length 0) ∧ W.cell? ⟨X4, i, none⟩ = some (.string ⟨nm.toArray⟩)) := Lib.hid (fun W hW => HSB.out W (Below.block hW _ HB39.out.lt) (Below.block hW _ HB69.out.lt) (Below.block hW _ HB49.out.lt))
    clear hb9 hf9 hi9 hb4r h4n
    refine OrdL.begin (x := 10) (fun W => W.cell? ⟨X3, 4, none⟩ = some sv ∧ W.cell? ⟨X7, 0, none⟩ = some (.int .i64 u.kd) ∧ W.cell? ⟨X7, 1, none⟩ = some (.int .i64 u.nm) ∧ W.cell? ⟨X7, 2, none⟩ = some (.string ⟨u.tx.toArray⟩) ∧ W.cell? ⟨X7, 3, none⟩ = some (.slice none u.ls.length 0) ∧ W.cell? ⟨X7, 4, none⟩ = some (.slice none u.ms.length 0) ∧ W.cell? ⟨X4, i, none⟩ = some (.string ⟨nm.toArray⟩)) (by kernel_rfl) ?_ (fun hH => ?_)
    ·exact HSW2.out _ (Fr.refl _).drew
    refine lq 0 [1,8] rfl hH ?_
    try simp only [Act.put, fl]
    refine lq 1 [8] rfl hH ?_
    try simp only [Act.put, fl]
    refine lq 2 [3,4,6,7,8] rfl hH ?_
    try simp only [Act.put, fl]
    refine lq 3 [4,6,7,8] rfl hH ?_
    try simp only [Act.put, fl]
    refine lq 4 [6,7,8] rfl hH ?_
    try simp only [Act.put, fl]
    refine lq 5 [6,7,8] rfl hH ?_
    try simp only [Act.put, fl]
    refine lq 6 [7,8] rfl hH ?_
    try simp only [Act.put, fl]
    refine OrdL.one (i := 7) rfl (by kernel_rfl) (by rfl) (fun K hK => ?_)
    go_simp
    refine hK.out _ _ (HSW2.out _ ((Fr.refl _).drew.alloc _)) (fun hH4 => ?_)
    clear hK K
    try simp only [Act.put, fl]
    have hm4 := HM9.out.keep (Fr.refl W9).drew
    have hin4 := HI9.out.map (w' := W9.drew) (fun _ h => h) (fun b o _ => rfl)
    refine OrdL.one (i := 8) rfl (by kernel_rfl) (by rfl) (fun K hK => ?_)
    refine step_mT_lit rfl (.tmp 39) (.tmp 45) rfl (Lo Z) W5.heap.size sv ((Bk.wholeM v).take i) rfl hm4 nm u none 0 none 0 rfl HNL.out hin4 1 1 rfl rfl rfl (by rw [HAL.out]; omega) ?_
    intro v9 w9 hs9 hg9 ho9
    have hl3 := HB39.out.lt
    have hw3 : w9.heap[X3]? = W9.heap[X3]? := (hg9.block X3 (Nat.lt_of_lt_of_le hl3 ((Fr.refl W9).drew.alloc _).size) (fun e => by have := (HM9.out.own_lt e.symm).1; have := HXX.out; omega)).trans (Below.block ((Fr.refl W9).drew.alloc _) X3 hl3)
    have hb39 : Blk w9 X3 _ _ := hw3.trans HB39.out
    have hl6 := HB69.out.lt
    have hw6 : w9.heap[X7]? = W9.heap[X7]? := (hg9.block X7 (Nat.lt_of_lt_of_le hl6 ((Fr.refl W9).drew.alloc _).size) (fun e => HMX.out e.symm)).trans (Below.block ((Fr.refl W9).drew.alloc _) X7 hl6)
    have hl4 := HB49.out.lt
    have hw4 : w9.heap[X4]? = W9.heap[X4]? := (hg9.block X4 (Nat.lt_of_lt_of_le hl4 ((Fr.refl W9).drew.alloc _).size) (fun e => by have := (HM9.out.own_lt e.symm).1; have := HXX.out; omega)).trans (Below.block ((Fr.refl W9).drew.alloc _) X4 hl4)
    have hfx9 : FrX X3 W5 w9 := FrX.grown2 (HFX.out.fr ((Fr.refl W9).drew.alloc _)) hg9 (fun k hk => (HM9.out.own_lt hk).1)
    obtain ⟨A9, n9, c9, rfl⟩ : ∃ A n c, v9 = .slice A n c := by obtain ⟨A, c, e⟩ := hs9.is_slice; exact ⟨A, _, c, e⟩
    refine hK.out _ _ (HSB.out _ hw3 hw6 hw4) (fun hH5 => ?_)
    clear hK K
    try simp only [Act.put, fl]
    obtain ⟨⟨y0, y1, y2, y3, y4⟩, yf0, yf1, yf2, yf3, yf4⟩ := box5 hb39
    refine lq 9 [] rfl hH5 ?_
    try simp only [Act.put, fl]
    refine OrdL.last rfl (by kernel_rfl) (by kernel_rfl) (fun K hK => ?_)
    go_simp
    refine hK.out _ _ ?_
    clear hK K
    try simp only [Act.put, fl]
    have hst := hs9.frx (fun b hb => by have : b < Z := hb; have := HXX.out; omega) (by have := HXX.out; omega) ((FrX.refl X3 w9).setCell (p := ⟨X3, 4, none⟩) rfl (.slice A9 n9 c9))
    rw [HNX.out] at hst
    go_wp2_with fail
    exact ⟨⟨i + 1, _, by omega, by go_num, Lib.hid (hfx9.setCell rfl _), Lib.hid (hb39.set 4 _), Lib.hid hst⟩, by simp [intOf]; omega⟩
   ·have hru : r = u := by rcases HRB.out with ⟨_, _, h⟩ | ⟨h, _⟩; exact h; cases h
    subst hru
    have hb9 := hB7.out
    have hi9 := hI7.out
    have hf9 := hF7.out
    clear hB7 hI7 hF7 HGT
    go_upto_region 12 with fail
    generalize W7 = W9 at hf9 hb9 hi9 ⊢
    have HB69 := Lib.hid hb9
    have HB39 := Lib.hid (hB.out.keep hf9)
    have HM9 := Lib.hid (hM.out.keep hf9)
    have HFX : Hid (FrX X3 W5 W9) := Lib.hid (hX.out.fr hf9)
    have HMX : Hid (sv.ownBlock ≠ some X7) := Lib.hid (fun e => by have := (hM.out.own_lt e).2; have := hX7.out; omega)
    have HI9 := Lib.hid hi9
    have hb4r := (HB4.out.frx hX.out (by have := HXX.out; omega)).keep hf9
    have HB49 := Lib.hid hb4r
    have h4n : W9.cell? ⟨X4, i, none⟩ = some (.string ⟨nm.toArray⟩) := (HSW.out _ hf9).2.2.2.2.2
    have HSB : Hid (∀ W : World, W.heap[X3]? = W9.heap[X3]? → W.heap[X7]? = W9.heap[X7]? → W.heap[X4]? = W9.heap[X4]? → W.cell? ⟨X3, 4, none⟩ = some sv ∧ W.cell? ⟨X7, 0, none⟩ = some (.int .i64 r.kd) ∧ W.cell? ⟨X7, 1, none⟩ = some (.int .i64 r.nm) ∧ W.cell? ⟨X7, 2, none⟩ = some (.string ⟨r.tx.toArray⟩) ∧ W.cell? ⟨X7, 3, none⟩ = some (.slice C r.ls.length f) ∧ W.cell? ⟨X7, 4, none⟩ = some (.slice C' r.ms.length f') ∧ W.cell? ⟨X4, i, none⟩ = some (.string ⟨nm.toArray⟩)) := Lib.hid (fun W h1 h2 h3 => by
     have a : Blk W X3 _ _ := h1.trans HB39.out
     have b : Blk W X7 _ _ := h2.trans HB69.out
     have c : W.cell? ⟨X4, i, none⟩ = W9.cell? ⟨X4, i, none⟩ := by unfold World.cell?; rw [h3]
     exact ⟨a.cell 4, b.cell 0, b.cell 1, b.cell 2, b.cell 3, b.cell 4, c.trans h4n⟩)
    have HSW2 : Hid (∀ W, Fr W9 W → W.cell? ⟨X3, 4, none⟩ = some sv ∧ W.cell? ⟨X7, 0, none⟩ = some (.int .i64 r.kd) ∧ W.cell? ⟨X7, 1, none⟩ = some (.int .i64 r.nm) ∧ W.cell? ⟨X7, 2, none⟩ = some (.string ⟨r.tx.toArray⟩) ∧ W.cell? ⟨X7, 3, none⟩ = some (.slice C r.ls.length f) ∧ W.cell? ⟨X7, 4, none⟩ = some (.slice C' r.ms.length f') ∧ W.cell? ⟨X4, i, none⟩ = some (.string ⟨nm.toArray⟩)) := Lib.hid (fun W hW => HSB.out W (Below.block hW _ HB39.out.lt) (Below.block hW _ HB69.out.lt) (Below.block hW _ HB49.out.lt))
    clear hb9 hf9 hi9 hb4r h4n
    refine OrdL.begin (x := 10) (fun W => W.cell? ⟨X3, 4, none⟩ = some sv ∧ W.cell? ⟨X7, 0, none⟩ = some (.int .i64 r.kd) ∧ W.cell? ⟨X7, 1, none⟩ = some (.int .i64 r.nm) ∧ W.cell? ⟨X7, 2, none⟩ = some (.string ⟨r.tx.toArray⟩) ∧ W.cell? ⟨X7, 3, none⟩ = some (.slice C r.ls.length f) ∧ W.cell? ⟨X7, 4, none⟩ = some (.slice C' r.ms.length f') ∧ W.cell? ⟨X4, i, none⟩ = some (.string ⟨nm.toArray⟩)) (by kernel_rfl) ?_ (fun hH => ?_)
    ·exact HSW2.out _ (Fr.refl _).drew
    refine lq 0 [1,8] rfl hH ?_
    try simp only [Act.put, fl]
    refine lq 1 [8] rfl hH ?_
    try simp only [Act.put, fl]
    refine lq 2 [3,4,6,7,8] rfl hH ?_
    try simp only [Act.put, fl]
    refine lq 3 [4,6,7,8] rfl hH ?_
    try simp only [Act.put, fl]
    refine lq 4 [6,7,8] rfl hH ?_
    try simp only [Act.put, fl]
    refine lq 5 [6,7,8] rfl hH ?_
    try simp only [Act.put, fl]
    refine lq 6 [7,8] rfl hH ?_
    try simp only [Act.put, fl]
    refine OrdL.one (i := 7) rfl (by kernel_rfl) (by rfl) (fun K hK => ?_)
    go_simp
    refine hK.out _ _ (HSW2.out _ ((Fr.refl _).drew.alloc _)) (fun hH4 => ?_)
    clear hK K
    try simp only [Act.put, fl]
    have hm4 := HM9.out.keep (Fr.refl W9).drew
    have hin4 := HI9.out.map (w' := W9.drew) (fun _ h => h) (fun b o _ => rfl)
    refine OrdL.one (i := 8) rfl (by kernel_rfl) (by rfl) (fun K hK => ?_)
    refine step_mT_lit rfl (.tmp 39) (.tmp 45) rfl (Lo Z) W5.heap.size sv ((Bk.wholeM v).take i) rfl hm4 nm r C f C' f' rfl HNL.out hin4 1 1 rfl rfl rfl (by rw [HAL.out]; omega) ?_
    intro v9 w9 hs9 hg9 ho9
    have hl3 := HB39.out.lt
    have hw3 : w9.heap[X3]? = W9.heap[X3]? := (hg9.block X3 (Nat.lt_of_lt_of_le hl3 ((Fr.refl W9).drew.alloc _).size) (fun e => by have := (HM9.out.own_lt e.symm).1; have := HXX.out; omega)).trans (Below.block ((Fr.refl W9).drew.alloc _) X3 hl3)
    have hb39 : Blk w9 X3 _ _ := hw3.trans HB39.out
    have hl6 := HB69.out.lt
    have hw6 : w9.heap[X7]? = W9.heap[X7]? := (hg9.block X7 (Nat.lt_of_lt_of_le hl6 ((Fr.refl W9).drew.alloc _).size) (fun e => HMX.out e.symm)).trans (Below.block ((Fr.refl W9).drew.alloc _) X7 hl6)
    have hl4 := HB49.out.lt
    have hw4 : w9.heap[X4]? = W9.heap[X4]? := (hg9.block X4 (Nat.lt_of_lt_of_le hl4 ((Fr.refl W9).drew.alloc _).size) (fun e => by have := (HM9.out.own_lt e.symm).1; have := HXX.out; omega)).trans (Below.block ((Fr.refl W9).drew.alloc _) X4 hl4)
    have hfx9 : FrX X3 W5 w9 := FrX.grown2 (HFX.out.fr ((Fr.refl W9).drew.alloc _)) hg9 (fun k hk => (HM9.out.own_lt hk).1)
    obtain ⟨A9, n9, c9, rfl⟩ : ∃ A n c, v9 = .slice A n c := by obtain ⟨A, c, e⟩ := hs9.is_slice; exact ⟨A, _, c, e⟩
    refine hK.out _ _ (HSB.out _ hw3 hw6 hw4) (fun hH5 => ?_)
    clear hK K
    try simp only [Act.put, fl]
    obtain ⟨⟨y0, y1, y2, y3, y4⟩, yf0, yf1, yf2, yf3, yf4⟩ := box5 hb39
    refine lq 9 [] rfl hH5 ?_
    try simp only [Act.put, fl]
    refine OrdL.last rfl (by kernel_rfl) (by kernel_rfl) (fun K hK => ?_)
    go_simp
    refine hK.out _ _ ?_
    clear hK K
    try simp only [Act.put, fl]
    have hst := hs9.frx (fun b hb => by have : b < Z := hb; have := HXX.out; omega) (by have := HXX.out; omega) ((FrX.refl X3 w9).setCell (p := ⟨X3, 4, none⟩) rfl (.slice A9 n9 c9))
    rw [HNX.out] at hst
    go_wp2_with fail
    exact ⟨⟨i + 1, _, by omega, by go_num, Lib.hid (hfx9.setCell rfl _), Lib.hid (hb39.set 4 _), Lib.hid hst⟩, by simp [intOf]; omega⟩
  ·obtain rfl : i = 4 := by omega
   have hv4 : MgT wr (Lo Z) W5.heap.size sv (Bk.wholeM v) := hM.out
   obtain ⟨A4, c4, e4⟩ := hv4.is_slice
   replace e4 : sv = .slice A4 4 c4 := e4
   subst e4
   have hin := hv4.inV (by show 4 ≤ _; omega)
   have HIN := Lib.hid hin
   have HYR := Lib.hid hb2
   have HFR := Lib.hid hfr
   obtain ⟨⟨y0, y1, y2, y3, y4⟩, _⟩ := box5 hB.out
   obtain ⟨⟨x0, x1, x2, x3, x4⟩, xf0, xf1, xf2, xf3, xf4⟩ := box5 hb2
   clear hb1 hb2 hb4 hb5 hfr hin hv4 hM hxx
   go_wp2_with fail
   refine bodyPost_ret (results_cv (by rfl) rfl _ X2 (by rfl) _ _ _ _ _ (set5 HYR.out)) rfl ?_
   have hxx := HXX.out
   have hfs := HFR.out.size
   refine ⟨⟨A4, c4, rfl, ?_⟩, st5_fr HFR.out (by omega) _ _ _ _ _⟩
   refine (HIN.out.map (fun b hb => ?_) (fun b o hb => (st5_frx wr X2 _ _ _ _ _).cell (by rcases hb with hb | hb; (have : b < Z := hb; omega); exact hb.2) (by rcases hb with hb | hb; (have : b < Z := hb; omega); (have := hb.1; omega))))
   exact Nat.lt_of_lt_of_eq (by rcases hb with hb | hb; (have : b < Z := hb; omega); exact hb.2 : b < wr.heap.size) (by simp [World.setCell])
end Go.Proofs.YtgaiepficjiclaaGreatDoor
