/- The walk of the document's write of a value. -/
import Derived.Test.YtgncdjcbphobmaaDoorEmitOc
import Derived.Test.YtgncdjcbphobmaaDoorNumsBr
import Derived.Test.YtgncdjcbphobmaaDoorCharsU
namespace Go.Proofs.YtgncdjcbphobmaaDoor
set_option linter.unusedVariables false
set_option linter.unusedSimpArgs false
open Go.RowKit

/-- What write does. -/
def RWr (v : JV) (x : Value) : Prop := ∀ (w0 w : World) (o : Value) (l : List UInt8), Fr w0 w → Bs w w0.heap.size o l → InV w (Lo w0.heap.size) v x → l.length + (JV.wrt v).length ≤ 140737488355328 → JV.allB v = true → JV.bulk v ≤ 1100000 → PtTab w0 →
  Calls Tryd.prog 28 #[o, x] w fun e w' => ∃ v', e = .returned v' ∧ Bs w' w0.heap.size v' (l ++ JV.wrt v) ∧ Fr w0 w' ∧ Kt w w'
theorem RWr.call {v : JV} {x : Value} (h : RWr v x) (w0 : World) {w : World} {o x' : Value} {l : List UInt8} (hx : x' = x) (hf : Fr w0 w) (hb : Bs w w0.heap.size o l) (hv : InV w (Lo w0.heap.size) v x) (h63 : l.length + (JV.wrt v).length ≤ 140737488355328) (ha : JV.allB v = true) (hbk : JV.bulk v ≤ 1100000) (hP : PtTab w0) :
    Calls Tryd.prog 28 #[o, x'] w fun e w' => ∃ v', e = .returned v' ∧ Bs w' w0.heap.size v' (l ++ JV.wrt v) ∧ Fr w0 w' ∧ Kt w w' := by
  subst hx; exact h w0 w o l hf hb hv h63 ha hbk hP
theorem rquote_tq (s Q : List UInt8) (w : World) (h1 : s.length ≤ 1100000) (hb : Utf.bad s = s.length) (hQ : JV.q s = Q) (hP : PtTab w) :
    Calls Tryd.prog 46 #[.string ⟨s.toArray⟩] w fun e w' => e = .returned (.tuple #[.string ⟨Q.toArray⟩, .bool true]) ∧ Fr w w' := by
  subst hQ
  have e : (⟨s.toArray⟩ : ByteArray).size = s.length := List.size_toArray
  have hq := JV.q_len s
  rw [JV.q_right hb] at hq ⊢
  exact rquote_yes ⟨s.toArray⟩ w (by rw [e]; omega) (by rw [e]; exact hb) (by show (Chr.quote s).length ≤ _; omega) hP
theorem put_small (n : Int) (w : World) (h1 : -9223372036854775808 ≤ n) (h2 : n ≤ 9223372036854775807) :
    Calls Tryd.prog 45 #[.int .i64 n] w fun e w' => e = .returned (.string ⟨(Nm.put n).toArray⟩) ∧ Fr w w' := rput_any n.natAbs n w (Nat.le_refl _) h1 h2

set_option maxHeartbeats 2000000 in
set_option maxRecDepth 100000 in
/-- Null, truth, numbers, texts. -/
theorem rwrite_leaf (k n : Int) (s : List UInt8) (A : Option Addr) (c0 L : Nat) (A' : Option Addr) (c0' M : Nat) (T : List UInt8) (w0 w : World) (o : Value) (l : List UInt8) (hf : Fr w0 w) (hb : Bs w w0.heap.size o l)
    (hn1 : -9223372036854775808 ≤ n) (hn2 : n ≤ 9223372036854775807) (hs : s.length ≤ 1100000) (hP : PtTab w0) (hk : (k = 1 ∧ T = JV.tNull) ∨ (k = 2 ∧ n = 1 ∧ T = JV.tTrue) ∨ (k = 2 ∧ n ≠ 1 ∧ T = JV.tFalse) ∨ (k = 3 ∧ T = Nm.put n) ∨ (k = 4 ∧ Utf.bad s = s.length ∧ T = JV.q s)) (h63 : l.length + T.length ≤ 140737488355328) :
    Calls Tryd.prog 28 #[o, .agg #[.int .i64 k, .int .i64 n, .string ⟨s.toArray⟩, .slice A L c0, .slice A' M c0']] w fun e w' => ∃ v', e = .returned v' ∧ Bs w' w0.heap.size v' (l ++ T) ∧ Fr w0 w' ∧ Kt w w' := by
  have HF := Lib.hid hf
  have HP := Lib.hid hP
  have HB : ∀ ob, Hid (Bs (w.alloc ob) w0.heap.size o l) := fun ob => hb.keep ((Fr.refl w).alloc ob)
  clear hf hb hP
  rcases hk with ⟨rfl, rfl⟩ | ⟨rfl, rfl, rfl⟩ | ⟨rfl, hn, rfl⟩ | ⟨rfl, hT⟩ | ⟨rfl, hbd, hT⟩
  · go_enter Tryd.func28, Tryd.ntmps28
    go_wp2_with (at_builtin; refine wpl_bt_k rfl (.tmp 14) (.const _) rfl w0 (HF.out.alloc _) o l rfl (HB _).out ⟨#[110, 117, 108, 108]⟩ rfl h63 ?_; intro v' w3 hb3 hf3 hk3 _; have HB3 := Lib.hid hb3; have HF3 := Lib.hid hf3; have HK3 := Lib.hid (((Kt.refl w).alloc _).trans hk3); clear hb3 hf3 hk3)
    go_ret
    exact ⟨_, rfl, HB3.out, HF3.out, HK3.out⟩
  · go_enter Tryd.func28, Tryd.ntmps28
    go_wp2_with (at_builtin; refine wpl_bt_k rfl (.tmp 24) (.const _) rfl w0 (HF.out.alloc _) o l rfl (HB _).out ⟨#[116, 114, 117, 101]⟩ rfl h63 ?_; intro v' w3 hb3 hf3 hk3 _; have HB3 := Lib.hid hb3; have HF3 := Lib.hid hf3; have HK3 := Lib.hid (((Kt.refl w).alloc _).trans hk3); clear hb3 hf3 hk3)
    go_ret
    exact ⟨_, rfl, HB3.out, HF3.out, HK3.out⟩
  · have hne : (n == 1) = false := by rw [beq_eq_false_iff_ne]; exact hn
    go_enter Tryd.func28, Tryd.ntmps28
    go_wp2_with (at_builtin; refine wpl_bt_k rfl (.tmp 29) (.const _) rfl w0 (HF.out.alloc _) o l rfl (HB _).out ⟨#[102, 97, 108, 115, 101]⟩ rfl h63 ?_; intro v' w3 hb3 hf3 hk3 _; have HB3 := Lib.hid hb3; have HF3 := Lib.hid hf3; have HK3 := Lib.hid (((Kt.refl w).alloc _).trans hk3); clear hb3 hf3 hk3)
    go_ret
    exact ⟨_, rfl, HB3.out, HF3.out, HK3.out⟩
  · have HT := Lib.hid hT
    clear hT
    go_enter Tryd.func28, Tryd.ntmps28
    go_wp2_with (first
      | (go_at_call 45; refine (put_small n _ hn1 hn2).mono ?_; rintro e w1 ⟨rfl, hw1⟩; have HF1 := Lib.hid ((HF.out.alloc _).trans hw1); have HB1 := Lib.hid ((HB _).out.keep hw1); have HK1 := Lib.hid (((Kt.refl w).alloc _).trans (Kt.of hw1)); clear hw1)
      | (at_builtin; refine wpl_bt_k rfl (.tmp 34) (.tmp 37) rfl w0 HF1.out o l rfl HB1.out ⟨(Nm.put n).toArray⟩ rfl (by show _ + (Nm.put n).toArray.size ≤ _; rw [← HT.out]; simpa using h63) ?_; intro v' w3 hb3 hf3 hk3 _; have HB3 := Lib.hid hb3; have HF3 := Lib.hid hf3; have HK3 := Lib.hid (HK1.out.trans hk3); clear hb3 hf3 hk3))
    go_ret
    exact ⟨_, rfl, by rw [HT.out]; exact HB3.out, HF3.out, HK3.out⟩
  · have HT := Lib.hid hT
    have HBD := Lib.hid hbd
    clear hT hbd
    go_enter Tryd.func28, Tryd.ntmps28
    go_wp2_with (first
      | (go_at_call 46; refine (rquote_tq s T _ hs HBD.out HT.out.symm (HP.out.keep (HF.out.alloc _))).mono ?_; rintro e w1 ⟨rfl, hw1⟩; have HF1 := Lib.hid ((HF.out.alloc _).trans hw1); have HB1 := Lib.hid ((HB _).out.keep hw1); have HK1 := Lib.hid (((Kt.refl w).alloc _).trans (Kt.of hw1)); clear hw1)
      | (at_builtin; refine wpl_bt_k rfl (.tmp 48) (.tmp 49) rfl w0 HF1.out o l rfl HB1.out ⟨T.toArray⟩ rfl (by show _ + T.toArray.size ≤ _; simpa using h63) ?_; intro v' w3 hb3 hf3 hk3 _; have HB3 := Lib.hid hb3; have HF3 := Lib.hid hf3; have HK3 := Lib.hid (HK1.out.trans hk3); clear hb3 hf3 hk3))
    go_ret
    exact ⟨_, rfl, HB3.out, HF3.out, HK3.out⟩

set_option maxHeartbeats 1500000 in
set_option maxRecDepth 100000 in
theorem rwrite_list (n : Int) (s : List UInt8) (ls : List JV) (A : Option Addr) (c0 : Nat) (A' : Option Addr) (c0' M : Nat) (w0 w : World) (o : Value) (l : List UInt8) (hf : Fr w0 w) (hb : Bs w w0.heap.size o l)
    (hls : LsC w (Lo w0.heap.size) A ls) (h63 : l.length + (JV.wrtL ls true).length + 2 ≤ 140737488355328) (hl63 : ls.length ≤ 140737488355328) (hP : PtTab w0) (hab : ∀ v ∈ ls, JV.allB v = true ∧ JV.bulk v ≤ 1100000) (ih : ∀ v ∈ ls, ∀ x, RWr v x) :
    Calls Tryd.prog 28 #[o, .agg #[.int .i64 5, .int .i64 n, .string ⟨s.toArray⟩, .slice A ls.length c0, .slice A' M c0']] w fun e w' => ∃ v', e = .returned v' ∧ Bs w' w0.heap.size v' (l ++ 91 :: (JV.wrtL ls true ++ [93])) ∧ Fr w0 w' ∧ Kt w w' := by
  have HF := Lib.hid hf
  have HP := Lib.hid hP
  have HAB := Lib.hid hab
  have HB : ∀ ob, Hid (Bs (w.alloc ob) w0.heap.size o l) := fun ob => hb.keep ((Fr.refl w).alloc ob)
  have HLS := Lib.hid hls
  have HIH := Lib.hid ih
  obtain ⟨L, hL⟩ : ∃ L, ls.length = L := ⟨_, rfl⟩
  obtain ⟨W, hW⟩ : ∃ W, JV.wrtL ls true = W := ⟨_, rfl⟩
  rw [hW] at h63 ⊢
  have HW := Lib.hid hW
  rw [hL] at hl63 ⊢
  have HL := Lib.hid hL
  have hT : Hid ((l ++ 91 :: W).length + 1 ≤ 140737488355328) := by show _ ≤ _; simp; omega
  have h640 : l.length + 1 ≤ 140737488355328 := by omega
  clear hf hb hls ih hL hW hP hab
  go_enter Tryd.func28, Tryd.ntmps28
  go_wp2_with (at_builtin; refine wpl_bl_k rfl (.tmp 54) (.tmp 55) rfl w0 (HF.out.alloc _) o l rfl (HB _).out [91] rfl (by simp) rfl rfl rfl h640 ?_; intro v' w3 hb3 hf3 hk3; have HB3 := Lib.hid hb3; have HF3 := Lib.hid hf3; have HK3 := Lib.hid hk3; clear hb3 hf3 hk3)
  go_loopw [0, 7] (fun o2 j wr => ∃ (i : Nat) (o1 : Value), i ≤ L ∧ o1 = o2 ∧ j = .int .i64 i ∧ Hid (WrI w0 (w.alloc (.cells #[.int .i64 5, .int .i64 n, .string ⟨s.toArray⟩, .slice A L c0, .slice A' M c0'] 25)) wr o1 (l ++ 91 :: W) (JV.wrtL (ls.drop i) (i == 0)))) (fun _ j _ => L - (intOf j).toNat)
  case atStart => exact ⟨0, _, by omega, rfl, rfl, Lib.hid ⟨_, HB3.out, HF3.out, HK3.out, by rw [List.drop_zero]; show _ ++ JV.wrtL ls true = _; rw [HW.out]; simp⟩⟩
  case round =>
    obtain ⟨i, o1, hi, rfl, rfl, hI⟩ := hrel
    obtain ⟨l1, hb1, hf1, hk1, ht1⟩ := hI.out
    have hlen := len_app ht1 hT.out
    have u3 : wr.cell? ⟨w.heap.size, 3, none⟩ = some (.slice A L c0) := by rw [hk1.cell (heap_made _ _ _) (by decide), World.cell?_alloc_at _ _ _ _ rfl]; rfl
    have HBP := Lib.hid hb1
    have HF1 := Lib.hid hf1
    have HK1 := Lib.hid hk1
    have HT1 := Lib.hid ht1
    by_cases h : i < L
    · have hil : i < ls.length := by have := HL.out; omega
      obtain ⟨b, ob, B, dd, B', dd', rfl, hbb, ⟨e1, e2, e3, e4, e5⟩, hiv⟩ := (HLS.out.two HF.out hf1) i hil
      have hw := wrtL_at (b := i == 0) hil
      have hih := HIH.out ls[i] (List.getElem_mem hil)
      have haa := HAB.out ls[i] (List.getElem_mem hil)
      obtain ⟨u, hu⟩ : ∃ u, ls[i] = u := ⟨_, rfl⟩
      rw [hu] at e1 e2 e3 e4 e5 hiv hw hih haa
      rw [hw] at ht1 hlen
      have HT2 := Lib.hid ht1
      have HIU := Lib.hid hih
      have HIV := Lib.hid hiv
      have HAA := Lib.hid haa
      clear hu hb1 hf1 hk1 ht1 hw hih hiv haa
      have h' : (i : Int) < (L : Int) := by omega
      simp only [List.length_append] at hlen
      rcases Nat.eq_zero_or_pos i with h0 | h0
      · subst h0
        simp only [Nat.zero_mul, Nat.add_zero] at e1 e2 e3 e4 e5
        simp only [beq_self_eq_true, if_true, List.length_nil] at hlen
        go_wp2_with (go_at_call 28; refine ((HIU.out (vA u B dd B' dd')).call w0 rfl HF1.out HBP.out HIV.out (by omega) HAA.out.1 HAA.out.2 HP.out).mono ?_; rintro e w2 ⟨v2, rfl, hb2, hf2, hk2⟩; have HB2 := Lib.hid hb2; have HF2 := Lib.hid hf2; have HK2 := Lib.hid (HK1.out.trans hk2); clear hb2 hf2 hk2)
        refine ⟨⟨1, _, by omega, rfl, by go_num, Lib.hid ⟨_, HB2.out, HF2.out, HK2.out, ?_⟩⟩, by simp [intOf]; omega⟩
        rw [← HT2.out]; simp
      · have hi0 : decide ((0 : Int) < (i : Int)) = true := decide_eq_true (by omega)
        have hi1 : (i == 0) = false := by rw [beq_eq_false_iff_ne]; omega
        rw [hi1] at hlen
        simp only [Bool.false_eq_true, if_false, List.length_cons, List.length_nil] at hlen
        go_wp2_with (first
          | (go_at_call 28; refine ((HIU.out (vA u B dd B' dd')).call w0 rfl HF4.out HB4.out (HIV.out.two HF1.out HF4.out) (by simp only [List.length_append, List.length_cons, List.length_nil]; omega) HAA.out.1 HAA.out.2 HP.out).mono ?_; rintro e w2 ⟨v2, rfl, hb2, hf2, hk2⟩; have HB2 := Lib.hid hb2; have HF2 := Lib.hid hf2; have HK2 := Lib.hid (HK4.out.trans hk2); clear hb2 hf2 hk2)
          | (at_builtin; refine wpl_bl_k rfl (.tmp 66) (.tmp 67) rfl w0 HF1.out o1 l1 rfl HBP.out [44] rfl (by simp) rfl rfl rfl (by simp only [List.length_cons, List.length_nil]; omega) ?_; intro v' w4 hb4 hf4 hk4; have hkk := HK1.out.trans hk4; have u34 : w4.cell? ⟨w.heap.size, 3, none⟩ = some (.slice (some ⟨b, ob, none⟩) L c0) := (by rw [hkk.cell (heap_made _ _ _) (by decide), World.cell?_alloc_at _ _ _ _ rfl]; rfl); have f1 := (hf4.cell hbb).trans ((HF1.out.cell hbb).symm.trans e1); have f2 := (hf4.cell hbb).trans ((HF1.out.cell hbb).symm.trans e2); have f3 := (hf4.cell hbb).trans ((HF1.out.cell hbb).symm.trans e3); have f4 := (hf4.cell hbb).trans ((HF1.out.cell hbb).symm.trans e4); have f5 := (hf4.cell hbb).trans ((HF1.out.cell hbb).symm.trans e5); have HB4 := Lib.hid hb4; have HF4 := Lib.hid hf4; have HK4 := Lib.hid hkk; clear hb4 hf4 hk4 hkk))
        refine ⟨⟨i + 1, _, by omega, rfl, by go_num, Lib.hid ⟨_, HB2.out, HF2.out, HK2.out, ?_⟩⟩, by simp [intOf]; omega⟩
        rw [← HT2.out, hi1]; simp
    · obtain rfl : i = L := by omega
      have hd : l1 = l ++ 91 :: W := by
        have := HT1.out
        rw [← HL.out, List.drop_length, JV.wrtL_nil, List.append_nil] at this
        exact this
      have HD := Lib.hid hd
      have hz : l1.length + 1 ≤ 140737488355328 := by omega
      clear hb1 hf1 hk1 ht1 hd
      go_wp2_with (at_builtin; refine wpl_bl_k rfl (.tmp 76) (.tmp 77) rfl w0 HF1.out o1 l1 rfl HBP.out [93] rfl (by simp) rfl rfl rfl hz ?_; intro v' w4 hb4 hf4 hk4; have HB4 := Lib.hid hb4; have HF4 := Lib.hid hf4; have HK4 := Lib.hid (((Kt.refl w).alloc _).trans (HK1.out.trans hk4)); clear hb4 hf4 hk4)
      go_ret
      exact ⟨_, rfl, by have := HB4.out; rw [HD.out] at this; simpa using this, HF4.out, HK4.out⟩

set_option maxHeartbeats 2000000 in
set_option maxRecDepth 100000 in
theorem rwrite_map (k n : Int) (s : List UInt8) (ms : List (List UInt8 × JV)) (A : Option Addr) (c0 L : Nat) (A' : Option Addr) (c0' : Nat) (w0 w : World) (o : Value) (l : List UInt8) (hf : Fr w0 w) (hb : Bs w w0.heap.size o l)
    (hk : k ≠ 1 ∧ k ≠ 2 ∧ k ≠ 3 ∧ k ≠ 4 ∧ k ≠ 5)
    (hls : MsC w (Lo w0.heap.size) A' ms) (h63 : l.length + (JV.wrtM ms true).length + 2 ≤ 140737488355328) (hl63 : ms.length ≤ 140737488355328) (hP : PtTab w0) (hab : ∀ p ∈ ms, (JV.allB p.2 = true ∧ JV.bulk p.2 ≤ 1100000) ∧ p.1.length ≤ 1100000 ∧ Utf.bad p.1 = p.1.length) (ih : ∀ p ∈ ms, ∀ x, RWr p.2 x) :
    Calls Tryd.prog 28 #[o, .agg #[.int .i64 k, .int .i64 n, .string ⟨s.toArray⟩, .slice A L c0, .slice A' ms.length c0']] w fun e w' => ∃ v', e = .returned v' ∧ Bs w' w0.heap.size v' (l ++ 123 :: (JV.wrtM ms true ++ [125])) ∧ Fr w0 w' ∧ Kt w w' := by
  obtain ⟨k1, k2, k3, k4, k5⟩ := hk
  have q1 : (k == 1) = false := by rw [beq_eq_false_iff_ne]; exact k1
  have q2 : (k == 2) = false := by rw [beq_eq_false_iff_ne]; exact k2
  have q3 : (k == 3) = false := by rw [beq_eq_false_iff_ne]; exact k3
  have q4 : (k == 4) = false := by rw [beq_eq_false_iff_ne]; exact k4
  have q5 : (k == 5) = false := by rw [beq_eq_false_iff_ne]; exact k5
  have HF := Lib.hid hf
  have HP := Lib.hid hP
  have HAB := Lib.hid hab
  have HB : ∀ ob, Hid (Bs (w.alloc ob) w0.heap.size o l) := fun ob => hb.keep ((Fr.refl w).alloc ob)
  have HLS := Lib.hid hls
  have HIH := Lib.hid ih
  obtain ⟨M, hM⟩ : ∃ M, ms.length = M := ⟨_, rfl⟩
  obtain ⟨W, hW⟩ : ∃ W, JV.wrtM ms true = W := ⟨_, rfl⟩
  rw [hW] at h63 ⊢
  have HW := Lib.hid hW
  rw [hM] at hl63 ⊢
  have HL := Lib.hid hM
  have hT : Hid ((l ++ 123 :: W).length + 1 ≤ 140737488355328) := by show _ ≤ _; simp; omega
  have h640 : l.length + 1 ≤ 140737488355328 := by omega
  clear hf hb hls ih hM hW k1 k2 k3 k4 k5 hP hab
  go_enter Tryd.func28, Tryd.ntmps28
  go_wp2_with (at_builtin; refine wpl_bl_k rfl (.tmp 79) (.tmp 80) rfl w0 (HF.out.alloc _) o l rfl (HB _).out [123] rfl (by simp) rfl rfl rfl h640 ?_; intro v' w3 hb3 hf3 hk3; have HB3 := Lib.hid hb3; have HF3 := Lib.hid hf3; have HK3 := Lib.hid hk3; clear hb3 hf3 hk3)
  go_loopw [0, 8, 9, 10] (fun o2 j xs xb wr => ∃ (i : Nat) (o1 : Value), i ≤ M ∧ o1 = o2 ∧ j = .int .i64 i ∧ Hid (WrI w0 (w.alloc (.cells #[.int .i64 k, .int .i64 n, .string ⟨s.toArray⟩, .slice A L c0, .slice A' M c0'] 25)) wr o1 (l ++ 123 :: W) (JV.wrtM (ms.drop i) (i == 0)))) (fun _ j _ _ _ => M - (intOf j).toNat)
  case atStart => exact ⟨0, _, by omega, rfl, rfl, Lib.hid ⟨_, HB3.out, HF3.out, HK3.out, by rw [List.drop_zero]; show _ ++ JV.wrtM ms true = _; rw [HW.out]; simp⟩⟩
  case round =>
    obtain ⟨i, o1, hi, rfl, rfl, hI⟩ := hrel
    obtain ⟨l1, hb1, hf1, hk1, ht1⟩ := hI.out
    have hlen := len_app ht1 hT.out
    have u4 : wr.cell? ⟨w.heap.size, 4, none⟩ = some (.slice A' M c0') := by rw [hk1.cell (heap_made _ _ _) (by decide), World.cell?_alloc_at _ _ _ _ rfl]; rfl
    have HBP := Lib.hid hb1
    have HF1 := Lib.hid hf1
    have HK1 := Lib.hid hk1
    have HT1 := Lib.hid ht1
    by_cases h : i < M
    · have hil : i < ms.length := by have := HL.out; omega
      obtain ⟨b, ob, B, dd, B', dd', rfl, hbb, hnl, e0, ⟨e1, e2, e3, e4, e5⟩, hiv⟩ := (HLS.out.two HF.out hf1) i hil
      have hw := wrtM_at (b := i == 0) hil
      have hih := HIH.out ms[i] (List.getElem_mem hil)
      have haa := HAB.out ms[i] (List.getElem_mem hil)
      obtain ⟨u, hu⟩ : ∃ u, ms[i] = u := ⟨_, rfl⟩
      rw [hu] at e0 e1 e2 e3 e4 e5 hiv hw hih hnl haa
      obtain ⟨nm, u⟩ := u
      simp only at e0 e1 e2 e3 e4 e5 hiv hw hih hnl haa
      rw [hw] at ht1 hlen
      obtain ⟨Q, hQ⟩ : ∃ Q, JV.q nm = Q := ⟨_, rfl⟩
      rw [hQ] at ht1 hlen
      have HQ := Lib.hid hQ
      have HT2 := Lib.hid ht1
      have HIU := Lib.hid hih
      have HIV := Lib.hid hiv
      have HAA := Lib.hid haa.1
      have HNL := Lib.hid haa.2
      clear hu hb1 hf1 hk1 ht1 hw hih hiv haa hQ
      have h' : (i : Int) < (M : Int) := by omega
      simp only [List.length_append, List.length_cons] at hlen
      rcases Nat.eq_zero_or_pos i with h0 | h0
      · subst h0
        simp only [Nat.zero_mul, Nat.add_zero] at e0 e1 e2 e3 e4 e5
        simp only [beq_self_eq_true, if_true, List.length_nil] at hlen
        have hq1 : l1.length + Q.length ≤ 140737488355328 := by omega
        have hq2 : (l1 ++ Q).length + [(58 : UInt8)].length ≤ 140737488355328 := by simp only [List.length_append, List.length_cons, List.length_nil]; omega
        have hq3 : (l1 ++ Q ++ [58]).length + (JV.wrt u).length ≤ 140737488355328 := by simp only [List.length_append, List.length_cons, List.length_nil]; omega
        have HB4 := HBP
        have HF4 := HF1
        have HK4 := HK1
        go_wp2_with (first
          | (go_at_call 28; have hm := HF7.out; refine ((HIU.out (vA u B dd B' dd')).call w0 rfl hm HB7.out (HIV.out.two HF1.out hm) hq3 HAA.out.1 HAA.out.2 HP.out).mono ?_; rintro e w8 ⟨v8, rfl, hb8, hf8, hk8⟩; have HB8 := Lib.hid hb8; have HF8 := Lib.hid hf8; have HK8 := Lib.hid (HK7.out.trans hk8); clear hb8 hf8 hk8 hm)
          | (at_builtin; have hm := HF6.out; refine wpl_bl_k rfl (.tmp 107) (.tmp 108) rfl w0 hm v6 _ rfl HB6.out [58] rfl (by simp) rfl rfl rfl hq2 ?_; intro v7 w7 hb7 hf7 hk7; have hkk := HK6.out.trans hk7; have u47 : w7.cell? ⟨w.heap.size, 4, none⟩ = some (.slice (some ⟨b, ob, none⟩) M c0') := (by rw [hkk.cell (heap_made _ _ _) (by decide), World.cell?_alloc_at _ _ _ _ rfl]; rfl); have g1 := (hf7.cell hbb).trans ((HF1.out.cell hbb).symm.trans e1); have g2 := (hf7.cell hbb).trans ((HF1.out.cell hbb).symm.trans e2); have g3 := (hf7.cell hbb).trans ((HF1.out.cell hbb).symm.trans e3); have g4 := (hf7.cell hbb).trans ((HF1.out.cell hbb).symm.trans e4); have g5 := (hf7.cell hbb).trans ((HF1.out.cell hbb).symm.trans e5); have HB7 := Lib.hid hb7; have HF7 := Lib.hid hf7; have HK7 := Lib.hid hkk; clear hb7 hf7 hk7 hkk hm)
          | (at_builtin; have hm := HF5.out; refine wpl_bt_k rfl (.tmp 104) (.tmp 105) rfl w0 hm _ _ rfl HB5.out ⟨Q.toArray⟩ rfl (by show _ + Q.toArray.size ≤ _; simpa using hq1) ?_; intro v6 w6 hb6 hf6 hk6 _; have HB6 := Lib.hid hb6; have HF6 := Lib.hid hf6; have HK6 := Lib.hid (HK5.out.trans hk6); clear hb6 hf6 hk6 hm)
          | (go_at_call 46; have hm := HF4.out; refine (rquote_tq nm Q _ HNL.out.1 HNL.out.2 HQ.out (HP.out.keep hm)).mono ?_; rintro e w5 ⟨rfl, hf⟩; have HF5 := Lib.hid (hm.trans hf); have HB5 := Lib.hid (HB4.out.keep hf); have HK5 := Lib.hid (HK4.out.trans (Kt.of hf)); clear hf hm))
        refine ⟨⟨1, _, by omega, rfl, by go_num, Lib.hid ⟨_, HB8.out, HF8.out, HK8.out, ?_⟩⟩, by simp [intOf]; omega⟩
        rw [← HT2.out]; simp
      · have hi0 : decide ((0 : Int) < (i : Int)) = true := decide_eq_true (by omega)
        have hi1 : (i == 0) = false := by rw [beq_eq_false_iff_ne]; omega
        rw [hi1] at hlen
        simp only [Bool.false_eq_true, if_false, List.length_cons, List.length_nil] at hlen
        have hq1 : (l1 ++ [44]).length + Q.length ≤ 140737488355328 := by simp only [List.length_append, List.length_cons, List.length_nil]; omega
        have hq2 : (l1 ++ [44] ++ Q).length + [(58 : UInt8)].length ≤ 140737488355328 := by simp only [List.length_append, List.length_cons, List.length_nil]; omega
        have hq3 : (l1 ++ [44] ++ Q ++ [58]).length + (JV.wrt u).length ≤ 140737488355328 := by simp only [List.length_append, List.length_cons, List.length_nil]; omega
        go_wp2_with (first
          | (go_at_call 28; have hm := HF7.out; refine ((HIU.out (vA u B dd B' dd')).call w0 rfl hm HB7.out (HIV.out.two HF1.out hm) hq3 HAA.out.1 HAA.out.2 HP.out).mono ?_; rintro e w8 ⟨v8, rfl, hb8, hf8, hk8⟩; have HB8 := Lib.hid hb8; have HF8 := Lib.hid hf8; have HK8 := Lib.hid (HK7.out.trans hk8); clear hb8 hf8 hk8 hm)
          | (at_builtin; have hm := HF6.out; refine wpl_bl_k rfl (.tmp 107) (.tmp 108) rfl w0 hm v6 _ rfl HB6.out [58] rfl (by simp) rfl rfl rfl hq2 ?_; intro v7 w7 hb7 hf7 hk7; have hkk := HK6.out.trans hk7; have u47 : w7.cell? ⟨w.heap.size, 4, none⟩ = some (.slice (some ⟨b, ob, none⟩) M c0') := (by rw [hkk.cell (heap_made _ _ _) (by decide), World.cell?_alloc_at _ _ _ _ rfl]; rfl); have g1 := (hf7.cell hbb).trans ((HF1.out.cell hbb).symm.trans e1); have g2 := (hf7.cell hbb).trans ((HF1.out.cell hbb).symm.trans e2); have g3 := (hf7.cell hbb).trans ((HF1.out.cell hbb).symm.trans e3); have g4 := (hf7.cell hbb).trans ((HF1.out.cell hbb).symm.trans e4); have g5 := (hf7.cell hbb).trans ((HF1.out.cell hbb).symm.trans e5); have HB7 := Lib.hid hb7; have HF7 := Lib.hid hf7; have HK7 := Lib.hid hkk; clear hb7 hf7 hk7 hkk hm)
          | (at_builtin; have hm := HF5.out; refine wpl_bt_k rfl (.tmp 104) (.tmp 105) rfl w0 hm _ _ rfl HB5.out ⟨Q.toArray⟩ rfl (by show _ + Q.toArray.size ≤ _; simpa using hq1) ?_; intro v6 w6 hb6 hf6 hk6 _; have HB6 := Lib.hid hb6; have HF6 := Lib.hid hf6; have HK6 := Lib.hid (HK5.out.trans hk6); clear hb6 hf6 hk6 hm)
          | (go_at_call 46; have hm := HF4.out; refine (rquote_tq nm Q _ HNL.out.1 HNL.out.2 HQ.out (HP.out.keep hm)).mono ?_; rintro e w5 ⟨rfl, hf⟩; have HF5 := Lib.hid (hm.trans hf); have HB5 := Lib.hid (HB4.out.keep hf); have HK5 := Lib.hid (HK4.out.trans (Kt.of hf)); clear hf hm)
          | (at_builtin; refine wpl_bl_k rfl (.tmp 91) (.tmp 92) rfl w0 HF1.out o1 l1 rfl HBP.out [44] rfl (by simp) rfl rfl rfl (by simp only [List.length_cons, List.length_nil]; omega) ?_; intro v4 w4 hb4 hf4 hk4; have hkk := HK1.out.trans hk4; have u44 : w4.cell? ⟨w.heap.size, 4, none⟩ = some (.slice (some ⟨b, ob, none⟩) M c0') := (by rw [hkk.cell (heap_made _ _ _) (by decide), World.cell?_alloc_at _ _ _ _ rfl]; rfl); have g0 := (hf4.cell hbb).trans ((HF1.out.cell hbb).symm.trans e0); have HB4 := Lib.hid hb4; have HF4 := Lib.hid hf4; have HK4 := Lib.hid hkk; clear hb4 hf4 hk4 hkk))
        refine ⟨⟨i + 1, _, by omega, rfl, by go_num, Lib.hid ⟨_, HB8.out, HF8.out, HK8.out, ?_⟩⟩, by simp [intOf]; omega⟩
        rw [← HT2.out, hi1]; simp
    · obtain rfl : i = M := by omega
      have hd : l1 = l ++ 123 :: W := by
        have := HT1.out
        rw [← HL.out, List.drop_length, JV.wrtM_nil, List.append_nil] at this
        exact this
      have HD := Lib.hid hd
      have hz : l1.length + 1 ≤ 140737488355328 := by omega
      clear hb1 hf1 hk1 ht1 hd
      go_wp2_with (at_builtin; refine wpl_bl_k rfl (.tmp 118) (.tmp 119) rfl w0 HF1.out o1 l1 rfl HBP.out [125] rfl (by simp) rfl rfl rfl hz ?_; intro v' w4 hb4 hf4 hk4; have HB4 := Lib.hid hb4; have HF4 := Lib.hid hf4; have HK4 := Lib.hid (((Kt.refl w).alloc _).trans (HK1.out.trans hk4)); clear hb4 hf4 hk4)
      go_ret
      exact ⟨_, rfl, by have := HB4.out; rw [HD.out] at this; simpa using this, HF4.out, HK4.out⟩

theorem names_ok {m : List (List UInt8 × JV)} (h : JV.namesB m = true) : ∀ p ∈ m, Utf.bad p.1 = p.1.length := by
  intro p hp
  simp only [JV.namesB, Bool.and_eq_true, List.all_eq_true, beq_iff_eq] at h
  exact h.1 p hp
/-- The walk of the document's write. -/
theorem rwrite_is (v : JV) : JV.okB v = true → ∀ x : Value, RWr v x := by
  induction v using JV.ind with
  | h k n s l m ihl ihm =>
    intro hok x w0 w o ll hf hb hv h63 hal hbk hP
    obtain ⟨⟨hn1, hn2⟩, _, hs, hl63, hm63⟩ := hv.facts
    obtain ⟨A, c0, A', c0', rfl, hls, hms⟩ := hv.open_
    have hn1 : -9223372036854775808 ≤ n := hn1
    have hn2 : n ≤ 9223372036854775807 := hn2
    have hl63 : l.length ≤ 140737488355328 := hl63
    have hm63 : m.length ≤ 140737488355328 := hm63
    have hls : LsC w (Lo w0.heap.size) A l := hls
    have hms : MsC w (Lo w0.heap.size) A' m := hms
    obtain ⟨hr, hnm, hol, hom⟩ := (JV.ok_iff _).1 hok
    have hbb : Utf.bad s = s.length := by
      have := right_eq (.mk k n s l m)
      rw [hr] at this
      have := this.symm
      simp only [Bool.and_eq_true] at this
      have h3 : (Utf.bad s == s.length) = true := this.1.2
      exact beq_iff_eq.1 h3
    have hk6 : 1 ≤ k ∧ k ≤ 6 := by
      have := right_eq (.mk k n s l m)
      rw [hr] at this
      have := this.symm
      simp only [Bool.and_eq_true, decide_eq_true_eq] at this
      exact this.1.1.1
    rw [JV.bulk_mk] at hbk
    have hs : s.length ≤ 1100000 := by omega
    have hbl : ∀ u ∈ l, JV.allB u = true ∧ JV.bulk u ≤ 1100000 := fun u hu => ⟨JV.ok_all (hol u hu), by
      have := JV.bulkL_mem hu; have : l.length ≠ 0 := fun e => by simp [List.length_eq_zero_iff.1 e] at hu
      omega⟩
    have hbm : k = 6 → ∀ u ∈ m, (JV.allB u.2 = true ∧ JV.bulk u.2 ≤ 1100000) ∧ u.1.length ≤ 1100000 ∧ Utf.bad u.1 = u.1.length := fun h6 u hu => ⟨⟨JV.ok_all (hom u hu), by have := JV.bulkM_mem hu; omega⟩, by have := JV.bulkM_mem hu; omega, names_ok (hnm h6) u hu⟩
    show Calls Tryd.prog _ #[o, .agg #[.int .i64 k, .int .i64 n, .string ⟨s.toArray⟩, .slice A l.length c0, .slice A' m.length c0']] _ _
    rw [JV.wrt_mk] at h63 ⊢
    by_cases h1 : k = 1
    · rw [if_pos h1] at h63 ⊢
      exact rwrite_leaf k n s A c0 _ A' c0' _ _ w0 w o ll hf hb hn1 hn2 hs hP (.inl ⟨h1, rfl⟩) h63
    rw [if_neg h1] at h63 ⊢
    by_cases h2 : k = 2
    · rw [if_pos h2] at h63 ⊢
      by_cases h2n : n = 1
      · rw [if_pos h2n] at h63 ⊢
        exact rwrite_leaf k n s A c0 _ A' c0' _ _ w0 w o ll hf hb hn1 hn2 hs hP (.inr (.inl ⟨h2, h2n, rfl⟩)) h63
      · rw [if_neg h2n] at h63 ⊢
        exact rwrite_leaf k n s A c0 _ A' c0' _ _ w0 w o ll hf hb hn1 hn2 hs hP (.inr (.inr (.inl ⟨h2, h2n, rfl⟩))) h63
    rw [if_neg h2] at h63 ⊢
    by_cases h3 : k = 3
    · rw [if_pos h3] at h63 ⊢
      exact rwrite_leaf k n s A c0 _ A' c0' _ _ w0 w o ll hf hb hn1 hn2 hs hP (.inr (.inr (.inr (.inl ⟨h3, rfl⟩)))) h63
    rw [if_neg h3] at h63 ⊢
    by_cases h4 : k = 4
    · rw [if_pos h4] at h63 ⊢
      exact rwrite_leaf k n s A c0 _ A' c0' _ _ w0 w o ll hf hb hn1 hn2 hs hP (.inr (.inr (.inr (.inr ⟨h4, hbb, rfl⟩)))) h63
    rw [if_neg h4] at h63 ⊢
    by_cases h5 : k = 5
    · rw [if_pos h5] at h63 ⊢
      subst h5
      exact rwrite_list n s l A c0 A' c0' _ w0 w o ll hf hb hls (by simp only [List.length_cons, List.length_append, List.length_nil] at h63; omega) hl63 hP hbl (fun v hv => ihl v hv (hol v hv))
    · rw [if_neg h5] at h63 ⊢
      exact rwrite_map k n s m A c0 _ A' c0' w0 w o ll hf hb ⟨h1, h2, h3, h4, h5⟩ hms (by simp only [List.length_cons, List.length_append, List.length_nil] at h63; omega) hm63 hP (hbm (by omega)) (fun p hp => ihm p hp (hom p hp))
end Go.Proofs.YtgncdjcbphobmaaDoor
