/- The walk of emit.write. -/
import Derived.Test.YtgncdjcbphobmaaEmitQ
import Derived.Test.YtgncdjcbphobmaaNumsB
import Derived.Deep.RegionLaw
namespace Go.Proofs.Ytgncdjcbphobmaa
set_option linter.unusedVariables false
set_option linter.unusedSimpArgs false
open Go.RowKit

/-- What write does. -/
def WrAt (v : JV) (x : Value) : Prop := ∀ (w0 w : World) (o : Value) (l : List UInt8), Fr w0 w → Bs w w0.heap.size o l → InV w (Lo w0.heap.size) v x → l.length + (JV.wrt v).length ≤ 140737488355328 →
  Calls Try.prog 10 #[o, x] w fun e w' => ∃ v', e = .returned v' ∧ Bs w' w0.heap.size v' (l ++ JV.wrt v) ∧ Fr w0 w' ∧ Kt w w'
theorem WrAt.call {v : JV} {x : Value} (h : WrAt v x) (w0 : World) {w : World} {o x' : Value} {l : List UInt8} (hx : x' = x) (hf : Fr w0 w) (hb : Bs w w0.heap.size o l) (hv : InV w (Lo w0.heap.size) v x) (h63 : l.length + (JV.wrt v).length ≤ 140737488355328) :
    Calls Try.prog 10 #[o, x'] w fun e w' => ∃ v', e = .returned v' ∧ Bs w' w0.heap.size v' (l ++ JV.wrt v) ∧ Fr w0 w' ∧ Kt w w' := by
  subst hx; exact h w0 w o l hf hb hv h63

set_option maxHeartbeats 2000000 in
set_option maxRecDepth 100000 in
/-- Null, truth, numbers, texts. -/
theorem write_leaf (k n : Int) (s : List UInt8) (A : Option Addr) (c0 L : Nat) (A' : Option Addr) (c0' M : Nat) (T : List UInt8) (w0 w : World) (o : Value) (l : List UInt8) (hf : Fr w0 w) (hb : Bs w w0.heap.size o l)
    (hn1 : -9223372036854775808 ≤ n) (hn2 : n ≤ 9223372036854775807) (hs : s.length ≤ 140737488355328) (hk : (k = 1 ∧ T = JV.tNull) ∨ (k = 2 ∧ n = 1 ∧ T = JV.tTrue) ∨ (k = 2 ∧ n ≠ 1 ∧ T = JV.tFalse) ∨ (k = 3 ∧ T = Nm.put n) ∨ (k = 4 ∧ T = JV.q s)) (h63 : l.length + T.length ≤ 140737488355328) :
    Calls Try.prog 10 #[o, .agg #[.int .i64 k, .int .i64 n, .string ⟨s.toArray⟩, .slice A L c0, .slice A' M c0']] w fun e w' => ∃ v', e = .returned v' ∧ Bs w' w0.heap.size v' (l ++ T) ∧ Fr w0 w' ∧ Kt w w' := by
  have HF := Lib.hid hf
  have HB : ∀ ob, Hid (Bs (w.alloc ob) w0.heap.size o l) := fun ob => hb.keep ((Fr.refl w).alloc ob)
  clear hf hb
  rcases hk with ⟨rfl, rfl⟩ | ⟨rfl, rfl, rfl⟩ | ⟨rfl, hn, rfl⟩ | ⟨rfl, hT⟩ | ⟨rfl, hT⟩
  · go_enter Try.func10, Try.ntmps10
    go_wp2_with (at_builtin; refine wpl_bt_k rfl (.tmp 13) (.const _) rfl w0 (HF.out.alloc _) o l rfl (HB _).out ⟨#[110, 117, 108, 108]⟩ rfl h63 ?_; intro v' w3 hb3 hf3 hk3 _; have HB3 := Lib.hid hb3; have HF3 := Lib.hid hf3; have HK3 := Lib.hid (((Kt.refl w).alloc _).trans hk3); clear hb3 hf3 hk3)
    go_ret
    exact ⟨_, rfl, HB3.out, HF3.out, HK3.out⟩
  · go_enter Try.func10, Try.ntmps10
    go_wp2_with (at_builtin; refine wpl_bt_k rfl (.tmp 20) (.const _) rfl w0 (HF.out.alloc _) o l rfl (HB _).out ⟨#[116, 114, 117, 101]⟩ rfl h63 ?_; intro v' w3 hb3 hf3 hk3 _; have HB3 := Lib.hid hb3; have HF3 := Lib.hid hf3; have HK3 := Lib.hid (((Kt.refl w).alloc _).trans hk3); clear hb3 hf3 hk3)
    go_ret
    exact ⟨_, rfl, HB3.out, HF3.out, HK3.out⟩
  · have hne : (n == 1) = false := by rw [beq_eq_false_iff_ne]; exact hn
    go_enter Try.func10, Try.ntmps10
    go_wp2_with (at_builtin; refine wpl_bt_k rfl (.tmp 22) (.const _) rfl w0 (HF.out.alloc _) o l rfl (HB _).out ⟨#[102, 97, 108, 115, 101]⟩ rfl h63 ?_; intro v' w3 hb3 hf3 hk3 _; have HB3 := Lib.hid hb3; have HF3 := Lib.hid hf3; have HK3 := Lib.hid (((Kt.refl w).alloc _).trans hk3); clear hb3 hf3 hk3)
    go_ret
    exact ⟨_, rfl, HB3.out, HF3.out, HK3.out⟩
  · have HT := Lib.hid hT
    clear hT
    go_enter Try.func10, Try.ntmps10
    go_wp2_with (first
      | (go_at_call 13; refine (put_any n _ hn1 hn2).mono ?_; rintro e w1 ⟨rfl, hw1⟩; have HF1 := Lib.hid ((HF.out.alloc _).trans hw1); have HB1 := Lib.hid ((HB _).out.keep hw1); have HK1 := Lib.hid (((Kt.refl w).alloc _).trans (Kt.of hw1)); clear hw1)
      | (at_builtin; refine wpl_bt_k rfl (.tmp 26) (.tmp 29) rfl w0 HF1.out o l rfl HB1.out ⟨(Nm.put n).toArray⟩ rfl (by show _ + (Nm.put n).toArray.size ≤ _; rw [← HT.out]; simpa using h63) ?_; intro v' w3 hb3 hf3 hk3 _; have HB3 := Lib.hid hb3; have HF3 := Lib.hid hf3; have HK3 := Lib.hid (HK1.out.trans hk3); clear hb3 hf3 hk3))
    go_ret
    exact ⟨_, rfl, by rw [HT.out]; exact HB3.out, HF3.out, HK3.out⟩
  · have HT := Lib.hid hT
    clear hT
    go_enter Try.func10, Try.ntmps10
    go_wp2_with (go_at_call 14; refine (equote_is w0 s o l _ (HF.out.alloc _) (HB _).out hs (by rw [← HT.out]; exact h63)).mono ?_; rintro e w1 ⟨v', rfl, hb3, hf3, hk3, _⟩; have HB3 := Lib.hid hb3; have HF3 := Lib.hid hf3; have HK3 := Lib.hid (((Kt.refl w).alloc _).trans hk3); clear hb3 hf3 hk3)
    go_ret
    exact ⟨_, rfl, by rw [HT.out]; exact HB3.out, HF3.out, HK3.out⟩

theorem wrtL_at {l : List JV} {i : Nat} {b : Bool} (h : i < l.length) : JV.wrtL (l.drop i) b = (if b then [] else [44]) ++ JV.wrt l[i] ++ JV.wrtL (l.drop (i + 1)) false := by
  rw [List.drop_eq_getElem_cons h, JV.wrtL_cons]
theorem wrtM_at {l : List (List UInt8 × JV)} {i : Nat} {b : Bool} (h : i < l.length) : JV.wrtM (l.drop i) b = (if b then [] else [44]) ++ (JV.q l[i].1 ++ 58 :: JV.wrt l[i].2) ++ JV.wrtM (l.drop (i + 1)) false := by
  rw [List.drop_eq_getElem_cons h, JV.wrtM_cons]

/-- The loop over a list. -/
def WrI (w0 w wr : World) (o : Value) (T rest : List UInt8) : Prop := ∃ l', Bs wr w0.heap.size o l' ∧ Fr w0 wr ∧ Kt w wr ∧ l' ++ rest = T
theorem len_app {a b T : List UInt8} (h : a ++ b = T) (hT : T.length + 1 ≤ 140737488355328) : a.length + b.length + 1 ≤ 140737488355328 := by
  have := congrArg List.length h
  rw [List.length_append] at this
  omega

set_option maxHeartbeats 1500000 in
set_option maxRecDepth 100000 in
theorem write_list (n : Int) (s : List UInt8) (ls : List JV) (A : Option Addr) (c0 : Nat) (A' : Option Addr) (c0' M : Nat) (w0 w : World) (o : Value) (l : List UInt8) (hf : Fr w0 w) (hb : Bs w w0.heap.size o l)
    (hls : LsC w (Lo w0.heap.size) A ls) (h63 : l.length + (JV.wrtL ls true).length + 2 ≤ 140737488355328) (hl63 : ls.length ≤ 140737488355328) (ih : ∀ v ∈ ls, ∀ x, WrAt v x) :
    Calls Try.prog 10 #[o, .agg #[.int .i64 5, .int .i64 n, .string ⟨s.toArray⟩, .slice A ls.length c0, .slice A' M c0']] w fun e w' => ∃ v', e = .returned v' ∧ Bs w' w0.heap.size v' (l ++ 91 :: (JV.wrtL ls true ++ [93])) ∧ Fr w0 w' ∧ Kt w w' := by
  have HF := Lib.hid hf
  have HB : ∀ ob, Hid (Bs (w.alloc ob) w0.heap.size o l) := fun ob => hb.keep ((Fr.refl w).alloc ob)
  have HLS := Lib.hid hls
  have HIH := Lib.hid ih
  obtain ⟨L, hL⟩ : ∃ L, ls.length = L := ⟨_, rfl⟩
  obtain ⟨W, hW⟩ : ∃ W, JV.wrtL ls true = W := ⟨_, rfl⟩
  rw [hW] at h63 ⊢
  have HW := Lib.hid hW
  rw [hL] at hl63 ⊢
  have HL := Lib.hid hL
  have hT : Hid ((l ++ 91 :: W).length + 1 ≤ 140737488355328) := by show _ ≤ _; simp; omega
  have h640 : l.length + 1 ≤ 140737488355328 := by omega
  have htt : ∃ tt, tt ≠ 5 ∧ tt = 25 := ⟨_, by decide, rfl⟩
  clear hf hb hls ih hL hW htt
  go_enter Try.func10, Try.ntmps10
  go_wp2_with (at_builtin; refine wpl_bl_k rfl (.tmp 39) (.tmp 40) rfl w0 (HF.out.alloc _) o l rfl (HB _).out [91] rfl (by simp) rfl rfl rfl h640 ?_; intro v' w3 hb3 hf3 hk3; have hb5 : w3.cell? ⟨w.heap.size, 3, none⟩ = some (.slice A L c0) := (by rw [hk3.cell (heap_made _ _ _) (by decide), World.cell?_alloc_at _ _ _ _ (by simp)]; rfl); have HB3 := Lib.hid hb3; have HF3 := Lib.hid hf3; have HK3 := Lib.hid (((Kt.refl w).alloc _).trans hk3); clear hb3 hf3 hk3)
  go_loopw [0, 45] (fun o2 j wr => ∃ (i : Nat) (o1 : Value), i ≤ L ∧ o1 = o2 ∧ j = .int .i64 i ∧ Hid (WrI w0 w wr o1 (l ++ 91 :: W) (JV.wrtL (ls.drop i) (i == 0)))) (fun _ j _ => L - (intOf j).toNat)
  case atStart => exact ⟨0, _, by omega, rfl, rfl, Lib.hid ⟨_, HB3.out, HF3.out, HK3.out, by rw [List.drop_zero]; show _ ++ JV.wrtL ls true = _; rw [HW.out]; simp⟩⟩
  case round =>
    obtain ⟨i, o1, hi, rfl, rfl, hI⟩ := hrel
    obtain ⟨l1, hb1, hf1, hk1, ht1⟩ := hI.out
    have hlen := len_app ht1 hT.out
    have HB1 : ∀ ob, Hid (Bs (wr.alloc ob) w0.heap.size o1 l1) := fun ob => hb1.keep ((Fr.refl wr).alloc ob)
    have HBP := Lib.hid hb1
    have HF1 := Lib.hid hf1
    have HK1 := Lib.hid hk1
    have HT1 := Lib.hid ht1
    by_cases h : i < L
    · have hil : i < ls.length := by have := HL.out; omega
      obtain ⟨b, ob, B, dd, B', dd', rfl, hbb, ⟨e1, e2, e3, e4, e5⟩, hiv⟩ := (HLS.out.two HF.out hf1) i hil
      have hw := wrtL_at (b := i == 0) hil
      have hih := HIH.out ls[i] (List.getElem_mem hil)
      obtain ⟨u, hu⟩ : ∃ u, ls[i] = u := ⟨_, rfl⟩
      rw [hu] at e1 e2 e3 e4 e5 hiv hw hih
      rw [hw] at ht1 hlen
      have HT2 := Lib.hid ht1
      have HIU := Lib.hid hih
      have HIV := Lib.hid hiv
      clear hu hb1 hf1 hk1 ht1 hw hih hiv
      have h' : (i : Int) < (L : Int) := by omega
      simp only [List.length_append] at hlen
      rcases Nat.eq_zero_or_pos i with h0 | h0
      · subst h0
        simp only [Nat.zero_mul, Nat.add_zero] at e1 e2 e3 e4 e5
        simp only [beq_self_eq_true, if_true, List.length_nil] at hlen
        go_wp2_with (go_at_call 10; refine ((HIU.out (vA u B dd B' dd')).call w0 rfl (HF1.out.alloc _) (HB1 _).out (HIV.out.two HF1.out (HF1.out.alloc _)) (by omega)).mono ?_; rintro e w2 ⟨v2, rfl, hb2, hf2, hk2⟩; have HB2 := Lib.hid hb2; have HF2 := Lib.hid hf2; have HK2 := Lib.hid ((HK1.out.alloc _).trans hk2); clear hb2 hf2 hk2)
        refine ⟨⟨1, _, by omega, rfl, by go_num, Lib.hid ⟨_, HB2.out, HF2.out, HK2.out, ?_⟩⟩, by simp [intOf]; omega⟩
        rw [← HT2.out]; simp
      · have hi0 : decide ((0 : Int) < (i : Int)) = true := decide_eq_true (by omega)
        have hi1 : (i == 0) = false := by rw [beq_eq_false_iff_ne]; omega
        rw [hi1] at hlen
        simp only [Bool.false_eq_true, if_false, List.length_cons, List.length_nil] at hlen
        go_wp2_with (first
          | (go_at_call 10; refine ((HIU.out (vA u B dd B' dd')).call w0 rfl HF4.out HB4.out (HIV.out.two HF1.out HF4.out) (by simp only [List.length_append, List.length_cons, List.length_nil]; omega)).mono ?_; rintro e w2 ⟨v2, rfl, hb2, hf2, hk2⟩; have HB2 := Lib.hid hb2; have HF2 := Lib.hid hf2; have HK2 := Lib.hid (HK4.out.trans hk2); clear hb2 hf2 hk2)
          | (at_builtin; refine wpl_bl_k rfl (.tmp 52) (.tmp 53) rfl w0 (HF1.out.alloc _) o1 l1 rfl (HB1 _).out [44] rfl (by simp) rfl rfl rfl (by simp only [List.length_cons, List.length_nil]; omega) ?_; intro v' w4 hb4 hf4 hk4; have hy0 := hk4.cell (o := 0) (heap_made _ _ _) (by decide); have hy1 := hk4.cell (o := 1) (heap_made _ _ _) (by decide); have hy2 := hk4.cell (o := 2) (heap_made _ _ _) (by decide); have hy3 := hk4.cell (o := 3) (heap_made _ _ _) (by decide); have hy4 := hk4.cell (o := 4) (heap_made _ _ _) (by decide); have HB4 := Lib.hid hb4; have HF4 := Lib.hid hf4; have HK4 := Lib.hid ((HK1.out.alloc _).trans hk4); clear hb4 hf4 hk4))
        refine ⟨⟨i + 1, _, by omega, rfl, by go_num, Lib.hid ⟨_, HB2.out, HF2.out, HK2.out, ?_⟩⟩, by simp [intOf]; omega⟩
        rw [← HT2.out, hi1]; simp
    · obtain rfl : i = L := by omega
      have hd : l1 = l ++ 91 :: W := by
        have := HT1.out
        rw [← HL.out, List.drop_length, JV.wrtL_nil, List.append_nil] at this
        exact this
      have HD := Lib.hid hd
      have hz : l1.length + 1 ≤ 140737488355328 := by omega
      clear hb1 hf1 hk1 ht1 hd
      go_wp2_with (at_builtin; refine wpl_bl_k rfl (.tmp 59) (.tmp 60) rfl w0 HF1.out o1 l1 rfl HBP.out [93] rfl (by simp) rfl rfl rfl hz ?_; intro v' w4 hb4 hf4 hk4; have HB4 := Lib.hid hb4; have HF4 := Lib.hid hf4; have HK4 := Lib.hid (HK1.out.trans hk4); clear hb4 hf4 hk4)
      go_ret
      exact ⟨_, rfl, by have := HB4.out; rw [HD.out] at this; simpa using this, HF4.out, HK4.out⟩
end Go.Proofs.Ytgncdjcbphobmaa
