/- The walk of emit.write: maps. -/
import Derived.Test.YtgncdjcbphobmaaEmitW
import Derived.Deep.RegionHeld3
namespace Go.Proofs.Ytgncdjcbphobmaa
set_option linter.unusedVariables false
set_option linter.unusedSimpArgs false
open Go.RowKit

/-- A member lies in a block of its own. -/
def MBox (w : World) (Y : Nat) (nm : List UInt8) (u : JV) (B : Option Addr) (d : Nat) (B' : Option Addr) (d' : Nat) : Prop :=
  w.heap[Y]? = some (.cells #[.string ⟨nm.toArray⟩, .int .i64 u.kd, .int .i64 u.nm, .string ⟨u.tx.toArray⟩, .slice B u.ls.length d, .slice B' u.ms.length d'] 30 (0, 0))
def MCells (w : World) (Y : Nat) (nm : List UInt8) (u : JV) (B : Option Addr) (d : Nat) (B' : Option Addr) (d' : Nat) : Prop :=
  w.cell? ⟨Y, 0, none⟩ = some (.string ⟨nm.toArray⟩) ∧ w.cell? ⟨Y, 1, none⟩ = some (.int .i64 u.kd) ∧ w.cell? ⟨Y, 2, none⟩ = some (.int .i64 u.nm) ∧ w.cell? ⟨Y, 3, none⟩ = some (.string ⟨u.tx.toArray⟩) ∧ w.cell? ⟨Y, 4, none⟩ = some (.slice B u.ls.length d) ∧ w.cell? ⟨Y, 5, none⟩ = some (.slice B' u.ms.length d')
theorem MBox.cells {w : World} {Y : Nat} {nm : List UInt8} {u : JV} {B : Option Addr} {d : Nat} {B' : Option Addr} {d' : Nat} (h : MBox w Y nm u B d B' d') : MCells w Y nm u B d B' d' := by
  unfold MBox at h
  refine ⟨?_, ?_, ?_, ?_, ?_, ?_⟩ <;> simp [World.cell?, h]
theorem MBox.kt {w w' : World} {Y : Nat} {nm : List UInt8} {u : JV} {B : Option Addr} {d : Nat} {B' : Option Addr} {d' : Nat} (h : MBox w Y nm u B d B' d') (k : Kt w w') : MBox w' Y nm u B d B' d' := k.obj h (by decide)
theorem SM.kt {w w' : World} {Y : Nat} {nm : List UInt8} {u : JV} {B : Option Addr} {d : Nat} {B' : Option Addr} {d' : Nat} (h : MBox w Y nm u B d B' d') (k : Kt w w') : MBox w' Y nm u B d B' d' ∧ MCells w' Y nm u B d B' d' := ⟨h.kt k, (h.kt k).cells⟩

theorem grown_undrew {w w' : World} {r : Option Nat} (h : w.drew.grownBy w' r) : w.grownBy w' r := ⟨h.os, h.tape, h.output, h.size, h.block⟩

set_option maxHeartbeats 1500000 in
set_option maxRecDepth 100000 in
theorem write_map (k n : Int) (s : List UInt8) (ms : List (List UInt8 × JV)) (A : Option Addr) (c0 L : Nat) (A' : Option Addr) (c0' : Nat) (w0 w : World) (o : Value) (l : List UInt8) (hf : Fr w0 w) (hb : Bs w w0.heap.size o l)
    (hk : k ≠ 1 ∧ k ≠ 2 ∧ k ≠ 3 ∧ k ≠ 4 ∧ k ≠ 5)
    (hls : MsC w (Lo w0.heap.size) A' ms) (h63 : l.length + (JV.wrtM ms true).length + 2 ≤ 140737488355328) (hl63 : ms.length ≤ 140737488355328) (ih : ∀ p ∈ ms, ∀ x, WrAt p.2 x) :
    Calls Try.prog 10 #[o, .agg #[.int .i64 k, .int .i64 n, .string ⟨s.toArray⟩, .slice A L c0, .slice A' ms.length c0']] w fun e w' => ∃ v', e = .returned v' ∧ Bs w' w0.heap.size v' (l ++ 123 :: (JV.wrtM ms true ++ [125])) ∧ Fr w0 w' ∧ Kt w w' := by
  obtain ⟨k1, k2, k3, k4, k5⟩ := hk
  have q1 : (k == 1) = false := by rw [beq_eq_false_iff_ne]; exact k1
  have q2 : (k == 2) = false := by rw [beq_eq_false_iff_ne]; exact k2
  have q3 : (k == 3) = false := by rw [beq_eq_false_iff_ne]; exact k3
  have q4 : (k == 4) = false := by rw [beq_eq_false_iff_ne]; exact k4
  have q5 : (k == 5) = false := by rw [beq_eq_false_iff_ne]; exact k5
  have HF := Lib.hid hf
  have HB : ∀ ob, Hid (Bs (w.alloc ob) w0.heap.size o l) := fun ob => hb.keep ((Fr.refl w).alloc ob)
  have HLS := Lib.hid hls
  have HIH := Lib.hid ih
  obtain ⟨M, hM⟩ : ∃ M, ms.length = M := ⟨_, rfl⟩
  obtain ⟨W, hW⟩ : ∃ W, JV.wrtM ms true = W := ⟨_, rfl⟩
  rw [hW] at h63 ⊢
  have HW := Lib.hid hW
  rw [hM] at hl63 ⊢
  have HL := Lib.hid hM
  have hT : Hid ((l ++ 123 :: W).length + 1 ≤ 140737488355328) := by show _ ≤ _; simp; omega
  have h640 : l.length + 1 ≤ 140737488355328 := by omega
  clear hf hb hls ih hM hW k1 k2 k3 k4 k5
  go_enter Try.func10, Try.ntmps10
  go_wp2_with (at_builtin; refine wpl_bl_k rfl (.tmp 62) (.tmp 63) rfl w0 (HF.out.alloc _) o l rfl (HB _).out [123] rfl (by simp) rfl rfl rfl h640 ?_; intro v' w3 hb3 hf3 hk3; have hb5 : w3.cell? ⟨w.heap.size, 4, none⟩ = some (.slice A' M c0') := (by rw [hk3.cell (heap_made _ _ _) (by decide), World.cell?_alloc_at _ _ _ _ (by simp)]; rfl); have HB3 := Lib.hid hb3; have HF3 := Lib.hid hf3; have HK3 := Lib.hid (((Kt.refl w).alloc _).trans hk3); clear hb3 hf3 hk3)
  go_loopw [0, 68] (fun o2 j wr => ∃ (i : Nat) (o1 : Value), i ≤ M ∧ o1 = o2 ∧ j = .int .i64 i ∧ Hid (WrI w0 w wr o1 (l ++ 123 :: W) (JV.wrtM (ms.drop i) (i == 0)))) (fun _ j _ => M - (intOf j).toNat)
  case atStart => exact ⟨0, _, by omega, rfl, rfl, Lib.hid ⟨_, HB3.out, HF3.out, HK3.out, by rw [List.drop_zero]; show _ ++ JV.wrtM ms true = _; rw [HW.out]; simp⟩⟩
  case round =>
    obtain ⟨i, o1, hi, rfl, rfl, hI⟩ := hrel
    obtain ⟨l1, hb1, hf1, hk1, ht1⟩ := hI.out
    have hlen := len_app ht1 hT.out
    have HB1 : ∀ ob, Hid (Bs (wr.alloc ob) w0.heap.size o1 l1) := fun ob => hb1.keep ((Fr.refl wr).alloc ob)
    have HBP := Lib.hid hb1
    have HF1 := Lib.hid hf1
    have HK1 := Lib.hid hk1
    have HT1 := Lib.hid ht1
    by_cases h : i < M
    · have hil : i < ms.length := by have := HL.out; omega
      obtain ⟨b, ob, B, dd, B', dd', rfl, hbb, hnl, e0, ⟨e1, e2, e3, e4, e5⟩, hiv⟩ := (HLS.out.two HF.out hf1) i hil
      have hw := wrtM_at (b := i == 0) hil
      have hih := HIH.out ms[i] (List.getElem_mem hil)
      obtain ⟨u, hu⟩ : ∃ u, ms[i] = u := ⟨_, rfl⟩
      rw [hu] at e0 e1 e2 e3 e4 e5 hiv hw hih hnl
      obtain ⟨nm, u⟩ := u
      simp only at e0 e1 e2 e3 e4 e5 hiv hw hih hnl
      rw [hw] at ht1 hlen
      have HT2 := Lib.hid ht1
      have HIU := Lib.hid hih
      have HIV := Lib.hid hiv
      clear hu hb1 hf1 hk1 ht1 hw hih hiv
      have h' : (i : Int) < (M : Int) := by omega
      simp only [List.length_append, List.length_cons] at hlen
      rcases Nat.eq_zero_or_pos i with h0 | h0
      · subst h0
        simp only [Nat.zero_mul, Nat.add_zero] at e0 e1 e2 e3 e4 e5
        simp only [beq_self_eq_true, if_true, List.length_nil] at hlen
        go_wp2_with fail
        have hS0 : MBox (wr.alloc (.cells #[.string ⟨nm.toArray⟩, .int .i64 u.kd, .int .i64 u.nm, .string ⟨u.tx.toArray⟩, .slice B u.ls.length dd, .slice B' u.ms.length dd'] 30)) wr.heap.size nm u B dd B' dd' := heap_made _ _ _
        generalize hwz : (wr.alloc (.cells #[.string ⟨nm.toArray⟩, .int .i64 u.kd, .int .i64 u.nm, .string ⟨u.tx.toArray⟩, .slice B u.ls.length dd, .slice B' u.ms.length dd'] 30)) = wz at hS0 ⊢
        have hS0 := Lib.hid hS0
        have HFz : Hid (Fr w0 wz) := by have := HF1.out.alloc (.cells #[.string ⟨nm.toArray⟩, .int .i64 u.kd, .int .i64 u.nm, .string ⟨u.tx.toArray⟩, .slice B u.ls.length dd, .slice B' u.ms.length dd'] 30); rw [hwz] at this; exact this
        have HKz : Hid (Kt w wz) := by have := HK1.out.alloc (.cells #[.string ⟨nm.toArray⟩, .int .i64 u.kd, .int .i64 u.nm, .string ⟨u.tx.toArray⟩, .slice B u.ls.length dd, .slice B' u.ms.length dd'] 30); rw [hwz] at this; exact this
        have HBz : Hid (Bs wz w0.heap.size o1 l1) := by have := (HB1 (.cells #[.string ⟨nm.toArray⟩, .int .i64 u.kd, .int .i64 u.nm, .string ⟨u.tx.toArray⟩, .slice B u.ls.length dd, .slice B' u.ms.length dd'] 30)).out; rw [hwz] at this; exact this
        have hq1 : l1.length + (JV.q nm).length ≤ 140737488355328 := by omega
        have hq2 : (l1 ++ JV.q nm).length + [(58 : UInt8)].length ≤ 140737488355328 := by simp only [List.length_append, List.length_cons, List.length_nil]; omega
        have hq3 : (l1 ++ JV.q nm ++ [58]).length + (JV.wrt u).length ≤ 140737488355328 := by simp only [List.length_append, List.length_cons, List.length_nil]; omega
        generalize wr.heap.size = Y at hS0 ⊢
        clear hwz
        (go_region_held3 (fun w' => MBox w' Y nm u B dd B' dd' ∧ w'.cell? ⟨Y, 0, none⟩ = some (.string ⟨nm.toArray⟩) ∧ w'.cell? ⟨Y, 1, none⟩ = some (.int .i64 u.kd) ∧ w'.cell? ⟨Y, 2, none⟩ = some (.int .i64 u.nm) ∧ w'.cell? ⟨Y, 3, none⟩ = some (.string ⟨u.tx.toArray⟩) ∧ w'.cell? ⟨Y, 4, none⟩ = some (.slice B u.ls.length dd) ∧ w'.cell? ⟨Y, 5, none⟩ = some (.slice B' u.ms.length dd'))
          (first | exact SM.kt hS0.out HK7.out | exact SM.kt hS0.out HK6.out | exact SM.kt hS0.out HK5.out | exact SM.kt hS0.out (HK5.out.alloc _) | exact SM.kt hS0.out ((Kt.refl wz).alloc _).drew | exact SM.kt hS0.out (Kt.refl wz).drew)
          (first
            | (go_at_call 14; refine (equote_is w0 nm o1 l1 _ (by first | exact HFz.out.drew | exact (HFz.out.alloc _).drew) (by first | exact HBz.out | exact HBz.out.keep ((Fr.refl _).alloc _).drew) hnl hq1).mono ?_; rintro e w5 ⟨v5, rfl, hb5, hf5, hk5, hg5⟩; (first | (have HLT := Lib.hid (Bs.lit_kept (news := [58]) (w := wz) HBz.out (by decide) (grown_undrew hg5)); have HK5 := Lib.hid (((Kt.refl wz).alloc _).drew.trans hk5)) | (have HK5 := Lib.hid ((Kt.refl wz).drew.trans hk5))); have HB5 := Lib.hid hb5; have HF5 := Lib.hid hf5; clear hb5 hf5 hk5 hg5)
            | (refine step_bs_k (by rfl) (.tmp 81) (.tmp 82) (by rfl) w0 HF5.out _ _ (by rfl) HB5.out _ _ [58] (by rfl) HLT.out hq2 ?_; intro v6 w6 hb6 hf6 hk6; have HK6 := Lib.hid (HK5.out.trans hk6); have HB6 := Lib.hid hb6; have HF6 := Lib.hid hf6; clear hb6 hf6 hk6)
            | (refine step_bs_k (by rfl) (.tmp 81) (.tmp 82) (by rfl) w0 (HF5.out.alloc _) _ _ (by rfl) (HB5.out.keep ((Fr.refl _).alloc _)) _ _ [58] (by rfl) (Bs.made _ [58] (by decide)) hq2 ?_; intro v6 w6 hb6 hf6 hk6; have HK6 := Lib.hid ((HK5.out.alloc _).trans hk6); have HB6 := Lib.hid hb6; have HF6 := Lib.hid hf6; clear hb6 hf6 hk6)
            | (go_at_call 10; refine ((HIU.out (vA u B dd B' dd')).call w0 rfl HF6.out HB6.out (HIV.out.two HF1.out HF6.out) hq3).mono ?_; rintro e w7 ⟨v7, rfl, hb7, hf7, hk7⟩; have HK7 := Lib.hid (HK6.out.trans hk7); have HB7 := Lib.hid hb7; have HF7 := Lib.hid hf7; clear hb7 hf7 hk7)))
        all_goals
          go_wp2_with fail
        all_goals
          refine ⟨⟨1, _, by omega, rfl, by go_num, Lib.hid ⟨_, HB7.out, HF7.out, HKz.out.trans HK7.out, ?_⟩⟩, by simp [intOf]; omega⟩
          rw [← HT2.out]; simp
      · have hi0 : decide ((0 : Int) < (i : Int)) = true := decide_eq_true (by omega)
        have hi1 : (i == 0) = false := by rw [beq_eq_false_iff_ne]; omega
        rw [hi1] at hlen
        simp only [Bool.false_eq_true, if_false, List.length_cons, List.length_nil] at hlen
        go_wp2_with (at_builtin; refine wpl_bl_k rfl (.tmp 75) (.tmp 76) rfl w0 (HF1.out.alloc _) o1 l1 rfl (HB1 _).out [44] rfl (by simp) rfl rfl rfl (by simp only [List.length_cons, List.length_nil]; omega) ?_; intro v4 wz hb4 hf4 hk4; have hS0 : Hid (MBox wz wr.heap.size nm u B dd B' dd') := MBox.kt (heap_made wr _ _) hk4; have HBz := Lib.hid hb4; have HFz := Lib.hid hf4; have HKz := Lib.hid ((HK1.out.alloc _).trans hk4); clear hb4 hf4 hk4)
        have hq1 : (l1 ++ [44]).length + (JV.q nm).length ≤ 140737488355328 := by simp only [List.length_append, List.length_cons, List.length_nil]; omega
        have hq2 : (l1 ++ [44] ++ JV.q nm).length + [(58 : UInt8)].length ≤ 140737488355328 := by simp only [List.length_append, List.length_cons, List.length_nil]; omega
        have hq3 : (l1 ++ [44] ++ JV.q nm ++ [58]).length + (JV.wrt u).length ≤ 140737488355328 := by simp only [List.length_append, List.length_cons, List.length_nil]; omega
        generalize wr.heap.size = Y at hS0 ⊢
        (go_region_held3 (fun w' => MBox w' Y nm u B dd B' dd' ∧ w'.cell? ⟨Y, 0, none⟩ = some (.string ⟨nm.toArray⟩) ∧ w'.cell? ⟨Y, 1, none⟩ = some (.int .i64 u.kd) ∧ w'.cell? ⟨Y, 2, none⟩ = some (.int .i64 u.nm) ∧ w'.cell? ⟨Y, 3, none⟩ = some (.string ⟨u.tx.toArray⟩) ∧ w'.cell? ⟨Y, 4, none⟩ = some (.slice B u.ls.length dd) ∧ w'.cell? ⟨Y, 5, none⟩ = some (.slice B' u.ms.length dd'))
          (first | exact SM.kt hS0.out HK7.out | exact SM.kt hS0.out HK6.out | exact SM.kt hS0.out HK5.out | exact SM.kt hS0.out (HK5.out.alloc _) | exact SM.kt hS0.out ((Kt.refl wz).alloc _).drew | exact SM.kt hS0.out (Kt.refl wz).drew)
          (first
            | (go_at_call 14; refine (equote_is w0 nm v4 (l1 ++ [44]) _ (by first | exact HFz.out.drew | exact (HFz.out.alloc _).drew) (by first | exact HBz.out | exact HBz.out.keep ((Fr.refl _).alloc _).drew) hnl hq1).mono ?_; rintro e w5 ⟨v5, rfl, hb5, hf5, hk5, hg5⟩; (first | (have HLT := Lib.hid (Bs.lit_kept (news := [58]) (w := wz) HBz.out (by decide) (grown_undrew hg5)); have HK5 := Lib.hid (((Kt.refl wz).alloc _).drew.trans hk5)) | (have HK5 := Lib.hid ((Kt.refl wz).drew.trans hk5))); have HB5 := Lib.hid hb5; have HF5 := Lib.hid hf5; clear hb5 hf5 hk5 hg5)
            | (refine step_bs_k (by rfl) (.tmp 81) (.tmp 82) (by rfl) w0 HF5.out _ _ (by rfl) HB5.out _ _ [58] (by rfl) HLT.out hq2 ?_; intro v6 w6 hb6 hf6 hk6; have HK6 := Lib.hid (HK5.out.trans hk6); have HB6 := Lib.hid hb6; have HF6 := Lib.hid hf6; clear hb6 hf6 hk6)
            | (refine step_bs_k (by rfl) (.tmp 81) (.tmp 82) (by rfl) w0 (HF5.out.alloc _) _ _ (by rfl) (HB5.out.keep ((Fr.refl _).alloc _)) _ _ [58] (by rfl) (Bs.made _ [58] (by decide)) hq2 ?_; intro v6 w6 hb6 hf6 hk6; have HK6 := Lib.hid ((HK5.out.alloc _).trans hk6); have HB6 := Lib.hid hb6; have HF6 := Lib.hid hf6; clear hb6 hf6 hk6)
            | (go_at_call 10; refine ((HIU.out (vA u B dd B' dd')).call w0 rfl HF6.out HB6.out (HIV.out.two HF1.out HF6.out) hq3).mono ?_; rintro e w7 ⟨v7, rfl, hb7, hf7, hk7⟩; have HK7 := Lib.hid (HK6.out.trans hk7); have HB7 := Lib.hid hb7; have HF7 := Lib.hid hf7; clear hb7 hf7 hk7)))
        all_goals
          go_wp2_with fail
        all_goals
          refine ⟨⟨i + 1, _, by omega, rfl, by go_num, Lib.hid ⟨_, HB7.out, HF7.out, HKz.out.trans HK7.out, ?_⟩⟩, by simp [intOf]; omega⟩
          rw [← HT2.out, hi1]; simp
    · obtain rfl : i = M := by omega
      have hd : l1 = l ++ 123 :: W := by
        have := HT1.out
        rw [← HL.out, List.drop_length, JV.wrtM_nil, List.append_nil] at this
        exact this
      have HD := Lib.hid hd
      have hz : l1.length + 1 ≤ 140737488355328 := by omega
      clear hb1 hf1 hk1 ht1 hd
      go_wp2_with (at_builtin; refine wpl_bl_k rfl (.tmp 88) (.tmp 89) rfl w0 HF1.out o1 l1 rfl HBP.out [125] rfl (by simp) rfl rfl rfl hz ?_; intro v' w4 hb4 hf4 hk4; have HB4 := Lib.hid hb4; have HF4 := Lib.hid hf4; have HK4 := Lib.hid (HK1.out.trans hk4); clear hb4 hf4 hk4)
      go_ret
      exact ⟨_, rfl, by have := HB4.out; rw [HD.out] at this; simpa using this, HF4.out, HK4.out⟩

/-- The walk of emit.write. -/
theorem write_is (v : JV) : ∀ x : Value, WrAt v x := by
  induction v using JV.ind with
  | h k n s l m ihl ihm =>
    intro x w0 w o ll hf hb hv h63
    obtain ⟨⟨hn1, hn2⟩, _, hs, hl63, hm63⟩ := hv.facts
    obtain ⟨A, c0, A', c0', rfl, hls, hms⟩ := hv.open_
    have hn1 : -9223372036854775808 ≤ n := hn1
    have hn2 : n ≤ 9223372036854775807 := hn2
    have hs : s.length ≤ 140737488355328 := hs
    have hl63 : l.length ≤ 140737488355328 := hl63
    have hm63 : m.length ≤ 140737488355328 := hm63
    have hls : LsC w (Lo w0.heap.size) A l := hls
    have hms : MsC w (Lo w0.heap.size) A' m := hms
    show Calls Try.prog _ #[o, .agg #[.int .i64 k, .int .i64 n, .string ⟨s.toArray⟩, .slice A l.length c0, .slice A' m.length c0']] _ _
    rw [JV.wrt_mk] at h63 ⊢
    by_cases h1 : k = 1
    · rw [if_pos h1] at h63 ⊢
      exact write_leaf k n s A c0 _ A' c0' _ _ w0 w o ll hf hb hn1 hn2 hs (.inl ⟨h1, rfl⟩) h63
    rw [if_neg h1] at h63 ⊢
    by_cases h2 : k = 2
    · rw [if_pos h2] at h63 ⊢
      by_cases h2n : n = 1
      · rw [if_pos h2n] at h63 ⊢
        exact write_leaf k n s A c0 _ A' c0' _ _ w0 w o ll hf hb hn1 hn2 hs (.inr (.inl ⟨h2, h2n, rfl⟩)) h63
      · rw [if_neg h2n] at h63 ⊢
        exact write_leaf k n s A c0 _ A' c0' _ _ w0 w o ll hf hb hn1 hn2 hs (.inr (.inr (.inl ⟨h2, h2n, rfl⟩))) h63
    rw [if_neg h2] at h63 ⊢
    by_cases h3 : k = 3
    · rw [if_pos h3] at h63 ⊢
      exact write_leaf k n s A c0 _ A' c0' _ _ w0 w o ll hf hb hn1 hn2 hs (.inr (.inr (.inr (.inl ⟨h3, rfl⟩)))) h63
    rw [if_neg h3] at h63 ⊢
    by_cases h4 : k = 4
    · rw [if_pos h4] at h63 ⊢
      exact write_leaf k n s A c0 _ A' c0' _ _ w0 w o ll hf hb hn1 hn2 hs (.inr (.inr (.inr (.inr ⟨h4, rfl⟩)))) h63
    rw [if_neg h4] at h63 ⊢
    by_cases h5 : k = 5
    · rw [if_pos h5] at h63 ⊢
      subst h5
      exact write_list n s l A c0 A' c0' _ w0 w o ll hf hb hls (by simp only [List.length_cons, List.length_append, List.length_nil] at h63; omega) hl63 ihl
    · rw [if_neg h5] at h63 ⊢
      exact write_map k n s m A c0 _ A' c0' w0 w o ll hf hb ⟨h1, h2, h3, h4, h5⟩ hms (by simp only [List.length_cons, List.length_append, List.length_nil] at h63; omega) hm63 ihm
end Go.Proofs.Ytgncdjcbphobmaa
