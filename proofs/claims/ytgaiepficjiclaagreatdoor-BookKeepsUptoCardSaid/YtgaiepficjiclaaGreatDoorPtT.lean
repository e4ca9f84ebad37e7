/- The walks of the document's Own, Count (cardboxref07). -/
import Derived.Test.YtgaiepficjiclaaGreatDoorPtS
import Derived.Test.YtgaiepficjiclaaGreatDoorReadL
namespace Go.Proofs.YtgaiepficjiclaaGreatDoor
set_option maxRecDepth 100000
set_option maxHeartbeats 4000000
set_option linter.unusedVariables false
set_option linter.unusedSimpArgs false
open Go.RowKit

theorem own7_is (v : JV) : ∀ (x : Value) (w : World), InV w (Lo w.heap.size) v x → Calls Tryz.prog 25 #[x] w fun e w' => (∃ b : Bool, e = .returned (.bool b)) ∧ Fr w w' := by
 induction v using JV.ind with
 | h k n s l m ihl ihm =>
  intro x w hv
  obtain ⟨A, c0, A', c0', rfl, hls, hms⟩ := hv.open_
  obtain ⟨_, _, _, hl63, hm63⟩ := hv.facts
  have hl63 : l.length ≤ 140737488355328 := hl63
  have hm63 : m.length ≤ 140737488355328 := hm63
  have HLS := Lib.hid hls
  have HMS := Lib.hid hms
  have HIHL := Lib.hid ihl
  have HIHM := Lib.hid ihm
  have hl63' : (l.length : Int) ≤ 140737488355328 := by omega
  have hm63' : (m.length : Int) ≤ 140737488355328 := by omega
  obtain ⟨L, hL⟩ : ∃ L, l.length = L := ⟨_, rfl⟩
  obtain ⟨M, hM⟩ : ∃ M, m.length = M := ⟨_, rfl⟩
  rw [hL] at hl63'
  rw [hM] at hm63'
  have HL := Lib.hid hL
  have HM := Lib.hid hM
  show Calls Tryz.prog _ #[.agg #[.int .i64 k, .int .i64 n, .string ⟨s.toArray⟩, .slice A l.length c0, .slice A' m.length c0']] _ _
  rw [hL, hM]
  have hgo : ∀ wr : World, Hid (Fr (w.alloc (.cells #[.int .i64 k, .int .i64 n, .string ⟨s.toArray⟩, .slice A L c0, .slice A' M c0'] 25)) wr) → wr.cell? ⟨w.heap.size, 3, none⟩ = some (.slice A L c0) ∧ wr.cell? ⟨w.heap.size, 4, none⟩ = some (.slice A' M c0') := fun wr hf =>
   ⟨((Blk.made w #[.int .i64 k, .int .i64 n, .string ⟨s.toArray⟩, .slice A L c0, .slice A' M c0'] 25).keep hf.out).cell 3, ((Blk.made w #[.int .i64 k, .int .i64 n, .string ⟨s.toArray⟩, .slice A L c0, .slice A' M c0'] 25).keep hf.out).cell 4⟩
  have HGO := Lib.hid hgo
  have top : (k ≠ 5 ∧ 0 < L) ∨ (k = 5 ∧ 0 < M) ∨ (k ≠ 5 ∧ L = 0 ∧ k ≠ 6 ∧ 0 < M) ∨ ((k = 5 ∨ L = 0) ∧ (k = 6 ∨ M = 0)) := by omega
  clear hls hms ihl ihm hl63 hm63 hL hM hv hgo
  rcases top with ⟨h1, h2⟩ | ⟨h1, h2⟩ | ⟨h1, h2, h3, h4⟩ | top
  ·obtain ⟨q1, q2⟩ := ikind h1
   have h2' : (0 : Int) < (L : Int) := by omega
   have d2 : decide ((0 : Int) < (L : Int)) = true := decide_eq_true h2'
   clear h1
   go_enter Tryz.func25, Tryz.ntmps25
   go_wp2_with fail
   go_ret
   exact ⟨⟨_, rfl⟩, (Fr.refl w).alloc _⟩
  ·subst h1
   have h2' : (0 : Int) < (M : Int) := by omega
   have d2 : decide ((0 : Int) < (M : Int)) = true := decide_eq_true h2'
   go_enter Tryz.func25, Tryz.ntmps25
   go_wp2_with fail
   go_ret
   exact ⟨⟨_, rfl⟩, (Fr.refl w).alloc _⟩
  ·obtain ⟨q1, q2⟩ := ikind h1
   obtain ⟨q3, q4⟩ := ikind h3
   subst h2
   have h2' : (0 : Int) < (M : Int) := by omega
   have d2 : decide ((0 : Int) < (M : Int)) = true := decide_eq_true h2'
   clear h1 h3
   go_enter Tryz.func25, Tryz.ntmps25
   go_wp2_with fail
   go_ret
   exact ⟨⟨_, rfl⟩, (Fr.refl w).alloc _⟩
  ·have four : (((k != 5) = false ∧ ((k != 6) = true ∧ ¬ ((0 : Int) < (M : Int)) ∧ ¬ (0 < M))) ∨ ((k != 5) = true ∧ (¬ ((0 : Int) < (L : Int)) ∧ ¬ (0 < L)) ∧ (k != 6) = false)) ∨ ((k != 5) = true ∧ (¬ ((0 : Int) < (L : Int)) ∧ ¬ (0 < L)) ∧ ((k != 6) = true ∧ ¬ ((0 : Int) < (M : Int)) ∧ ¬ (0 < M))) := by
    by_cases h5 : k = 5
    ·subst h5
     refine .inl (.inl ⟨by decide, by decide, ?_, ?_⟩) <;> omega
    ·by_cases h6 : k = 6
     ·subst h6
      refine .inl (.inr ⟨by decide, ⟨?_, ?_⟩, by decide⟩) <;> omega
     ·refine .inr ⟨(ikind h5).2, ⟨?_, ?_⟩, (ikind h6).2, ?_, ?_⟩ <;> omega
   clear top
   rcases four with (⟨q1, q2, q3, q4⟩ | ⟨q1, ⟨q2, q3⟩, q4⟩) | ⟨q1, ⟨q2, q3⟩, q4, q5, q6⟩
   all_goals
    go_enter Tryz.func25, Tryz.ntmps25
    go_wp2_with fail
    go_loopw [3] (fun j wr => ∃ (i : Nat), i ≤ L ∧ j = .int .i64 i ∧ Hid (Fr (w.alloc (.cells #[.int .i64 k, .int .i64 n, .string ⟨s.toArray⟩, .slice A L c0, .slice A' M c0'] 25)) wr)) (fun j _ => L - (intOf j).toNat)
    case atStart => exact ⟨0, by omega, rfl, Lib.hid (Fr.refl _)⟩
    case round =>
     obtain ⟨i, hi, rfl, hF⟩ := hrel
     obtain ⟨y3, y4⟩ := HGO.out wr hF
     by_cases h : i < L
     ·try (exact absurd h (by omega))
      all_goals
       have hil : i < l.length := by have := HL.out; omega
       obtain ⟨b, o, B, dd, B', dd', rfl, hb, ⟨e1, e2, e3, e4, e5⟩, hiv⟩ := (show LsC wr (Lo w.heap.size) A l from HLS.out.keep (Nat.le_refl _) (((Fr.refl w).alloc _).trans hF.out)) i hil
       have hih := HIHL.out l[i] (List.getElem_mem hil)
       obtain ⟨u, hu⟩ : ∃ u, l[i] = u := ⟨_, rfl⟩
       rw [hu] at e1 e2 e3 e4 e5 hiv hih
       clear hu
       have HCT := Lib.hid (hih _ wr (hiv.lo (Nat.le_trans (by simp) (Fr.size hF.out))))
       have h' : (i : Int) < (L : Int) := by omega
       clear hih hiv
       go_wp2_with (go_at_call 25; refine HCT.out.mono ?_; rintro e w2 ⟨⟨b2, rfl⟩, hf⟩; have HF2 := Lib.hid (Fr.trans hF.out hf); clear hf; cases b2)
       all_goals first
        | exact ⟨⟨i + 1, by omega, by go_num, HF2⟩, by simp [intOf]; omega⟩
        | (go_ret; exact ⟨⟨_, rfl⟩, ((Fr.refl w).alloc _).trans HF2.out⟩)
     ·go_wp2_with fail
      go_loopw [4] (fun j wr => ∃ (i : Nat), i ≤ M ∧ j = .int .i64 i ∧ Hid (Fr (w.alloc (.cells #[.int .i64 k, .int .i64 n, .string ⟨s.toArray⟩, .slice A L c0, .slice A' M c0'] 25)) wr)) (fun j _ => M - (intOf j).toNat)
      case atStart => exact ⟨0, by omega, rfl, hF⟩
      case round =>
       obtain ⟨i, hi, rfl, hF⟩ := hrel
       obtain ⟨y3, y4⟩ := HGO.out wr hF
       by_cases h : i < M
       ·try (exact absurd h (by omega))
        all_goals
         have hil : i < m.length := by have := HM.out; omega
         obtain ⟨b, o, B, dd, B', dd', rfl, hb, hnl, e0, ⟨e1, e2, e3, e4, e5⟩, hiv⟩ := (show MsC wr (Lo w.heap.size) A' m from HMS.out.keep (Nat.le_refl _) (((Fr.refl w).alloc _).trans hF.out)) i hil
         have hih := HIHM.out m[i] (List.getElem_mem hil)
         obtain ⟨u, hu⟩ : ∃ u, m[i].2 = u := ⟨_, rfl⟩
         rw [hu] at e1 e2 e3 e4 e5 hiv hih
         clear hu
         have HCT := Lib.hid (hih _ wr (hiv.lo (Nat.le_trans (by simp) (Fr.size hF.out))))
         have h' : (i : Int) < (M : Int) := by omega
         clear hih hiv
         go_wp2_with (go_at_call 25; refine HCT.out.mono ?_; rintro e w2 ⟨⟨b2, rfl⟩, hf⟩; have HF2 := Lib.hid (Fr.trans hF.out hf); clear hf; cases b2)
         all_goals first
          | exact ⟨⟨i + 1, by omega, by go_num, HF2⟩, by simp [intOf]; omega⟩
          | (go_ret; exact ⟨⟨_, rfl⟩, ((Fr.refl w).alloc _).trans HF2.out⟩)
       ·go_wp2_with fail
        go_ret
        exact ⟨⟨_, rfl⟩, ((Fr.refl w).alloc _).trans hF.out⟩

def C7At (v : JV) (x : Value) (w : World) : Prop := ∀ most : Int, 0 ≤ most → most ≤ 9000000000000000000 → Calls Tryz.prog 24 #[x, .int .i64 most] w fun e w' => (∃ z : Int, e = .returned (.int .i64 z) ∧ 1 ≤ z ∧ z ≤ (Rd.nv v : Nat)) ∧ Fr w w'

theorem count7_is (v : JV) : ∀ (x : Value) (w : World), InV w (Lo w.heap.size) v x → Rd.nv v ≤ 1048576 → C7At v x w := by
 induction v using JV.ind with
 | h k n s l m ihl ihm =>
  intro x w hv hn most hm0 hm1
  obtain ⟨A, c0, A', c0', rfl, hls, hms⟩ := hv.open_
  obtain ⟨_, _, _, hl63, hm63⟩ := hv.facts
  have hl63 : l.length ≤ 140737488355328 := hl63
  have hm63 : m.length ≤ 140737488355328 := hm63
  rw [Rd.nv_mk] at hn ⊢
  have HN := Lib.hid hn
  have HLS := Lib.hid hls
  have HMS := Lib.hid hms
  have HIHL := Lib.hid ihl
  have HIHM := Lib.hid ihm
  have hl63' : (l.length : Int) ≤ 140737488355328 := by omega
  have hm63' : (m.length : Int) ≤ 140737488355328 := by omega
  obtain ⟨L, hL⟩ : ∃ L, l.length = L := ⟨_, rfl⟩
  obtain ⟨M, hM⟩ : ∃ M, m.length = M := ⟨_, rfl⟩
  rw [hL] at hl63'
  rw [hM] at hm63'
  have HL := Lib.hid hL
  have HM := Lib.hid hM
  show Calls Tryz.prog _ #[.agg #[.int .i64 k, .int .i64 n, .string ⟨s.toArray⟩, .slice A l.length c0, .slice A' m.length c0'], _] _ _
  rw [hL, hM]
  have hgo : ∀ wr : World, Hid (Fr (w.alloc (.cells #[.int .i64 k, .int .i64 n, .string ⟨s.toArray⟩, .slice A L c0, .slice A' M c0'] 25)) wr) → wr.cell? ⟨w.heap.size, 3, none⟩ = some (.slice A L c0) ∧ wr.cell? ⟨w.heap.size, 4, none⟩ = some (.slice A' M c0') := fun wr hf =>
   ⟨((Blk.made w #[.int .i64 k, .int .i64 n, .string ⟨s.toArray⟩, .slice A L c0, .slice A' M c0'] 25).keep hf.out).cell 3, ((Blk.made w #[.int .i64 k, .int .i64 n, .string ⟨s.toArray⟩, .slice A L c0, .slice A' M c0'] 25).keep hf.out).cell 4⟩
  have HGO := Lib.hid hgo
  clear hls hms ihl ihm hl63 hm63 hL hM hv hgo hn
  go_enter Tryz.func24, Tryz.ntmps24
  go_wp2_with fail
  go_loopw [5, 6] (fun a j wr => ∃ (i : Nat) (z : Int), i ≤ L ∧ j = .int .i64 i ∧ a = .int .i64 z ∧ 1 ≤ z ∧ z ≤ 1048576 ∧ Hid (z ≤ ((1 + Rd.nvL (l.take i) : Nat) : Int)) ∧ Hid (Fr (w.alloc (.cells #[.int .i64 k, .int .i64 n, .string ⟨s.toArray⟩, .slice A L c0, .slice A' M c0'] 25)) wr)) (fun _ j _ => L - (intOf j).toNat)
  case atStart => exact ⟨0, 1, by omega, rfl, rfl, by omega, by omega, Lib.hid (by omega), Lib.hid (Fr.refl _)⟩
  case round =>
   obtain ⟨i, z, hi, rfl, rfl, hz1, hz2, hz, hF⟩ := hrel
   obtain ⟨y3, y4⟩ := HGO.out wr hF
   have fin : Hid (z ≤ ((1 + Rd.nvL l : Nat) : Int)) := by
    have := Rd.nvL_take_le l i
    have := hz.out
    show _ ≤ _
    omega
   have alt : (i < L ∧ z ≤ most) ∨ (i < L ∧ ¬ z ≤ most) ∨ ¬ i < L := by omega
   rcases alt with ⟨h, hzm⟩ | alt
   ·have hil : i < l.length := by have := HL.out; omega
    obtain ⟨b, o, B, dd, B', dd', rfl, hb, ⟨e1, e2, e3, e4, e5⟩, hiv⟩ := (show LsC wr (Lo w.heap.size) A l from HLS.out.keep (Nat.le_refl _) (((Fr.refl w).alloc _).trans hF.out)) i hil
    have hih := HIHL.out l[i] (List.getElem_mem hil)
    have hnt := Rd.nvL_take hil
    have hnm := Rd.nvL_mem (List.getElem_mem hil)
    have hnl := Rd.nvL_take_le l (i + 1)
    obtain ⟨u, hu⟩ : ∃ u, l[i] = u := ⟨_, rfl⟩
    rw [hu] at e1 e2 e3 e4 e5 hiv hih hnt hnm
    clear hu
    have HCT := Lib.hid (hih _ wr (hiv.lo (Nat.le_trans (by simp) (Fr.size hF.out))) (by have := HN.out; omega))
    have HNT : Hid (∀ y : Int, y ≤ (Rd.nv u : Nat) → z + y ≤ 1048576 ∧ z + y ≤ ((1 + Rd.nvL (l.take (i + 1)) : Nat) : Int)) := fun y hy => by
     have := hz.out
     have := HN.out
     constructor <;> omega
    have HNU : Hid (Rd.nv u ≤ 1048576) := by have := HN.out; show _ ≤ _; omega
    have h' : (i : Int) < (L : Int) := by omega
    clear hih hiv hnt hnm hnl fin
    go_wp2_with (go_at_call 24; refine (HCT.out _ (by omega) (by omega)).mono ?_; rintro e w2 ⟨⟨y, rfl, p1, p2⟩, hf⟩; obtain ⟨p3, p4⟩ := HNT.out y p2; have P4 := Lib.hid p4; have HF2 := Lib.hid (Fr.trans hF.out hf); clear hf p2 p4)
    exact ⟨⟨i + 1, z + y, by omega, by go_num, by go_num, by omega, p3, P4, HF2⟩, by simp [intOf]; omega⟩
   ·rcases alt with ⟨h, hzm⟩ | h
    all_goals
     clear hz
     go_wp2_with fail
     go_loopw [5, 7] (fun a j wr => ∃ (i : Nat) (z : Int), i ≤ M ∧ j = .int .i64 i ∧ a = .int .i64 z ∧ 1 ≤ z ∧ z ≤ 1048576 ∧ Hid (z ≤ ((1 + Rd.nvL l + Rd.nvM (m.take i) : Nat) : Int)) ∧ Hid (Fr (w.alloc (.cells #[.int .i64 k, .int .i64 n, .string ⟨s.toArray⟩, .slice A L c0, .slice A' M c0'] 25)) wr)) (fun _ j _ => M - (intOf j).toNat)
     case atStart => exact ⟨0, z, by omega, rfl, rfl, hz1, hz2, Lib.hid (by have := fin.out; omega), hF⟩
     case round =>
      obtain ⟨i, z, hi, rfl, rfl, hz1, hz2, hz, hF⟩ := hrel
      obtain ⟨y3, y4⟩ := HGO.out wr hF
      have fin : Hid (z ≤ ((1 + Rd.nvL l + Rd.nvM m : Nat) : Int)) := by
       have := Rd.nvM_take_le m i
       have := hz.out
       show _ ≤ _
       omega
      have alt : (i < M ∧ z ≤ most) ∨ (i < M ∧ ¬ z ≤ most) ∨ ¬ i < M := by omega
      rcases alt with ⟨h, hzm⟩ | ⟨h, hzm⟩ | h
      ·have hil : i < m.length := by have := HM.out; omega
       obtain ⟨b, o, B, dd, B', dd', rfl, hb, hnl0, e0, ⟨e1, e2, e3, e4, e5⟩, hiv⟩ := (show MsC wr (Lo w.heap.size) A' m from HMS.out.keep (Nat.le_refl _) (((Fr.refl w).alloc _).trans hF.out)) i hil
       have hih := HIHM.out m[i] (List.getElem_mem hil)
       have hnt := Rd.nvM_take hil
       have hnm := Rd.nvM_mem (List.getElem_mem hil)
       have hnl := Rd.nvM_take_le m (i + 1)
       obtain ⟨u, hu⟩ : ∃ u, m[i].2 = u := ⟨_, rfl⟩
       rw [hu] at e1 e2 e3 e4 e5 hiv hih hnt hnm
       clear hu
       have HCT := Lib.hid (hih _ wr (hiv.lo (Nat.le_trans (by simp) (Fr.size hF.out))) (by have := HN.out; omega))
       have HNT : Hid (∀ y : Int, y ≤ (Rd.nv u : Nat) → z + y ≤ 1048576 ∧ z + y ≤ ((1 + Rd.nvL l + Rd.nvM (m.take (i + 1)) : Nat) : Int)) := fun y hy => by
        have := hz.out
        have := HN.out
        constructor <;> omega
       have h' : (i : Int) < (M : Int) := by omega
       clear hih hiv hnt hnm hnl fin
       go_wp2_with (go_at_call 24; refine (HCT.out _ (by omega) (by omega)).mono ?_; rintro e w2 ⟨⟨y, rfl, p1, p2⟩, hf⟩; obtain ⟨p3, p4⟩ := HNT.out y p2; have P4 := Lib.hid p4; have HF2 := Lib.hid (Fr.trans hF.out hf); clear hf p2 p4)
       exact ⟨⟨i + 1, z + y, by omega, by go_num, by go_num, by omega, p3, P4, HF2⟩, by simp [intOf]; omega⟩
      all_goals
       go_wp2_with fail
       go_ret
       exact ⟨⟨z, rfl, hz1, fin.out⟩, ((Fr.refl w).alloc _).trans hF.out⟩
end Go.Proofs.YtgaiepficjiclaaGreatDoor
