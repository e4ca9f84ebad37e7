/- The walks of emit.Check, Text; of the laws' example and awake. -/
import Derived.Test.YtgncdjcbphobmaaEmitX
import Derived.Test.YtgncdjcbphobmaaEmitD
namespace Go.Proofs.Ytgncdjcbphobmaa
set_option linter.unusedVariables false
set_option linter.unusedSimpArgs false
open Go.RowKit

set_option maxHeartbeats 1000000 in
theorem ccheck_is (u : JV) (B : Option Addr) (d : Nat) (B' : Option Addr) (d' : Nat) (w : World) (c q : Nat) (hv : InV w (Lo w.heap.size) u (vA u B d B' d')) (hc : JV.chk u 1 0 = (c, q)) :
    Calls Try.prog 8 #[vA u B d B' d'] w fun e w' => e = .returned (.int .i64 (c : Nat)) ∧ Fr w w' := by
  have HC := Lib.hid hc
  have HV : ∀ o1 o2, Hid (InV ((w.alloc o1).alloc o2) (Lo (w.heap.size + 1)) u (vA u B d B' d')) := fun o1 o2 => (hv.keep (Nat.le_refl _) (((Fr.refl w).alloc o1).alloc o2)).lo (by omega)
  have HCN : ∀ o1, Hid (Cnt ((w.alloc o1).alloc (.cells #[.int .i64 0] 41)) (w.heap.size + 1) 0) := fun o1 => ⟨by simp, by rw [World.cell?_alloc_at _ _ _ _ (by simp)]; rfl, by simp⟩
  clear hc hv
  unfold vA at *
  go_enter Try.func8, Try.ntmps8
  go_wp2_with (go_at_call 12; refine ((check_is u _ (w.heap.size + 1) 1 0 _ (HV _ _).out (HCN _).out (by omega) (by omega)).call rfl rfl HC.out).mono ?_; rintro e w2 ⟨rfl, hfx, _⟩; have HFX := Lib.hid hfx; clear hfx)
  go_ret
  exact ⟨rfl, (((Fr.refl w).alloc _).alloc _).frx HFX.out (by omega)⟩

set_option maxHeartbeats 1000000 in
theorem text_is (u : JV) (B : Option Addr) (d : Nat) (B' : Option Addr) (d' : Nat) (w : World) (c q : Nat) (T : List UInt8) (hv : InV w (Lo w.heap.size) u (vA u B d B' d')) (hc : JV.chk u 1 0 = (c, q)) (hT : T = if c = 0 then JV.wrt u else []) (h63 : T.length ≤ 140737488355328) :
    Calls Try.prog 6 #[vA u B d B' d'] w fun e w' => e = .returned (.tuple #[.string ⟨T.toArray⟩, .int .i64 (c : Nat)]) ∧ Fr w w' := by
  have HC := Lib.hid hc
  have HV0 := Lib.hid hv
  have HV : ∀ o1, Hid (InV (w.alloc o1) (Lo (w.alloc o1).heap.size) u (vA u B d B' d')) := fun o1 => (hv.keep (Nat.le_refl _) ((Fr.refl w).alloc o1)).lo (by simp)
  have HA : Hid (vA u B d B' d' = .agg #[.int .i64 u.kd, .int .i64 u.nm, .string ⟨u.tx.toArray⟩, .slice B u.ls.length d, .slice B' u.ms.length d']) := rfl
  clear hc hv
  by_cases h0 : c = 0
  · subst h0
    rw [if_pos rfl] at hT
    have HT := Lib.hid hT
    clear hT
    rw [HA.out]
    go_enter Try.func6, Try.ntmps6
    go_wp2_with (first
      | (go_at_call 8; refine (ccheck_is u B d B' d' _ 0 q (HV _).out HC.out).mono ?_; rintro e w2 ⟨rfl, hf2⟩; have hb0 := hf2.cell (b := w.heap.size) (o := 0) (by simp); have hb1 := hf2.cell (b := w.heap.size) (o := 1) (by simp); have hb2 := hf2.cell (b := w.heap.size) (o := 2) (by simp); have hb3 := hf2.cell (b := w.heap.size) (o := 3) (by simp); have hb4 := hf2.cell (b := w.heap.size) (o := 4) (by simp); have HF2 := Lib.hid (((Fr.refl w).alloc _).trans hf2); clear hf2)
      | (go_at_call 10; refine ((write_is u (vA u B d B' d')).call w rfl HF2.out (Bs.none_ _ _) (HV0.out.keep (Nat.le_refl _) HF2.out) (by rw [← HT.out]; simpa using h63)).mono ?_; rintro e w3 ⟨v3, rfl, hb, hf, _⟩; have hcv := hb.conv; have HF3 := Lib.hid hf; clear hb hf))
    go_ret2
    exact ⟨by rw [HT.out]; rfl, HF3.out⟩
  · rw [if_neg h0] at hT
    subst hT
    have hne : ((c : Int) != 0) = true := by rw [bne_iff_ne]; omega
    rw [HA.out]
    go_enter Try.func6, Try.ntmps6
    go_wp2_with (go_at_call 8; refine (ccheck_is u B d B' d' _ c q (HV _).out HC.out).mono ?_; rintro e w2 ⟨rfl, hf2⟩; have HF2 := Lib.hid (((Fr.refl w).alloc _).trans hf2); clear hf2)
    go_ret2
    exact ⟨rfl, HF2.out⟩

theorem InV.leaf (w : World) (S : Nat → Prop) (k n : Int) (s : List UInt8) (A A' : Option Addr) (c c' : Nat) (hn1 : -9223372036854775808 ≤ n) (hn2 : n ≤ 9223372036854775807) (hk1 : -9223372036854775808 ≤ k) (hk2 : k ≤ 9223372036854775807) (hs : s.length ≤ 140737488355328) :
    InV w S (.mk k n s [] []) (.agg #[.int .i64 k, .int .i64 n, .string ⟨s.toArray⟩, .slice A 0 c, .slice A' 0 c']) :=
  InV.mk k n s [] [] A A' c c' (fun _ _ => .int .i64 0) (fun _ _ => .int .i64 0) hn1 hn2 hk1 hk2 hs (by simp) (by simp) (fun i h => absurd h (by simp)) (fun h => absurd h (by simp)) (fun i h => absurd h (by simp)) (fun h => absurd h (by simp))
theorem InV.ofList {w : World} {S : Nat → Prop} {b o c : Nat} {l : List JV} (hS : S b) (hl : l.length ≤ 140737488355328)
    (h : ∀ i (h : i < l.length), ∃ e0 e1 e2 e3 e4, w.cell? ⟨b, o + i * 5, none⟩ = some e0 ∧ w.cell? ⟨b, o + i * 5 + 1, none⟩ = some e1 ∧ w.cell? ⟨b, o + i * 5 + 2, none⟩ = some e2 ∧ w.cell? ⟨b, o + i * 5 + 3, none⟩ = some e3 ∧ w.cell? ⟨b, o + i * 5 + 4, none⟩ = some e4 ∧ InV w S l[i] (.agg #[e0, e1, e2, e3, e4])) :
    InV w S (JV.listV l) (.agg #[.int .i64 5, .int .i64 0, .string ⟨#[]⟩, .slice (some ⟨b, o, none⟩) l.length c, .slice none 0 0]) := by
  refine InV.mk 5 0 [] l [] (some ⟨b, o, none⟩) none c 0 (fun i j => (w.cell? ⟨b, o + i * 5 + j, none⟩).getD (.int .i64 0)) (fun _ _ => .int .i64 0) (by decide) (by decide) (by decide) (by decide) (by simp) hl (by simp) (fun i hi => ?_) (fun _ => ⟨b, o, rfl, hS, fun i j hi hj => ?_⟩) (fun i h => absurd h (by simp)) (fun h => absurd h (by simp))
  · obtain ⟨e0, e1, e2, e3, e4, h0, h1, h2, h3, h4, hv⟩ := h i hi
    have g0 : w.cell? ⟨b, o + i * 5 + 0, none⟩ = some e0 := h0
    simp only [g0, h1, h2, h3, h4]
    exact hv
  · obtain ⟨e0, e1, e2, e3, e4, h0, h1, h2, h3, h4, hv⟩ := h i hi
    rcases (by omega : j = 0 ∨ j = 1 ∨ j = 2 ∨ j = 3 ∨ j = 4) with rfl | rfl | rfl | rfl | rfl
    · have g0 : w.cell? ⟨b, o + i * 5 + 0, none⟩ = some e0 := h0
      simp only [g0]; rfl
    all_goals (simp only [h1, h2, h3, h4]; rfl)
theorem InV.ofMap {w : World} {S : Nat → Prop} {b o c : Nat} {l : List (List UInt8 × JV)} (hS : S b) (hl : l.length ≤ 140737488355328)
    (h : ∀ i (h : i < l.length), l[i].1.length ≤ 140737488355328 ∧ ∃ e0 e1 e2 e3 e4, w.cell? ⟨b, o + i * 6, none⟩ = some (.string ⟨l[i].1.toArray⟩) ∧ w.cell? ⟨b, o + i * 6 + 1, none⟩ = some e0 ∧ w.cell? ⟨b, o + i * 6 + 2, none⟩ = some e1 ∧ w.cell? ⟨b, o + i * 6 + 3, none⟩ = some e2 ∧ w.cell? ⟨b, o + i * 6 + 4, none⟩ = some e3 ∧ w.cell? ⟨b, o + i * 6 + 5, none⟩ = some e4 ∧ InV w S l[i].2 (.agg #[e0, e1, e2, e3, e4])) :
    InV w S (JV.mapV l) (.agg #[.int .i64 6, .int .i64 0, .string ⟨#[]⟩, .slice none 0 0, .slice (some ⟨b, o, none⟩) l.length c]) := by
  refine InV.mk 6 0 [] [] l none (some ⟨b, o, none⟩) 0 c (fun _ _ => .int .i64 0) (fun i j => (w.cell? ⟨b, o + i * 6 + j, none⟩).getD (.int .i64 0)) (by decide) (by decide) (by decide) (by decide) (by simp) (by simp) hl (fun i h => absurd h (by simp)) (fun h => absurd h (by simp)) (fun i hi => ?_) (fun _ => ⟨b, o, rfl, hS, fun i hi => ?_⟩)
  · obtain ⟨hn, e0, e1, e2, e3, e4, hs, h0, h1, h2, h3, h4, hv⟩ := h i hi
    simp only [h0, h1, h2, h3, h4]
    exact hv
  · obtain ⟨hn, e0, e1, e2, e3, e4, hs, h0, h1, h2, h3, h4, hv⟩ := h i hi
    have gs : w.cell? ⟨b, o + i * 6 + 0, none⟩ = some (.string ⟨l[i].1.toArray⟩) := hs
    refine ⟨by simp only [gs]; rfl, hn, fun j hj => ?_⟩
    rcases (by omega : j = 0 ∨ j = 1 ∨ j = 2 ∨ j = 3 ∨ j = 4 ∨ j = 5) with rfl | rfl | rfl | rfl | rfl | rfl
    · simp only [gs]; rfl
    all_goals (simp only [h0, h1, h2, h3, h4]; rfl)

/-- The document's example. -/
def exV : JV := JV.listV [JV.intV (-1), JV.mapV [([97], JV.boolV 1)]]
set_option maxHeartbeats 1000000 in
theorem example_is (w : World) : Calls Try.prog 11 #[] w fun e w' => ∃ B d B' d', e = .returned (vA exV B d B' d') ∧ InV w' (Lo w'.heap.size) exV (vA exV B d B' d') ∧ Fr w w' := by
  go_enter Try.func11, Try.ntmps11
  go_wp2_with fail
  refine bodyPost_ret (results_cell_row (by rfl) _ _ w.heap.size 25 _ (0, 0) _ (by rfl) (by rw [Below.heap_alloc _ _ _ (by simp; omega), Below.heap_alloc _ _ _ (by simp), heap_made]) Try.underlying25 rfl (by kernel_rfl)) rfl ?_
  refine ⟨some ⟨w.heap.size + 1 + 1, 0, none⟩, 2, none, 0, rfl, ?_, (((Fr.refl w).alloc _).alloc _).alloc _⟩
  refine InV.ofList (l := [JV.intV (-1), JV.mapV [([97], JV.boolV 1)]]) (by simp [Lo]) (by simp) (fun i hi => ?_)
  have hi2 : i = 0 ∨ i = 1 := by simp at hi; omega
  rcases hi2 with rfl | rfl
  · refine ⟨_, _, _, _, _, by rw [World.cell?_alloc_at _ _ _ _ (by simp)]; rfl, by rw [World.cell?_alloc_at _ _ _ _ (by simp)]; rfl, by rw [World.cell?_alloc_at _ _ _ _ (by simp)]; rfl, by rw [World.cell?_alloc_at _ _ _ _ (by simp)]; rfl, by rw [World.cell?_alloc_at _ _ _ _ (by simp)]; rfl, ?_⟩
    exact InV.leaf _ _ 3 (-1) [] none none 0 0 (by decide) (by decide) (by decide) (by decide) (by simp)
  · refine ⟨_, _, _, _, _, by rw [World.cell?_alloc_at _ _ _ _ (by simp)]; rfl, by rw [World.cell?_alloc_at _ _ _ _ (by simp)]; rfl, by rw [World.cell?_alloc_at _ _ _ _ (by simp)]; rfl, by rw [World.cell?_alloc_at _ _ _ _ (by simp)]; rfl, by rw [World.cell?_alloc_at _ _ _ _ (by simp)]; rfl, ?_⟩
    refine InV.ofMap (l := [([97], JV.boolV 1)]) (by simp [Lo]) (by simp) (fun i hi => ?_)
    obtain rfl : i = 0 := by simp at hi; omega
    have hlt : ∀ o1 o2 : Obj, (Addr.mk (w.heap.size + 1) 0 none).block < ((w.alloc o1).alloc o2).heap.size := by intro o1 o2; simp
    refine ⟨by simp, .int .i64 2, .int .i64 1, .string ⟨#[]⟩, .slice none 0 0, .slice none 0 0, ?_, ?_, ?_, ?_, ?_, ?_, ?_⟩
    iterate 6
      · rw [World.cell?_alloc_lt _ _ _ (by simp), World.cell?_alloc_at _ _ _ _ (by simp)]; rfl
    exact InV.leaf _ _ 2 1 [] none none 0 0 (by decide) (by decide) (by decide) (by decide) (by simp)

theorem exV_chk : ∃ q, JV.chk exV 1 0 = (0, q) := ⟨4, by kernel_rfl⟩
theorem aw6_text (B : Option Addr) (d : Nat) (B' : Option Addr) (d' : Nat) (w : World) (hv : InV w (Lo w.heap.size) exV (vA exV B d B' d')) :
    Calls Try.prog 6 #[vA exV B d B' d'] w fun e w' => e = .returned (.tuple #[.string ⟨#[91, 45, 49, 44, 123, 34, 97, 34, 58, 116, 114, 117, 101, 125, 93]⟩, .int .i64 0]) ∧ Fr w w' := by
  obtain ⟨q, hq⟩ := exV_chk
  exact text_is exV B d B' d' w 0 q [91, 45, 49, 44, 123, 34, 97, 34, 58, 116, 114, 117, 101, 125, 93] hv hq (by kernel_rfl) (by simp)
theorem aw6_bad (w : World) : Calls Try.prog 8 #[.agg #[.int .i64 2, .int .i64 2, .string ⟨#[]⟩, .slice none 0 0, .slice none 0 0]] w fun e w' => e = .returned (.int .i64 1) ∧ Fr w w' := by
  have h : JV.chk (JV.boolV 2) 1 0 = (1, 0) := by kernel_rfl
  exact ccheck_is (JV.boolV 2) none 0 none 0 w 1 0 (InV.leaf _ _ 2 2 [] none none 0 0 (by decide) (by decide) (by decide) (by decide) (by simp)) h

set_option maxHeartbeats 1000000 in
theorem awake06 (w : World) : Calls Try.prog 7 #[] w fun e w' => e = .returned (.bool true) ∧ Fr w w' := by
  obtain ⟨q, hq⟩ := exV_chk
  have HQ := Lib.hid hq
  clear hq
  go_enter Try.func7, Try.ntmps7
  go_wp2_with (first
    | (go_at_call 8; have hm := HF5.out; refine (ccheck_is exV _ _ _ _ _ 0 q HV5.out HQ.out).mono ?_; rintro e w6 ⟨rfl, hf⟩; have HF6 := Lib.hid (hm.trans hf); clear hf hm)
    | (go_at_call 11; have hm := HF3.out; refine (example_is _).mono ?_; rintro e w5 ⟨B2, d2, B2', d2', rfl, hv, hf⟩; have HV5 := Lib.hid hv; have HF5 := Lib.hid (hm.trans hf); clear hv hf hm)
    | (go_at_call 8; have hm := HF2.out; refine (aw6_bad _).mono ?_; rintro e w3 ⟨rfl, hf⟩; have HF3 := Lib.hid (hm.trans hf); clear hf hm)
    | (go_at_call 6; refine (aw6_text _ _ _ _ _ HV1.out).mono ?_; rintro e w2 ⟨rfl, hf⟩; have HF2 := Lib.hid (HF1.out.trans hf); clear hf)
    | (go_at_call 11; refine (example_is _).mono ?_; rintro e w1 ⟨B, d, B', d', rfl, hv, hf⟩; have HV1 := Lib.hid hv; have HF1 := Lib.hid hf; clear hv hf))
  go_ret
  exact ⟨rfl, HF6.out⟩
end Go.Proofs.Ytgncdjcbphobmaa
