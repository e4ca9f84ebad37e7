/- Walk of the law ScanKeeps. -/
import Derived.Test.YtmalfecpcdopfaaDoorScanL
namespace Go.Proofs.YtmalfecpcdopfaaDoor
set_option linter.unusedVariables false
set_option linter.unusedSimpArgs false
open Go.RowKit

/-- The texts in a row of tokens may be written. -/
def Sp (w : World) (g n : Nat) : Prop := g < w.heap.size ∧ ∀ i, i < n → (∃ u, w.cell? ⟨g, i * 4 + 2, none⟩ = some u) ∧ w.frozen? ⟨g, i * 4 + 2, none⟩ = false
theorem Sp.keep {w w' : World} {g n : Nat} (h : Sp w g n) (hf : Fr w w') : Sp w' g n :=
  ⟨Nat.lt_of_lt_of_le h.1 hf.size, fun i hi => ⟨by rw [hf.cell h.1]; exact (h.2 i hi).1, by rw [hf.frozen h.1]; exact (h.2 i hi).2⟩⟩
theorem Sp.store {w : World} {g n : Nat} (h : Sp w g n) (j : Nat) (u : Value) : Sp (w.setCell ⟨g, j, none⟩ u) g n := by
  refine ⟨by simpa using h.1, fun i hi => ⟨?_, by rw [World.frozen?_setCell]; exact (h.2 i hi).2⟩⟩
  obtain ⟨x, hx⟩ := (h.2 i hi).1
  by_cases hj : i * 4 + 2 = j
  · subst hj; exact ⟨u, by rw [World.cell?_setCell_same _ _ _ hx]⟩
  · exact ⟨x, by rw [World.cell?_setCell_other _ _ _ _ (by intro hh; exact hj (Addr.mk.inj hh).2.1.symm)]; exact hx⟩
theorem Tks.sp {w : World} {b : Nat} {v : Value} {ts : List Scn.Tok} (h : Tks w b v ts) : ∃ a c, v = .slice a ts.length c ∧ (ts ≠ [] → ∃ g, a = some ⟨g, 0, none⟩ ∧ b ≤ g ∧ Sp w g ts.length) := by
  rcases h.2 with ⟨hv, hn⟩ | ⟨g, cap, cur, rfl, hb, hg, hc, hm, hs, ht⟩
  · rw [List.eq_nil_of_length_eq_zero hn]; exact ⟨_, _, hv, fun h => absurd rfl h⟩
  · refine ⟨_, _, rfl, fun _ => ⟨g, rfl, hb, (Array.getElem?_eq_some_iff.1 hg).1, fun i hi => ⟨?_, by simp [World.frozen?, hg]⟩⟩⟩
    rcases h.form with ⟨hx, _⟩ | ⟨g', cap', hx, _, _, hcells⟩
    · cases hx
    · cases hx
      exact ⟨_, (hcells i hi).2.2.1⟩
theorem tks_apart {w : World} {g b j : Nat} {v u : Value} {ts : List Scn.Tok} (h : Tks w b v ts) (hg : g < b) : Tks (w.setCell ⟨g, j, none⟩ u) b v ts := by
  refine ⟨h.1, ?_⟩
  rcases h.2 with hn | ⟨g', cap, cur, rfl, hb, hg', rest⟩
  · exact .inl hn
  · exact .inr ⟨g', cap, cur, rfl, hb, by rw [Below.heap_setCell _ _ _ _ (by simp; omega)]; exact hg', rest⟩

set_option maxHeartbeats 4000000 in
set_option maxRecDepth 100000 in
theorem keeps_law (s : ByteArray) (w : World) (hs : s.size ≤ 140737488355328) (hT : LowTabs w) :
    Calls Tryd.prog 7 #[.string s] w fun e w' => e = .returned (.bool true) ∧ Fr w w' := by
  rcases h : Scn.tokens s.data.toList with ⟨ts, p, x⟩
  have hlen : ts.length ≤ s.size := by
    have := Scn.tokens_len s.data.toList
    rw [h] at this
    simpa using this
  have H := Lib.hid h
  have HT := Lib.hid hT
  obtain ⟨n, hn⟩ : ∃ n, ts.length = n := ⟨_, rfl⟩
  rw [hn] at hlen
  have HN := Lib.hid hn
  have HLT : Hid (ts.length ≤ 140737488355328) := by show _ ≤ _; omega
  clear h hT hn
  go_enter Tryd.func7, Tryd.ntmps7
  go_wp2_with (first
    | (go_at_call 8; have hm := HF1.out; refine (tokens_at s ts p x _ (by omega) (HT.out.keep hm) H.out).mono ?_; rintro e w2 ⟨v2, rfl, ht, hf⟩; obtain ⟨a2, k2, rfl, ha2⟩ := ht.sp; have HV2 := Lib.hid ht; rw [HN.out] at HV2 ⊢; have HA2 : Hid (ts ≠ [] → ∃ g, a = some ⟨g, 0, none⟩ ∧ w.heap.size ≤ g ∧ g < w1.heap.size ∧ Sp w2 g n) := (fun hne => (HA.out hne).elim fun g h => ⟨g, h.1, h.2.1, h.2.2.1, h.2.2.keep hf⟩); have HF2 := Lib.hid (hm.trans hf); clear hf ht ha2 hm)
    | (go_at_call 8; refine (tokens_at s ts p x _ (by omega) HT.out H.out).mono ?_; rintro e w1 ⟨v1, rfl, ht, hf⟩; obtain ⟨a, c, rfl, ha⟩ := ht.sp; rw [HN.out] at ha ⊢; have HF1 := Lib.hid hf; have HA := Lib.hid ha; clear hf ht ha)
    | (go_at_call 10; refine (awake04 _ (HT.out.keep HF2.out)).mono ?_; rintro e w3 ⟨rfl, hf⟩; have HF3 := Lib.hid (HF2.out.trans hf); have HV3 := Lib.hid (HV2.out.keep hf); have HA3 : Hid (ts ≠ [] → ∃ g, a = some ⟨g, 0, none⟩ ∧ w.heap.size ≤ g ∧ g < w1.heap.size ∧ Sp w3 g n) := (fun hne => (HA2.out hne).elim fun g h => ⟨g, h.1, h.2.1, h.2.2.1, h.2.2.2.keep hf⟩); clear hf))
  go_loopw [9] (fun j wr => ∃ i : Nat, i ≤ n ∧ j = .int .i64 i ∧ Hid (Fr w wr) ∧ Hid (Tks wr w1.heap.size (.slice a2 n k2) ts) ∧ Hid (ts ≠ [] → ∃ g, a = some ⟨g, 0, none⟩ ∧ w.heap.size ≤ g ∧ g < w1.heap.size ∧ Sp wr g n)) (fun j _ => n - (intOf j).toNat)
  case atStart => exact ⟨0, by omega, rfl, HF3, HV3, HA3⟩
  case round =>
    obtain ⟨i, hi, rfl, hfr, hv, ha⟩ := hrel
    by_cases hlt : i < n
    · obtain ⟨g, hg, hb1, hb2, hsp⟩ := ha.out (by intro h; have := HN.out; rw [h] at this; simp at this; omega)
      subst hg
      obtain ⟨⟨u, hu⟩, hz⟩ := hsp.2 i hlt
      have b3 : (0 : Int) ≤ (i : Int) := by omega
      have b4 : (i : Int) < (n : Int) := by omega
      have HSP := Lib.hid hsp
      clear hsp
      go_wp2_with fail
      exact ⟨⟨i + 1, by omega, by go_num, Lib.hid (hfr.out.setCell hb1 _), Lib.hid (tks_apart hv.out hb2), Lib.hid (fun _ => ⟨g, rfl, hb1, hb2, HSP.out.store _ _⟩)⟩, by simp [intOf]; omega⟩
    · obtain rfl : i = n := by omega
      clear ha hlt
      go_wp2_with (first
        | (go_at_call 8; refine (tokens_at s ts p x _ (by omega) (HT.out.keep hfr.out) H.out).mono ?_; rintro e w5 ⟨v5, rfl, ht, hf⟩; have HV5 := Lib.hid ht; have HV6 := Lib.hid (hv.out.keep hf); have HF5 := Lib.hid (hfr.out.trans hf); clear hf ht)
        | (go_at_call 11; refine (rsame_yes true ts ts _ _ _ _ _ (alike_refl _ _) HV6.out HV5.out HLT.out).mono ?_; rintro e w7 ⟨rfl, hf⟩; have HF7 := Lib.hid (HF5.out.trans hf); clear hf))
      go_ret
      exact ⟨rfl, HF7.out⟩
end Go.Proofs.YtmalfecpcdopfaaDoor
