/- Walk of the law ScanPlaces. -/
import Derived.Test.YtmalfecpcdopfaaDoorScanK
namespace Go.Proofs.YtmalfecpcdopfaaDoor
set_option linter.unusedVariables false
set_option linter.unusedSimpArgs false
open Go.RowKit

/-- Tokens lie in a row in block g. -/
def TkAt (w : World) (g : Nat) (ts : List Scn.Tok) : Prop := g < w.heap.size ∧ ∀ i (hi : i < ts.length), w.cell? ⟨g, i * 4, none⟩ = some (.int .i64 (ts[i].kind : Nat)) ∧ w.cell? ⟨g, i * 4 + 1, none⟩ = some (.int .i64 ts[i].n) ∧ w.cell? ⟨g, i * 4 + 2, none⟩ = some (.string ⟨ts[i].s.toArray⟩) ∧ w.cell? ⟨g, i * 4 + 3, none⟩ = some (.int .i64 (ts[i].at_ : Nat))
theorem TkAt.keep {w w' : World} {g : Nat} {ts : List Scn.Tok} (h : TkAt w g ts) (hf : Fr w w') : TkAt w' g ts := by
  refine ⟨Nat.lt_of_lt_of_le h.1 hf.size, fun i hi => ?_⟩
  obtain ⟨a, b, c, d⟩ := h.2 i hi
  refine ⟨?_, ?_, ?_, ?_⟩ <;> rw [hf.cell h.1] <;> assumption
theorem Tks.shape {w : World} {b : Nat} {v : Value} {ts : List Scn.Tok} (h : Tks w b v ts) : ∃ a c, v = .slice a ts.length c ∧ (ts ≠ [] → ∃ g, a = some ⟨g, 0, none⟩ ∧ b ≤ g ∧ TkAt w g ts) := by
  rcases h.form with ⟨rfl, rfl⟩ | ⟨g, c, rfl, hb, hg, hc⟩
  · exact ⟨_, _, rfl, fun h => absurd rfl h⟩
  · exact ⟨_, _, rfl, fun _ => ⟨g, rfl, hb, hg, hc⟩⟩

theorem rwhite_no (c : UInt8) (w : World) (h : Scn.white c = false) :
    Calls Tryd.prog 13 #[.int .u8 c.toNat] w fun e w' => e = .returned (.bool false) ∧ w' = w := (rwhite_tx c false w h).mono fun _ _ h => ⟨h.1, h.2.symm⟩

theorem tokens_ok {l : List UInt8} {ts : List Scn.Tok} {p : Nat} (h : Scn.tokens l = (ts, p, 0)) : p = 0 ∧ (∀ t ∈ ts, t.at_ < l.length ∧ Scn.white (l.getD t.at_ 0) = false) ∧ ts.Pairwise (fun a b => a.at_ < b.at_) := by
  by_cases hl : 65536 < l.length
  · rw [Scn.tokens_long hl] at h; cases h
  · rw [Scn.tokens_short hl] at h
    have := Scn.tk_ok l.length l 0 (by omega) (by rw [h])
    rw [h] at this
    exact ⟨this.1, fun t ht => (this.2.1 t ht).2, this.2.2⟩
theorem tokens_bad {l : List UInt8} {ts : List Scn.Tok} {p x : Nat} (h : Scn.tokens l = (ts, p, x)) (hx : x ≠ 0) : ts = [] ∧ p ≤ l.length := by
  by_cases hl : 65536 < l.length
  · rw [Scn.tokens_long hl] at h; cases h; exact ⟨rfl, by omega⟩
  · rw [Scn.tokens_short hl] at h
    have := Scn.tk_bad l.length l 0 (by omega) (by rw [h]; exact hx)
    rw [h] at this
    exact this

set_option maxHeartbeats 4000000 in
set_option maxRecDepth 100000 in
theorem places_law (s : ByteArray) (w : World) (hs : s.size ≤ 140737488355328) (hT : LowTabs w) :
    Calls Tryd.prog 6 #[.string s] w fun e w' => e = .returned (.bool true) ∧ Fr w w' := by
  have hl : s.data.toList.length = s.size := by simp
  rcases h : Scn.tokens s.data.toList with ⟨ts, p, x⟩
  have hlen := Scn.tokens_len s.data.toList
  rw [h] at hlen
  simp only at hlen
  have HT := Lib.hid hT
  clear hT
  by_cases hx : x = 0
  · subst hx
    obtain ⟨rfl, hok, hpw⟩ := tokens_ok h
    have H := Lib.hid h
    have HOK := Lib.hid hok
    have HPW := Lib.hid (List.pairwise_iff_getElem.1 hpw)
    obtain ⟨n, hn⟩ : ∃ n, ts.length = n := ⟨_, rfl⟩
    rw [hn, hl] at hlen
    have HN := Lib.hid hn
    have HL := Lib.hid hl
    clear h hok hpw hn hl
    go_enter Tryd.func6, Tryd.ntmps6
    go_wp2_with (first
      | (go_at_call 8; refine (tokens_at s ts 0 0 _ (by omega) HT.out H.out).mono ?_; rintro e w1 ⟨v1, rfl, ht, hf⟩; obtain ⟨a, c, rfl, ha⟩ := ht.shape; rw [HN.out]; have HF1 := Lib.hid hf; have HA := Lib.hid ha; clear hf ht ha)
      | (go_at_call 10; refine (awake04 _ (HT.out.keep HF1.out)).mono ?_; rintro e w3 ⟨rfl, hf⟩; have HF3 := Lib.hid (HF1.out.trans hf); have HA3 : Hid (ts ≠ [] → ∃ g, a = some ⟨g, 0, none⟩ ∧ TkAt w3 g ts) := (fun hne => (HA.out hne).elim fun g h => ⟨g, h.1, h.2.2.keep hf⟩); clear hf))
    go_loopw [6] (fun j wr => ∃ (i : Nat), i ≤ n ∧ j = .int .i64 i ∧ Hid (Fr w3 wr)) (fun j _ => n - (intOf j).toNat)
    case atStart => exact ⟨0, by omega, rfl, Lib.hid (Fr.refl _)⟩
    case round =>
      obtain ⟨i, hi, rfl, hfr⟩ := hrel
      by_cases hlt : i < n
      · obtain ⟨g, hg, hat⟩ := HA3.out (by intro h; have := HN.out; rw [h] at this; simp at this; omega)
        subst hg
        replace hat := hat.keep hfr.out
        have hit : i < ts.length := by rw [HN.out]; exact hlt
        obtain ⟨_, _, _, c3⟩ := hat.2 i hit
        obtain ⟨p, hp⟩ : ∃ p, ts[i].at_ = p := ⟨_, rfl⟩
        rw [hp] at c3
        have hk := HOK.out ts[i] (List.getElem_mem hit)
        rw [hp, HL.out] at hk
        obtain ⟨hp1, hp2⟩ := hk
        obtain ⟨c, hc⟩ : ∃ c, s[p] = c := ⟨_, rfl⟩
        have hcd := Lib.hid (getD_of hp1 hc)
        have HW : Hid (Scn.white c = false) := by show _ = _; rw [← hcd.out]; exact hp2
        clear hp2
        have b1 : (0 : Int) ≤ (p : Int) := by omega
        have b2 : (p : Int) < (s.size : Int) := by omega
        have b3 : (0 : Int) ≤ (i : Int) := by omega
        have b4 : (i : Int) < (n : Int) := by omega
        have d1 : decide ((p : Int) < 0) = false := decide_eq_false (by omega)
        have d2 : decide ((s.size : Int) ≤ (p : Int)) = false := decide_eq_false (by omega)
        have d2' : decide (s.size ≤ p) = false := decide_eq_false (by omega)
        rcases Nat.eq_zero_or_pos i with h0 | hpos
        · subst h0
          go_wp2_with fail
          go_quiet ((go_at_call 13; exact Calls.quiet_of_same (rwhite_no c _ HW.out)))
          go_wp2_with fail
          exact ⟨⟨1, by omega, rfl, Lib.hid (hfr.out.drewN _)⟩, by simp [intOf]; omega⟩
        · obtain ⟨j, hj⟩ : ∃ j, i = j + 1 := ⟨i - 1, by omega⟩
          have hjt : j < ts.length := by omega
          obtain ⟨_, _, _, e3⟩ := hat.2 j hjt
          have hlt2 := HPW.out j i hjt hit (by omega)
          obtain ⟨r, hr⟩ : ∃ r, ts[j].at_ = r := ⟨_, rfl⟩
          rw [hr] at e3 hlt2
          rw [hp] at hlt2
          have b5 : (0 : Int) ≤ (j : Int) := by omega
          have b6 : (j : Int) < (n : Int) := by omega
          have d3 : decide ((0 : Int) < (i : Int)) = true := decide_eq_true (by omega)
          have d3' : decide (0 < i) = true := decide_eq_true (by omega)
          have d4 : decide ((p : Int) ≤ (r : Int)) = false := decide_eq_false (by omega)
          have d4' : decide (p ≤ r) = false := decide_eq_false (by omega)
          have wj : IntKind.i64.wrap ((i : Int) - 1) = (j : Int) := by rw [IntKind.wrap_i64]; omega
          have HJ := Lib.hid hj
          clear hj hp hr
          go_wp2_with fail
          go_quiet ((go_at_call 13; exact Calls.quiet_of_same (rwhite_no c _ HW.out)))
          go_wp2_with fail
          exact ⟨⟨i + 1, by omega, by go_num, Lib.hid (hfr.out.drewN _)⟩, by simp [intOf]; omega⟩
      · obtain rfl : i = n := by omega
        go_wp2_with fail
        go_ret
        exact ⟨rfl, HF3.out.trans hfr.out⟩
  · obtain ⟨rfl, hp⟩ := tokens_bad h hx
    rw [hl] at hp
    have H := Lib.hid h
    have hxx : ((x : Int) != 0) = true := by rw [bne_iff_ne]; omega
    have d1 : decide ((0 : Int) ≤ (p : Int)) = true := decide_eq_true (by omega)
    have d2 : decide ((p : Int) ≤ (s.size : Int)) = true := decide_eq_true (by omega)
    have d2' : decide (p ≤ s.size) = true := decide_eq_true (by omega)
    clear h hx hlen hl
    go_enter Tryd.func6, Tryd.ntmps6
    go_wp2_with (first
      | (go_at_call 8; refine (tokens_at s [] p x _ (by omega) HT.out H.out).mono ?_; rintro e w1 ⟨v1, rfl, ht, hf⟩; obtain ⟨a, c, rfl, ha⟩ := ht.shape; have HF1 := Lib.hid hf; clear hf ht ha)
      | (go_at_call 10; refine (awake04 _ (HT.out.keep HF1.out)).mono ?_; rintro e w3 ⟨rfl, hf⟩; have HF3 := Lib.hid (HF1.out.trans hf); clear hf))
    go_ret
    exact ⟨rfl, HF3.out⟩
end Go.Proofs.YtmalfecpcdopfaaDoor
