/- Walks of the laws of scan: awake, ScanReads. -/
import Derived.Test.YtmalfecpcdopfaaDoorScanJ
import Derived.Test.YtmalfecpcdopfaaDoorScanD
import Derived.Test.YtmalfecpcdopfaaDoorCharsU
import Derived.Test.YtmalfecpcdopfaaDoorCharsW
import Derived.Test.YtmalfecpcdopfaaDoorNumsBr
namespace Go.Proofs.YtmalfecpcdopfaaDoor
set_option linter.unusedVariables false
set_option linter.unusedSimpArgs false
open Go.RowKit

theorem tokens_at (s : ByteArray) (ts : List Scn.Tok) (p x : Nat) (w : World) (hs : s.size ≤ 9223372036854775807) (hT : LowTabs w) (h : Scn.tokens s.data.toList = (ts, p, x)) :
    Calls Tryd.prog 8 #[.string s] w fun e w' => ∃ v, e = .returned (.tuple #[v, .int .i64 (p : Nat), .int .i64 (x : Nat)]) ∧ Tks w' w.heap.size v ts ∧ Fr w w' := by
  refine (stokens_is s w hs hT).mono ?_
  rintro e w' ⟨v, he, ht, hf⟩
  rw [h] at he ht
  exact ⟨v, he, ht, hf⟩
theorem rtokens_at (s : ByteArray) (ts : List Scn.Tok) (p x : Nat) (w : World) (hs : s.size ≤ 9223372036854775807) (hT : PtTab w) (h : Scn.tokens s.data.toList = (ts, p, x)) :
    Calls Tryd.prog 9 #[.string s] w fun e w' => ∃ v, e = .returned (.tuple #[v, .int .i64 (p : Nat), .int .i64 (x : Nat)]) ∧ Tks w' w.heap.size v ts ∧ Fr w w' := by
  refine (rtokens_is s w hs hT).mono ?_
  rintro e w' ⟨v, he, ht, hf⟩
  rw [h] at he ht
  exact ⟨v, he, ht, hf⟩

/-- What the test of awake reads. -/
def AwC (w : World) (g : Nat) : Prop := g < w.heap.size ∧
    (w.cell? ⟨g, 4, none⟩ = some (.int .i64 4) ∧ w.cell? ⟨g, 5, none⟩ = some (.int .i64 0) ∧ w.cell? ⟨g, 6, none⟩ = some (.string ⟨#[97]⟩) ∧ w.cell? ⟨g, 7, none⟩ = some (.int .i64 1)) ∧
    (w.cell? ⟨g, 12, none⟩ = some (.int .i64 3) ∧ w.cell? ⟨g, 13, none⟩ = some (.int .i64 (-1)) ∧ w.cell? ⟨g, 14, none⟩ = some (.string ⟨#[]⟩) ∧ w.cell? ⟨g, 15, none⟩ = some (.int .i64 5))
theorem AwC.keep {w w' : World} {g : Nat} (h : AwC w g) (hf : Fr w w') : AwC w' g := by
  obtain ⟨hg, ⟨a0, a1, a2, a3⟩, ⟨b0, b1, b2, b3⟩⟩ := h
  refine ⟨Nat.lt_of_lt_of_le hg hf.size, ⟨?_, ?_, ?_, ?_⟩, ⟨?_, ?_, ?_, ?_⟩⟩ <;> rw [hf.cell hg] <;> assumption
theorem aw4_1 (w : World) (hT : LowTabs w) : Calls Tryd.prog 8 #[.string ⟨#[123, 34, 97, 34, 58, 45, 49, 125]⟩] w fun e w' => ∃ g c, e = .returned (.tuple #[.slice (some ⟨g, 0, none⟩) 5 c, .int .i64 0, .int .i64 0]) ∧ AwC w' g ∧ Fr w w' := by
  refine (tokens_at ⟨#[123, 34, 97, 34, 58, 45, 49, 125]⟩ [⟨1, 0, [123], 0⟩, ⟨4, 0, [97], 1⟩, ⟨1, 0, [58], 4⟩, ⟨3, -1, [], 5⟩, ⟨1, 0, [125], 7⟩] 0 0 w (by decide) hT (by kernel_rfl)).mono ?_
  rintro e w' ⟨v, rfl, ht, hf⟩
  rcases ht.form with ⟨rfl, hn⟩ | ⟨g, c, rfl, hb, hg, hc⟩
  · cases hn
  · exact ⟨g, c, rfl, ⟨hg, hc 1 (by simp), hc 3 (by simp)⟩, hf⟩
theorem aw4_2 (w : World) (hT : LowTabs w) : Calls Tryd.prog 8 #[.string ⟨#[110, 117, 108, 108, 115]⟩] w fun e w' => ∃ v, e = .returned (.tuple #[v, .int .i64 0, .int .i64 40]) ∧ Fr w w' := by
  refine (tokens_at ⟨#[110, 117, 108, 108, 115]⟩ [] 0 40 w (by decide) hT (by kernel_rfl)).mono ?_
  rintro e w' ⟨v, rfl, ht, hf⟩
  exact ⟨v, rfl, hf⟩
theorem aw4_3 (w : World) (hT : LowTabs w) : Calls Tryd.prog 8 #[.string ⟨#[91, 49, 46, 53, 93]⟩] w fun e w' => ∃ v, e = .returned (.tuple #[v, .int .i64 1, .int .i64 30]) ∧ Fr w w' := by
  refine (tokens_at ⟨#[91, 49, 46, 53, 93]⟩ [] 1 30 w (by decide) hT (by kernel_rfl)).mono ?_
  rintro e w' ⟨v, rfl, ht, hf⟩
  exact ⟨v, rfl, hf⟩

set_option maxHeartbeats 4000000 in
set_option maxRecDepth 100000 in
theorem awake04 (w : World) (hT : LowTabs w) : Calls Tryd.prog 10 #[] w fun e w' => e = .returned (.bool true) ∧ Fr w w' := by
  have HT := Lib.hid hT
  clear hT
  go_enter Tryd.func10, Tryd.ntmps10
  go_wp2_with (first
    | (go_at_call 8; have hm := HF2.out; refine (aw4_3 _ (HT.out.keep hm)).mono ?_; rintro e w3 ⟨v3, rfl, hf⟩; obtain ⟨hg, ⟨a0, a1, a2, a3⟩, ⟨b0, b1, b2, b3⟩⟩ := HA2.out.keep hf; have HF3 := Lib.hid (hm.trans hf); clear hf hm)
    | (go_at_call 8; have hm := HF1.out; refine (aw4_2 _ (HT.out.keep hm)).mono ?_; rintro e w2 ⟨v2, rfl, hf⟩; have HA2 := Lib.hid (HA1.out.keep hf); have HF2 := Lib.hid (hm.trans hf); clear hf hm)
    | (go_at_call 8; refine (aw4_1 _ HT.out).mono ?_; rintro e w1 ⟨g, c, rfl, ha, hf⟩; have HF1 := Lib.hid hf; have HA1 := Lib.hid ha; clear hf ha))
  go_ret
  exact ⟨rfl, HF3.out⟩
theorem alike_refl (p : Bool) (ts : List Scn.Tok) : alike p ts ts := ⟨rfl, fun i h h2 => ⟨rfl, rfl, rfl, fun _ => rfl⟩⟩

set_option maxHeartbeats 4000000 in
set_option maxRecDepth 100000 in
theorem scanreads_law (s : ByteArray) (w : World) (hs : s.size ≤ 140737488355328) (hT : LowTabs w) (hP : PtTab w) :
    Calls Tryd.prog 3 #[.string s] w fun e w' => e = .returned (.bool true) ∧ Fr w w' := by
  rcases h : Scn.tokens s.data.toList with ⟨ts, p, x⟩
  have hlen : Hid (ts.length ≤ 140737488355328) := by
    have := Scn.tokens_len s.data.toList
    rw [h] at this
    show _ ≤ _
    simp at this
    omega
  have H := Lib.hid h
  have HT := Lib.hid hT
  have HP := Lib.hid hP
  clear h hT hP
  go_enter Tryd.func3, Tryd.ntmps3
  go_wp2_with (first
    | (go_at_call 8; refine (tokens_at s ts p x _ (by omega) HT.out H.out).mono ?_; rintro e w1 ⟨v1, rfl, ht, hf⟩; have HF1 := Lib.hid hf; have HV1 := Lib.hid ht; clear hf ht)
    | (go_at_call 9; refine (rtokens_at s ts p x _ (by omega) (HP.out.keep HF1.out) H.out).mono ?_; rintro e w2 ⟨v2, rfl, ht, hf⟩; have HV2 := Lib.hid ht; have HV1' := Lib.hid (HV1.out.keep hf); have HF2 := Lib.hid (HF1.out.trans hf); clear hf ht)
    | (go_at_call 10; refine (awake04 _ (HT.out.keep HF2.out)).mono ?_; rintro e w3 ⟨rfl, hf⟩; have HV12 := Lib.hid (HV1'.out.keep hf); have HV22 := Lib.hid (HV2.out.keep hf); have HF3 := Lib.hid (HF2.out.trans hf); clear hf)
    | (go_at_call 11; refine (rsame_yes true ts ts _ _ _ _ _ (alike_refl _ _) HV12.out HV22.out hlen.out).mono ?_; rintro e w4 ⟨rfl, hf⟩; have HF4 := Lib.hid (HF3.out.trans hf); clear hf))
  go_ret
  exact ⟨rfl, HF4.out⟩
end Go.Proofs.YtmalfecpcdopfaaDoor
/- Walk of the law ScanPlaces. -/
namespace Go.Proofs.YtmalfecpcdopfaaDoor
set_option linter.unusedVariables false
set_option linter.unusedSimpArgs false
open Go.RowKit

/-- Tokens lie in a row in block g. -/
def TkAt (w : World) (g : Nat) (ts : List Scn.Tok) : Prop := g < w.heap.size ∧ ∀ i (hi : i < ts.length), w.cell? ⟨g, i * 4, none⟩ = some (.int .i64 (ts[i].kind : Nat)) ∧ w.cell? ⟨g, i * 4 + 1, none⟩ = some (.int .i64 ts[i].n) ∧ w.cell? ⟨g, i * 4 + 2, none⟩ = some (.string ⟨ts[i].s.toArray⟩) ∧ w.cell? ⟨g, i * 4 + 3, none⟩ = some (.int .i64 (ts[i].at_ : Nat))
theorem TkAt.keep {w w' : World} {g : Nat} {ts : List Scn.Tok} (h : TkAt w g ts) (hf : Fr w w') : TkAt w' g ts := by
  refine ⟨Nat.lt_of_lt_of_le h.1 hf.size, fun i hi => ?_⟩
  obtain ⟨a, b, c, d⟩ := h.2 i hi
  refine ⟨?_, ?_, ?_, ?_⟩ <;> rw [hf.cell h.1] <;> assumption
theorem Tks.shape {w : World} {b : Nat} {v : Value} {ts : List Scn.Tok} (h : Tks w b v ts) : ∃ a c, v = .slice a ts.length c ∧ (ts ≠ [] → ∃ g, a = some ⟨g, 0, none⟩ ∧ b ≤ g ∧ TkAt w g ts) := by
  rcases h.form with ⟨rfl, rfl⟩ | ⟨g, c, rfl, hb, hg, hc⟩
  · exact ⟨_, _, rfl, fun h => absurd rfl h⟩
  · exact ⟨_, _, rfl, fun _ => ⟨g, rfl, hb, hg, hc⟩⟩

theorem rwhite_no (c : UInt8) (w : World) (h : Scn.white c = false) :
    Calls Tryd.prog 13 #[.int .u8 c.toNat] w fun e w' => e = .returned (.bool false) ∧ w' = w := (rwhite_tx c false w h).mono fun _ _ h => ⟨h.1, h.2.symm⟩

theorem tokens_ok {l : List UInt8} {ts : List Scn.Tok} {p : Nat} (h : Scn.tokens l = (ts, p, 0)) : p = 0 ∧ (∀ t ∈ ts, t.at_ < l.length ∧ Scn.white (l.getD t.at_ 0) = false) ∧ ts.Pairwise (fun a b => a.at_ < b.at_) := by
  by_cases hl : 65536 < l.length
  · rw [Scn.tokens_long hl] at h; cases h
  · rw [Scn.tokens_short hl] at h
    have := Scn.tk_ok l.length l 0 (by omega) (by rw [h])
    rw [h] at this
    exact ⟨this.1, fun t ht => (this.2.1 t ht).2, this.2.2⟩
theorem tokens_bad {l : List UInt8} {ts : List Scn.Tok} {p x : Nat} (h : Scn.tokens l = (ts, p, x)) (hx : x ≠ 0) : ts = [] ∧ p ≤ l.length := by
  by_cases hl : 65536 < l.length
  · rw [Scn.tokens_long hl] at h; cases h; exact ⟨rfl, by omega⟩
  · rw [Scn.tokens_short hl] at h
    have := Scn.tk_bad l.length l 0 (by omega) (by rw [h]; exact hx)
    rw [h] at this
    exact this

set_option maxHeartbeats 4000000 in
set_option maxRecDepth 100000 in
theorem places_law (s : ByteArray) (w : World) (hs : s.size ≤ 140737488355328) (hT : LowTabs w) :
    Calls Tryd.prog 6 #[.string s] w fun e w' => e = .returned (.bool true) ∧ Fr w w' := by
  have hl : s.data.toList.length = s.size := by simp
  rcases h : Scn.tokens s.data.toList with ⟨ts, p, x⟩
  have hlen := Scn.tokens_len s.data.toList
  rw [h] at hlen
  simp only at hlen
  have HT := Lib.hid hT
  clear hT
  by_cases hx : x = 0
  · subst hx
    obtain ⟨rfl, hok, hpw⟩ := tokens_ok h
    have H := Lib.hid h
    have HOK := Lib.hid hok
    have HPW := Lib.hid (List.pairwise_iff_getElem.1 hpw)
    obtain ⟨n, hn⟩ : ∃ n, ts.length = n := ⟨_, rfl⟩
    rw [hn, hl] at hlen
    have HN := Lib.hid hn
    have HL := Lib.hid hl
    clear h hok hpw hn hl
    go_enter Tryd.func6, Tryd.ntmps6
    go_wp2_with (first
      | (go_at_call 8; refine (tokens_at s ts 0 0 _ (by omega) HT.out H.out).mono ?_; rintro e w1 ⟨v1, rfl, ht, hf⟩; obtain ⟨a, c, rfl, ha⟩ := ht.shape; rw [HN.out]; have HF1 := Lib.hid hf; have HA := Lib.hid ha; clear hf ht ha)
      | (go_at_call 10; refine (awake04 _ (HT.out.keep HF1.out)).mono ?_; rintro e w3 ⟨rfl, hf⟩; have HF3 := Lib.hid (HF1.out.trans hf); have HA3 : Hid (ts ≠ [] → ∃ g, a = some ⟨g, 0, none⟩ ∧ TkAt w3 g ts) := (fun hne => (HA.out hne).elim fun g h => ⟨g, h.1, h.2.2.keep hf⟩); clear hf))
    go_loopw [6] (fun j wr => ∃ (i : Nat), i ≤ n ∧ j = .int .i64 i ∧ Hid (Fr w3 wr)) (fun j _ => n - (intOf j).toNat)
    case atStart => exact ⟨0, by omega, rfl, Lib.hid (Fr.refl _)⟩
    case round =>
      obtain ⟨i, hi, rfl, hfr⟩ := hrel
      by_cases hlt : i < n
      · obtain ⟨g, hg, hat⟩ := HA3.out (by intro h; have := HN.out; rw [h] at this; simp at this; omega)
        subst hg
        replace hat := hat.keep hfr.out
        have hit : i < ts.length := by rw [HN.out]; exact hlt
        obtain ⟨_, _, _, c3⟩ := hat.2 i hit
        obtain ⟨p, hp⟩ : ∃ p, ts[i].at_ = p := ⟨_, rfl⟩
        rw [hp] at c3
        have hk := HOK.out ts[i] (List.getElem_mem hit)
        rw [hp, HL.out] at hk
        obtain ⟨hp1, hp2⟩ := hk
        obtain ⟨c, hc⟩ : ∃ c, s[p] = c := ⟨_, rfl⟩
        have hcd := Lib.hid (getD_of hp1 hc)
        have HW : Hid (Scn.white c = false) := by show _ = _; rw [← hcd.out]; exact hp2
        clear hp2
        have b1 : (0 : Int) ≤ (p : Int) := by omega
        have b2 : (p : Int) < (s.size : Int) := by omega
        have b3 : (0 : Int) ≤ (i : Int) := by omega
        have b4 : (i : Int) < (n : Int) := by omega
        have d1 : decide ((p : Int) < 0) = false := decide_eq_false (by omega)
        have d2 : decide ((s.size : Int) ≤ (p : Int)) = false := decide_eq_false (by omega)
        have d2' : decide (s.size ≤ p) = false := decide_eq_false (by omega)
        rcases Nat.eq_zero_or_pos i with h0 | hpos
        · subst h0
          go_wp2_with fail
          go_quiet ((go_at_call 13; exact Calls.quiet_of_same (rwhite_no c _ HW.out)))
          go_wp2_with fail
          exact ⟨⟨1, by omega, rfl, Lib.hid (hfr.out.drewN _)⟩, by simp [intOf]; omega⟩
        · obtain ⟨j, hj⟩ : ∃ j, i = j + 1 := ⟨i - 1, by omega⟩
          have hjt : j < ts.length := by omega
          obtain ⟨_, _, _, e3⟩ := hat.2 j hjt
          have hlt2 := HPW.out j i hjt hit (by omega)
          obtain ⟨r, hr⟩ : ∃ r, ts[j].at_ = r := ⟨_, rfl⟩
          rw [hr] at e3 hlt2
          rw [hp] at hlt2
          have b5 : (0 : Int) ≤ (j : Int) := by omega
          have b6 : (j : Int) < (n : Int) := by omega
          have d3 : decide ((0 : Int) < (i : Int)) = true := decide_eq_true (by omega)
          have d3' : decide (0 < i) = true := decide_eq_true (by omega)
          have d4 : decide ((p : Int) ≤ (r : Int)) = false := decide_eq_false (by omega)
          have d4' : decide (p ≤ r) = false := decide_eq_false (by omega)
          have wj : IntKind.i64.wrap ((i : Int) - 1) = (j : Int) := by rw [IntKind.wrap_i64]; omega
          have HJ := Lib.hid hj
          clear hj hp hr
          go_wp2_with fail
          go_quiet ((go_at_call 13; exact Calls.quiet_of_same (rwhite_no c _ HW.out)))
          go_wp2_with fail
          exact ⟨⟨i + 1, by omega, by go_num, Lib.hid (hfr.out.drewN _)⟩, by simp [intOf]; omega⟩
      · obtain rfl : i = n := by omega
        go_wp2_with fail
        go_ret
        exact ⟨rfl, HF3.out.trans hfr.out⟩
  · obtain ⟨rfl, hp⟩ := tokens_bad h hx
    rw [hl] at hp
    have H := Lib.hid h
    have hxx : ((x : Int) != 0) = true := by rw [bne_iff_ne]; omega
    have d1 : decide ((0 : Int) ≤ (p : Int)) = true := decide_eq_true (by omega)
    have d2 : decide ((p : Int) ≤ (s.size : Int)) = true := decide_eq_true (by omega)
    have d2' : decide (p ≤ s.size) = true := decide_eq_true (by omega)
    clear h hx hlen hl
    go_enter Tryd.func6, Tryd.ntmps6
    go_wp2_with (first
      | (go_at_call 8; refine (tokens_at s [] p x _ (by omega) HT.out H.out).mono ?_; rintro e w1 ⟨v1, rfl, ht, hf⟩; obtain ⟨a, c, rfl, ha⟩ := ht.shape; have HF1 := Lib.hid hf; clear hf ht ha)
      | (go_at_call 10; refine (awake04 _ (HT.out.keep HF1.out)).mono ?_; rintro e w3 ⟨rfl, hf⟩; have HF3 := Lib.hid (HF1.out.trans hf); clear hf))
    go_ret
    exact ⟨rfl, HF3.out⟩
end Go.Proofs.YtmalfecpcdopfaaDoor
/- Walk of a token's text; how long it is. -/
namespace Go.Proofs.YtmalfecpcdopfaaDoor
set_option linter.unusedVariables false
set_option linter.unusedSimpArgs false
open Go.RowKit

namespace Scn
theorem putNat_len : ∀ (k n : Nat), n < 10 ^ k → 0 < k → (Nm.putNat n).length ≤ k
  | 0, n, h, h0 => by omega
  | k + 1, n, h, _ => by
    unfold Nm.putNat
    split
    · simp
    · rename_i h10
      have hk : 0 < k := by
        rcases Nat.eq_zero_or_pos k with h0 | h0
        · subst h0; omega
        · exact h0
      have := putNat_len k (n / 10) (by rw [Nat.pow_succ] at h; omega) hk
      rw [List.length_append]
      simp only [List.length_cons, List.length_nil]
      omega
theorem put_len (n : Int) (h : -9007199254740991 ≤ n) (h2 : n ≤ 9007199254740991) : (Nm.put n).length ≤ 17 := by
  unfold Nm.put
  have h0 : (10 : Nat) ^ 16 = 10000000000000000 := by decide
  split
  · have := putNat_len 16 n.natAbs (by omega) (by omega)
    simp only [List.length_cons]
    omega
  · have := putNat_len 16 n.natAbs (by omega) (by omega)
    omega
/-- No token's text is much longer than what was scanned. -/
theorem tokAt_wr {l : List UInt8} {k n : Nat} {t : Tok} (h : tokAt l k = .tok t n) : (wr t).length ≤ l.length + 17 ∧ t.s.length ≤ l.length + 17 := by
  have hg := tokAt_good h
  unfold tokAt at h
  simp only at h
  split at h
  · split at h
    · rename_i h0
      simp only [TR.tok.injEq] at h
      rw [← h.1]
      have hr := Chr.read_right h0
      have hq := Chr.read_quote h0
      have hQT : ((Chr.read l k).1).length ≤ (Chr.quote (Chr.read l k).1).length := by
        unfold Chr.quote
        have : ∀ l : List UInt8, l.length ≤ (l.flatMap Chr.esc).length := by
          intro l
          induction l with
          | nil => simp
          | cons x l ih =>
            rw [List.flatMap_cons, List.length_append, List.length_cons]
            have : 1 ≤ (Chr.esc x).length := by unfold Chr.esc; repeat' split
                                                all_goals simp
            omega
        have := this (Chr.read l k).1
        simp only [List.length_cons, List.length_append, List.length_nil]
        omega
      unfold wr Chr.quoteO
      simp only [hr.1, if_true]
      simp only [if_neg (show ¬ (4 : Nat) = 3 by omega)]
      omega
    · cases h
  split at h
  · split at h
    · simp only [TR.tok.injEq] at h
      rw [← h.1]
      have hb := Nm.readNum_bounds l k
      have := put_len _ hb.1 hb.2
      unfold wr
      simp only [if_true, List.length_nil]
      omega
    · cases h
  split at h
  · simp only [TR.tok.injEq] at h
    rw [← h.1]
    unfold wr
    simp
  split at h
  · cases h
  · simp only [TR.tok.injEq] at h
    rw [← h.1]
    unfold wr
    simp only [if_neg (show ¬ (2 : Nat) = 3 by omega), if_neg (show ¬ (2 : Nat) = 4 by omega), List.length_take, List.length_drop]
    omega
theorem tk_wr : ∀ (n : Nat) (l : List UInt8) (k : Nat), l.length ≤ k + n → ∀ t ∈ (tk l k).1, (wr t).length ≤ l.length + 17 ∧ t.s.length ≤ l.length + 17
  | n, l, k, hn, t, ht => by
    by_cases h1 : l.length ≤ k
    · rw [tk_end h1] at ht; simp at ht
    cases n with
    | zero => omega
    | succ n =>
      by_cases h2 : Scn.white (l.getD k 0) = true
      · rw [tk_white (by omega) h2] at ht
        exact tk_wr n l (k + 1) (by omega) t ht
      have h2' : Scn.white (l.getD k 0) = false := by simpa using h2
      rcases hh : tokAt l k with ⟨e, p⟩ | ⟨u, m⟩
      · rw [tk_err (by omega) h2' hh] at ht; simp at ht
      · have hm := tokAt_next (by omega) hh
        rw [tk_tok (by omega) h2' hh] at ht
        by_cases h3 : (tk l m).2.2 = 0
        · rw [if_pos h3] at ht
          rcases List.mem_cons.1 ht with rfl | ht
          · exact tokAt_wr hh
          · exact tk_wr n l m (by omega) t ht
        · rw [if_neg h3] at ht; simp at ht
end Scn

theorem rquote_tx (s : List UInt8) (w : World) (h1 : s.length ≤ 100000) (hb : Utf.bad s = s.length) (h2 : (Chr.quote s).length ≤ 100000) (hP : PtTab w) :
    Calls Tryd.prog 20 #[.string ⟨s.toArray⟩] w fun e w' => e = .returned (.tuple #[.string ⟨(Chr.quote s).toArray⟩, .bool true]) ∧ Fr w w' := by
  have e : (⟨s.toArray⟩ : ByteArray).size = s.length := List.size_toArray
  exact rquote_yes ⟨s.toArray⟩ w (by rw [e]; omega) (by rw [e]; exact hb) (by show (Chr.quote s).length ≤ _; omega) hP
set_option maxHeartbeats 1000000 in
theorem write_is (t : Scn.Tok) (w : World) (h : Scn.Good t) (h1 : t.s.length ≤ 100000) (h2 : (Scn.wr t).length ≤ 100000) (hP : PtTab w) :
    Calls Tryd.prog 12 #[.agg #[.int .i64 (t.kind : Nat), .int .i64 t.n, .string ⟨t.s.toArray⟩, .int .i64 (t.at_ : Nat)]] w fun e w' => e = .returned (.string ⟨(Scn.wr t).toArray⟩) ∧ Fr w w' := by
  cases h with
  | mark c a hm =>
    clear h1 h2
    go_enter Tryd.func12, Tryd.ntmps12
    go_wp2_with fail
    go_ret
    exact ⟨rfl, (Fr.refl w).alloc _⟩
  | word W a hm =>
    clear h1 h2 hm
    go_enter Tryd.func12, Tryd.ntmps12
    go_wp2_with fail
    go_ret
    exact ⟨rfl, (Fr.refl w).alloc _⟩
  | num n a hn hn2 =>
    clear h1 h2
    go_enter Tryd.func12, Tryd.ntmps12
    go_wp2_with (go_at_call 19; refine (rput_any n.natAbs n _ (Nat.le_refl _) (by omega) (by omega)).mono ?_; rintro e w1 ⟨rfl, hf⟩; have HF := Lib.hid hf; clear hf)
    go_ret
    exact ⟨rfl, ((Fr.refl w).alloc _).trans HF.out⟩
  | text s a hb =>
    have hq : Scn.wr ⟨4, 0, s, a⟩ = Chr.quote s := by unfold Scn.wr Chr.quoteO; simp [hb]
    rw [hq] at h2 ⊢
    have H1 : Hid (s.length ≤ 100000) := h1
    have H2 : Hid ((Chr.quote s).length ≤ 100000) := h2
    have HB := Lib.hid hb
    have HP := Lib.hid hP
    clear h1 h2 hb hq hP
    go_enter Tryd.func12, Tryd.ntmps12
    go_wp2_with (go_at_call 20; refine (rquote_tx s _ H1.out HB.out H2.out (HP.out.keep ((Fr.refl w).alloc _))).mono ?_; rintro e w1 ⟨rfl, hf⟩; have HF := Lib.hid hf; clear hf)
    go_ret
    exact ⟨rfl, ((Fr.refl w).alloc _).trans HF.out⟩
end Go.Proofs.YtmalfecpcdopfaaDoor
/- Walk of the law ScanBack. -/
namespace Go.Proofs.YtmalfecpcdopfaaDoor
set_option linter.unusedVariables false
set_option linter.unusedSimpArgs false
open Go.RowKit

/-- The gaps. -/
def gapL : Nat → List UInt8
  | 0 => [32]
  | 1 => [9]
  | 2 => [10, 13]
  | _ => [32, 32]
def gapV (m : Nat) : ByteArray := ⟨(gapL m).toArray⟩
theorem gap_white (m : Nat) : ∀ c ∈ gapL m, Scn.white c = true := by
  intro c hc
  unfold gapL at hc
  split at hc <;> simp at hc <;> (try rcases hc with rfl | rfl) <;> (try subst hc) <;> rfl
theorem gap_ne (m : Nat) : gapL m ≠ [] := by unfold gapL; split <;> simp
theorem gap_len (m : Nat) : (gapL m).length ≤ 2 := by unfold gapL; split <;> simp

set_option maxHeartbeats 4000000 in
set_option maxRecDepth 100000 in
theorem back_out (s : ByteArray) (g : Int) (w : World) (hs : s.size ≤ 140737488355328) (hT : LowTabs w) (ts : List Scn.Tok) (p x : Nat) (h : Scn.tokens s.data.toList = (ts, p, x)) (ho : x ≠ 0 ∨ 8000 < s.size) :
    Calls Tryd.prog 4 #[.string s, .int .u8 g] w fun e w' => e = .returned (.bool true) ∧ Fr w w' := by
  have H := Lib.hid h
  have HT := Lib.hid hT
  clear h hT
  have hc : ((x : Int) != 0) = true ∨ (((x : Int) != 0) = false ∧ decide ((8000 : Int) < (s.size : Int)) = true) := by
    by_cases h0 : x = 0
    · have e0 : ((x : Int) != 0) = false := by rw [bne_eq_false_iff_eq]; omega
      exact .inr ⟨e0, decide_eq_true (by omega)⟩
    · left; rw [bne_iff_ne]; omega
  clear ho
  rcases hc with h1 | ⟨h1, h2⟩
  all_goals
    go_enter Tryd.func4, Tryd.ntmps4
    go_wp2_with (first
      | (go_at_call 8; refine (tokens_at s ts p x _ (by omega) HT.out H.out).mono ?_; rintro e w1 ⟨v1, rfl, ht, hf⟩; have HF1 := Lib.hid hf; clear hf ht)
      | (go_at_call 10; have hm := HF3.out; refine (awake04 _ (HT.out.keep hm)).mono ?_; rintro e w5 ⟨rfl, hf⟩; have HF5 := Lib.hid (hm.trans hf); clear hf hm)
      | (go_at_call 10; refine (awake04 _ (HT.out.keep HF1.out)).mono ?_; rintro e w3 ⟨rfl, hf⟩; have HF3 := Lib.hid (HF1.out.trans hf); clear hf))
    go_ret
    exact ⟨rfl, HF5.out⟩

/-- What has been written so far. -/
def Wrt (m : Nat) (ts : List Scn.Tok) (i : Nat) (T : ByteArray) : Prop := T.data.toList = (ts.take i).flatMap (fun t => Scn.wr t ++ gapL m) ∧ T.size ≤ i * 9000
theorem Wrt.next {m i : Nat} {ts : List Scn.Tok} {T : ByteArray} (h : Wrt m ts i T) (hi : i < ts.length) (hl : (Scn.wr ts[i]).length ≤ 8100) : Wrt m ts (i + 1) (T ++ ⟨(Scn.wr ts[i]).toArray⟩ ++ gapV m) := by
  have hg := gap_len m
  refine ⟨?_, ?_⟩
  · rw [data_app, data_app, h.1, List.take_succ_eq_append_getElem hi, List.flatMap_append]
    simp [gapV]
  · rw [ByteArray.size_append, ByteArray.size_append]
    have e1 : (⟨(Scn.wr ts[i]).toArray⟩ : ByteArray).size = (Scn.wr ts[i]).length := List.size_toArray
    have e2 : (gapV m).size = (gapL m).length := List.size_toArray
    have := h.2
    omega
theorem alike_core {ts us : List Scn.Tok} (h : us.map Scn.core = ts.map Scn.core) : alike false ts us := by
  have hl : ts.length = us.length := by have := congrArg List.length h; simpa using this.symm
  refine ⟨hl, fun i h1 h2 => ?_⟩
  have := congrArg (fun l => l[i]?) h
  simp only [List.getElem?_map, List.getElem?_eq_getElem h1, List.getElem?_eq_getElem h2, Option.map_some, Option.some_inj, Scn.core, Prod.mk.injEq] at this
  exact ⟨this.1.symm, this.2.1.symm, this.2.2.symm, fun h => by cases h⟩
theorem back_tokens {m : Nat} {ts : List Scn.Tok} {T : List UInt8} (hg : ∀ t ∈ ts, Scn.Good t) (hT : T = ts.flatMap (fun t => Scn.wr t ++ gapL m)) :
    (65536 < T.length ∧ Scn.tokens T = ([], 0, 2)) ∨ (T.length ≤ 65536 ∧ ∃ us, Scn.tokens T = (us, 0, 0) ∧ alike false ts us) := by
  by_cases h : 65536 < T.length
  · exact .inl ⟨h, Scn.tokens_long h⟩
  · right
    obtain ⟨us, h1, h2⟩ := Scn.back_all (gap_white m) (gap_ne m) ts hg
    refine ⟨by omega, us, ?_, alike_core h2⟩
    rw [Scn.tokens_short h, hT, h1]

set_option maxHeartbeats 4000000 in
set_option maxRecDepth 100000 in
theorem back_in (s : ByteArray) (g m : Nat) (w : World) (hg : g < 256) (hm : g % 4 = m) (hs : s.size ≤ 8000) (hT : LowTabs w) (hP : PtTab w) (ts : List Scn.Tok) (p : Nat) (h : Scn.tokens s.data.toList = (ts, p, 0)) :
    Calls Tryd.prog 4 #[.string s, .int .u8 g] w fun e w' => e = .returned (.bool true) ∧ Fr w w' := by
  have hl : s.data.toList.length = s.size := by simp
  have hlen : ts.length ≤ s.size := by
    have := Scn.tokens_len s.data.toList
    rw [h] at this
    simpa using this
  have h0 := h
  rw [Scn.tokens_short (by omega)] at h0
  have hgood : Hid (∀ t ∈ ts, Scn.Good t) := by
    have := Scn.tk_good _ s.data.toList 0 (Nat.le_add_left _ _)
    rw [h0] at this
    exact this
  have hwr : Hid (∀ t ∈ ts, (Scn.wr t).length ≤ 8100 ∧ t.s.length ≤ 8100) := by
    have := Scn.tk_wr _ s.data.toList 0 (Nat.le_add_left _ _)
    rw [h0, hl] at this
    intro t ht
    have := this t ht
    omega
  have H := Lib.hid h
  have HT := Lib.hid hT
  have HP := Lib.hid hP
  obtain ⟨n, hn⟩ : ∃ n, ts.length = n := ⟨_, rfl⟩
  rw [hn] at hlen
  have HN := Lib.hid hn
  have HLT : Hid (ts.length ≤ 140737488355328) := by show _ ≤ _; omega
  have d1 : decide ((8000 : Int) < (s.size : Int)) = false := decide_eq_false (by omega)
  have hm4 : m < 4 := by omega
  have HM := Lib.hid hm
  clear h h0 hT hP hn hl hm
  go_enter Tryd.func4, Tryd.ntmps4
  go_wp2_with (first
    | (go_at_call 8; refine (tokens_at s ts p 0 _ (by omega) HT.out H.out).mono ?_; rintro e w1 ⟨v1, rfl, ht, hf⟩; have HV1 := Lib.hid ht; obtain ⟨a, c, rfl, ha⟩ := ht.shape; rw [HN.out] at HV1 ⊢; have HF1 := Lib.hid hf; have HA := Lib.hid ha; clear hf ht ha)
    | (go_at_call 10; refine (awake04 _ (HT.out.keep HF1.out)).mono ?_; rintro e w2 ⟨rfl, hf⟩; have HF2 := Lib.hid hf; clear hf))
  go_loopw [9, 10] (fun v j wr => ∃ (i : Nat) (T : ByteArray), i ≤ n ∧ j = .int .i64 i ∧ v = .string T ∧ Hid (Wrt m ts i T) ∧ Hid (Fr w1 wr) ∧ Hid (w2.heap.size < wr.heap.size ∧ wr.cell? ⟨w2.heap.size, m, none⟩ = some (.string (gapV m)))) (fun _ j _ => n - (intOf j).toNat)
  case atStart =>
    refine ⟨0, ⟨#[]⟩, by omega, rfl, rfl, Lib.hid ⟨rfl, by decide⟩, Lib.hid (HF2.out.alloc _), Lib.hid ⟨by simp, ?_⟩⟩
    rw [World.cell?_alloc_at _ _ _ _ rfl]
    rcases (by omega : m = 0 ∨ m = 1 ∨ m = 2 ∨ m = 3) with rfl | rfl | rfl | rfl <;> rfl
  case round =>
    obtain ⟨i, T, hi, rfl, rfl, hW, hfr, hgc⟩ := hrel
    by_cases hlt : i < n
    · obtain ⟨ga, hga, hb1, hat⟩ := HA.out (by intro h; have := HN.out; rw [h] at this; simp at this; omega)
      subst hga
      have hit : i < ts.length := by rw [HN.out]; exact hlt
      obtain ⟨glt, gcell⟩ := hgc.out
      have hat2 := hat.keep hfr.out
      obtain ⟨c0, c1, c2, c3⟩ := hat2.2 i hit
      have hga := hat2.1
      have hgd := Lib.hid (hgood.out ts[i] (List.getElem_mem hit))
      have hwl := hwr.out ts[i] (List.getElem_mem hit)
      have HWL := Lib.hid hwl
      have hnx := Lib.hid (hW.out.next hit hwl.1)
      have hTs : T.size ≤ 80000000 := by have := hW.out.2; omega
      obtain ⟨tk, htk⟩ : ∃ tk, ts[i] = tk := ⟨_, rfl⟩
      rw [htk] at c0 c1 c2 c3 hgd HWL hnx
      obtain ⟨kd, hkd⟩ : ∃ x, x = tk.kind := ⟨_, rfl⟩
      obtain ⟨R, hR⟩ : ∃ R : ByteArray, R = ⟨(Scn.wr tk).toArray⟩ := ⟨_, rfl⟩
      have hRs : R.size ≤ 8100 := by rw [hR]; show (Scn.wr tk).toArray.size ≤ _; rw [List.size_toArray]; exact HWL.out.1
      have HR := Lib.hid hR
      obtain ⟨G, hG⟩ : ∃ G : ByteArray, G = gapV m := ⟨_, rfl⟩
      have hGs : G.size ≤ 2 := by rw [hG]; show (gapL m).toArray.size ≤ _; rw [List.size_toArray]; exact gap_len m
      have HG := Lib.hid hG
      rw [← hG] at gcell
      have hr1 : ((g : Int)).tmod 4 = (m : Int) := by have := HM.out; rw [Int.tmod_eq_emod_of_nonneg (by omega)]; omega
      have hr2 : (g : Int) % 4 = (m : Int) := by have := HM.out; omega
      have b1 : (0 : Int) ≤ (i : Int) := by omega
      have b2 : (i : Int) < (n : Int) := by omega
      have b3 : (0 : Int) ≤ (m : Int) := by omega
      have b4 : (m : Int) < 4 := by omega
      clear hat hat2 hwl htk hkd hR hG
      go_wp2_with fail
      go_region_with (go_at_call 12; refine (write_is tk _ hgd.out (by have := HWL.out; omega) (by have := HWL.out; omega) (HP.out.keep (HF1.out.trans hfr.out.drew))).mono ?_; rintro e w5 ⟨rfl, hf⟩; rw [← HR.out]; have hc5 := hf.cells; have HF5 := Lib.hid (hfr.out.drew.trans hf); have HG5 : Hid (w2.heap.size < w5.heap.size ∧ w5.cell? ⟨w2.heap.size, m, none⟩ = some (.string (gapV m))) := ⟨Nat.lt_of_lt_of_le glt (by have := hf.size; simpa using this), by rw [hf.cell (by simpa using glt)]; exact hgc.out.2⟩; have g5 : w5.cell? ⟨w2.heap.size, m, none⟩ = some (.string G) := (by rw [HG.out]; exact HG5.out.2); clear hf)
      all_goals
        go_wp2_with fail
        exact ⟨⟨i + 1, T ++ R ++ G, by omega, by go_num, rfl, by rw [HR.out, HG.out]; exact hnx, HF5, HG5⟩, by simp [intOf]; omega⟩
    · obtain rfl : i = n := by omega
      have hT0 := hW.out.1
      rw [List.take_of_length_le (by rw [HN.out]; omega)] at hT0
      have hTs : T.size ≤ 80000000 := by have := hW.out.2; omega
      have e1 : T.data.toList.length = T.size := by simp
      rcases back_tokens hgood.out hT0 with ⟨hb, hk⟩ | ⟨hb, us, hk, hal⟩
      · have HK := Lib.hid hk
        have d5 : decide ((65536 : Int) < (T.size : Int)) = true := decide_eq_true (by omega)
        clear hk hT0 e1 hlt
        go_wp2_with (go_at_call 8; refine (tokens_at T [] 0 2 _ (by omega) (HT.out.keep (HF1.out.trans hfr.out)) HK.out).mono ?_; rintro e w5 ⟨v5, rfl, ht, hf⟩; have HF5 := Lib.hid (hfr.out.trans hf); clear hf ht)
        go_ret
        exact ⟨rfl, HF1.out.trans HF5.out⟩
      · have HK := Lib.hid hk
        have HAL := Lib.hid hal
        clear hk hal hT0 e1 hlt
        go_wp2_with (first
          | (go_at_call 8; refine (tokens_at T us 0 0 _ (by omega) (HT.out.keep (HF1.out.trans hfr.out)) HK.out).mono ?_; rintro e w5 ⟨v5, rfl, ht, hf⟩; have HV5 := Lib.hid ht; have HF5 := Lib.hid (hfr.out.trans hf); clear hf ht)
          | (go_at_call 11; refine (rsame_yes false ts us _ _ _ _ _ HAL.out (HV1.out.keep HF5.out) HV5.out HLT.out).mono ?_; rintro e w7 ⟨rfl, hf⟩; have HF7 := Lib.hid (HF5.out.trans hf); clear hf))
        go_ret
        exact ⟨rfl, HF1.out.trans HF7.out⟩

theorem scanback_law (s : ByteArray) (g : Int) (w : World) (h0 : 0 ≤ g) (h255 : g ≤ 255) (hs : s.size ≤ 140737488355328) (hT : LowTabs w) (hP : PtTab w) :
    Calls Tryd.prog 4 #[.string s, .int .u8 g] w fun e w' => e = .returned (.bool true) ∧ Fr w w' := by
  rcases h : Scn.tokens s.data.toList with ⟨ts, p, x⟩
  by_cases ho : x ≠ 0 ∨ 8000 < s.size
  · exact back_out s g w hs hT ts p x h ho
  · obtain rfl : x = 0 := by omega
    obtain ⟨k, rfl⟩ : ∃ k : Nat, g = k := ⟨g.toNat, by omega⟩
    exact back_in s k (k % 4) w (by omega) rfl (by omega) hT hP ts p h
end Go.Proofs.YtmalfecpcdopfaaDoor
