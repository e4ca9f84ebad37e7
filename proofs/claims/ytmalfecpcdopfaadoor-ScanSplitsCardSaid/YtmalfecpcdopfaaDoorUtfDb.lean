/- The walk of the document's One: of three and four bytes. -/
import Derived.Test.YtmalfecpcdopfaaDoorUtfD
namespace Go.Proofs.YtmalfecpcdopfaaDoor
set_option linter.unusedVariables false
set_option linter.unusedSimpArgs false
open Go.RowKit

set_option maxHeartbeats 2000000 in
set_option maxRecDepth 100000 in
theorem rone_3 (s : ByteArray) (k p n : Nat) (a : UInt8) (w : World) (hs : s.size ≤ maxLen) (hk : k < s.size) (ha : s[k] = a) (hlo : 224 ≤ a.toNat) (hhi : a.toNat < 240) (h : Utf.one (s.data.toList.drop k) = (p, n)) :
    Calls Tryd.prog 27 #[.string s, .int .i64 k] w fun e w' => e = .returned (.tuple #[.int .i64 p, .int .i64 n]) ∧ Fr w w' := by
  unfold maxLen at hs
  have hn0 : Utf.rn a = 3 := by unfold Utf.rn; rw [if_neg (by omega), if_pos (by omega)]
  have hp0 : Utf.rp a = (a.toNat - 224) := by unfold Utf.rp; rw [if_neg (by omega), if_pos (by omega)]
  have ha256 := a.toNat_lt
  have d1 : decide ((k : Int) < 0) = false := decide_eq_false (by omega)
  have d2 : decide ((s.size : Int) ≤ (k : Int)) = false := decide_eq_false (by omega)
  have d2n : decide (s.size ≤ k) = false := decide_eq_false (by omega)
  have d192 : decide ((192 : Int) ≤ (a.toNat : Int)) = true := decide_eq_true (by omega)
  have d224 : decide ((224 : Int) ≤ (a.toNat : Int)) = true := decide_eq_true (by omega)
  have d240 : decide ((240 : Int) ≤ (a.toNat : Int)) = false := decide_eq_false (by omega)
  by_cases hlen : s.size - k < 3
  · obtain ⟨rfl, rfl⟩ := rone_short hk ha hn0 hlen h
    have d3 : decide ((s.size : Int) - (k : Int) < 3) = true := decide_eq_true (by omega)
    clear h hn0 hp0 hlen
    go_enter Tryd.func27, Tryd.ntmps27
    go_wp2_with fail
    go_ret2
    exact ⟨rfl, Fr.refl _⟩
  · have d3 : decide ((s.size : Int) - (k : Int) < 3) = false := decide_eq_false (by omega)
    have hst : ROneInv s k 3 (a.toNat - 224) 1 (a.toNat - 224) := ⟨by omega, by omega, rfl, by omega, by omega, by omega, by omega⟩
    have hsub : Hid (IntKind.i64.wrap ((a.toNat : Int) - 224) = (((a.toNat - 224) : Nat) : Int)) := by show _ = _; rw [IntKind.wrap_i64]; omega
    have HE := Lib.hid (fun q hq => rone_end (q := q) hk ha hn0 hp0 (by omega) hq h)
    clear h hn0 hp0
    go_enter Tryd.func27, Tryd.ntmps27
    go_wp2_with fail
    go_loop [8, 9] (fun v j => ∃ i q : Nat, v = .int .i64 q ∧ j = .int .i64 i ∧ ROneInv s k 3 (a.toNat - 224) i q) (fun _ j => 3 - (intOf j).toNat)
    case atStart => exact ⟨1, (a.toNat - 224), by go_num, rfl, hst⟩
    case round =>
      obtain ⟨i, q, rfl, rfl, hi⟩ := hrel
      have h1 := hi.lo
      have h2 := hi.hi
      have hqb := hi.bound (by omega)
      by_cases hlt : i < 3
      · have hx : k + i < s.size := by omega
        obtain ⟨b, hbb⟩ : ∃ b, s[k + i] = b := ⟨_, rfl⟩
        have hb256 := b.toNat_lt
        have hnx := Lib.hid (hi.step (by omega) hlt hx)
        rw [hbb] at hnx
        clear hi
        go_wp2_with fail
        exact ⟨⟨i + 1, q * 64 + b.toNat % 64, by go_num, by go_num, hnx.out⟩, by simp [intOf]; omega⟩
      · obtain rfl : i = 3 := by omega
        have hd := hi.done
        have hle : k + 3 ≤ s.size := by omega
        have hle2 : (k : Int) + 3 ≤ (s.size : Int) := by omega
        have hz1 : (0 : Int) ≤ (k : Int) + 3 := by omega
        have hz2 : (k : Int) ≤ (k : Int) + 3 := by omega
        have hwr : IntKind.i64.wrap ((k : Int) + 3) = (k : Int) + 3 := by rw [IntKind.wrap_i64]; omega
        rcases HE.out q hd with ⟨hc, rfl, rfl⟩ | ⟨hc, rfl, rfl⟩
        · clear hi hd HE
          go_wp2_with fail
          go_region_with (go_at_call 28; refine (rbytes_any p _ (by omega)).mono ?_; rintro e w1 ⟨v, rfl, hB, hfr⟩; have hcv := hB.conv)
          all_goals (try go_wp2_with fail)
          all_goals first
            | (have hx : (!(Utf.bytesO p == (s.extract k (k + 3)).toList)) = true := by assumption
               rw [hc] at hx
               cases hx)
            | (go_ret2
               exact ⟨rfl, (Fr.drew (Fr.refl _)).trans hfr⟩)
        · clear hi hd HE
          go_wp2_with fail
          go_region_with (go_at_call 28; refine (rbytes_any q _ (by omega)).mono ?_; rintro e w1 ⟨v, rfl, hB, hfr⟩; have hcv := hB.conv)
          all_goals (try go_wp2_with fail)
          all_goals first
            | (have hx : (!(Utf.bytesO q == (s.extract k (k + 3)).toList)) = false := by assumption
               rw [hc] at hx
               cases hx)
            | (go_ret2
               exact ⟨rfl, (Fr.drew (Fr.refl _)).trans hfr⟩)

set_option maxHeartbeats 2000000 in
set_option maxRecDepth 100000 in
theorem rone_4 (s : ByteArray) (k p n : Nat) (a : UInt8) (w : World) (hs : s.size ≤ maxLen) (hk : k < s.size) (ha : s[k] = a) (hlo : 240 ≤ a.toNat)  (h : Utf.one (s.data.toList.drop k) = (p, n)) :
    Calls Tryd.prog 27 #[.string s, .int .i64 k] w fun e w' => e = .returned (.tuple #[.int .i64 p, .int .i64 n]) ∧ Fr w w' := by
  unfold maxLen at hs
  have hn0 : Utf.rn a = 4 := by unfold Utf.rn; rw [if_pos (by omega)]
  have hp0 : Utf.rp a = (a.toNat - 240) := by unfold Utf.rp; rw [if_pos (by omega)]
  have ha256 := a.toNat_lt
  have d1 : decide ((k : Int) < 0) = false := decide_eq_false (by omega)
  have d2 : decide ((s.size : Int) ≤ (k : Int)) = false := decide_eq_false (by omega)
  have d2n : decide (s.size ≤ k) = false := decide_eq_false (by omega)
  have d192 : decide ((192 : Int) ≤ (a.toNat : Int)) = true := decide_eq_true (by omega)
  have d224 : decide ((224 : Int) ≤ (a.toNat : Int)) = true := decide_eq_true (by omega)
  have d240 : decide ((240 : Int) ≤ (a.toNat : Int)) = true := decide_eq_true (by omega)
  by_cases hlen : s.size - k < 4
  · obtain ⟨rfl, rfl⟩ := rone_short hk ha hn0 hlen h
    have d3 : decide ((s.size : Int) - (k : Int) < 4) = true := decide_eq_true (by omega)
    clear h hn0 hp0 hlen
    go_enter Tryd.func27, Tryd.ntmps27
    go_wp2_with fail
    go_ret2
    exact ⟨rfl, Fr.refl _⟩
  · have d3 : decide ((s.size : Int) - (k : Int) < 4) = false := decide_eq_false (by omega)
    have hst : ROneInv s k 4 (a.toNat - 240) 1 (a.toNat - 240) := ⟨by omega, by omega, rfl, by omega, by omega, by omega, by omega⟩
    have hsub : Hid (IntKind.i64.wrap ((a.toNat : Int) - 240) = (((a.toNat - 240) : Nat) : Int)) := by show _ = _; rw [IntKind.wrap_i64]; omega
    have HE := Lib.hid (fun q hq => rone_end (q := q) hk ha hn0 hp0 (by omega) hq h)
    clear h hn0 hp0
    go_enter Tryd.func27, Tryd.ntmps27
    go_wp2_with fail
    go_loop [8, 9] (fun v j => ∃ i q : Nat, v = .int .i64 q ∧ j = .int .i64 i ∧ ROneInv s k 4 (a.toNat - 240) i q) (fun _ j => 4 - (intOf j).toNat)
    case atStart => exact ⟨1, (a.toNat - 240), by go_num, rfl, hst⟩
    case round =>
      obtain ⟨i, q, rfl, rfl, hi⟩ := hrel
      have h1 := hi.lo
      have h2 := hi.hi
      have hqb := hi.bound (by omega)
      by_cases hlt : i < 4
      · have hx : k + i < s.size := by omega
        obtain ⟨b, hbb⟩ : ∃ b, s[k + i] = b := ⟨_, rfl⟩
        have hb256 := b.toNat_lt
        have hnx := Lib.hid (hi.step (by omega) hlt hx)
        rw [hbb] at hnx
        clear hi
        go_wp2_with fail
        exact ⟨⟨i + 1, q * 64 + b.toNat % 64, by go_num, by go_num, hnx.out⟩, by simp [intOf]; omega⟩
      · obtain rfl : i = 4 := by omega
        have hd := hi.done
        have hle : k + 4 ≤ s.size := by omega
        have hle2 : (k : Int) + 4 ≤ (s.size : Int) := by omega
        have hz1 : (0 : Int) ≤ (k : Int) + 4 := by omega
        have hz2 : (k : Int) ≤ (k : Int) + 4 := by omega
        have hwr : IntKind.i64.wrap ((k : Int) + 4) = (k : Int) + 4 := by rw [IntKind.wrap_i64]; omega
        rcases HE.out q hd with ⟨hc, rfl, rfl⟩ | ⟨hc, rfl, rfl⟩
        · clear hi hd HE
          go_wp2_with fail
          go_region_with (go_at_call 28; refine (rbytes_any p _ (by omega)).mono ?_; rintro e w1 ⟨v, rfl, hB, hfr⟩; have hcv := hB.conv)
          all_goals (try go_wp2_with fail)
          all_goals first
            | (have hx : (!(Utf.bytesO p == (s.extract k (k + 4)).toList)) = true := by assumption
               rw [hc] at hx
               cases hx)
            | (go_ret2
               exact ⟨rfl, (Fr.drew (Fr.refl _)).trans hfr⟩)
        · clear hi hd HE
          go_wp2_with fail
          go_region_with (go_at_call 28; refine (rbytes_any q _ (by omega)).mono ?_; rintro e w1 ⟨v, rfl, hB, hfr⟩; have hcv := hB.conv)
          all_goals (try go_wp2_with fail)
          all_goals first
            | (have hx : (!(Utf.bytesO q == (s.extract k (k + 4)).toList)) = false := by assumption
               rw [hc] at hx
               cases hx)
            | (go_ret2
               exact ⟨rfl, (Fr.drew (Fr.refl _)).trans hfr⟩)

end Go.Proofs.YtmalfecpcdopfaaDoor
