/- Walks of the reference's Make. -/
import Derived.Test.YtfejbahonaalbaaIdentC
namespace Go.Proofs.Ytfejbahonaalbaa
set_option linter.unusedVariables false
set_option linter.unusedSimpArgs false
open Go.RowKit

theorem rdigit_is (x : Int) (c : UInt8) (w : World) (n : Nat) (h : n < 32) (hx : x = n) (hc : Idn.d32 n = c) :
    Calls Try.prog 21 #[.int .i64 x] w fun e w' => e = .returned (.int .u8 c.toNat) ∧ w = w' := by
  subst hx; subst hc; exact rdigit_any n w h

/-- What keeps a kind and a number from having an id. -/
theorem may_no {kind n : Int} (h : Idn.may kind n = false) :
    ((kind != 1) = true ∧ (kind != 2) = true) ∨ ((((kind != 1) = false) ∨ ((kind != 1) = true ∧ (kind != 2) = false)) ∧ (n < 0 ∨ (0 ≤ n ∧ 9007199254740991 < n))) := by
  have h1 := Idn.may_false h
  by_cases hk : kind = 1
  · subst hk
    right; refine ⟨.inl rfl, by omega⟩
  · by_cases hk2 : kind = 2
    · subst hk2
      right; refine ⟨.inr ⟨rfl, rfl⟩, by omega⟩
    · left; exact ⟨by rw [bne_iff_ne]; exact hk, by rw [bne_iff_ne]; exact hk2⟩

set_option maxHeartbeats 1000000 in
theorem rmake_no (kind n : Int) (w : World) (h : Idn.may kind n = false) :
    Calls Try.prog 10 #[.int .i64 kind, .int .i64 n] w fun e w' => e = .returned (.string ⟨(Idn.makeId kind n).toArray⟩) ∧ Fr w w' := by
  have hm : Hid (Idn.makeId kind n = []) := by show _ = _; unfold Idn.makeId; rw [h]; rfl
  rcases may_no h with ⟨h1, h2⟩ | ⟨h1 | ⟨h1, h2⟩, h3 | ⟨h3, h4⟩⟩
  all_goals
    clear h
    go_enter Try.func10, Try.ntmps10
    go_wp2_with fail
    go_ret
    exact ⟨by rw [hm.out]; rfl, Fr.refl _⟩

set_option maxHeartbeats 1000000 in
theorem rmake_yes (kind n : Int) (w : World) (h : Idn.may kind n = true) :
    Calls Try.prog 10 #[.int .i64 kind, .int .i64 n] w fun e w' => e = .returned (.string ⟨(Idn.makeId kind n).toArray⟩) ∧ Fr w w' := by
  have hm : Hid (Idn.makeId kind n = Idn.letter kind :: Idn.dig 11 n.toNat) := by show _ = _; unfold Idn.makeId; rw [h]; rfl
  obtain ⟨hk, hn0, hn1⟩ := Idn.may_true h
  obtain ⟨m, rfl⟩ : ∃ m : Nat, n = m := ⟨n.toNat, by omega⟩
  clear h
  rcases hk with rfl | rfl
  all_goals
    go_enter Try.func10, Try.ntmps10
    go_wp2_with fail
    go_loopw [1, 5, 6] (fun v s i wr => ∃ (j r : Nat) (bs : ByteArray), i = .int .i64 j ∧ v = .int .i64 r ∧ s = .string bs ∧ j ≤ 11 ∧ r ≤ 9007199254740991 ∧ bs.size ≤ 11 ∧ Hid (bs.size = j) ∧ Fr w wr ∧ Hid (Idn.dig 11 m = Idn.dig (11 - j) r ++ bs.data.toList)) (fun _ _ i _ => 11 - (intOf i).toNat)
    case atStart => exact ⟨0, m, ⟨#[]⟩, rfl, rfl, rfl, by omega, by omega, by decide, rfl, Fr.refl _, by show _ = _; simp⟩
    case round =>
      obtain ⟨j, r, bs, rfl, rfl, rfl, hj, hr, hbs, hsz, hfr, hd⟩ := hrel
      by_cases h0 : j < 11
      · obtain ⟨c, hc⟩ : ∃ c, Idn.d32 (r % 32) = c := ⟨_, rfl⟩
        have HC := Lib.hid hc
        clear hc
        go_wp2_with (go_at_call 21; refine (rdigit_is _ c _ (r % 32) (by omega) (by omega) HC.out).mono ?_; rintro e w' ⟨rfl, rfl⟩)
        refine ⟨⟨j + 1, r / 32, _, by go_num, by go_num, rfl, by omega, by omega, ?_, ?_, (hfr.alloc _), ?_⟩, by simp [intOf]; omega⟩
        · have := hsz.out; rw [ByteArray.size_append]; show 1 + bs.size ≤ 11; omega
        · have := hsz.out; show _ = _; rw [ByteArray.size_append]; show 1 + bs.size = j + 1; omega
        · show _ = _
          rw [hd.out, show 11 - j = (11 - (j + 1)) + 1 by omega, Idn.dig, data_app, HC.out]; simp
      · obtain rfl : j = 11 := by omega
        go_wp2_with fail
        go_ret
        exact ⟨ret_bs (by rw [hm.out, data_app, show ((m : Int)).toNat = m by omega, hd.out]; rfl), hfr⟩

end Go.Proofs.Ytfejbahonaalbaa
