/- Walks of the two Seqs. -/
import Derived.Test.YtfejbahonaalbaaIdentE
import Derived.Test.YtfejbahonaalbaaNumsG
namespace Go.Proofs.Ytfejbahonaalbaa
set_option linter.unusedVariables false
set_option linter.unusedSimpArgs false
open Go.RowKit

/-- A state's number. -/
def seqOf (kind : Int) (l : List UInt8) : Option Int :=
  if kind = 1 ∨ kind = 2 then (match l with
    | [] => none
    | c :: t => if c = Idn.small kind then (match Nm.allNum t with | some n => if n < 0 then none else some n | none => none) else none) else none
/-- A number, and 0, or 0 and 100. -/
def seqV (x : Option Int) : Value := .tuple #[.int .i64 (x.getD 0), .int .i64 (if x.isSome then 0 else 100)]

theorem empty_or (s : ByteArray) : s = ⟨#[]⟩ ∨ ∃ (h : 0 < s.size) (c : UInt8) (t : List UInt8), s[0] = c ∧ s.data.toList = c :: t ∧ (s.extract 1 s.size).data.toList = t := by
  cases hq : s.data.toList with
  | nil => left; exact bytes_eq (by rw [hq])
  | cons c t =>
    right
    have hl : s.size = t.length + 1 := by
      have := congrArg List.length hq
      simpa using this
    refine ⟨by omega, c, t, ?_, rfl, ?_⟩
    · have h2 : 0 < s.data.toList.length := by rw [hq]; simp
      have : s[0]'(by omega) = s.data.toList[0] := rfl
      rw [this]; simp [hq]
    · simp only [ByteArray.data_extract, Array.toList_extract, List.extract, hl, hq]
      simp

set_option maxHeartbeats 1000000 in
theorem seq_any (kind : Int) (s : ByteArray) (w : World) (hs : s.size ≤ maxLen) :
    Calls Try.prog 13 #[.int .i64 kind, .string s] w fun e w' => e = .returned (seqV (seqOf kind s.data.toList)) ∧ Fr w w' := by
  unfold maxLen at hs
  obtain ⟨y, hy⟩ : ∃ y, lett kind = y := ⟨_, rfl⟩
  have HY := Lib.hid hy
  clear hy
  by_cases hk : kind = 1 ∨ kind = 2
  · obtain ⟨x, hx⟩ : ∃ x : UInt8, Idn.small kind = x := ⟨_, rfl⟩
    have hxl : Hid (smal kind = (x.toNat : Int)) := by show _ = _; rw [smal_is hk, hx]
    have hx0 : ((x.toNat : Int) == 0) = false := by
      rcases hk with rfl | rfl <;> (rw [← hx]; rfl)
    have hsq : ∀ l, seqOf kind l = match l with
        | [] => none
        | c :: t => if c = x then (match Nm.allNum t with | some n => if n < 0 then none else some n | none => none) else none := by
      intro l; unfold seqOf; rw [if_pos hk, hx]
    have HS := Lib.hid hsq
    clear hsq hk hx
    rcases empty_or s with rfl | ⟨hpos, c, t, hc, hl, ht⟩
    · have hr : Hid (seqOf kind (⟨#[]⟩ : ByteArray).data.toList = none) := HS.out _
      go_enter Try.func13, Try.ntmps13
      go_wp2_with (go_at_call 20; refine (letter_is kind y (x.toNat : Int) _ HY.out hxl.out).mono ?_; rintro e w' ⟨rfl, rfl⟩)
      go_ret2
      exact ⟨by rw [hr.out]; rfl, Fr.refl _⟩
    · have hne : s.toList.isEmpty = false := by rw [ByteArray.toList_eq, hl]; rfl
      have hne2 : (s.toList == []) = false := by rw [ByteArray.toList_eq, hl]; rfl
      by_cases hcx : c = x
      · subst hcx
        have hcc : ((c.toNat : Int) != (c.toNat : Int)) = false := by simp
        have hxs : Hid ((s.extract 1 s.size).size ≤ maxLen) := by show _ ≤ _; unfold maxLen; simp; omega
        have hr : seqOf kind s.data.toList = (match Nm.allNum t with | some n => if n < 0 then none else some n | none => none) := by rw [HS.out, hl]; simp
        rw [← ht] at hr
        have HR := Lib.hid hr
        clear hr hl ht
        cases hq : Nm.allNum (s.extract 1 s.size).data.toList with
        | none =>
          have HQ := Lib.hid hq
          clear hq
          have hr : Hid (seqOf kind s.data.toList = none) := by show _ = _; rw [HR.out, HQ.out]
          go_enter Try.func13, Try.ntmps13
          go_wp2_with (first | (go_at_call 20; refine (letter_is kind y (c.toNat : Int) _ HY.out hxl.out).mono ?_; rintro e w' ⟨rfl, rfl⟩) | (go_at_call 24; refine (all_none _ _ hxs.out HQ.out).mono ?_; rintro e w1 ⟨rfl, hw1⟩))
          go_ret2
          exact ⟨by rw [hr.out]; rfl, hw1⟩
        | some n =>
          have hb := (Nm.allNum_some hq).2
          have HQ := Lib.hid hq
          clear hq
          by_cases hn : n < 0
          · have hr : Hid (seqOf kind s.data.toList = none) := by show _ = _; rw [HR.out, HQ.out]; exact if_pos hn
            go_enter Try.func13, Try.ntmps13
            go_wp2_with (first | (go_at_call 20; refine (letter_is kind y (c.toNat : Int) _ HY.out hxl.out).mono ?_; rintro e w' ⟨rfl, rfl⟩) | (go_at_call 24; refine (all_some _ n _ hxs.out HQ.out).mono ?_; rintro e w1 ⟨rfl, hw1⟩))
            go_ret2
            exact ⟨by rw [hr.out]; rfl, hw1⟩
          · have hr : Hid (seqOf kind s.data.toList = some n) := by show _ = _; rw [HR.out, HQ.out]; exact if_neg hn
            have hn2 : 0 ≤ n := by omega
            clear hn
            go_enter Try.func13, Try.ntmps13
            go_wp2_with (first | (go_at_call 20; refine (letter_is kind y (c.toNat : Int) _ HY.out hxl.out).mono ?_; rintro e w' ⟨rfl, rfl⟩) | (go_at_call 24; refine (all_some _ n _ hxs.out HQ.out).mono ?_; rintro e w1 ⟨rfl, hw1⟩))
            go_ret2
            exact ⟨by rw [hr.out]; rfl, hw1⟩
      · have hcc : ((c.toNat : Int) != (x.toNat : Int)) = true := by
          rw [bne_iff_ne]; intro h; exact hcx (UInt8.toNat_inj.1 (by omega))
        have hr : Hid (seqOf kind s.data.toList = none) := by show _ = _; rw [HS.out, hl]; exact if_neg hcx
        clear hl ht hcx
        go_enter Try.func13, Try.ntmps13
        go_wp2_with (go_at_call 20; refine (letter_is kind y (x.toNat : Int) _ HY.out hxl.out).mono ?_; rintro e w' ⟨rfl, rfl⟩)
        go_ret2
        exact ⟨by rw [hr.out]; rfl, Fr.refl _⟩
  · have hy0 : Hid (smal kind = 0) := by show _ = _; unfold smal; rw [if_neg (fun h => hk (.inl h)), if_neg (fun h => hk (.inr h))]
    have hr : Hid (seqOf kind s.data.toList = none) := by show _ = _; unfold seqOf; rw [if_neg hk]
    clear hk
    go_enter Try.func13, Try.ntmps13
    go_wp2_with (go_at_call 20; refine (letter_is kind y 0 _ HY.out hy0.out).mono ?_; rintro e w' ⟨rfl, rfl⟩)
    go_ret2
    exact ⟨by rw [hr.out]; rfl, Fr.refl _⟩

/-- A state of a number that digits say. -/
theorem state_of_all {kind n : Int} {t : List UInt8} (hk : kind = 1 ∨ kind = 2) (h : Nm.allNum t = some n) (hn : 0 ≤ n) : Idn.state kind n = Idn.small kind :: t := by
  obtain ⟨h1, h2, h3⟩ := Nm.allNum_some h
  have hm : Idn.may kind n = true := by
    unfold Idn.may
    rcases hk with rfl | rfl <;> (simp; omega)
  unfold Idn.state
  rw [hm, h1]
  rfl

theorem kind_tests {kind : Int} (hk : kind = 1 ∨ kind = 2) : ((kind != 1) = false) ∨ ((kind != 1) = true ∧ (kind != 2) = false) := by
  rcases hk with rfl | rfl
  · left; rfl
  · right; exact ⟨rfl, rfl⟩

set_option maxHeartbeats 2000000 in
theorem rseq_any (kind : Int) (s : ByteArray) (w : World) (hs : s.size ≤ maxLen) :
    Calls Try.prog 14 #[.int .i64 kind, .string s] w fun e w' => e = .returned (seqV (seqOf kind s.data.toList)) ∧ Fr w w' := by
  unfold maxLen at hs
  by_cases hk : kind = 1 ∨ kind = 2
  · have hkt := kind_tests hk
    have hsq : ∀ l, seqOf kind l = match l with
        | [] => none
        | c :: t => if c = Idn.small kind then (match Nm.allNum t with | some n => if n < 0 then none else some n | none => none) else none := by
      intro l; unfold seqOf; rw [if_pos hk]
    have HS := Lib.hid hsq
    have HK := Lib.hid hk
    clear hsq hk
    rcases empty_or s with rfl | ⟨hpos, c, t, hc, hl, ht⟩
    · have hr : Hid (seqOf kind (⟨#[]⟩ : ByteArray).data.toList = none) := HS.out _
      rcases hkt with h1 | ⟨h1, h2⟩
      all_goals
        go_enter Try.func14, Try.ntmps14
        go_wp2_with fail
        go_ret2
        exact ⟨by rw [hr.out]; rfl, Fr.refl _⟩
    · have hne : s.toList.isEmpty = false := by rw [ByteArray.toList_eq, hl]; rfl
      have hne2 : (s.toList == []) = false := by rw [ByteArray.toList_eq, hl]; rfl
      have hxs : Hid ((s.extract 1 s.size).size ≤ maxLen) := by show _ ≤ _; unfold maxLen; simp; omega
      have hr : seqOf kind s.data.toList = (if c = Idn.small kind then (match Nm.allNum t with | some n => if n < 0 then none else some n | none => none) else none) := by rw [HS.out, hl]
      cases hq : Nm.allNum t with
      | none =>
        have hr2 : Hid (seqOf kind s.data.toList = none) := by show _ = _; rw [hr, hq]; split <;> rfl
        have HQ : Hid (Nm.allNum (s.extract 1 s.size).data.toList = none) := by show _ = _; rw [ht]; exact hq
        clear hr hq hl ht
        rcases hkt with h1 | ⟨h1, h2⟩
        all_goals
          go_enter Try.func14, Try.ntmps14
          go_wp2_with (go_at_call 25; refine (rall_none _ _ hxs.out HQ.out).mono ?_; rintro e w1 ⟨rfl, rfl⟩)
          go_ret2
          exact ⟨by rw [hr2.out]; rfl, Fr.refl _⟩
      | some n =>
        have hb := (Nm.allNum_some hq).2
        have HQ : Hid (Nm.allNum (s.extract 1 s.size).data.toList = some n) := by show _ = _; rw [ht]; exact hq
        by_cases hn : n < 0
        · have hr2 : Hid (seqOf kind s.data.toList = none) := by show _ = _; rw [hr, hq]; simp [hn]
          clear hr hq hl ht
          rcases hkt with h1 | ⟨h1, h2⟩
          all_goals
            go_enter Try.func14, Try.ntmps14
            go_wp2_with (go_at_call 25; refine (rall_some _ n _ hxs.out HQ.out).mono ?_; rintro e w1 ⟨rfl, rfl⟩)
            go_ret2
            exact ⟨by rw [hr2.out]; rfl, Fr.refl _⟩
        · have hn2 : 0 ≤ n := by omega
          have hst := state_of_all HK.out hq hn2
          by_cases hcx : c = Idn.small kind
          · have hr2 : Hid (seqOf kind s.data.toList = some n) := by show _ = _; rw [hr, hq, if_pos hcx]; exact if_neg hn
            have hE : (Idn.state kind n == s.toList) = true := by rw [ByteArray.toList_eq, hl, hst, hcx]; simp
            clear hr hq hl ht hcx hst hn
            rcases hkt with h1 | ⟨h1, h2⟩
            all_goals
              go_enter Try.func14, Try.ntmps14
              go_wp2_with (first | (go_at_call 25; refine (rall_some _ n _ hxs.out HQ.out).mono ?_; rintro e w1 ⟨rfl, rfl⟩) | (go_at_call 12; refine (rstate_any kind n _).mono ?_; rintro e w1 ⟨rfl, hw1⟩))
              go_ret2
              exact ⟨by rw [hr2.out]; rfl, hw1⟩
          · have hr2 : Hid (seqOf kind s.data.toList = none) := by show _ = _; rw [hr, if_neg hcx]
            have hE : (Idn.state kind n == s.toList) = false := by rw [ByteArray.toList_eq, hl, hst, beq_eq_false_iff_ne]; intro h; exact hcx (List.cons.inj h).1.symm
            clear hr hq hl ht hcx hst hn
            rcases hkt with h1 | ⟨h1, h2⟩
            all_goals
              go_enter Try.func14, Try.ntmps14
              go_wp2_with (first | (go_at_call 25; refine (rall_some _ n _ hxs.out HQ.out).mono ?_; rintro e w1 ⟨rfl, rfl⟩) | (go_at_call 12; refine (rstate_any kind n _).mono ?_; rintro e w1 ⟨rfl, hw1⟩))
              go_ret2
              exact ⟨by rw [hr2.out]; rfl, hw1⟩
  · have hr : Hid (seqOf kind s.data.toList = none) := by show _ = _; unfold seqOf; rw [if_neg hk]
    have h1 : (kind != 1) = true := by rw [bne_iff_ne]; exact fun h => hk (.inl h)
    have h2 : (kind != 2) = true := by rw [bne_iff_ne]; exact fun h => hk (.inr h)
    clear hk
    go_enter Try.func14, Try.ntmps14
    go_wp2_with fail
    go_ret2
    exact ⟨by rw [hr.out]; rfl, Fr.refl _⟩

end Go.Proofs.Ytfejbahonaalbaa
