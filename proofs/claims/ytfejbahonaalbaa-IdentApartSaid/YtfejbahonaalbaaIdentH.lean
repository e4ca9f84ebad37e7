/- The walk of the reference's Number. -/
import Derived.Test.YtfejbahonaalbaaIdentG
namespace Go.Proofs.Ytfejbahonaalbaa
set_option linter.unusedVariables false
set_option linter.unusedSimpArgs false
open Go.RowKit

def rdig (c : UInt8) : Int := (if 97 ≤ (c.toNat : Int) then (c.toNat : Int) - 87 else (c.toNat : Int) - 48).tmod 32
def rval (n : Int) : List UInt8 → Int
  | [] => n
  | c :: l => rval (n * 32 + rdig c) l
theorem rdig_v32 {c : UInt8} {d : Nat} (h : Idn.v32 c = some d) : rdig c = d := by
  unfold Idn.v32 at h
  unfold rdig
  split at h
  · rename_i h1
    cases h
    rw [if_neg (by omega), Int.tmod_eq_emod_of_nonneg (by omega)]; omega
  · split at h
    · rename_i h1 h2
      cases h
      rw [if_pos (by omega), Int.tmod_eq_emod_of_nonneg (by omega)]; omega
    · cases h
theorem rval_valD : ∀ (l : List UInt8) (m k : Nat), Idn.valD m l = some k → rval m l = k
  | [], m, k, h => by simp [Idn.valD] at h; subst h; rfl
  | c :: l, m, k, h => by
    rw [Idn.valD] at h
    cases hd : Idn.v32 c with
    | none => rw [hd] at h; cases h
    | some d =>
      rw [hd] at h
      have h2 := rval_valD l _ k h
      rw [rval, rdig_v32 hd]
      have e : ((m * 32 + d : Nat) : Int) = (m : Int) * 32 + (d : Int) := by omega
      rw [e] at h2
      exact h2
theorem rdig_bound (c : UInt8) : -31 ≤ rdig c ∧ rdig c ≤ 31 := by
  unfold rdig
  have h : ∀ x : Int, -31 ≤ x.tmod 32 ∧ x.tmod 32 ≤ 31 := by
    intro x
    have := Int.natAbs_tmod x 32
    have h2 : (x.tmod 32).natAbs = x.natAbs % 32 := by rw [this]; rfl
    omega
  exact h _
theorem numberOf_val {l : List UInt8} {k m : Int} (h : Idn.numberOf l = some (k, m)) : rval 0 (l.drop 1) = m ∧ (k = 1 ∨ k = 2) := by
  have h1 := (Idn.make_numberOf h)
  cases hv : Idn.valD 0 (l.drop 1) with
  | none => rw [Idn.numberOf_bad hv] at h; cases h
  | some n =>
    have h2 := rval_valD _ 0 n hv
    have h3 : rval 0 (l.drop 1) = n := h2
    rcases Idn.numberOf_at hv with e | e | e
    · rw [e] at h; cases h
    · rw [e] at h; cases h; exact ⟨h3, .inl rfl⟩
    · rw [e] at h; cases h; exact ⟨h3, .inr rfl⟩

set_option maxHeartbeats 1000000 in
theorem rnumber_any (s : ByteArray) (w : World) (hs : s.size ≤ maxLen) :
    Calls Try.prog 16 #[.string s] w fun e w' => e = .returned (numV3 (Idn.numberOf s.data.toList)) ∧ Fr w w' := by
  unfold maxLen at hs
  by_cases h12 : s.size = 12
  · have hl12 : ((s.size : Int) != 12) = false := by rw [bne_eq_false_iff_eq]; omega
    have hlen : 12 ≤ s.size := by omega
    have hlen2 : s.size ≤ 12 := by omega
    have H12 := Lib.hid h12
    clear h12
    go_enter Try.func16, Try.ntmps16
    go_wp2_with fail
    go_loop [5, 6] (fun v i => ∃ (j : Nat) (n : Int), i = .int .i64 j ∧ v = .int .i64 n ∧ 1 ≤ j ∧ j ≤ 12 ∧ -36028797018963967 ≤ n ∧ n ≤ 36028797018963967 ∧ Hid (n.natAbs < 32 ^ (j - 1)) ∧ Hid (rval 0 (s.data.toList.drop 1) = rval n (s.data.toList.drop j))) (fun _ i => 12 - (intOf i).toNat)
    case atStart => exact ⟨1, 0, rfl, rfl, by omega, by omega, by omega, by omega, by show _ < _; decide, rfl⟩
    case round =>
      obtain ⟨j, n, rfl, rfl, hj1, hj, hnlo, hnhi, hpw, hv⟩ := hrel
      by_cases h0 : j < 12
      · obtain ⟨c, hc⟩ : ∃ c, s[j] = c := ⟨_, rfl⟩
        have hvj : Hid (rval 0 (s.data.toList.drop 1) = rval (n * 32 + rdig c) (s.data.toList.drop (j + 1))) := by
          show _ = _
          rw [hv.out, Nm.drop_cons _ j (by simp; omega), rval, ← hc]; rfl
        have hb := rdig_bound c
        obtain ⟨r, hr⟩ : ∃ r, rdig c = r := ⟨_, rfl⟩
        rw [hr] at hb
        obtain ⟨hb1, hb2⟩ := hb
        have hpw2 : Hid ((n * 32 + r).natAbs < 32 ^ (j + 1 - 1)) := by
          show _ < _
          have h1 := hpw.out
          rw [show j + 1 - 1 = (j - 1) + 1 by omega, Nat.pow_succ]; omega
        have hnb : n.natAbs < 1125899906842624 := by
          have h1 := hpw.out
          have h2 : 32 ^ (j - 1) ≤ 32 ^ 10 := Nat.pow_le_pow_right (by omega) (by omega)
          omega
        have hnl : -1125899906842624 < n := by omega
        have hnh : n < 1125899906842624 := by omega
        have hcb : (c.toNat : Int) ≤ 255 := by have := c.toNat_lt; omega
        have HR := Lib.hid hr
        clear hr hnb hnlo hnhi
        by_cases h97 : 97 ≤ (c.toNat : Int)
        · have hm : ((c.toNat : Int) - 87).tmod 32 = r := by have := HR.out; unfold rdig at this; rw [if_pos h97] at this; exact this
          have hm2 : ((c.toNat : Int) - 87) % 32 = r := by rw [← hm, Int.tmod_eq_emod_of_nonneg (by omega)]
          go_wp2_with fail
          refine ⟨⟨j + 1, n * 32 + r, by go_num, rfl, by omega, by omega, by omega, by omega, hpw2.out, by have h := hvj.out; rw [HR.out] at h; exact h⟩, by simp [intOf]; omega⟩
        · have hm : ((c.toNat : Int) - 48).tmod 32 = r := by have := HR.out; unfold rdig at this; rw [if_neg h97] at this; exact this
          by_cases h48 : 48 ≤ (c.toNat : Int)
          · have hm2 : ((c.toNat : Int) - 48) % 32 = r := by rw [← hm, Int.tmod_eq_emod_of_nonneg (by omega)]
            go_wp2_with fail
            refine ⟨⟨j + 1, n * 32 + r, by go_num, rfl, by omega, by omega, by omega, by omega, hpw2.out, by have h := hvj.out; rw [HR.out] at h; exact h⟩, by simp [intOf]; omega⟩
          · go_wp2_with fail
            refine ⟨⟨j + 1, n * 32 + r, by go_num, rfl, by omega, by omega, by omega, by omega, hpw2.out, by have h := hvj.out; rw [HR.out] at h; exact h⟩, by simp [intOf]; omega⟩
      · obtain rfl : j = 12 := by omega
        have hv2 : Hid (rval 0 (s.data.toList.drop 1) = n) := by show _ = _; rw [hv.out, List.drop_of_length_le (by have h := H12.out; rw [show s.data.toList.length = s.size by simp, h]; exact Nat.le_refl _)]; rfl
        have hne : s.data.toList ≠ [] := fun h => by have h1 := congrArg List.length h; have h2 := H12.out; rw [show s.data.toList.length = s.size by simp, h2] at h1; cases h1
        have n1 : Hid (Idn.makeId 1 n = s.data.toList → Idn.numberOf s.data.toList = some (1, n)) := fun h => Idn.make_eq h hne
        have n2 : Hid (Idn.makeId 2 n = s.data.toList → Idn.numberOf s.data.toList = some (2, n)) := fun h => Idn.make_eq h hne
        have hstl : s.toList = s.data.toList := ByteArray.toList_eq s
        have hcs : Idn.numberOf s.data.toList = none ∨ Idn.numberOf s.data.toList = some (1, n) ∨ Idn.numberOf s.data.toList = some (2, n) := by
          cases h : Idn.numberOf s.data.toList with
          | none => left; rfl
          | some x =>
            obtain ⟨k, m⟩ := x
            obtain ⟨h1, h2⟩ := numberOf_val h
            rw [hv2.out] at h1
            subst h1
            rcases h2 with rfl | rfl
            · right; left; rfl
            · right; right; rfl
        clear hne
        rcases hcs with hr | hr | hr
        · have E1 : (Idn.makeId 1 n == s.toList) = false := by rw [hstl, beq_eq_false_iff_ne]; intro h; rw [n1.out h] at hr; cases hr
          have E2 : (Idn.makeId 2 n == s.toList) = false := by rw [hstl, beq_eq_false_iff_ne]; intro h; rw [n2.out h] at hr; cases hr
          have HR := Lib.hid hr
          clear hr hstl
          go_wp2_with fail
          refine (rmake_any 1 n _).mono ?_
          rintro e w1 ⟨rfl, hw1⟩
          go_wp2_with fail
          refine (rmake_any 2 n _).mono ?_
          rintro e w2 ⟨rfl, hw2⟩
          go_wp2_with fail
          go_ret3
          exact ⟨by rw [HR.out]; rfl, hw1.trans hw2⟩
        · have E1 : (Idn.makeId 1 n == s.toList) = true := by rw [hstl, beq_iff_eq]; exact (Idn.make_numberOf hr).1
          have HR := Lib.hid hr
          clear hr hstl
          go_wp2_with fail
          refine (rmake_any 1 n _).mono ?_
          rintro e w1 ⟨rfl, hw1⟩
          go_wp2_with fail
          go_ret3
          exact ⟨by rw [HR.out]; rfl, hw1⟩
        · have E1 : (Idn.makeId 1 n == s.toList) = false := by rw [hstl, beq_eq_false_iff_ne]; intro h; rw [n1.out h] at hr; cases hr
          have E2 : (Idn.makeId 2 n == s.toList) = true := by rw [hstl, beq_iff_eq]; exact (Idn.make_numberOf hr).1
          have HR := Lib.hid hr
          clear hr hstl
          go_wp2_with fail
          refine (rmake_any 1 n _).mono ?_
          rintro e w1 ⟨rfl, hw1⟩
          go_wp2_with fail
          refine (rmake_any 2 n _).mono ?_
          rintro e w2 ⟨rfl, hw2⟩
          go_wp2_with fail
          go_ret3
          exact ⟨by rw [HR.out]; rfl, hw1.trans hw2⟩
  · have hl12 : ((s.size : Int) != 12) = true := by rw [bne_iff_ne]; omega
    have hr : Hid (Idn.numberOf s.data.toList = none) := Idn.numberOf_len (by simpa using h12)
    clear h12
    go_enter Try.func16, Try.ntmps16
    go_wp2_with fail
    go_ret3
    exact ⟨by rw [hr.out]; rfl, Fr.refl _⟩

end Go.Proofs.Ytfejbahonaalbaa
