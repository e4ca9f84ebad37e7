/- Walks: the reference's Is and digit; letter, may. -/
import Derived.Test.YtfejbahonaalbaaIdentA
namespace Go.Proofs.Ytfejbahonaalbaa
set_option linter.unusedVariables false
set_option linter.unusedSimpArgs false
open Go.RowKit

set_option maxHeartbeats 1000000 in
theorem ris_id_any (s : ByteArray) (w : World) (hs : s.size ≤ maxLen) :
    Calls Try.prog 18 #[.string s] w fun e w' => e = .returned (.bool (Idn.isId s.data.toList)) ∧ w = w' := by
  unfold maxLen at hs
  have hr : Hid (Idn.isId s.data.toList = (decide (1 ≤ s.size) && decide (s.size ≤ 255) && (s.data.toList.drop 0).all Idn.okc)) := by
    show _ = _
    rw [List.drop_zero]
    unfold Idn.isId
    rw [show s.data.toList.length = s.size by simp]
  go_enter Try.func18, Try.ntmps18
  go_wp2
  go_loop [3] (fun i => ∃ k : Nat, k ≤ s.size ∧ i = .int .i64 k ∧ Hid ((s.data.toList.drop 0).all Idn.okc = (s.data.toList.drop k).all Idn.okc)) (fun i => s.size - (intOf i).toNat)
  case atStart => exact ⟨0, by omega, rfl, rfl⟩
  case round =>
    obtain ⟨k, hk, rfl, he⟩ := hrel
    by_cases hlt : k < s.size
    · obtain ⟨c, hc⟩ : ∃ c, s[k] = c := ⟨_, rfl⟩
      have hda : Hid ((s.data.toList.drop k).all Idn.okc = (Idn.okc c && (s.data.toList.drop (k + 1)).all Idn.okc)) := by
        show _ = _
        rw [all_drop _ k (by simpa using hlt), ← hc]; rfl
      rcases okc_cases c with ⟨ho, hcs⟩ | ⟨ho, hcs⟩
      · have hn : Hid ((s.data.toList.drop 0).all Idn.okc = (s.data.toList.drop (k + 1)).all Idn.okc) := by show _ = _; rw [he.out, hda.out, ho]; rfl
        clear ho hda he
        rcases hcs with ⟨h1, h2⟩ | ⟨h1, h2⟩ | ⟨h1, h2⟩ | h1 | h1
        · skip
          have e45 : ((c.toNat : Int) != 45) = true := by rw [bne_iff_ne]; omega
          have e95 : ((c.toNat : Int) != 95) = true := by rw [bne_iff_ne]; omega
          have l48 : decide ((c.toNat : Int) < 48) = false := decide_eq_false (by omega)
          have g57 : decide ((57 : Int) < (c.toNat : Int)) = true := decide_eq_true (by omega)
          have l65 : decide ((c.toNat : Int) < 65) = false := decide_eq_false (by omega)
          have g90 : decide ((90 : Int) < (c.toNat : Int)) = true := decide_eq_true (by omega)
          have l97 : decide ((c.toNat : Int) < 97) = false := decide_eq_false (by omega)
          have g122 : decide ((122 : Int) < (c.toNat : Int)) = false := decide_eq_false (by omega)
          clear h1 h2
          go_wp2
          exact ⟨⟨k + 1, by omega, by go_num, hn⟩, by simp [intOf]; omega⟩
        · skip
          have e45 : ((c.toNat : Int) != 45) = true := by rw [bne_iff_ne]; omega
          have e95 : ((c.toNat : Int) != 95) = true := by rw [bne_iff_ne]; omega
          have l48 : decide ((c.toNat : Int) < 48) = false := decide_eq_false (by omega)
          have g57 : decide ((57 : Int) < (c.toNat : Int)) = true := decide_eq_true (by omega)
          have l65 : decide ((c.toNat : Int) < 65) = false := decide_eq_false (by omega)
          have g90 : decide ((90 : Int) < (c.toNat : Int)) = false := decide_eq_false (by omega)
          have l97 : decide ((c.toNat : Int) < 97) = true := decide_eq_true (by omega)
          have g122 : decide ((122 : Int) < (c.toNat : Int)) = false := decide_eq_false (by omega)
          clear h1 h2
          go_wp2
          exact ⟨⟨k + 1, by omega, by go_num, hn⟩, by simp [intOf]; omega⟩
        · skip
          have e45 : ((c.toNat : Int) != 45) = true := by rw [bne_iff_ne]; omega
          have e95 : ((c.toNat : Int) != 95) = true := by rw [bne_iff_ne]; omega
          have l48 : decide ((c.toNat : Int) < 48) = false := decide_eq_false (by omega)
          have g57 : decide ((57 : Int) < (c.toNat : Int)) = false := decide_eq_false (by omega)
          have l65 : decide ((c.toNat : Int) < 65) = true := decide_eq_true (by omega)
          have g90 : decide ((90 : Int) < (c.toNat : Int)) = false := decide_eq_false (by omega)
          have l97 : decide ((c.toNat : Int) < 97) = true := decide_eq_true (by omega)
          have g122 : decide ((122 : Int) < (c.toNat : Int)) = false := decide_eq_false (by omega)
          clear h1 h2
          go_wp2
          exact ⟨⟨k + 1, by omega, by go_num, hn⟩, by simp [intOf]; omega⟩
        · skip
          have e45 : ((c.toNat : Int) != 45) = false := by rw [bne_eq_false_iff_eq]; omega
          have e95 : ((c.toNat : Int) != 95) = true := by rw [bne_iff_ne]; omega
          have l48 : decide ((c.toNat : Int) < 48) = true := decide_eq_true (by omega)
          have g57 : decide ((57 : Int) < (c.toNat : Int)) = false := decide_eq_false (by omega)
          have l65 : decide ((c.toNat : Int) < 65) = true := decide_eq_true (by omega)
          have g90 : decide ((90 : Int) < (c.toNat : Int)) = false := decide_eq_false (by omega)
          have l97 : decide ((c.toNat : Int) < 97) = true := decide_eq_true (by omega)
          have g122 : decide ((122 : Int) < (c.toNat : Int)) = false := decide_eq_false (by omega)
          clear h1
          go_wp2
          exact ⟨⟨k + 1, by omega, by go_num, hn⟩, by simp [intOf]; omega⟩
        · skip
          have e45 : ((c.toNat : Int) != 45) = true := by rw [bne_iff_ne]; omega
          have e95 : ((c.toNat : Int) != 95) = false := by rw [bne_eq_false_iff_eq]; omega
          have l48 : decide ((c.toNat : Int) < 48) = false := decide_eq_false (by omega)
          have g57 : decide ((57 : Int) < (c.toNat : Int)) = true := decide_eq_true (by omega)
          have l65 : decide ((c.toNat : Int) < 65) = false := decide_eq_false (by omega)
          have g90 : decide ((90 : Int) < (c.toNat : Int)) = true := decide_eq_true (by omega)
          have l97 : decide ((c.toNat : Int) < 97) = true := decide_eq_true (by omega)
          have g122 : decide ((122 : Int) < (c.toNat : Int)) = false := decide_eq_false (by omega)
          clear h1
          go_wp2
          exact ⟨⟨k + 1, by omega, by go_num, hn⟩, by simp [intOf]; omega⟩
      · have hn : Hid (Idn.isId s.data.toList = false) := by show _ = _; rw [hr.out, he.out, hda.out, ho]; simp
        clear ho hda he
        rcases hcs with h1 | ⟨h1, h2⟩ | ⟨h1, h2⟩ | ⟨h1, h2⟩ | h1 | h1
        · skip
          have e45 : ((c.toNat : Int) != 45) = true := by rw [bne_iff_ne]; omega
          have e95 : ((c.toNat : Int) != 95) = true := by rw [bne_iff_ne]; omega
          have l48 : decide ((c.toNat : Int) < 48) = true := decide_eq_true (by omega)
          have g57 : decide ((57 : Int) < (c.toNat : Int)) = false := decide_eq_false (by omega)
          have l65 : decide ((c.toNat : Int) < 65) = true := decide_eq_true (by omega)
          have g90 : decide ((90 : Int) < (c.toNat : Int)) = false := decide_eq_false (by omega)
          have l97 : decide ((c.toNat : Int) < 97) = true := decide_eq_true (by omega)
          have g122 : decide ((122 : Int) < (c.toNat : Int)) = false := decide_eq_false (by omega)
          clear h1
          go_wp2
          go_ret
          exact ⟨by rw [hn.out]; rfl, rfl⟩
        · skip
          have e45 : ((c.toNat : Int) != 45) = true := by rw [bne_iff_ne]; omega
          have e95 : ((c.toNat : Int) != 95) = true := by rw [bne_iff_ne]; omega
          have l48 : decide ((c.toNat : Int) < 48) = true := decide_eq_true (by omega)
          have g57 : decide ((57 : Int) < (c.toNat : Int)) = false := decide_eq_false (by omega)
          have l65 : decide ((c.toNat : Int) < 65) = true := decide_eq_true (by omega)
          have g90 : decide ((90 : Int) < (c.toNat : Int)) = false := decide_eq_false (by omega)
          have l97 : decide ((c.toNat : Int) < 97) = true := decide_eq_true (by omega)
          have g122 : decide ((122 : Int) < (c.toNat : Int)) = false := decide_eq_false (by omega)
          clear h1 h2
          go_wp2
          go_ret
          exact ⟨by rw [hn.out]; rfl, rfl⟩
        · skip
          have e45 : ((c.toNat : Int) != 45) = true := by rw [bne_iff_ne]; omega
          have e95 : ((c.toNat : Int) != 95) = true := by rw [bne_iff_ne]; omega
          have l48 : decide ((c.toNat : Int) < 48) = false := decide_eq_false (by omega)
          have g57 : decide ((57 : Int) < (c.toNat : Int)) = true := decide_eq_true (by omega)
          have l65 : decide ((c.toNat : Int) < 65) = true := decide_eq_true (by omega)
          have g90 : decide ((90 : Int) < (c.toNat : Int)) = false := decide_eq_false (by omega)
          have l97 : decide ((c.toNat : Int) < 97) = true := decide_eq_true (by omega)
          have g122 : decide ((122 : Int) < (c.toNat : Int)) = false := decide_eq_false (by omega)
          clear h1 h2
          go_wp2
          go_ret
          exact ⟨by rw [hn.out]; rfl, rfl⟩
        · skip
          have e45 : ((c.toNat : Int) != 45) = true := by rw [bne_iff_ne]; omega
          have e95 : ((c.toNat : Int) != 95) = true := by rw [bne_iff_ne]; omega
          have l48 : decide ((c.toNat : Int) < 48) = false := decide_eq_false (by omega)
          have g57 : decide ((57 : Int) < (c.toNat : Int)) = true := decide_eq_true (by omega)
          have l65 : decide ((c.toNat : Int) < 65) = false := decide_eq_false (by omega)
          have g90 : decide ((90 : Int) < (c.toNat : Int)) = true := decide_eq_true (by omega)
          have l97 : decide ((c.toNat : Int) < 97) = true := decide_eq_true (by omega)
          have g122 : decide ((122 : Int) < (c.toNat : Int)) = false := decide_eq_false (by omega)
          clear h1 h2
          go_wp2
          go_ret
          exact ⟨by rw [hn.out]; rfl, rfl⟩
        · skip
          have e45 : ((c.toNat : Int) != 45) = true := by rw [bne_iff_ne]; omega
          have e95 : ((c.toNat : Int) != 95) = true := by rw [bne_iff_ne]; omega
          have l48 : decide ((c.toNat : Int) < 48) = false := decide_eq_false (by omega)
          have g57 : decide ((57 : Int) < (c.toNat : Int)) = true := decide_eq_true (by omega)
          have l65 : decide ((c.toNat : Int) < 65) = false := decide_eq_false (by omega)
          have g90 : decide ((90 : Int) < (c.toNat : Int)) = true := decide_eq_true (by omega)
          have l97 : decide ((c.toNat : Int) < 97) = true := decide_eq_true (by omega)
          have g122 : decide ((122 : Int) < (c.toNat : Int)) = false := decide_eq_false (by omega)
          clear h1
          go_wp2
          go_ret
          exact ⟨by rw [hn.out]; rfl, rfl⟩
        · skip
          have e45 : ((c.toNat : Int) != 45) = true := by rw [bne_iff_ne]; omega
          have e95 : ((c.toNat : Int) != 95) = true := by rw [bne_iff_ne]; omega
          have l48 : decide ((c.toNat : Int) < 48) = false := decide_eq_false (by omega)
          have g57 : decide ((57 : Int) < (c.toNat : Int)) = true := decide_eq_true (by omega)
          have l65 : decide ((c.toNat : Int) < 65) = false := decide_eq_false (by omega)
          have g90 : decide ((90 : Int) < (c.toNat : Int)) = true := decide_eq_true (by omega)
          have l97 : decide ((c.toNat : Int) < 97) = false := decide_eq_false (by omega)
          have g122 : decide ((122 : Int) < (c.toNat : Int)) = true := decide_eq_true (by omega)
          clear h1
          go_wp2
          go_ret
          exact ⟨by rw [hn.out]; rfl, rfl⟩
    · have hn : Hid (Idn.isId s.data.toList = (decide (1 ≤ s.size) && decide (s.size ≤ 255))) := by show _ = _; rw [hr.out, he.out, List.drop_of_length_le (by simp; omega)]; simp
      by_cases h1 : 1 ≤ s.size
      all_goals
        go_wp2
        go_ret
        exact ⟨by rw [hn.out]; refine ret_bool ?_; rw [Bool.eq_iff_iff]; simp; omega, rfl⟩

def lett (kind : Int) : Int := if kind = 1 then 67 else if kind = 2 then 66 else 0
def smal (kind : Int) : Int := if kind = 1 then 99 else if kind = 2 then 98 else 0

set_option maxHeartbeats 400000 in
theorem letter_any (kind : Int) (w : World) :
    Calls Try.prog 20 #[.int .i64 kind] w fun e w' => e = .returned (.tuple #[.int .u8 (lett kind), .int .u8 (smal kind)]) ∧ w = w' := by
  by_cases h1 : kind = 1
  · subst h1
    go_enter Try.func20, Try.ntmps20
    go_wp2
    go_ret2
    exact ⟨rfl, rfl⟩
  · by_cases h2 : kind = 2
    · subst h2
      go_enter Try.func20, Try.ntmps20
      go_wp2
      go_ret2
      exact ⟨rfl, rfl⟩
    · have e1 : (kind == 1) = false := by rw [beq_eq_false_iff_ne]; exact h1
      have e2 : (kind == 2) = false := by rw [beq_eq_false_iff_ne]; exact h2
      have H1 := Lib.hid h1
      have H2 := Lib.hid h2
      clear h1 h2
      go_enter Try.func20, Try.ntmps20
      go_wp2
      go_ret2
      exact ⟨by rw [lett, smal, if_neg H1.out, if_neg H2.out, if_neg H1.out, if_neg H2.out]; rfl, rfl⟩

theorem letter_is (kind x y : Int) (w : World) (hx : lett kind = x) (hy : smal kind = y) :
    Calls Try.prog 20 #[.int .i64 kind] w fun e w' => e = .returned (.tuple #[.int .u8 x, .int .u8 y]) ∧ w = w' := by
  subst hx; subst hy; exact letter_any kind w

set_option maxHeartbeats 400000 in
theorem may_any (kind n : Int) (w : World) :
    Calls Try.prog 19 #[.int .i64 kind, .int .i64 n] w fun e w' => e = .returned (.bool (Idn.may kind n)) ∧ w = w' := by
  by_cases hk : kind = 1 ∨ kind = 2
  · have hm : Hid (Idn.may kind n = (decide (0 ≤ n) && decide (n ≤ 9007199254740991))) := by
      show _ = _
      unfold Idn.may
      rcases hk with rfl | rfl <;> simp
    obtain ⟨x, y, hx, hy, hx0⟩ : ∃ x y, lett kind = x ∧ smal kind = y ∧ (x != 0) = true := by
      rcases hk with rfl | rfl
      · exact ⟨67, 99, rfl, rfl, rfl⟩
      · exact ⟨66, 98, rfl, rfl, rfl⟩
    have HX := Lib.hid hx
    have HY := Lib.hid hy
    clear hx hy hk
    by_cases h0 : 0 ≤ n
    all_goals
      go_enter Try.func19, Try.ntmps19
      go_wp2_with (go_at_call 20; refine (letter_is kind x y _ HX.out HY.out).mono ?_; rintro e w' ⟨rfl, rfl⟩)
      go_ret
      exact ⟨by rw [hm.out]; refine ret_bool ?_; rw [Bool.eq_iff_iff]; simp; omega, rfl⟩
  · have hm : Hid (Idn.may kind n = false) := by
      show _ = _
      unfold Idn.may
      simp; omega
    have hx : Hid (lett kind = 0) := by show _ = _; unfold lett; rw [if_neg (fun h => hk (.inl h)), if_neg (fun h => hk (.inr h))]
    have hy : Hid (smal kind = 0) := by show _ = _; unfold smal; rw [if_neg (fun h => hk (.inl h)), if_neg (fun h => hk (.inr h))]
    clear hk
    go_enter Try.func19, Try.ntmps19
    go_wp2_with (go_at_call 20; refine (letter_is kind 0 0 _ hx.out hy.out).mono ?_; rintro e w' ⟨rfl, rfl⟩)
    go_ret
    exact ⟨by rw [hm.out]; rfl, rfl⟩

theorem may_is (kind n : Int) (b : Bool) (w : World) (h : Idn.may kind n = b) :
    Calls Try.prog 19 #[.int .i64 kind, .int .i64 n] w fun e w' => e = .returned (.bool b) ∧ w = w' := by
  subst h; exact may_any kind n w

set_option maxHeartbeats 400000 in
theorem rdigit_any (n : Nat) (w : World) (h : n < 32) :
    Calls Try.prog 21 #[.int .i64 n] w fun e w' => e = .returned (.int .u8 (Idn.d32 n).toNat) ∧ w = w' := by
  have hd := Lib.hid (Idn.d32_toNat h)
  by_cases h1 : n < 10
  · go_enter Try.func21, Try.ntmps21
    go_wp2
    go_ret
    exact ⟨ret_int (by rw [hd.out, if_pos h1]; simp), rfl⟩
  · go_enter Try.func21, Try.ntmps21
    go_wp2
    go_ret
    exact ⟨ret_int (by rw [hd.out, if_neg h1]; simp), rfl⟩

end Go.Proofs.Ytfejbahonaalbaa
