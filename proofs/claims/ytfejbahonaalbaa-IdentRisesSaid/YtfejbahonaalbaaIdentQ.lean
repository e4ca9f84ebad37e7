/- Plain laws of ids: they rise as their numbers do; each says its number. -/
import Derived.Test.YtfejbahonaalbaaIdentP
import Derived.Laws.Strings
namespace Go.Proofs.Ytfejbahonaalbaa.Idn
set_option linter.unusedVariables false
set_option linter.unusedSimpArgs false
open Nm

theorem okc_d32 {n : Nat} (h : n < 32) : okc (d32 n) = true := by
  have e := d32_toNat h
  unfold okc
  rw [e]
  by_cases h1 : n < 10
  · rw [if_pos h1]; simp; omega
  · rw [if_neg h1]; simp; omega
theorem okc_dig (k n : Nat) : (dig k n).all okc = true := by
  induction k generalizing n with
  | zero => rfl
  | succ k ih => rw [dig, List.all_append, ih]; simp [okc_d32 (Nat.mod_lt n (by omega : 0 < 32))]
theorem isId_make {kind n : Int} (h : may kind n = true) : isId (makeId kind n) = true := by
  obtain ⟨hk, _, _⟩ := may_true h
  have hm : makeId kind n = letter kind :: dig 11 n.toNat := by unfold makeId; rw [h]; rfl
  have hl : okc (letter kind) = true := by rcases hk with rfl | rfl <;> decide
  rw [hm]
  unfold isId
  rw [List.all_cons, okc_dig, hl, List.length_cons, dig_len]
  rfl

theorem d32_lt {a b : Nat} (ha : a < 32) (hb : b < 32) : (d32 a < d32 b) ↔ a < b := by
  rw [UInt8.lt_iff_toNat_lt, d32_toNat ha, d32_toNat hb]
  split <;> split <;> omega
theorem d32_inj {a b : Nat} (ha : a < 32) (hb : b < 32) (h : d32 a = d32 b) : a = b := by
  have h1 := congrArg UInt8.toNat h
  rw [d32_toNat ha, d32_toNat hb] at h1
  split at h1 <;> split at h1 <;> omega

theorem less_app : ∀ (a b : List UInt8) (x y : List UInt8), a.length = b.length → Op.bytesLess (a ++ x) (b ++ y) = (Op.bytesLess a b || (decide (a = b) && Op.bytesLess x y))
  | [], [], x, y, _ => by simp [Op.bytesLess]
  | [], _ :: _, _, _, h => by simp at h
  | _ :: _, [], _, _, h => by simp at h
  | c :: a, d :: b, x, y, h => by
    have ih := less_app a b x y (by simpa using h)
    simp only [List.cons_append, Op.bytesLess]
    rw [ih]
    by_cases hcd : c = d
    · subst hcd
      simp
    · have h1 : (c == d) = false := by rw [beq_eq_false_iff_ne]; exact hcd
      have h2 : decide (c :: a = d :: b) = false := decide_eq_false fun e => hcd (List.cons.inj e).1
      simp [h1, hcd]

theorem dig_inj {k a b : Nat} (ha : a < 32 ^ k) (hb : b < 32 ^ k) (h : dig k a = dig k b) : a = b := by
  have h1 := valD_dig k a ha
  rw [h, valD_dig k b hb] at h1
  exact (Option.some.inj h1).symm

theorem less_dig : ∀ (k a b : Nat), a < 32 ^ k → b < 32 ^ k → Op.bytesLess (dig k a) (dig k b) = decide (a < b)
  | 0, a, b, ha, hb => by
    simp at ha hb
    subst ha; subst hb
    rfl
  | k + 1, a, b, ha, hb => by
    have ha2 : a / 32 < 32 ^ k := by rw [Nat.pow_succ] at ha; omega
    have hb2 : b / 32 < 32 ^ k := by rw [Nat.pow_succ] at hb; omega
    rw [dig, dig, less_app _ _ _ _ (by rw [dig_len, dig_len]), less_dig k _ _ ha2 hb2]
    have h1 : Op.bytesLess [d32 (a % 32)] [d32 (b % 32)] = decide (a % 32 < b % 32) := by
      have h2 := d32_lt (a := a % 32) (b := b % 32) (by omega) (by omega)
      simp only [Op.bytesLess, Bool.and_false, Bool.or_false]
      exact decide_eq_decide.2 h2
    have h3 : decide (dig k (a / 32) = dig k (b / 32)) = decide (a / 32 = b / 32) :=
      decide_eq_decide.2 ⟨fun h => dig_inj ha2 hb2 h, fun h => by rw [h]⟩
    rw [h1, h3, Bool.eq_iff_iff]
    simp
    omega

theorem less_make {kind a b : Int} (ha : may kind a = true) (hb : may kind b = true) : Op.bytesLess (makeId kind a) (makeId kind b) = decide (a < b) := by
  obtain ⟨_, h1, h2⟩ := may_true ha
  obtain ⟨_, h3, h4⟩ := may_true hb
  have ea : makeId kind a = [letter kind] ++ dig 11 a.toNat := by unfold makeId; rw [ha]; rfl
  have eb : makeId kind b = [letter kind] ++ dig 11 b.toNat := by unfold makeId; rw [hb]; rfl
  rw [ea, eb, less_app _ _ _ _ rfl, less_dig 11 _ _ (by simp; omega) (by simp; omega)]
  simp [Op.bytesLess]
  omega
theorem make_inj {kind a b : Int} (ha : may kind a = true) (hb : may kind b = true) : (makeId kind a == makeId kind b) = decide (a = b) := by
  by_cases h : a = b
  · subst h; simp
  · rw [decide_eq_false h, beq_eq_false_iff_ne]
    intro e
    have h1 := numberOf_make ha
    rw [e, numberOf_make hb] at h1
    exact h (by cases h1; rfl)
theorem make_apart {a b : Int} (ha : may 1 a = true) (hb : may 2 b = true) : (makeId 1 a == makeId 2 b) = false := by
  rw [beq_eq_false_iff_ne]
  intro e
  have h1 := numberOf_make ha
  rw [e, numberOf_make hb] at h1
  cases h1
theorem state_apart {a b : Int} (ha : may 1 a = true) (hb : may 2 b = true) : (state 1 a == state 2 b) = false := by
  rw [beq_eq_false_iff_ne]
  have ea : state 1 a = 99 :: put a := by unfold state; rw [ha]; rfl
  have eb : state 2 b = 98 :: put b := by unfold state; rw [hb]; rfl
  rw [ea, eb]
  intro e
  exact absurd (List.cons.inj e).1 (by decide)

end Go.Proofs.Ytfejbahonaalbaa.Idn
