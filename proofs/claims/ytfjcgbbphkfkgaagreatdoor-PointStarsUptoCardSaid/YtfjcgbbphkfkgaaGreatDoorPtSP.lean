/- Plain mathematics of a star in the place of a number: what the numbers lead to, one behind the other. -/
import Derived.Test.YtfjcgbbphkfkgaaGreatDoorPtZP
namespace Go.Proofs.YtfjcgbbphkfkgaaGreatDoor.Pt
set_option linter.unusedVariables false
set_option linter.unusedSimpArgs false
open JV

/-- What the tail leads to from a value of the list. -/
def tailA (t : List UInt8) (x : JV) : JV × Int := match parts t with
  | none => (zeroV, 80)
  | some pt => match find true pt x with
    | none => (zeroV, 81)
    | some y => (y, 0)
/-- Behind i values: y2, c2 is what the star leads to. -/
structure RS (t : List UInt8) (ls : List JV) (y2 : JV) (c2 : Int) (i : Nat) (acc : List JV) : Prop where
  le : i ≤ ls.length
  is : (parts t = none ∧ c2 = 80 ∧ i = 0) ∨ ∃ pt, parts t = some pt ∧ ∃ r, r = (gather (find true pt) (ls.drop i)).map (acc ++ ·) ∧ ((r = none ∧ c2 = 81) ∨ ∃ a, r = some a ∧ c2 = 0 ∧ y2 = listV a)
  few : acc.length + Rd.nvL (ls.drop i) ≤ 1048576
theorem RS.start {t : List UInt8} {ls : List JV} {y2 : JV} {c2 : Int} (h : (match parts t with | none => (zeroV, 80) | some pt => match gather (find true pt) ls with | none => (zeroV, 81) | some r => (listV r, 0)) = (y2, c2)) (hn : Rd.nvL ls ≤ 1048576) : RS t ls y2 c2 0 [] := by
  refine ⟨Nat.zero_le _, ?_, by rw [List.drop_zero]; simpa using hn⟩
  cases hp : parts t with
  | none =>
    rw [hp] at h
    obtain ⟨_, rfl⟩ : zeroV = y2 ∧ (80 : Int) = c2 := by simpa using h
    exact .inl ⟨rfl, rfl, rfl⟩
  | some pt =>
    rw [hp] at h
    refine .inr ⟨pt, rfl, gather (find true pt) ls, by rw [List.drop_zero]; cases gather (find true pt) ls <;> simp, ?_⟩
    cases hg : gather (find true pt) ls with
    | none =>
      simp only [hg] at h
      obtain ⟨_, rfl⟩ : zeroV = y2 ∧ (81 : Int) = c2 := by simpa using h
      exact .inl ⟨rfl, rfl⟩
    | some r =>
      simp only [hg] at h
      obtain ⟨rfl, rfl⟩ : listV r = y2 ∧ (0 : Int) = c2 := by simpa using h
      exact .inr ⟨r, rfl, rfl, rfl⟩
theorem RS.step {t : List UInt8} {ls : List JV} {y2 : JV} {c2 : Int} {i : Nat} {acc : List JV} (h : RS t ls y2 c2 i acc) (hi : i < ls.length) {y : JV} {c : Int} (hy : tailA t ls[i] = (y, c)) :
    (c ≠ 0 ∧ c2 = c) ∨ (c = 0 ∧ RS t ls y2 c2 (i + 1) (acc ++ flat y) ∧ (acc ++ flat y).length ≤ 1048576) := by
  rcases h.is with ⟨hp, rfl, _⟩ | ⟨pt, hp, r, hr, hc⟩
  · unfold tailA at hy
    rw [hp] at hy
    obtain ⟨_, rfl⟩ : zeroV = y ∧ (80 : Int) = c := by simpa using hy
    exact .inl ⟨by decide, rfl⟩
  · unfold tailA at hy
    rw [hp] at hy
    have hf := h.few
    rw [List.drop_eq_getElem_cons hi] at hr hf
    rw [gather_cons] at hr
    rw [Rd.nvL_cons] at hf
    cases hx : find true pt ls[i] with
    | none =>
      simp only [hx] at hy
      obtain ⟨_, rfl⟩ : zeroV = y ∧ (81 : Int) = c := by simpa using hy
      rw [hx] at hr
      have hr : r = none := hr
      rcases hc with ⟨_, rfl⟩ | ⟨a, ha, _⟩
      · exact .inl ⟨by decide, rfl⟩
      · rw [hr] at ha; cases ha
    | some z =>
      simp only [hx] at hy
      obtain ⟨rfl, rfl⟩ : z = y ∧ (0 : Int) = c := by simpa using hy
      rw [hx] at hr
      have hl := find_len true pt _ _ hx
      refine .inr ⟨rfl, ⟨hi, .inr ⟨pt, hp, r, ?_, hc⟩, by rw [List.length_append]; omega⟩, by rw [List.length_append]; omega⟩
      rw [hr]
      show Option.map _ (Option.map _ _) = _
      cases gather (find true pt) (ls.drop (i + 1)) <;> simp
theorem RS.stop {t : List UInt8} {ls : List JV} {y2 : JV} {c2 : Int} {acc : List JV} (h : RS t ls y2 c2 ls.length acc) : (ls.length = 0 ∧ c2 = 80) ∨ (c2 = 0 ∧ y2 = listV acc) := by
  rcases h.is with ⟨_, h2, h3⟩ | ⟨pt, hp, r, hr, hc⟩
  · exact .inl ⟨h3, h2⟩
  · rw [List.drop_length, gather_nil] at hr
    have hr : r = some acc := by rw [hr]; simp
    rcases hc with ⟨h1, _⟩ | ⟨a, ha, h1, h2⟩
    · rw [hr] at h1; cases h1
    · rw [hr] at ha
      obtain rfl := Option.some.inj ha
      exact .inr ⟨h1, h2⟩
/-- What a star leads to, with a tail. -/
def starA (t : List UInt8) (ls : List JV) : JV × Int := match parts t with
  | none => (zeroV, 80)
  | some pt => match gather (find true pt) ls with
    | none => (zeroV, 81)
    | some r => (listV r, 0)
theorem RS.start2 {t : List UInt8} {ls : List JV} {y2 : JV} {c2 : Int} (h : starA t ls = (y2, c2)) (hn : Rd.nvL ls ≤ 1048576) : RS t ls y2 c2 0 [] := by
  refine RS.start (Eq.trans ?_ h) hn
  unfold starA
  cases parts t with
  | none => rfl
  | some pt =>
    rfl
theorem ans_star2 {a t : List UInt8} {v l : JV} (ha : pth a) (ht : pth t) (hna : (42 : UInt8) ∉ a) (hl : ans false (parts a) v = (l, 0)) (h5 : l.kd = 5) :
    ans true (parts (a ++ 47 :: ([42] ++ t))) v = starA t l.ls ∧ ∀ i (hi : i < l.ls.length), l.ls.length ≤ 9007199254740991 → ans true (parts (a ++ 47 :: (Nm.put (i : Int) ++ t))) v = tailA t l.ls[i] := by
  obtain ⟨h1, h2⟩ := ans_star ha ht hna hl h5
  refine ⟨h1.trans ?_, fun i hi h => (h2 i hi h).trans ?_⟩
  · unfold starA
    cases parts t with
    | none => rfl
    | some pt =>
      cases gather (find true pt) l.ls <;> rfl
  · unfold tailA
    cases parts t with
    | none => rfl
    | some pt =>
      cases find true pt l.ls[i] <;> rfl
theorem sa_data (a t : ByteArray) : (a ++ ⟨#[47, 42]⟩ ++ t).data.toList = a.data.toList ++ 47 :: ([42] ++ t.data.toList) := by simp [ByteArray.data_append]
theorem si_data (a t : ByteArray) (x : List UInt8) : (a ++ ⟨#[47]⟩ ++ ⟨x.toArray⟩ ++ t).data.toList = a.data.toList ++ 47 :: (x ++ t.data.toList) := by simp [ByteArray.data_append]
theorem ba_size (x : List UInt8) : (⟨x.toArray⟩ : ByteArray).size = x.length := by show x.toArray.size = _; simp
theorem sa_size (a t : ByteArray) : (a ++ ⟨#[47, 42]⟩ ++ t).size = a.size + 2 + t.size := by rw [ByteArray.size_append, ByteArray.size_append]; rfl
theorem si_size (a t : ByteArray) (x : List UInt8) : (a ++ ⟨#[47]⟩ ++ ⟨x.toArray⟩ ++ t).size = a.size + 1 + x.length + t.size := by rw [ByteArray.size_append, ByteArray.size_append, ByteArray.size_append, ba_size]; rfl
end Go.Proofs.YtfjcgbbphkfkgaaGreatDoor.Pt
