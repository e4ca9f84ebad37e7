/- Plain mathematics of points and their bytes: no program in sight. -/
import Derived.Test.YtgncdjcbphobmaaNumsP
namespace Go.Proofs.Ytgncdjcbphobmaa.Utf
set_option linter.unusedVariables false
set_option linter.unusedSimpArgs false

/-- Is a number a point? -/
def isPt (p : Nat) : Bool := decide (p ≤ 1114111) && (decide (p < 55296) || decide (57343 < p))
theorem isPt_iff {p : Nat} : isPt p = true ↔ p ≤ 1114111 ∧ (p < 55296 ∨ 57343 < p) := by simp [isPt]
/-- The bytes of a point. -/
def bytes (p : Nat) : List UInt8 :=
  if p < 128 then [UInt8.ofNat p]
  else if p < 2048 then [UInt8.ofNat (192 + p / 64), UInt8.ofNat (128 + p % 64)]
  else if p < 65536 then [UInt8.ofNat (224 + p / 4096), UInt8.ofNat (128 + p / 64 % 64), UInt8.ofNat (128 + p % 64)]
  else [UInt8.ofNat (240 + p / 262144), UInt8.ofNat (128 + p / 4096 % 64), UInt8.ofNat (128 + p / 64 % 64), UInt8.ofNat (128 + p % 64)]
def bytesO (p : Nat) : List UInt8 := if isPt p then bytes p else []

def cont (c : UInt8) : Bool := decide (128 ≤ c.toNat) && decide (c.toNat ≤ 191)
theorem cont_iff {c : UInt8} : cont c = true ↔ 128 ≤ c.toNat ∧ c.toNat ≤ 191 := by simp [cont]

/-- How many bytes a first byte begins, and its own bits. -/
def sz (a : UInt8) : Nat × Nat :=
  if a.toNat < 128 then (1, a.toNat) else if a.toNat < 194 then (0, 0) else if a.toNat < 224 then (2, a.toNat % 32)
  else if a.toNat < 240 then (3, a.toNat % 16) else if a.toNat < 245 then (4, a.toNat % 8) else (0, 0)
theorem sz_bound (a : UInt8) : (sz a).1 ≤ 4 ∧ ((sz a).1 = 4 → (sz a).2 < 8) ∧ ((sz a).1 = 3 → (sz a).2 < 16) ∧ ((sz a).1 = 2 → (sz a).2 < 32) ∧ ((sz a).1 ≤ 1 → (sz a).2 < 128) := by
  unfold sz; have := a.toNat_lt
  repeat' split
  all_goals simp; try omega

/-- So many bytes that go on, put behind a number. -/
def tailv (p : Nat) : List UInt8 → Nat → Option Nat
  | _, 0 => some p
  | [], _ + 1 => none
  | b :: l, k + 1 => if cont b then tailv (p * 64 + b.toNat % 64) l k else none
theorem tailv_zero (p : Nat) (l : List UInt8) : tailv p l 0 = some p := by cases l <;> rfl

def fits (p n : Nat) : Bool :=
  if n = 3 then decide (2048 ≤ p) && (decide (p < 55296) || decide (57343 < p)) else if n = 4 then decide (65536 ≤ p) && decide (p ≤ 1114111) else true

/-- The point that a text begins with, and its bytes; 0, 0: none. -/
def one : List UInt8 → Nat × Nat
  | [] => (0, 0)
  | a :: r =>
    if (sz a).1 = 0 ∨ r.length + 1 < (sz a).1 then (0, 0) else
    match tailv (sz a).2 r ((sz a).1 - 1) with
    | none => (0, 0)
    | some p => if fits p (sz a).1 then (p, (sz a).1) else (0, 0)

theorem toNat_ofNat {n : Nat} (h : n < 256) : (UInt8.ofNat n).toNat = n := by simp [UInt8.toNat_ofNat']; omega
theorem ofNat_eq {n : Nat} {c : UInt8} (h : n = c.toNat) : UInt8.ofNat n = c := by subst h; simp

/-- Bytes of a point are read as it. -/
theorem one_bytes {p : Nat} (h : isPt p = true) (t : List UInt8) : one (bytes p ++ t) = (p, (bytes p).length) := by
  have h := isPt_iff.1 h
  unfold bytes
  split
  · have e1 := toNat_ofNat (n := p) (by omega)
    have hs : sz (UInt8.ofNat p) = (1, p) := by
      unfold sz; rw [e1, if_pos (by omega)]
    simp only [List.cons_append, List.nil_append, one, hs, tailv_zero]
    rw [if_neg (by simp)]
    simp [fits, tailv_zero]
  split
  · have e1 := toNat_ofNat (n := 192 + p / 64) (by omega)
    have e2 := toNat_ofNat (n := 128 + p % 64) (by omega)
    have hs : sz (UInt8.ofNat (192 + p / 64)) = (2, p / 64) := by
      unfold sz; rw [e1, if_neg (by omega), if_neg (by omega), if_pos (by omega)]; congr 1; omega
    have hc : cont (UInt8.ofNat (128 + p % 64)) = true := cont_iff.2 (by omega)
    simp only [List.cons_append, List.nil_append, one, hs, tailv, hc, if_true, e2, tailv_zero]
    rw [if_neg (by simp), show p / 64 * 64 + (128 + p % 64) % 64 = p by omega]
    simp [fits]
  split
  · have e1 := toNat_ofNat (n := 224 + p / 4096) (by omega)
    have e2 := toNat_ofNat (n := 128 + p / 64 % 64) (by omega)
    have e3 := toNat_ofNat (n := 128 + p % 64) (by omega)
    have hs : sz (UInt8.ofNat (224 + p / 4096)) = (3, p / 4096) := by
      unfold sz; rw [e1, if_neg (by omega), if_neg (by omega), if_neg (by omega), if_pos (by omega)]; congr 1; omega
    have hc : cont (UInt8.ofNat (128 + p % 64)) = true := cont_iff.2 (by omega)
    have hc2 : cont (UInt8.ofNat (128 + p / 64 % 64)) = true := cont_iff.2 (by omega)
    simp only [List.cons_append, List.nil_append, one, hs, tailv, hc, hc2, if_true, e2, e3, tailv_zero]
    rw [if_neg (by simp), show (p / 4096 * 64 + (128 + p / 64 % 64) % 64) * 64 + (128 + p % 64) % 64 = p by omega]
    simp [fits]
    omega
  · have e1 := toNat_ofNat (n := 240 + p / 262144) (by omega)
    have e2 := toNat_ofNat (n := 128 + p / 4096 % 64) (by omega)
    have e3 := toNat_ofNat (n := 128 + p / 64 % 64) (by omega)
    have e4 := toNat_ofNat (n := 128 + p % 64) (by omega)
    have hs : sz (UInt8.ofNat (240 + p / 262144)) = (4, p / 262144) := by
      unfold sz; rw [e1, if_neg (by omega), if_neg (by omega), if_neg (by omega), if_neg (by omega), if_pos (by omega)]; congr 1; omega
    have hc : cont (UInt8.ofNat (128 + p % 64)) = true := cont_iff.2 (by omega)
    have hc2 : cont (UInt8.ofNat (128 + p / 64 % 64)) = true := cont_iff.2 (by omega)
    have hc3 : cont (UInt8.ofNat (128 + p / 4096 % 64)) = true := cont_iff.2 (by omega)
    simp only [List.cons_append, List.nil_append, one, hs, tailv, hc, hc2, hc3, if_true, e2, e3, e4, tailv_zero]
    rw [if_neg (by simp), show ((p / 262144 * 64 + (128 + p / 4096 % 64) % 64) * 64 + (128 + p / 64 % 64) % 64) * 64 + (128 + p % 64) % 64 = p by omega]
    simp [fits]
    omega

theorem bytes_pos (p : Nat) : 1 ≤ (bytes p).length := by
  unfold bytes
  repeat' split
  all_goals simp
theorem bytes_le (p : Nat) : (bytes p).length ≤ 4 := by
  unfold bytes
  repeat' split
  all_goals simp
theorem one_cons (a : UInt8) (r : List UInt8) : one (a :: r) = if (sz a).1 = 0 ∨ r.length + 1 < (sz a).1 then (0, 0) else
    match tailv (sz a).2 r ((sz a).1 - 1) with
    | none => (0, 0)
    | some p => if fits p (sz a).1 then (p, (sz a).1) else (0, 0) := rfl

theorem tailv_some {p q : Nat} : ∀ {l : List UInt8} {k : Nat}, tailv p l k = some q → k ≤ l.length := by
  intro l k
  induction k generalizing p l with
  | zero => simp
  | succ k ih =>
    cases l with
    | nil => simp [tailv]
    | cons b l =>
      simp only [tailv]
      split
      · intro h; have := ih h; simp; omega
      · simp

/-- What is read is a point, and its bytes stand there. -/
theorem one_sound {l : List UInt8} {p n : Nat} (h : one l = (p, n)) (hn : n ≠ 0) : isPt p = true ∧ n = (bytes p).length ∧ l = bytes p ++ l.drop n := by
  rcases l with _ | ⟨a, r⟩
  · simp [one] at h; omega
  have ha := a.toNat_lt
  rw [one_cons] at h
  by_cases h0 : (sz a).1 = 0 ∨ r.length + 1 < (sz a).1
  · rw [if_pos h0] at h; simp at h; omega
  rw [if_neg h0] at h
  rcases ht : tailv (sz a).2 r ((sz a).1 - 1) with _ | q
  · rw [ht] at h; simp at h; omega
  rw [ht] at h
  simp only at h
  by_cases hf : fits q (sz a).1 = true
  case neg => rw [if_neg hf] at h; simp at h; omega
  rw [if_pos hf] at h
  simp at h
  obtain ⟨rfl, hn'⟩ := h
  unfold sz at *
  by_cases c1 : a.toNat < 128
  · simp only [if_pos c1] at *
    rw [show 1 - 1 = 0 from rfl, tailv_zero] at ht
    obtain rfl : a.toNat = q := by simpa using ht
    subst hn'
    refine ⟨isPt_iff.2 (by omega), by simp [bytes, c1], ?_⟩
    simp [bytes, c1]
  simp only [if_neg c1] at *
  by_cases c2 : a.toNat < 194
  · simp only [if_pos c2] at *; omega
  simp only [if_neg c2] at *
  by_cases c3 : a.toNat < 224
  · simp only [if_pos c3] at *
    rcases r with _ | ⟨b, r⟩
    · simp at h0
    have hb := b.toNat_lt
    simp only [tailv, tailv_zero] at ht
    by_cases hc : cont b = true
    case neg => rw [if_neg hc] at ht; simp at ht
    rw [if_pos hc] at ht
    have hc := cont_iff.1 hc
    simp at ht
    subst hn'
    have e : bytes q = [a, b] := by
      unfold bytes
      rw [if_neg (by omega), if_pos (by omega), ofNat_eq (c := a) (by omega), ofNat_eq (c := b) (by omega)]
    rw [e]
    exact ⟨isPt_iff.2 (by omega), rfl, rfl⟩
  simp only [if_neg c3] at *
  by_cases c4 : a.toNat < 240
  · simp only [if_pos c4] at *
    rcases r with _ | ⟨b, _ | ⟨c, r⟩⟩
    · simp at h0
    · simp at h0
    have hb := b.toNat_lt
    have hcc := c.toNat_lt
    simp only [tailv, tailv_zero] at ht
    by_cases hc : cont b = true
    case neg => rw [if_neg hc] at ht; simp at ht
    by_cases hd : cont c = true
    case neg => rw [if_pos hc, if_neg hd] at ht; simp at ht
    rw [if_pos hc, if_pos hd] at ht
    have hc := cont_iff.1 hc
    have hd := cont_iff.1 hd
    simp at ht
    simp [fits] at hf
    subst hn'
    have e : bytes q = [a, b, c] := by
      unfold bytes
      rw [if_neg (by omega), if_neg (by omega), if_pos (by omega), ofNat_eq (c := a) (by omega), ofNat_eq (c := b) (by omega), ofNat_eq (c := c) (by omega)]
    rw [e]
    exact ⟨isPt_iff.2 (by omega), rfl, rfl⟩
  simp only [if_neg c4] at *
  by_cases c5 : a.toNat < 245
  · simp only [if_pos c5] at *
    rcases r with _ | ⟨b, _ | ⟨c, _ | ⟨d, r⟩⟩⟩
    · simp at h0
    · simp at h0
    · simp at h0
    have hb := b.toNat_lt
    have hcc := c.toNat_lt
    have hdd := d.toNat_lt
    simp only [tailv, tailv_zero] at ht
    by_cases hc : cont b = true
    case neg => rw [if_neg hc] at ht; simp at ht
    by_cases hd : cont c = true
    case neg => rw [if_pos hc, if_neg hd] at ht; simp at ht
    by_cases he : cont d = true
    case neg => rw [if_pos hc, if_pos hd, if_neg he] at ht; simp at ht
    rw [if_pos hc, if_pos hd, if_pos he] at ht
    have hc := cont_iff.1 hc
    have hd := cont_iff.1 hd
    have he := cont_iff.1 he
    simp at ht
    simp [fits] at hf
    subst hn'
    have e : bytes q = [a, b, c, d] := by
      unfold bytes
      rw [if_neg (by omega), if_neg (by omega), if_neg (by omega), ofNat_eq (c := a) (by omega), ofNat_eq (c := b) (by omega), ofNat_eq (c := c) (by omega), ofNat_eq (c := d) (by omega)]
    rw [e]
    exact ⟨isPt_iff.2 (by omega), rfl, rfl⟩
  · simp only [if_neg c5] at *; omega

theorem one_sound' {l : List UInt8} (h : (one l).2 ≠ 0) : isPt (one l).1 = true ∧ (one l).2 = (bytes (one l).1).length ∧ l = bytes (one l).1 ++ l.drop (one l).2 :=
  one_sound (p := (one l).1) (n := (one l).2) rfl h

theorem one_len {l : List UInt8} : (one l).2 ≤ l.length ∧ (one l).2 ≤ 4 := by
  by_cases h : (one l).2 = 0
  · omega
  · have h1 := one_sound' h
    have h2 := congrArg List.length h1.2.2
    have h3 := bytes_le (one l).1
    simp only [List.length_append, List.length_drop] at h2
    omega
theorem one_zero {l : List UInt8} (h : (one l).2 = 0) : one l = (0, 0) := by
  rcases l with _ | ⟨a, r⟩
  · rfl
  rw [one_cons] at h ⊢
  by_cases h0 : (sz a).1 = 0 ∨ r.length + 1 < (sz a).1
  · rw [if_pos h0]
  · rw [if_neg h0] at h ⊢
    rcases ht : tailv (sz a).2 r ((sz a).1 - 1) with _ | q
    · rfl
    · rw [ht] at h
      simp only at h ⊢
      split
      · rename_i hf; rw [if_pos hf] at h; simp at h; omega
      · rfl
theorem one_bound (l : List UInt8) : (one l).1 ≤ 1114111 := by
  by_cases h : (one l).2 = 0
  · rw [one_zero h]; simp
  · have h1 := one_sound' h
    have := isPt_iff.1 h1.1
    omega

/-- The document's: the number that the bytes would have. -/
def rn (a : UInt8) : Nat := if 240 ≤ a.toNat then 4 else if 224 ≤ a.toNat then 3 else if 192 ≤ a.toNat then 2 else 1
def rp (a : UInt8) : Nat := if 240 ≤ a.toNat then a.toNat - 240 else if 224 ≤ a.toNat then a.toNat - 224 else if 192 ≤ a.toNat then a.toNat - 192 else a.toNat
def rtail (p : Nat) : List UInt8 → Nat → Nat
  | _, 0 => p
  | [], _ + 1 => p
  | b :: l, k + 1 => rtail (p * 64 + b.toNat % 64) l k
theorem rtail_zero (p : Nat) (l : List UInt8) : rtail p l 0 = p := by cases l <;> rfl

theorem r_bytes {p : Nat} (h : isPt p = true) (t : List UInt8) : ∃ a r, bytes p ++ t = a :: r ∧ rn a = (bytes p).length ∧ rtail (rp a) r (rn a - 1) = p := by
  have h := isPt_iff.1 h
  unfold bytes
  split
  · have e1 := toNat_ofNat (n := p) (by omega)
    refine ⟨UInt8.ofNat p, t, rfl, ?_, ?_⟩
    · unfold rn; rw [e1, if_neg (by omega), if_neg (by omega), if_neg (by omega)]; rfl
    · unfold rn rp; rw [e1, if_neg (by omega), if_neg (by omega), if_neg (by omega), if_neg (by omega), if_neg (by omega), if_neg (by omega)]; simp [rtail]
  split
  · have e1 := toNat_ofNat (n := 192 + p / 64) (by omega)
    have e2 := toNat_ofNat (n := 128 + p % 64) (by omega)
    refine ⟨UInt8.ofNat (192 + p / 64), UInt8.ofNat (128 + p % 64) :: t, rfl, ?_, ?_⟩
    · unfold rn; rw [e1, if_neg (by omega), if_neg (by omega), if_pos (by omega)]; rfl
    · unfold rn rp; rw [e1, if_neg (by omega), if_neg (by omega), if_pos (by omega), if_neg (by omega), if_neg (by omega), if_pos (by omega)]
      simp only [Nat.add_one_sub_one, Nat.reduceSub, List.cons_append, List.nil_append, rtail, e2, rtail_zero]
      omega
  split
  · have e1 := toNat_ofNat (n := 224 + p / 4096) (by omega)
    have e2 := toNat_ofNat (n := 128 + p / 64 % 64) (by omega)
    have e3 := toNat_ofNat (n := 128 + p % 64) (by omega)
    refine ⟨UInt8.ofNat (224 + p / 4096), UInt8.ofNat (128 + p / 64 % 64) :: UInt8.ofNat (128 + p % 64) :: t, rfl, ?_, ?_⟩
    · unfold rn; rw [e1, if_neg (by omega), if_pos (by omega)]; rfl
    · unfold rn rp; rw [e1, if_neg (by omega), if_pos (by omega), if_neg (by omega), if_pos (by omega)]
      simp only [List.cons_append, List.nil_append, rtail, e2, e3, rtail_zero]
      omega
  · have e1 := toNat_ofNat (n := 240 + p / 262144) (by omega)
    have e2 := toNat_ofNat (n := 128 + p / 4096 % 64) (by omega)
    have e3 := toNat_ofNat (n := 128 + p / 64 % 64) (by omega)
    have e4 := toNat_ofNat (n := 128 + p % 64) (by omega)
    refine ⟨UInt8.ofNat (240 + p / 262144), UInt8.ofNat (128 + p / 4096 % 64) :: UInt8.ofNat (128 + p / 64 % 64) :: UInt8.ofNat (128 + p % 64) :: t, rfl, ?_, ?_⟩
    · unfold rn; rw [e1, if_pos (by omega)]; rfl
    · unfold rn rp; rw [e1, if_pos (by omega), if_pos (by omega)]
      simp only [List.cons_append, List.nil_append, rtail, e2, e3, e4, rtail_zero]
      omega

/-- The document's answer is the same. -/
theorem ref_short {a : UInt8} {r : List UInt8} (h : r.length + 1 < rn a) : one (a :: r) = (0, 0) := by
  apply one_zero
  by_cases h0 : (one (a :: r)).2 = 0
  · exact h0
  exfalso
  have h1 := one_sound' h0
  obtain ⟨a', r', e1, e2, e3⟩ := r_bytes h1.1 ((a :: r).drop (one (a :: r)).2)
  rw [← h1.2.2] at e1
  obtain ⟨rfl, rfl⟩ := List.cons.inj e1
  have h4 := one_len (l := a :: r)
  simp only [List.length_cons] at h4
  omega
theorem ref_yes {a : UInt8} {r : List UInt8} {p : Nat} (h : rtail (rp a) r (rn a - 1) = p) (hb : bytesO p = (a :: r).take (rn a)) : one (a :: r) = (p, rn a) := by
  have hn : 1 ≤ rn a := by
    unfold rn
    repeat' split
    all_goals omega
  unfold bytesO at hb
  by_cases hp : isPt p = true
  · rw [if_pos hp] at hb
    have h1 := one_bytes hp ((a :: r).drop (rn a))
    obtain ⟨a', r', e1, e2, e3⟩ := r_bytes hp ((a :: r).drop (rn a))
    have e4 : bytes p ++ (a :: r).drop (rn a) = a :: r := by rw [hb, List.take_append_drop]
    rw [e4] at h1 e1
    obtain ⟨rfl, rfl⟩ := List.cons.inj e1
    rw [h1, e2]
  · rw [if_neg hp] at hb
    exfalso
    have := congrArg List.length hb
    simp at this
    omega
theorem ref_no {a : UInt8} {r : List UInt8} {p : Nat} (h : rtail (rp a) r (rn a - 1) = p) (hb : bytesO p ≠ (a :: r).take (rn a)) : one (a :: r) = (0, 0) := by
  apply one_zero
  by_cases h0 : (one (a :: r)).2 = 0
  · exact h0
  exfalso
  have h1 := one_sound' h0
  obtain ⟨a', r', e1, e2, e3⟩ := r_bytes h1.1 ((a :: r).drop (one (a :: r)).2)
  rw [← h1.2.2] at e1
  obtain ⟨rfl, rfl⟩ := List.cons.inj e1
  rw [e3] at h
  subst h
  apply hb
  unfold bytesO
  rw [if_pos h1.1, e2]
  have h5 := h1.2.2
  generalize bytes (one (a :: r)).1 = B at h5 ⊢
  generalize (a :: r).drop (one (a :: r)).2 = D at h5
  rw [h5, List.take_left]

/-- How many bytes of a text are points one behind the other; the points. -/
def badF : Nat → List UInt8 → Nat
  | 0, _ => 0
  | k + 1, l => if (one l).2 = 0 then 0 else (one l).2 + badF k (l.drop (one l).2)
def bad (l : List UInt8) : Nat := badF l.length l
def ptsF : Nat → List UInt8 → List Nat
  | 0, _ => []
  | k + 1, l => if (one l).2 = 0 then [] else (one l).1 :: ptsF k (l.drop (one l).2)
def pts (l : List UInt8) : List Nat := ptsF l.length l
theorem one_nil : one [] = (0, 0) := rfl
theorem badF_more : ∀ (k m : Nat) (l : List UInt8), l.length ≤ k → l.length ≤ m → badF k l = badF m l
  | 0, 0, l, h, h' => rfl
  | 0, m + 1, l, h, h' => by obtain rfl : l = [] := List.eq_nil_of_length_eq_zero (by omega); simp [badF, one_nil]
  | k + 1, 0, l, h, h' => by obtain rfl : l = [] := List.eq_nil_of_length_eq_zero (by omega); simp [badF, one_nil]
  | k + 1, m + 1, l, h, h' => by
    unfold badF
    split
    · rfl
    · rw [badF_more k m (l.drop (one l).2) (by simp; omega) (by simp; omega)]
theorem ptsF_more : ∀ (k m : Nat) (l : List UInt8), l.length ≤ k → l.length ≤ m → ptsF k l = ptsF m l
  | 0, 0, l, h, h' => rfl
  | 0, m + 1, l, h, h' => by obtain rfl : l = [] := List.eq_nil_of_length_eq_zero (by omega); simp [ptsF, one_nil]
  | k + 1, 0, l, h, h' => by obtain rfl : l = [] := List.eq_nil_of_length_eq_zero (by omega); simp [ptsF, one_nil]
  | k + 1, m + 1, l, h, h' => by
    unfold ptsF
    split
    · rfl
    · rw [ptsF_more k m (l.drop (one l).2) (by simp; omega) (by simp; omega)]
theorem bad_stop {l : List UInt8} (h : (one l).2 = 0) : bad l = 0 := by
  unfold bad
  cases hl : l.length with
  | zero => rfl
  | succ k => unfold badF; rw [if_pos h]
theorem bad_step {l : List UInt8} (h : (one l).2 ≠ 0) : bad l = (one l).2 + bad (l.drop (one l).2) := by
  have h1 := one_len (l := l)
  unfold bad
  cases hl : l.length with
  | zero => omega
  | succ k =>
    conv => lhs; unfold badF
    rw [if_neg h, badF_more k _ (l.drop (one l).2) (by simp; omega) (Nat.le_refl _)]
theorem pts_stop {l : List UInt8} (h : (one l).2 = 0) : pts l = [] := by
  unfold pts
  cases hl : l.length with
  | zero => rfl
  | succ k => unfold ptsF; rw [if_pos h]
theorem pts_step {l : List UInt8} (h : (one l).2 ≠ 0) : pts l = (one l).1 :: pts (l.drop (one l).2) := by
  have h1 := one_len (l := l)
  unfold pts
  cases hl : l.length with
  | zero => omega
  | succ k =>
    conv => lhs; unfold ptsF
    rw [if_neg h, ptsF_more k _ (l.drop (one l).2) (by simp; omega) (Nat.le_refl _)]
theorem bad_le (l : List UInt8) : bad l ≤ l.length := by
  unfold bad
  have : ∀ (k : Nat) (l : List UInt8), badF k l ≤ l.length := by
    intro k
    induction k with
    | zero => intro l; simp [badF]
    | succ k ih =>
      intro l
      unfold badF
      split
      · omega
      · have h1 := ih (l.drop (one l).2)
        have h2 := one_len (l := l)
        simp at h1
        omega
  exact this _ _
theorem bad_nil : bad [] = 0 := rfl
theorem pts_nil : pts [] = [] := rfl

/-- A right text is the bytes of its points. -/
theorem pts_sound : ∀ (n : Nat) (l : List UInt8), l.length ≤ n → bad l = l.length → l = (pts l).flatMap bytes ∧ ∀ p ∈ pts l, isPt p = true
  | 0, l, h, hb => by obtain rfl : l = [] := List.eq_nil_of_length_eq_zero (by omega); simp [pts_nil]
  | n + 1, l, h, hb => by
    by_cases h0 : (one l).2 = 0
    · have h1 := bad_stop h0
      obtain rfl : l = [] := List.eq_nil_of_length_eq_zero (by omega)
      simp [pts_nil]
    · have h1 := one_sound' h0
      have h2 := bad_step h0
      have h3 := one_len (l := l)
      have h4 := pts_sound n (l.drop (one l).2) (by simp; omega) (by simp; omega)
      rw [pts_step h0]
      refine ⟨?_, ?_⟩
      · rw [List.flatMap_cons, ← h4.1, ← h1.2.2]
      · intro p hp
        rcases List.mem_cons.1 hp with rfl | hp
        · exact h1.1
        · exact h4.2 p hp
theorem pts_complete : ∀ (ps : List Nat) (t : List UInt8), (∀ p ∈ ps, isPt p = true) → pts (ps.flatMap bytes ++ t) = ps ++ pts t ∧ bad (ps.flatMap bytes ++ t) = (ps.flatMap bytes).length + bad t
  | [], t, h => by simp
  | p :: ps, t, h => by
    have h1 := one_bytes (h p (by simp)) (ps.flatMap bytes ++ t)
    have h2 := bytes_pos p
    have h3 := pts_complete ps t (fun q hq => h q (by simp [hq]))
    rw [List.flatMap_cons, List.append_assoc]
    have h4 : (one (bytes p ++ (ps.flatMap bytes ++ t))).2 ≠ 0 := by rw [h1]; simp; intro e; rw [e] at h2; simp at h2
    rw [pts_step h4, bad_step h4, h1]
    simp only [List.drop_left, h3.1, h3.2, List.length_append, List.cons_append]
    exact ⟨trivial, by omega⟩

end Go.Proofs.Ytgncdjcbphobmaa.Utf
