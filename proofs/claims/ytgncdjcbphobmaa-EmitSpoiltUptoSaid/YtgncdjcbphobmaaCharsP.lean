/- Plain mathematics of texts between quotes: no program in sight. -/
import Derived.Test.YtgncdjcbphobmaaUtfP
namespace Go.Proofs.Ytgncdjcbphobmaa.Chr
set_option linter.unusedVariables false
set_option linter.unusedSimpArgs false
open Utf

/-- The letter behind the stroke; 0: none. -/
def letter (c : UInt8) : UInt8 := if c = 34 then 34 else if c = 92 then 92 else if c = 8 then 98 else if c = 9 then 116 else if c = 10 then 110 else if c = 12 then 102 else if c = 13 then 114 else 0
def hexd (n : Nat) : UInt8 := if n < 10 then UInt8.ofNat (48 + n) else UInt8.ofNat (87 + n)
def esc (c : UInt8) : List UInt8 := if letter c ≠ 0 then [92, letter c] else if c.toNat < 32 then [92, 117, 48, 48, hexd (c.toNat / 16), hexd (c.toNat % 16)] else [c]
def quote (l : List UInt8) : List UInt8 := 34 :: (l.flatMap esc ++ [34])
def quoteO (l : List UInt8) : List UInt8 × Bool := if bad l = l.length then (quote l, true) else ([], false)

/-- What the letter behind a stroke stands for. -/
def plain (c : UInt8) : Option UInt8 := if c = 34 then some 34 else if c = 92 then some 92 else if c = 47 then some 47 else if c = 98 then some 8 else if c = 102 then some 12 else if c = 110 then some 10 else if c = 114 then some 13 else if c = 116 then some 9 else none
def hexv (c : UInt8) : Option Nat := if 48 ≤ c.toNat ∧ c.toNat ≤ 57 then some (c.toNat - 48) else if 65 ≤ c.toNat ∧ c.toNat ≤ 70 then some (c.toNat - 55) else if 97 ≤ c.toNat ∧ c.toNat ≤ 102 then some (c.toNat - 87) else none
def hexs (n : Nat) : List UInt8 → Option Nat
  | [] => some n
  | c :: l => match hexv c with | some d => hexs (n * 16 + d) l | none => none
/-- A stroke, u and four digits. -/
def unitv : List UInt8 → Option Nat
  | a :: b :: d0 :: d1 :: d2 :: d3 :: _ => if a = 92 ∧ b = 117 then hexs 0 [d0, d1, d2, d3] else none
  | _ => none
theorem hexv_lt {c : UInt8} {d : Nat} (h : hexv c = some d) : d < 16 := by
  unfold hexv at h; repeat' split at h
  all_goals simp at h; try omega
theorem hexs_lt : ∀ {l : List UInt8} {n a : Nat}, hexs n l = some a → a < (n + 1) * 16 ^ l.length
  | [], n, a, h => by simp [hexs] at h; simp; omega
  | c :: l, n, a, h => by
    unfold hexs at h
    rcases hc : hexv c with _ | d
    · rw [hc] at h; simp at h
    · rw [hc] at h
      have h1 := hexs_lt h
      have h2 := hexv_lt hc
      have h3 : (n * 16 + d + 1) * 16 ^ l.length ≤ ((n + 1) * 16) * 16 ^ l.length := Nat.mul_le_mul_right _ (by omega)
      rw [List.length_cons, Nat.pow_succ, Nat.mul_comm (16 ^ l.length) 16, ← Nat.mul_assoc]
      omega
theorem unitv_lt {l : List UInt8} {a : Nat} (h : unitv l = some a) : a < 65536 := by
  unfold unitv at h
  split at h
  · split at h
    · have := hexs_lt h; simpa using this
    · cases h
  · cases h
theorem unitv_len {l : List UInt8} {a : Nat} (h : unitv l = some a) : 6 ≤ l.length := by
  unfold unitv at h
  split at h
  · simp
  · cases h
/-- An escape by numbers. -/
def escu (l : List UInt8) : Option (Nat × Nat) :=
  match unitv l with
  | none => none
  | some a => if a < 55296 ∨ 57343 < a then some (a, 6) else
    match unitv (l.drop 6) with
    | none => none
    | some b => if a ≤ 56319 ∧ 56320 ≤ b ∧ b ≤ 57343 then some (65536 + (a - 55296) * 1024 + (b - 56320), 12) else none
/-- An escape: its point, and how many bytes it has. -/
def escd (l : List UInt8) : Option (Nat × Nat) :=
  match plain (l.getD 1 0) with
  | some p => some (p.toNat, 2)
  | none => escu l
theorem plain_lt {c p : UInt8} (h : plain c = some p) : p.toNat < 128 := by
  unfold plain at h; repeat' split at h
  all_goals simp at h
  all_goals subst h; decide
theorem escu_pt {l : List UInt8} {p n : Nat} (h : escu l = some (p, n)) : isPt p = true ∧ (n = 6 ∨ n = 12) ∧ n ≤ l.length := by
  unfold escu at h
  rcases ha : unitv l with _ | a
  · rw [ha] at h; cases h
  rw [ha] at h
  have h1 := unitv_lt ha
  have h2 := unitv_len ha
  simp only at h
  split at h
  · simp at h; obtain ⟨rfl, rfl⟩ := h; exact ⟨isPt_iff.2 (by omega), .inl rfl, h2⟩
  · rcases hb : unitv (l.drop 6) with _ | b
    · rw [hb] at h; cases h
    rw [hb] at h
    have h3 := unitv_lt hb
    have h4 := unitv_len hb
    simp only at h
    split at h
    · simp at h; obtain ⟨rfl, rfl⟩ := h; simp at h4; exact ⟨isPt_iff.2 (by omega), .inr rfl, by omega⟩
    · cases h
theorem escd_pt {l : List UInt8} {p n : Nat} (h : escd l = some (p, n)) : isPt p = true ∧ 2 ≤ n ∧ n ≤ l.length ∧ n ≤ 12 := by
  unfold escd at h
  rcases hp : plain (l.getD 1 0) with _ | c
  · rw [hp] at h
    have := escu_pt h
    exact ⟨this.1, by omega, by omega, by omega⟩
  · rw [hp] at h
    simp at h
    obtain ⟨rfl, rfl⟩ := h
    have := plain_lt hp
    refine ⟨isPt_iff.2 (by omega), by omega, ?_, by omega⟩
    rcases l with _ | ⟨x, _ | ⟨y, l⟩⟩
    · simp [plain] at hp
    · simp [plain] at hp
    · simp

inductive Tok
  | fin : Tok
  | bad : Nat → Tok
  | pc : Nat → Nat → Tok

/-- What a text between quotes goes on with. -/
def tok : List UInt8 → Tok
  | [] => .bad 20
  | c :: r => if c = 34 then .fin else if c.toNat < 32 then .bad 20 else
    if c = 92 then (match escd (c :: r) with | none => .bad 20 | some (p, n) => .pc p n) else
    if (one (c :: r)).2 = 0 then .bad 10 else .pc (one (c :: r)).1 (one (c :: r)).2
theorem tok_cons (c : UInt8) (r : List UInt8) : tok (c :: r) = if c = 34 then .fin else if c.toNat < 32 then .bad 20 else
    if c = 92 then (match escd (c :: r) with | none => .bad 20 | some (p, n) => .pc p n) else
    if (one (c :: r)).2 = 0 then .bad 10 else .pc (one (c :: r)).1 (one (c :: r)).2 := rfl
theorem tok_pc {l : List UInt8} {p n : Nat} (h : tok l = .pc p n) : isPt p = true ∧ 1 ≤ n ∧ n ≤ l.length ∧ n ≤ 12 := by
  rcases l with _ | ⟨c, r⟩
  · simp [tok] at h
  rw [tok_cons] at h
  split at h
  · cases h
  split at h
  · cases h
  split at h
  · rcases he : escd (c :: r) with _ | ⟨q, m⟩
    · rw [he] at h; cases h
    · rw [he] at h
      simp only [Tok.pc.injEq] at h
      obtain ⟨rfl, rfl⟩ := h
      have := escd_pt he
      exact ⟨this.1, by omega, this.2.2.1, this.2.2.2⟩
  split at h
  · cases h
  · rename_i h0
    simp only [Tok.pc.injEq] at h
    obtain ⟨rfl, rfl⟩ := h
    have h1 := one_sound (l := c :: r) (p := (one (c :: r)).1) rfl h0
    have h2 := one_len (l := c :: r)
    exact ⟨h1.1, by omega, h2.1, by omega⟩
theorem tok_bad {l : List UInt8} {e : Nat} (h : tok l = .bad e) : e = 20 ∨ (e = 10 ∧ l ≠ []) := by
  rcases l with _ | ⟨c, r⟩
  · simp [tok] at h; omega
  rw [tok_cons] at h
  split at h
  · cases h
  split at h
  · cases h; omega
  split at h
  · rcases he : escd (c :: r) with _ | ⟨q, m⟩
    · rw [he] at h; cases h; omega
    · rw [he] at h; cases h
  split at h
  · cases h; exact .inr ⟨rfl, by simp⟩
  · cases h

/-- The points up to the closing quote, how many bytes were gone through, and why not. -/
def rdF : Nat → List UInt8 → List Nat × Nat × Nat
  | 0, _ => ([], 0, 20)
  | k + 1, l => match tok l with
    | .fin => ([], 1, 0)
    | .bad e => ([], 0, e)
    | .pc p n => (p :: (rdF k (l.drop n)).1, n + (rdF k (l.drop n)).2.1, (rdF k (l.drop n)).2.2)
def rd (l : List UInt8) : List Nat × Nat × Nat := rdF (l.length + 1) l
theorem rdF_more : ∀ (k m : Nat) (l : List UInt8), l.length < k → l.length < m → rdF k l = rdF m l
  | 0, _, l, h, _ => by omega
  | _, 0, l, _, h => by omega
  | k + 1, m + 1, l, h, h' => by
    unfold rdF
    rcases ht : tok l with _ | e | ⟨p, n⟩
    · rfl
    · rfl
    · have := tok_pc ht
      simp only
      rw [rdF_more k m (l.drop n) (by simp; omega) (by simp; omega)]
theorem rd_fin {l : List UInt8} (h : tok l = .fin) : rd l = ([], 1, 0) := by unfold rd rdF; rw [h]
theorem rd_bad {l : List UInt8} {e : Nat} (h : tok l = .bad e) : rd l = ([], 0, e) := by unfold rd rdF; rw [h]
theorem rd_pc {l : List UInt8} {p n : Nat} (h : tok l = .pc p n) : rd l = (p :: (rd (l.drop n)).1, n + (rd (l.drop n)).2.1, (rd (l.drop n)).2.2) := by
  have h1 := tok_pc h
  conv => lhs; unfold rd rdF
  rw [h]
  simp only
  rw [rdF_more l.length ((l.drop n).length + 1) (l.drop n) (by simp; omega) (by omega)]
  rfl
theorem rd_nil : rd [] = ([], 0, 20) := rfl

theorem tok_cut {l : List UInt8} : tok l = .fin → ∃ r, l = 34 :: r := by
  rcases l with _ | ⟨c, r⟩
  · simp [tok]
  · rw [tok_cons]
    split
    · rename_i h; subst h; intro _; exact ⟨r, rfl⟩
    · repeat' split
      all_goals intro h; cases h

/-- What is read, wherever. -/
theorem rd_all : ∀ (n : Nat) (l : List UInt8), l.length ≤ n → (∀ p ∈ (rd l).1, isPt p = true) ∧ (rd l).2.1 ≤ l.length ∧ ((rd l).2.2 = 0 ∨ (rd l).2.2 = 10 ∨ (rd l).2.2 = 20) ∧ ((rd l).2.2 = 0 → 1 ≤ (rd l).2.1 ∧ l.getD ((rd l).2.1 - 1) 0 = 34) ∧ ((rd l).1.flatMap bytes).length ≤ 4 * (rd l).2.1 ∧ ((rd l).2.2 = 10 → (rd l).2.1 < l.length)
  | n, l, hn => by
    rcases ht : tok l with _ | e | ⟨p, m⟩
    · obtain ⟨r, rfl⟩ := tok_cut ht
      rw [rd_fin ht]; simp
    · rw [rd_bad ht]
      have := tok_bad ht
      refine ⟨by simp, by simp, by simp; omega, by simp; omega, by simp, ?_⟩
      intro h
      simp at h
      rcases this with h1 | ⟨_, h1⟩
      · omega
      · exact List.length_pos_iff.2 h1
    · have h1 := tok_pc ht
      rw [rd_pc ht]
      cases n with
      | zero => omega
      | succ n =>
        have h2 := rd_all n (l.drop m) (by simp; omega)
        obtain ⟨a, b, c, d, f, g⟩ := h2
        rw [List.length_drop] at b g
        have hb4 := bytes_le p
        refine ⟨?_, by simp only; omega, c, ?_, ?_, ?_⟩
        · intro q hq
          rcases List.mem_cons.1 hq with rfl | hq
          · exact h1.1
          · exact a q hq
        · intro h0
          have d := d h0
          refine ⟨by simp only; omega, ?_⟩
          have e := d.2
          simp only [List.getD_eq_getElem?_getD, List.getElem?_drop] at e ⊢
          rw [← e]
          congr 2
          omega
        · simp only [List.flatMap_cons, List.length_append]
          omega
        · intro h0; have := g h0; simp only; omega

/-- What is read of a text between quotes at a place: the text, where it ends, why not. -/
def read (l : List UInt8) (a : Int) : List UInt8 × Int × Int :=
  if a < 0 ∨ (l.length : Int) ≤ a ∨ l.getD a.toNat 0 ≠ 34 then ([], a, 20) else
  (if (rd (l.drop (a.toNat + 1))).2.2 = 0 then (rd (l.drop (a.toNat + 1))).1.flatMap bytes else [], a + 1 + (rd (l.drop (a.toNat + 1))).2.1, (((rd (l.drop (a.toNat + 1))).2.2 : Nat) : Int))
theorem read_out {l : List UInt8} {a : Int} (h : a < 0 ∨ (l.length : Int) ≤ a ∨ l.getD a.toNat 0 ≠ 34) : read l a = ([], a, 20) := by unfold read; rw [if_pos h]
theorem read_in {l : List UInt8} {k : Nat} (hk : k < l.length) (h : l.getD k 0 = 34) :
    read l k = (if (rd (l.drop (k + 1))).2.2 = 0 then (rd (l.drop (k + 1))).1.flatMap bytes else [], (k : Int) + 1 + (rd (l.drop (k + 1))).2.1, (((rd (l.drop (k + 1))).2.2 : Nat) : Int)) := by
  unfold read
  rw [if_neg (by simp only [Int.toNat_natCast]; intro e; rcases e with e | e | e <;> first | omega | exact e h)]
  simp only [Int.toNat_natCast]

end Go.Proofs.Ytgncdjcbphobmaa.Chr
