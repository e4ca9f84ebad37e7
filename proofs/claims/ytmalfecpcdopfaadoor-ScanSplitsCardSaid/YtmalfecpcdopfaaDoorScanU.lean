/- Tokens: what stands at a place, case by case; how the list grows. No program in sight. -/
import Derived.Test.YtmalfecpcdopfaaDoorScanT
namespace Go.Proofs.YtmalfecpcdopfaaDoor.Scn
set_option linter.unusedVariables false
set_option linter.unusedSimpArgs false

theorem tokAt_text {l : List UInt8} {k : Nat} (hk : k < l.length) (h : l.getD k 0 = 34) :
    (∃ (d : List UInt8) (n : Nat), Chr.read l k = (d, (n : Int), 0) ∧ tokAt l k = .tok ⟨4, 0, d, k⟩ n) ∨
    (∃ (n e : Nat), (e = 10 ∨ e = 20) ∧ n ≤ l.length ∧ Chr.read l k = ([], (n : Int), (e : Int)) ∧ tokAt l k = .err e n) := by
  have e0 := Chr.read_code l (k : Int)
  have hr := Chr.rd_all _ (l.drop (k + 1)) (Nat.le_refl _)
  have e := Chr.read_in hk h
  have hpos : 0 ≤ (Chr.read l k).2.1 ∧ (Chr.read l k).2.1 ≤ l.length := by
    rw [e]
    simp only
    rw [List.length_drop] at hr
    omega
  obtain ⟨n, hn⟩ : ∃ n : Nat, (Chr.read l k).2.1 = n := ⟨(Chr.read l k).2.1.toNat, by omega⟩
  have ht : tokAt l k = if (Chr.read l k).2.2 = 0 then .tok ⟨4, 0, (Chr.read l k).1, k⟩ (Chr.read l k).2.1.toNat else .err (Chr.read l k).2.2.toNat (Chr.read l k).2.1.toNat := by
    unfold tokAt; simp only; rw [if_pos h]
  rcases e0.1 with e1 | e1 | e1
  · left
    refine ⟨(Chr.read l k).1, n, ?_, ?_⟩
    · rw [← hn, ← e1]
    · rw [ht, if_pos e1, hn]; rfl
  · right
    have e2 := e0.2 (by omega)
    refine ⟨n, 10, .inl rfl, by omega, ?_, ?_⟩
    · rw [← hn, show ((10 : Nat) : Int) = (Chr.read l k).2.2 by rw [e1]; rfl, ← e2]
    · rw [ht, if_neg (by omega), hn, e1]; rfl
  · right
    have e2 := e0.2 (by omega)
    refine ⟨n, 20, .inr rfl, by omega, ?_, ?_⟩
    · rw [← hn, show ((20 : Nat) : Int) = (Chr.read l k).2.2 by rw [e1]; rfl, ← e2]
    · rw [ht, if_neg (by omega), hn, e1]; rfl
theorem tokAt_num {l : List UInt8} {k : Nat} (hk : k < l.length) (h : l.getD k 0 = 45 ∨ (48 ≤ (l.getD k 0).toNat ∧ (l.getD k 0).toNat ≤ 57)) :
    (∃ (v : Int) (n : Nat), Nm.readNum l k = (v, (n : Int), 0) ∧ tokAt l k = .tok ⟨3, v, [], k⟩ n) ∨
    (∃ v : Int, Nm.readNum l k = (v, (k : Int), 30) ∧ tokAt l k = .err 30 k) := by
  have h34 : l.getD k 0 ≠ 34 := by
    rintro h2; rw [h2] at h; rcases h with h | h
    · cases h
    · have : ((34 : UInt8)).toNat = 34 := rfl
      omega
  have ht : tokAt l k = if (Nm.readNum l k).2.2 = 0 then .tok ⟨3, (Nm.readNum l k).1, [], k⟩ (Nm.readNum l k).2.1.toNat else .err (Nm.readNum l k).2.2.toNat (Nm.readNum l k).2.1.toNat := by
    unfold tokAt; simp only; rw [if_neg h34, if_pos h]
  rcases readNum_code l (k : Int) with e | ⟨e, e2⟩
  · left
    have hn := readNum_next hk e
    obtain ⟨n, hn2⟩ : ∃ n : Nat, (Nm.readNum l k).2.1 = n := ⟨(Nm.readNum l k).2.1.toNat, by omega⟩
    refine ⟨(Nm.readNum l k).1, n, ?_, ?_⟩
    · rw [← hn2, ← e]
    · rw [ht, if_pos e, hn2]; rfl
  · right
    refine ⟨(Nm.readNum l k).1, ?_, ?_⟩
    · exact Prod.ext rfl (Prod.ext e2 e)
    · rw [ht, if_neg (by omega), e, e2]; rfl
theorem tokAt_mark {l : List UInt8} {k : Nat} (h : mark (l.getD k 0) = true) : tokAt l k = .tok ⟨1, 0, [l.getD k 0], k⟩ (k + 1) := by
  unfold tokAt
  simp only
  have hc := mark_cases h
  rw [if_neg (by rcases hc with h | h | h | h | h | h <;> rw [h] <;> decide), if_neg (by rcases hc with h | h | h | h | h | h <;> rw [h] <;> decide), if_pos h]
theorem tokAt_word {l : List UInt8} {k : Nat} (h34 : l.getD k 0 ≠ 34) (hn : ¬ (l.getD k 0 = 45 ∨ (48 ≤ (l.getD k 0).toNat ∧ (l.getD k 0).toNat ≤ 57))) (hm : mark (l.getD k 0) = false) (h : wordLen (l.drop k) ≠ 0) :
    tokAt l k = .tok ⟨2, 0, (l.drop k).take (wordLen (l.drop k)), k⟩ (k + wordLen (l.drop k)) := by
  unfold tokAt
  simp only
  rw [if_neg h34, if_neg hn, if_neg (by rw [hm]; simp), if_neg h]
theorem tokAt_none {l : List UInt8} {k : Nat} (h34 : l.getD k 0 ≠ 34) (hn : ¬ (l.getD k 0 = 45 ∨ (48 ≤ (l.getD k 0).toNat ∧ (l.getD k 0).toNat ≤ 57))) (hm : mark (l.getD k 0) = false) (h : wordLen (l.drop k) = 0) :
    tokAt l k = .err 40 k := by
  unfold tokAt
  simp only
  rw [if_neg h34, if_neg hn, if_neg (by rw [hm]; simp), if_pos h]

/-- The loop's invariant: the tokens ahead of the place i are ts. -/
structure TkInv (l : List UInt8) (i : Nat) (ts : List Tok) : Prop where
  hi : i ≤ l.length
  len : ts.length ≤ i
  eq : tk l 0 = if (tk l i).2.2 = 0 then (ts ++ (tk l i).1, 0, 0) else ([], (tk l i).2)
theorem TkInv.start (l : List UInt8) : TkInv l 0 [] := by
  refine ⟨by omega, by simp, ?_⟩
  by_cases h : (tk l 0).2.2 = 0
  · rw [if_pos h]
    have := (tk_ok _ l 0 (Nat.le_add_left _ _) h).1
    rw [List.nil_append]
    exact Prod.ext rfl (Prod.ext this h)
  · rw [if_neg h]
    have := (tk_bad _ l 0 (Nat.le_add_left _ _) h).1
    exact Prod.ext this rfl
theorem TkInv.white {l : List UInt8} {i : Nat} {ts : List Tok} (h : TkInv l i ts) (hi : i < l.length) (hw : Scn.white (l.getD i 0) = true) : TkInv l (i + 1) ts := by
  refine ⟨by omega, by have := h.len; omega, ?_⟩
  rw [h.eq, tk_white hi hw]
theorem TkInv.tok {l : List UInt8} {i n : Nat} {ts : List Tok} {t : Tok} (h : TkInv l i ts) (hi : i < l.length) (hw : Scn.white (l.getD i 0) = false) (ht : tokAt l i = .tok t n) : TkInv l n (ts ++ [t]) ∧ i < n := by
  have hn := tokAt_next hi ht
  refine ⟨⟨hn.2.1, by have := h.len; simp; omega, ?_⟩, hn.1⟩
  rw [h.eq, tk_tok hi hw ht]
  by_cases h0 : (tk l n).2.2 = 0
  · rw [if_pos h0, if_pos h0]; simp
  · rw [if_neg h0, if_neg h0]; simp [h0]
theorem TkInv.err {l : List UInt8} {i p e : Nat} {ts : List Tok} (h : TkInv l i ts) (hi : i < l.length) (hw : Scn.white (l.getD i 0) = false) (ht : tokAt l i = .err e p) : tk l 0 = ([], p, e) := by
  have := tokAt_err hi ht
  rw [h.eq, tk_err hi hw ht]
  rw [if_neg (by exact this.2)]
theorem TkInv.stop {l : List UInt8} {i : Nat} {ts : List Tok} (h : TkInv l i ts) (hi : l.length ≤ i) : tk l 0 = (ts, 0, 0) := by
  rw [h.eq, tk_end hi]; simp
theorem tokens_long {l : List UInt8} (h : 65536 < l.length) : tokens l = ([], 0, 2) := by unfold tokens; rw [if_pos h]
theorem tokens_short {l : List UInt8} (h : ¬ 65536 < l.length) : tokens l = tk l 0 := by unfold tokens; rw [if_neg h]; rfl
theorem tk_len : ∀ (n : Nat) (l : List UInt8) (k : Nat), l.length ≤ k + n → (tk l k).1.length ≤ l.length - k
  | n, l, k, hn => by
    by_cases h1 : l.length ≤ k
    · rw [tk_end h1]; simp
    cases n with
    | zero => omega
    | succ n =>
      by_cases h2 : Scn.white (l.getD k 0) = true
      · rw [tk_white (by omega) h2]
        have := tk_len n l (k + 1) (by omega)
        omega
      have h2' : Scn.white (l.getD k 0) = false := by simpa using h2
      rcases ht : tokAt l k with ⟨e, p⟩ | ⟨t, m⟩
      · rw [tk_err (by omega) h2' ht]; simp
      · have hm := tokAt_next (by omega) ht
        rw [tk_tok (by omega) h2' ht]
        have := tk_len n l m (by omega)
        split
        · simp only [List.length_cons]; omega
        · simp
theorem tokens_len (l : List UInt8) : (tokens l).1.length ≤ l.length := by
  by_cases h : 65536 < l.length
  · rw [tokens_long h]; simp
  · rw [tokens_short h]
    have := tk_len l.length l 0 (by omega)
    omega
end Go.Proofs.YtmalfecpcdopfaaDoor.Scn
