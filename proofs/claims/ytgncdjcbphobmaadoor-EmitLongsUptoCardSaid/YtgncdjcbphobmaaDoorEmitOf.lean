/- Plain mathematics of few values: no program in sight. -/
import Derived.Test.YtgncdjcbphobmaaDoorPa
namespace Go.Proofs.YtgncdjcbphobmaaDoor
set_option linter.unusedVariables false
set_option linter.unusedSimpArgs false
namespace JV
mutual
/-- How many values there are, if there are at most so many, and they lie not too deep. -/
def fewV : JV → Nat → Nat → Option Nat
  | .mk k n s l m, a, d => if a < 1 ∨ d < 1 ∨ a < l.length ∨ a < m.length then none else (match fewL l a (d - 1) 1 with | none => none | some q => fewM m a (d - 1) q)
termination_by structural v => v
def fewL : List JV → Nat → Nat → Nat → Option Nat
  | [], _, _, q => some q
  | v :: l, a, d, q => match fewV v (a - q) d with | none => none | some k => fewL l a d (q + k)
termination_by structural v => v
def fewM : List (List UInt8 × JV) → Nat → Nat → Nat → Option Nat
  | [], _, _, q => some q
  | x :: m, a, d, q => match fewP x (a - q) d with | none => none | some k => fewM m a d (q + k)
termination_by structural v => v
def fewP : List UInt8 × JV → Nat → Nat → Option Nat
  | (_, v), a, d => fewV v a d
termination_by structural v => v
end
theorem fewV_mk (k n : Int) (s : List UInt8) (l : List JV) (m : List (List UInt8 × JV)) (a d : Nat) : fewV (.mk k n s l m) a d = if a < 1 ∨ d < 1 ∨ a < l.length ∨ a < m.length then none else (match fewL l a (d - 1) 1 with | none => none | some q => fewM m a (d - 1) q) := by
  conv => lhs; unfold fewV
theorem fewL_nil (a d q : Nat) : fewL [] a d q = some q := by unfold fewL; rfl
theorem fewM_nil (a d q : Nat) : fewM [] a d q = some q := by unfold fewM; rfl
theorem fewL_cons (v : JV) (l : List JV) (a d q : Nat) : fewL (v :: l) a d q = match fewV v (a - q) d with | none => none | some k => fewL l a d (q + k) := by
  conv => lhs; unfold fewL
theorem fewM_cons (x : List UInt8 × JV) (m : List (List UInt8 × JV)) (a d q : Nat) : fewM (x :: m) a d q = match fewV x.2 (a - q) d with | none => none | some k => fewM m a d (q + k) := by
  conv => lhs; unfold fewM fewP
theorem fewL_le {l : List JV} (h : ∀ v ∈ l, ∀ a d k, fewV v a d = some k → 1 ≤ k ∧ k ≤ a) : ∀ a d q k, q ≤ a → fewL l a d q = some k → q ≤ k ∧ k ≤ a := by
  induction l with
  | nil => intro a d q k hq e; rw [fewL_nil] at e; injection e with e; omega
  | cons v l ih =>
    intro a d q k hq e
    rw [fewL_cons] at e
    cases hv : fewV v (a - q) d with
    | none => rw [hv] at e; cases e
    | some j =>
      rw [hv] at e
      have h1 := h v (by simp) _ _ _ hv
      have h2 := ih (fun u hu => h u (by simp [hu])) a d (q + j) k (by omega) e
      omega
theorem fewM_le {l : List (List UInt8 × JV)} (h : ∀ v ∈ l, ∀ a d k, fewV v.2 a d = some k → 1 ≤ k ∧ k ≤ a) : ∀ a d q k, q ≤ a → fewM l a d q = some k → q ≤ k ∧ k ≤ a := by
  induction l with
  | nil => intro a d q k hq e; rw [fewM_nil] at e; injection e with e; omega
  | cons v l ih =>
    intro a d q k hq e
    rw [fewM_cons] at e
    cases hv : fewV v.2 (a - q) d with
    | none => rw [hv] at e; cases e
    | some j =>
      rw [hv] at e
      have h1 := h v (by simp) _ _ _ hv
      have h2 := ih (fun u hu => h u (by simp [hu])) a d (q + j) k (by omega) e
      omega
theorem few_le (v : JV) : ∀ a d k, fewV v a d = some k → 1 ≤ k ∧ k ≤ a := by
  induction v using JV.ind with
  | h k n s l m ihl ihm =>
    intro a d j e
    rw [fewV_mk] at e
    split at e
    · cases e
    rename_i hc
    cases hl : fewL l a (d - 1) 1 with
    | none => rw [hl] at e; cases e
    | some q =>
      rw [hl] at e
      have h1 := fewL_le ihl a (d - 1) 1 q (by omega) hl
      have h2 := fewM_le ihm a (d - 1) q j (by omega) e
      omega
theorem fewL_mem : ∀ {l : List JV} {a d q k : Nat}, fewL l a d q = some k → ∀ v ∈ l, ∃ a' j, a' ≤ a ∧ fewV v a' d = some j
  | [], _, _, _, _, _ => by simp
  | v :: l, a, d, q, k, e => by
    rw [fewL_cons] at e
    cases hv : fewV v (a - q) d with
    | none => rw [hv] at e; cases e
    | some j =>
      rw [hv] at e
      intro u hu
      rcases List.mem_cons.1 hu with rfl | hu
      · exact ⟨a - q, j, by omega, hv⟩
      · exact fewL_mem e u hu
theorem fewM_mem : ∀ {l : List (List UInt8 × JV)} {a d q k : Nat}, fewM l a d q = some k → ∀ v ∈ l, ∃ a' j, a' ≤ a ∧ fewV v.2 a' d = some j
  | [], _, _, _, _, _ => by simp
  | v :: l, a, d, q, k, e => by
    rw [fewM_cons] at e
    cases hv : fewV v.2 (a - q) d with
    | none => rw [hv] at e; cases e
    | some j =>
      rw [hv] at e
      intro u hu
      rcases List.mem_cons.1 hu with rfl | hu
      · exact ⟨a - q, j, by omega, hv⟩
      · exact fewM_mem e u hu
theorem few_parts {k n : Int} {s : List UInt8} {l : List JV} {m : List (List UInt8 × JV)} {a d j : Nat} (e : fewV (.mk k n s l m) a d = some j) :
    l.length ≤ a ∧ m.length ≤ a ∧ (∀ v ∈ l, ∃ a' d' j', a' ≤ a ∧ fewV v a' d' = some j') ∧ ∀ v ∈ m, ∃ a' d' j', a' ≤ a ∧ fewV v.2 a' d' = some j' := by
  rw [fewV_mk] at e
  split at e
  · cases e
  rename_i hc
  cases hl : fewL l a (d - 1) 1 with
  | none => rw [hl] at e; cases e
  | some q =>
    rw [hl] at e
    refine ⟨by omega, by omega, fun v hv => ?_, fun v hv => ?_⟩
    · obtain ⟨a', j', h1, h2⟩ := fewL_mem hl v hv; exact ⟨a', _, j', h1, h2⟩
    · obtain ⟨a', j', h1, h2⟩ := fewM_mem e v hv; exact ⟨a', _, j', h1, h2⟩
/-- Of few values all names are asked. -/
theorem few_all (v : JV) : ∀ a d k, fewV v a d = some k → a ≤ 8192 → allB v = okB v := by
  induction v using JV.ind with
  | h k n s l m ihl ihm =>
    intro a d j e ha
    obtain ⟨h1, h2, h3, h4⟩ := few_parts e
    rw [all_mk, ok_mk, allL_all, okL_all, allM_all, okM_all]
    have e1 : l.all allB = l.all okB := by
      rw [Bool.eq_iff_iff, List.all_eq_true, List.all_eq_true]
      constructor
      · intro h u hu; obtain ⟨a', d', j', ha', hj⟩ := h3 u hu; rw [← ihl u hu a' d' j' hj (by omega)]; exact h u hu
      · intro h u hu; obtain ⟨a', d', j', ha', hj⟩ := h3 u hu; rw [ihl u hu a' d' j' hj (by omega)]; exact h u hu
    have e2 : (m.all fun x => allB x.2) = m.all fun x => okB x.2 := by
      rw [Bool.eq_iff_iff, List.all_eq_true, List.all_eq_true]
      constructor
      · intro h u hu; obtain ⟨a', d', j', ha', hj⟩ := h4 u hu; rw [← ihm u hu a' d' j' hj (by omega)]; exact h u hu
      · intro h u hu; obtain ⟨a', d', j', ha', hj⟩ := h4 u hu; rw [ihm u hu a' d' j' hj (by omega)]; exact h u hu
    rw [e1, e2]
    have e3 : rightB (.mk k n s l m) = (rightB (.mk k n s l m) && (!(k == 6) || namesB m)) := by
      by_cases h6 : k = 6
      · subst h6
        cases hn : namesB m with
        | true => simp
        | false =>
          have : rightB (.mk 6 n s l m) = false := by
            have hd : decide (8192 < m.length) = false := decide_eq_false (by omega)
            simp only [rightB, hd, hn]
            simp
          rw [this]; rfl
      · have : (k == 6) = false := by rw [beq_eq_false_iff_ne]; exact h6
        rw [this]; simp
    rw [← e3]
/-- k lists around. -/
def wraps : Nat → JV → JV
  | 0, v => v
  | k + 1, v => listV [wraps k v]
theorem wraps_bulk (v : JV) : ∀ k, bulk (wraps k v) = 3 * k + bulk v
  | 0 => by simp [wraps]
  | k + 1 => by
    show bulk (.mk 5 0 [] [wraps k v] []) = _
    rw [bulk_mk, bulkL_cons, wraps_bulk v k]
    show 3 + 0 + (3 * k + bulk v + bulkL []) + bulkM [] = _
    unfold bulkL bulkM
    omega
/-- A long text against a text. -/
theorem long_text (v : JV) : ((chk v 1 0).1 = 0 → okB v = true) ∧ ((chk v 1 0).1 = 1 → allB v = false) := ⟨fun h => (chk_ok v 1 0 h).1, (chk_all v 1 0).2⟩
end JV
end Go.Proofs.YtgncdjcbphobmaaDoor
