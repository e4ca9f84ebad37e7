/- Plain laws of values: which are right; how long their texts are. -/
import Derived.Test.YtgncdjcbphobmaaValP
namespace Go.Proofs.Ytgncdjcbphobmaa.JV
set_option linter.unusedVariables false
set_option linter.unusedSimpArgs false

theorem chk_mk (k n : Int) (s : List UInt8) (l : List JV) (m : List (List UInt8 × JV)) (d p : Nat) : chk (.mk k n s l m) d p =
    if 16 < d then (51, p) else if 8192 ≤ p then (53, p) else if rightB (.mk k n s l m) = false then (1, p)
    else if (chkL l (d + 1) (p + 1)).1 ≠ 0 then chkL l (d + 1) (p + 1) else chkM m (d + 1) (chkL l (d + 1) (p + 1)).2 := by
  conv => lhs; unfold chk
theorem chkL_nil (d p : Nat) : chkL [] d p = (0, p) := by unfold chkL; rfl
theorem chkM_nil (d p : Nat) : chkM [] d p = (0, p) := by unfold chkM; rfl
theorem chkL_cons (v : JV) (l : List JV) (d p : Nat) : chkL (v :: l) d p = if (chk v d p).1 ≠ 0 then chk v d p else chkL l d (chk v d p).2 := by
  conv => lhs; unfold chkL
theorem chkM_cons (x : List UInt8 × JV) (m : List (List UInt8 × JV)) (d p : Nat) : chkM (x :: m) d p = if (chk x.2 d p).1 ≠ 0 then chk x.2 d p else chkM m d (chk x.2 d p).2 := by
  conv => lhs; unfold chkM
  unfold chkP
  rfl
theorem all_mk (k n : Int) (s : List UInt8) (l : List JV) (m : List (List UInt8 × JV)) : allB (.mk k n s l m) = (allL l && allM m && rightB (.mk k n s l m)) := by conv => lhs; unfold allB
theorem allL_all : ∀ l : List JV, allL l = l.all allB
  | [] => by unfold allL; rfl
  | v :: l => by unfold allL; rw [allL_all l]; rfl
theorem allM_all : ∀ m : List (List UInt8 × JV), allM m = m.all fun x => allB x.2
  | [] => by unfold allM; rfl
  | x :: m => by unfold allM allP; rw [allM_all m]; rfl
theorem all_iff (v : JV) : allB v = true ↔ rightB v = true ∧ (∀ u ∈ v.ls, allB u = true) ∧ ∀ x ∈ v.ms, allB x.2 = true := by
  cases v with
  | mk k n s l m =>
    rw [all_mk, allL_all, allM_all]
    simp only [Bool.and_eq_true, List.all_eq_true, ls, ms]
    constructor
    · rintro ⟨⟨a, b⟩, c⟩; exact ⟨c, a, b⟩
    · rintro ⟨c, a, b⟩; exact ⟨⟨a, b⟩, c⟩
/-- What chk answers. -/
theorem chk_code (v : JV) : ∀ d p, (chk v d p).1 = 0 ∨ (chk v d p).1 = 1 ∨ (chk v d p).1 = 51 ∨ (chk v d p).1 = 53 := by
  induction v using JV.ind with
  | h k n s l m ihl ihm =>
    intro d p
    have hL : ∀ (l : List JV) (d p : Nat), (∀ v ∈ l, ∀ d p, (chk v d p).1 = 0 ∨ (chk v d p).1 = 1 ∨ (chk v d p).1 = 51 ∨ (chk v d p).1 = 53) → (chkL l d p).1 = 0 ∨ (chkL l d p).1 = 1 ∨ (chkL l d p).1 = 51 ∨ (chkL l d p).1 = 53 := by
      intro l
      induction l with
      | nil => intro d p _; rw [chkL_nil]; exact .inl rfl
      | cons v l ih =>
        intro d p h
        rw [chkL_cons]
        split
        · exact h v (by simp) d p
        · exact ih d _ (fun u hu => h u (by simp [hu]))
    have hM : ∀ (l : List (List UInt8 × JV)) (d p : Nat), (∀ v ∈ l, ∀ d p, (chk v.2 d p).1 = 0 ∨ (chk v.2 d p).1 = 1 ∨ (chk v.2 d p).1 = 51 ∨ (chk v.2 d p).1 = 53) → (chkM l d p).1 = 0 ∨ (chkM l d p).1 = 1 ∨ (chkM l d p).1 = 51 ∨ (chkM l d p).1 = 53 := by
      intro l
      induction l with
      | nil => intro d p _; rw [chkM_nil]; exact .inl rfl
      | cons v l ih =>
        intro d p h
        rw [chkM_cons]
        split
        · exact h v (by simp) d p
        · exact ih d _ (fun u hu => h u (by simp [hu]))
    rw [chk_mk]
    split
    · simp
    split
    · simp
    split
    · simp
    split
    · exact hL l _ _ ihl
    · exact hM m _ _ ihm

/-- One deeper, one more ahead. -/
theorem chk_shift (v : JV) : ∀ d p, ∃ x p', chk v (d + 1) (p + 1) = (x, p' + 1) ∧ ((x = 51 ∨ x = 53) ∨ chk v d p = (x, p')) := by
  induction v using JV.ind with
  | h k n s l m ihl ihm =>
    intro d p
    have hL : ∀ (l : List JV) (d p : Nat), (∀ v ∈ l, ∀ d p, ∃ x p', chk v (d + 1) (p + 1) = (x, p' + 1) ∧ ((x = 51 ∨ x = 53) ∨ chk v d p = (x, p'))) → ∃ x p', chkL l (d + 1) (p + 1) = (x, p' + 1) ∧ ((x = 51 ∨ x = 53) ∨ chkL l d p = (x, p')) := by
      intro l
      induction l with
      | nil => intro d p _; exact ⟨0, p, by rw [chkL_nil], .inr (by rw [chkL_nil])⟩
      | cons v l ih =>
        intro d p h
        obtain ⟨x, p', h1, h2⟩ := h v (by simp) d p
        rw [chkL_cons, chkL_cons, h1]
        by_cases hx : x = 0
        · subst hx
          simp only [ne_eq, not_true_eq_false, if_false]
          rcases h2 with h2 | h2
          · omega
          · rw [h2]
            simp only [ne_eq, not_true_eq_false, if_false]
            exact ih d p' (fun u hu => h u (by simp [hu]))
        · simp only [ne_eq, hx, not_false_eq_true, if_true]
          refine ⟨x, p', rfl, ?_⟩
          rcases h2 with h2 | h2
          · exact .inl h2
          · right; rw [h2]; simp [hx]
    have hM : ∀ (l : List (List UInt8 × JV)) (d p : Nat), (∀ v ∈ l, ∀ d p, ∃ x p', chk v.2 (d + 1) (p + 1) = (x, p' + 1) ∧ ((x = 51 ∨ x = 53) ∨ chk v.2 d p = (x, p'))) → ∃ x p', chkM l (d + 1) (p + 1) = (x, p' + 1) ∧ ((x = 51 ∨ x = 53) ∨ chkM l d p = (x, p')) := by
      intro l
      induction l with
      | nil => intro d p _; exact ⟨0, p, by rw [chkM_nil], .inr (by rw [chkM_nil])⟩
      | cons v l ih =>
        intro d p h
        obtain ⟨x, p', h1, h2⟩ := h v (by simp) d p
        rw [chkM_cons, chkM_cons, h1]
        by_cases hx : x = 0
        · subst hx
          simp only [ne_eq, not_true_eq_false, if_false]
          rcases h2 with h2 | h2
          · omega
          · rw [h2]
            simp only [ne_eq, not_true_eq_false, if_false]
            exact ih d p' (fun u hu => h u (by simp [hu]))
        · simp only [ne_eq, hx, not_false_eq_true, if_true]
          refine ⟨x, p', rfl, ?_⟩
          rcases h2 with h2 | h2
          · exact .inl h2
          · right; rw [h2]; simp [hx]
    rw [chk_mk, chk_mk]
    by_cases h16 : 16 < d + 1
    · rw [if_pos h16]; exact ⟨51, p, rfl, .inl (.inl rfl)⟩
    rw [if_neg h16, if_neg (show ¬ 16 < d by omega)]
    by_cases hp : 8192 ≤ p + 1
    · rw [if_pos hp]; exact ⟨53, p, rfl, .inl (.inr rfl)⟩
    rw [if_neg hp, if_neg (show ¬ 8192 ≤ p by omega)]
    by_cases hr : rightB (.mk k n s l m) = false
    · rw [if_pos hr, if_pos hr]; exact ⟨1, p, rfl, .inr rfl⟩
    rw [if_neg hr, if_neg hr]
    obtain ⟨x, p', h1, h2⟩ := hL l (d + 1) (p + 1) ihl
    rw [h1]
    by_cases hx : x = 0
    · subst hx
      simp only [ne_eq, not_true_eq_false, if_false]
      rcases h2 with h2 | h2
      · omega
      · rw [h2]
        simp only [ne_eq, not_true_eq_false, if_false]
        exact hM m (d + 1) p' ihm
    · simp only [ne_eq, hx, not_false_eq_true, if_true]
      refine ⟨x, p', rfl, ?_⟩
      rcases h2 with h2 | h2
      · exact .inl h2
      · right; rw [h2]; simp [hx]

theorem right_list (v : JV) : rightB (listV [v]) = true := by simp [rightB, listV, kd, nm, tx, ms, bareB]; decide
theorem right_map1 (v : JV) : rightB (mapV [([107], v)]) = true := by
  simp [rightB, mapV, kd, nm, tx, ms, bareB, namesB]; decide +kernel
theorem chk_list1 (v : JV) : chk (listV [v]) 1 0 = chk v 2 1 := by
  unfold listV
  rw [chk_mk, if_neg (by omega), if_neg (by omega), if_neg (by have := right_list v; unfold listV at this; rw [this]; simp), chkL_cons, chkL_nil, chkM_nil]
  rcases h : chk v (1 + 1) (0 + 1) with ⟨x, p⟩
  by_cases hx : x = 0
  · subst hx; simp
  · simp [hx]
theorem chk_map1 (v : JV) : chk (mapV [([107], v)]) 1 0 = chk v 2 1 := by
  unfold mapV
  rw [chk_mk, if_neg (by omega), if_neg (by omega), if_neg (by have := right_map1 v; unfold mapV at this; rw [this]; simp), chkL_nil, chkM_cons, chkM_nil]
  simp only [ne_eq, not_true_eq_false, if_false]
  rcases h : chk v (1 + 1) (0 + 1) with ⟨x, p⟩
  by_cases hx : x = 0
  · subst hx; simp
  · simp [hx]
/-- The law of one value with signs around: which error. -/
theorem wrapped_code (v : JV) : (chk v 2 1).1 = 51 ∨ (chk v 2 1).1 = 53 ∨ (chk v 1 0).1 = (chk v 2 1).1 := by
  obtain ⟨x, p, h1, h2⟩ := chk_shift v 1 0
  rw [show 2 = 1 + 1 by rfl, show (1 : Nat) = 0 + 1 by rfl] at *
  rw [h1]
  rcases h2 with (h2 | h2) | h2
  · exact .inl h2
  · exact .inr (.inl h2)
  · right; right; rw [h2]

theorem chk_right {v : JV} {d p : Nat} (h : (chk v d p).1 = 0) : rightB v = true := by
  cases v with
  | mk k n s l m =>
    rw [chk_mk] at h
    split at h
    · cases h
    split at h
    · cases h
    split at h
    · cases h
    · rename_i hr; simpa using hr
theorem chk_wrong {v : JV} (h : rightB v = false) : (chk v 1 0).1 = 1 := by
  cases v with
  | mk k n s l m => rw [chk_mk, if_neg (by omega), if_neg (by omega), if_pos h]

/-- Where chk finds nothing, all is right; where it finds 1, something isn't. -/
theorem chk_all (v : JV) : ∀ d p, ((chk v d p).1 = 0 → allB v = true) ∧ ((chk v d p).1 = 1 → allB v = false) := by
  induction v using JV.ind with
  | h k n s l m ihl ihm =>
    intro d p
    have hL : ∀ (l : List JV) (d p : Nat), (∀ v ∈ l, ∀ d p, ((chk v d p).1 = 0 → allB v = true) ∧ ((chk v d p).1 = 1 → allB v = false)) → ((chkL l d p).1 = 0 → allL l = true) ∧ ((chkL l d p).1 = 1 → allL l = false) := by
      intro l
      induction l with
      | nil => intro d p _; rw [chkL_nil, allL_all]; simp
      | cons v l ih =>
        intro d p h
        rw [chkL_cons, allL_all]
        have hv := h v (by simp) d p
        have hi := ih d (chk v d p).2 (fun u hu => h u (by simp [hu]))
        rw [allL_all] at hi
        by_cases h0 : (chk v d p).1 = 0
        · rw [if_neg (by simp [h0])]
          rw [List.all_cons, hv.1 h0, Bool.true_and]
          exact hi
        · rw [if_pos h0, List.all_cons]
          exact ⟨fun h => absurd h h0, fun h => by rw [hv.2 h]; rfl⟩
    have hM : ∀ (l : List (List UInt8 × JV)) (d p : Nat), (∀ v ∈ l, ∀ d p, ((chk v.2 d p).1 = 0 → allB v.2 = true) ∧ ((chk v.2 d p).1 = 1 → allB v.2 = false)) → ((chkM l d p).1 = 0 → allM l = true) ∧ ((chkM l d p).1 = 1 → allM l = false) := by
      intro l
      induction l with
      | nil => intro d p _; rw [chkM_nil, allM_all]; simp
      | cons v l ih =>
        intro d p h
        rw [chkM_cons, allM_all]
        have hv := h v (by simp) d p
        have hi := ih d (chk v.2 d p).2 (fun u hu => h u (by simp [hu]))
        rw [allM_all] at hi
        by_cases h0 : (chk v.2 d p).1 = 0
        · rw [if_neg (by simp [h0])]
          rw [List.all_cons, hv.1 h0, Bool.true_and]
          exact hi
        · rw [if_pos h0, List.all_cons]
          exact ⟨fun h => absurd h h0, fun h => by rw [hv.2 h]; rfl⟩
    rw [chk_mk, all_mk]
    split
    · simp
    split
    · simp
    split
    · rename_i hr; rw [hr]; simp
    · rename_i hr
      have hr' : rightB (.mk k n s l m) = true := by simpa using hr
      rw [hr', Bool.and_true]
      have h1 := hL l (d + 1) (p + 1) ihl
      have h2 := hM m (d + 1) (chkL l (d + 1) (p + 1)).2 ihm
      by_cases h0 : (chkL l (d + 1) (p + 1)).1 = 0
      · rw [if_neg (by simp [h0]), h1.1 h0, Bool.true_and]; exact h2
      · rw [if_pos h0]
        exact ⟨fun h => absurd h h0, fun h => by rw [h1.2 h]; rfl⟩

theorem bulk_mk (k n : Int) (s : List UInt8) (l : List JV) (m : List (List UInt8 × JV)) : bulk (.mk k n s l m) = 3 + s.length + bulkL l + bulkM m := by conv => lhs; unfold bulk
theorem bulkL_cons (v : JV) (l : List JV) : bulkL (v :: l) = bulk v + bulkL l := by conv => lhs; unfold bulkL
theorem bulkM_cons (x : List UInt8 × JV) (m : List (List UInt8 × JV)) : bulkM (x :: m) = 1 + x.1.length + bulk x.2 + bulkM m := by conv => lhs; unfold bulkM bulkP
theorem bulkL_mem {v : JV} : ∀ {l : List JV}, v ∈ l → bulk v + l.length ≤ bulkL l + 1
  | [], h => by cases h
  | u :: l, h => by
    have := bulk_pos u
    rw [bulkL_cons]
    have hl : ∀ l : List JV, l.length ≤ bulkL l := by
      intro l
      induction l with
      | nil => simp
      | cons v l ih => rw [bulkL_cons]; have := bulk_pos v; simp; omega
    rcases List.mem_cons.1 h with rfl | h
    · have := hl l; simp; omega
    · have := bulkL_mem h; simp; omega
theorem bulkL_len (l : List JV) : l.length * 3 ≤ bulkL l := by
  induction l with
  | nil => simp
  | cons v l ih => rw [bulkL_cons]; have := bulk_pos v; simp; omega
theorem bulkM_len (l : List (List UInt8 × JV)) : l.length * 4 ≤ bulkM l := by
  induction l with
  | nil => simp
  | cons v l ih => rw [bulkM_cons]; have := bulk_pos v.2; simp; omega
theorem bulkM_mem {x : List UInt8 × JV} : ∀ {l : List (List UInt8 × JV)}, x ∈ l → bulk x.2 + x.1.length + 1 ≤ bulkM l
  | [], h => by cases h
  | u :: l, h => by
    rw [bulkM_cons]
    rcases List.mem_cons.1 h with rfl | h
    · omega
    · have := bulkM_mem h; omega

theorem putNat_len2 : ∀ (k n : Nat), n < 10 ^ k → 0 < k → (Nm.putNat n).length ≤ k
  | 0, n, h, h0 => by omega
  | k + 1, n, h, _ => by
    unfold Nm.putNat
    split
    · simp
    · rename_i h10
      have hk : 0 < k := by
        rcases Nat.eq_zero_or_pos k with h0 | h0
        · subst h0; omega
        · exact h0
      have := putNat_len2 k (n / 10) (by rw [Nat.pow_succ] at h; omega) hk
      rw [List.length_append]
      simp only [List.length_cons, List.length_nil]
      omega
theorem put_len2 (n : Int) (h : -9007199254740991 ≤ n) (h2 : n ≤ 9007199254740991) : (Nm.put n).length ≤ 17 := by
  unfold Nm.put
  have h0 : (10 : Nat) ^ 16 = 10000000000000000 := by decide
  split
  · have := putNat_len2 16 n.natAbs (by omega) (by omega)
    simp only [List.length_cons]
    omega
  · have := putNat_len2 16 n.natAbs (by omega) (by omega)
    omega
theorem wrt_mk (k n : Int) (s : List UInt8) (l : List JV) (m : List (List UInt8 × JV)) : wrt (.mk k n s l m) = if k = 1 then tNull else if k = 2 then (if n = 1 then tTrue else tFalse) else if k = 3 then Nm.put n else if k = 4 then q s else if k = 5 then 91 :: (wrtL l true ++ [93]) else 123 :: (wrtM m true ++ [125]) := by conv => lhs; unfold wrt
theorem wrtL_nil (b : Bool) : wrtL [] b = [] := by unfold wrtL; rfl
theorem wrtM_nil (b : Bool) : wrtM [] b = [] := by unfold wrtM; rfl
theorem wrtL_cons (v : JV) (l : List JV) (b : Bool) : wrtL (v :: l) b = (if b then [] else [44]) ++ wrt v ++ wrtL l false := by conv => lhs; unfold wrtL
theorem wrtM_cons (x : List UInt8 × JV) (m : List (List UInt8 × JV)) (b : Bool) : wrtM (x :: m) b = (if b then [] else [44]) ++ (q x.1 ++ 58 :: wrt x.2) ++ wrtM m false := by conv => lhs; unfold wrtM wrtP
theorem right_num {k n : Int} {s : List UInt8} {l : List JV} {m : List (List UInt8 × JV)} (h : rightB (.mk k n s l m) = true) (hk : k = 3) : -9007199254740991 ≤ n ∧ n ≤ 9007199254740991 := by
  subst hk
  simp only [rightB, kd, nm, Bool.and_eq_true] at h
  have := h.2
  simp only [if_neg (show ¬ (3 : Int) = 2 by decide), if_true, Bool.and_eq_true, decide_eq_true_eq] at this
  exact this
theorem wrt_len (v : JV) : allB v = true → (wrt v).length + 2 ≤ 8 * bulk v := by
  induction v using JV.ind with
  | h k n s l m ihl ihm =>
    intro h
    rw [all_mk, allL_all, allM_all, Bool.and_eq_true, Bool.and_eq_true, List.all_eq_true, List.all_eq_true] at h
    obtain ⟨⟨hl, hm⟩, hr⟩ := h
    rw [bulk_mk, wrt_mk]
    split
    · simp only [tNull, List.length_cons, List.length_nil]; omega
    split
    · split
      · simp only [tTrue, List.length_cons, List.length_nil]; omega
      · simp only [tFalse, List.length_cons, List.length_nil]; omega
    split
    · rename_i hk
      have h3 := right_num hr hk
      have := put_len2 n h3.1 h3.2
      omega
    split
    · have := q_len s; omega
    split
    · have hL : ∀ (l : List JV) (b : Bool), (∀ v ∈ l, (wrt v).length + 2 ≤ 8 * bulk v) → (wrtL l b).length ≤ 8 * bulkL l := by
        intro l
        induction l with
        | nil => intro b _; rw [wrtL_nil]; simp
        | cons v l ih =>
          intro b h
          have h1 := h v (by simp)
          have h2 := ih false (fun u hu => h u (by simp [hu]))
          rw [wrtL_cons, bulkL_cons, List.length_append, List.length_append]
          have : (if b then ([] : List UInt8) else [44]).length ≤ 1 := by split <;> simp
          omega
      have := hL l true (fun v hv => ihl v hv (hl v hv))
      simp only [List.length_cons, List.length_append, List.length_nil]
      omega
    · have hM : ∀ (l : List (List UInt8 × JV)) (b : Bool), (∀ v ∈ l, (wrt v.2).length + 2 ≤ 8 * bulk v.2) → (wrtM l b).length ≤ 8 * bulkM l := by
        intro l
        induction l with
        | nil => intro b _; rw [wrtM_nil]; simp
        | cons v l ih =>
          intro b h
          have h1 := h v (by simp)
          have h2 := ih false (fun u hu => h u (by simp [hu]))
          have h3 := q_len v.1
          rw [wrtM_cons, bulkM_cons, List.length_append, List.length_append, List.length_append, List.length_cons]
          have : (if b then ([] : List UInt8) else [44]).length ≤ 1 := by split <;> simp
          omega
      have := hM m true (fun v hv => ihm v hv (hm v hv))
      simp only [List.length_cons, List.length_append, List.length_nil]
      omega
end Go.Proofs.Ytgncdjcbphobmaa.JV
