/- Plain laws of values: right forms; unlike values have unlike texts. -/
import Derived.Test.YtgncdjcbphobmaaValQ
import Derived.Test.YtgncdjcbphobmaaScanT
namespace Go.Proofs.Ytgncdjcbphobmaa.JV
set_option linter.unusedVariables false
set_option linter.unusedSimpArgs false

mutual
/-- Are all values right, and all names? -/
def okB : JV → Bool
  | .mk k n s l m => okL l && okM m && (rightB (.mk k n s l m) && (!(k == 6) || namesB m))
termination_by structural v => v
def okL : List JV → Bool
  | [] => true
  | v :: l => okB v && okL l
termination_by structural v => v
def okM : List (List UInt8 × JV) → Bool
  | [] => true
  | x :: m => okP x && okM m
termination_by structural v => v
def okP : List UInt8 × JV → Bool
  | (_, v) => okB v
termination_by structural v => v
end
theorem ok_mk (k n : Int) (s : List UInt8) (l : List JV) (m : List (List UInt8 × JV)) : okB (.mk k n s l m) = (okL l && okM m && (rightB (.mk k n s l m) && (!(k == 6) || namesB m))) := by conv => lhs; unfold okB
theorem okL_all : ∀ l : List JV, okL l = l.all okB
  | [] => by unfold okL; rfl
  | v :: l => by unfold okL; rw [okL_all l]; rfl
theorem okM_all : ∀ m : List (List UInt8 × JV), okM m = m.all fun x => okB x.2
  | [] => by unfold okM; rfl
  | x :: m => by unfold okM okP; rw [okM_all m]; rfl
theorem ok_iff (v : JV) : okB v = true ↔ rightB v = true ∧ (v.kd = 6 → namesB v.ms = true) ∧ (∀ u ∈ v.ls, okB u = true) ∧ ∀ x ∈ v.ms, okB x.2 = true := by
  cases v with
  | mk k n s l m =>
    rw [ok_mk, okL_all, okM_all]
    simp only [Bool.and_eq_true, List.all_eq_true, ls, ms, kd, Bool.or_eq_true, Bool.not_eq_true', beq_eq_false_iff_ne]
    constructor
    · rintro ⟨⟨a, b⟩, c, d⟩; exact ⟨c, fun hk => d.resolve_left (fun h => h hk), a, b⟩
    · rintro ⟨c, d, a, b⟩
      refine ⟨⟨a, b⟩, c, ?_⟩
      by_cases hk : k = 6
      · exact .inr (d hk)
      · exact .inl hk
theorem ok_all {v : JV} (h : okB v = true) : allB v = true := by
  induction v using JV.ind with
  | h k n s l m ihl ihm =>
    obtain ⟨a, b, c, d⟩ := (ok_iff _).1 h
    exact (all_iff _).2 ⟨a, fun u hu => ihl u hu (c u hu), fun x hx => ihm x hx (d x hx)⟩
/-- A value without anything wrong counts its parts. -/
theorem chk_ok (v : JV) : ∀ d p, (chk v d p).1 = 0 → okB v = true ∧ p < (chk v d p).2 ∧ (chk v d p).2 ≤ 8192 := by
  induction v using JV.ind with
  | h k n s l m ihl ihm =>
    intro d p
    have hL : ∀ (l : List JV) (d p : Nat), (∀ v ∈ l, ∀ d p, (chk v d p).1 = 0 → okB v = true ∧ p < (chk v d p).2 ∧ (chk v d p).2 ≤ 8192) → (chkL l d p).1 = 0 → okL l = true ∧ p + l.length ≤ (chkL l d p).2 ∧ (p ≤ 8192 → (chkL l d p).2 ≤ 8192) := by
      intro l
      induction l with
      | nil => intro d p _ _; rw [chkL_nil, okL_all]; simp
      | cons v l ih =>
        intro d p h h0
        rw [chkL_cons] at h0 ⊢
        rw [okL_all]
        by_cases hv0 : (chk v d p).1 = 0
        · rw [if_neg (by simp [hv0])] at h0 ⊢
          have hv := h v (by simp) d p hv0
          have hi := ih d (chk v d p).2 (fun u hu => h u (by simp [hu])) h0
          rw [okL_all] at hi
          refine ⟨?_, by simp only [List.length_cons]; omega, fun _ => hi.2.2 hv.2.2⟩
          rw [List.all_cons, hv.1, hi.1]; rfl
        · rw [if_pos hv0] at h0; exact absurd h0 hv0
    have hM : ∀ (l : List (List UInt8 × JV)) (d p : Nat), (∀ v ∈ l, ∀ d p, (chk v.2 d p).1 = 0 → okB v.2 = true ∧ p < (chk v.2 d p).2 ∧ (chk v.2 d p).2 ≤ 8192) → (chkM l d p).1 = 0 → okM l = true ∧ p + l.length ≤ (chkM l d p).2 ∧ (p ≤ 8192 → (chkM l d p).2 ≤ 8192) := by
      intro l
      induction l with
      | nil => intro d p _ _; rw [chkM_nil, okM_all]; simp
      | cons v l ih =>
        intro d p h h0
        rw [chkM_cons] at h0 ⊢
        rw [okM_all]
        by_cases hv0 : (chk v.2 d p).1 = 0
        · rw [if_neg (by simp [hv0])] at h0 ⊢
          have hv := h v (by simp) d p hv0
          have hi := ih d (chk v.2 d p).2 (fun u hu => h u (by simp [hu])) h0
          rw [okM_all] at hi
          refine ⟨?_, by simp only [List.length_cons]; omega, fun _ => hi.2.2 hv.2.2⟩
          rw [List.all_cons, hv.1, hi.1]; rfl
        · rw [if_pos hv0] at h0; exact absurd h0 hv0
    intro h
    rw [chk_mk] at h ⊢
    by_cases h1 : 16 < d
    · rw [if_pos h1] at h; cases h
    rw [if_neg h1] at h ⊢
    by_cases h2 : 8192 ≤ p
    · rw [if_pos h2] at h; cases h
    rw [if_neg h2] at h ⊢
    by_cases h3 : rightB (.mk k n s l m) = false
    · rw [if_pos h3] at h; cases h
    rw [if_neg h3] at h ⊢
    by_cases h4 : (chkL l (d + 1) (p + 1)).1 = 0
    · rw [if_neg (by simp [h4])] at h ⊢
      have a := hL l (d + 1) (p + 1) ihl h4
      have b := hM m (d + 1) (chkL l (d + 1) (p + 1)).2 ihm h
      have a3 := a.2.2 (by omega)
      have b3 := b.2.2 a3
      refine ⟨?_, by omega, b3⟩
      have hr : rightB (.mk k n s l m) = true := by simpa using h3
      rw [ok_mk, a.1, b.1, hr]
      simp only [Bool.true_and, Bool.or_eq_true, Bool.not_eq_true', beq_eq_false_iff_ne]
      by_cases hk : k = 6
      · right
        simp only [rightB, kd, ms, Bool.and_eq_true] at hr
        have h5 := hr.2
        subst hk
        simp only [if_neg (show ¬ (6 : Int) = 2 by decide), if_neg (show ¬ (6 : Int) = 3 by decide), if_true, Bool.or_eq_true, decide_eq_true_eq] at h5
        rcases h5 with h5 | h5
        · omega
        · exact h5
      · exact .inl hk
    · rw [if_pos h4] at h; exact absurd h h4

/-- The right forms. -/
theorem right_form {v : JV} (h : rightB v = true) : v = nullV ∨ (∃ n : Int, (n = 0 ∨ n = 1) ∧ v = boolV n) ∨ (∃ n : Int, -9007199254740991 ≤ n ∧ n ≤ 9007199254740991 ∧ v = intV n) ∨ (∃ s, Utf.bad s = s.length ∧ v = textV s) ∨ (∃ l, v = listV l) ∨ ∃ m, v = mapV m := by
  cases v with
  | mk k n s l m =>
    simp only [rightB, kd, nm, tx, ms, bareB, Bool.and_eq_true, Bool.or_eq_true, beq_iff_eq, decide_eq_true_eq, List.length_eq_zero_iff] at h
    obtain ⟨⟨⟨⟨h1, h2⟩, ⟨⟨hn, hs⟩, hl⟩, hm⟩, hu⟩, hx⟩ := h
    rcases (by omega : k = 1 ∨ k = 2 ∨ k = 3 ∨ k = 4 ∨ k = 5 ∨ k = 6) with rfl | rfl | rfl | rfl | rfl | rfl
    · left
      have e1 : n = 0 := by omega
      have e2 : s = [] := by rcases hs with h | h; exact h; omega
      have e3 : l = [] := by rcases hl with h | h; exact h; omega
      have e4 : m = [] := by rcases hm with h | h; exact h; omega
      subst e1; subst e2; subst e3; subst e4; rfl
    · right; left
      have e2 : s = [] := by rcases hs with h | h; exact h; omega
      have e3 : l = [] := by rcases hl with h | h; exact h; omega
      have e4 : m = [] := by rcases hm with h | h; exact h; omega
      subst e2; subst e3; subst e4
      simp only [if_true, Bool.or_eq_true, beq_iff_eq] at hx
      exact ⟨n, hx, rfl⟩
    · right; right; left
      have e2 : s = [] := by rcases hs with h | h; exact h; omega
      have e3 : l = [] := by rcases hl with h | h; exact h; omega
      have e4 : m = [] := by rcases hm with h | h; exact h; omega
      subst e2; subst e3; subst e4
      simp only [if_neg (show ¬ (3 : Int) = 2 by decide), if_true, Bool.and_eq_true, decide_eq_true_eq] at hx
      exact ⟨n, hx.1, hx.2, rfl⟩
    · right; right; right; left
      have e1 : n = 0 := by omega
      have e3 : l = [] := by rcases hl with h | h; exact h; omega
      have e4 : m = [] := by rcases hm with h | h; exact h; omega
      subst e1; subst e3; subst e4
      exact ⟨s, hu, rfl⟩
    · right; right; right; right; left
      have e1 : n = 0 := by omega
      have e2 : s = [] := by rcases hs with h | h; exact h; omega
      have e4 : m = [] := by rcases hm with h | h; exact h; omega
      subst e1; subst e2; subst e4
      exact ⟨l, rfl⟩
    · right; right; right; right; right
      have e1 : n = 0 := by omega
      have e2 : s = [] := by rcases hs with h | h; exact h; omega
      have e3 : l = [] := by rcases hl with h | h; exact h; omega
      subst e1; subst e2; subst e3
      exact ⟨m, rfl⟩
theorem q_right {s : List UInt8} (h : Utf.bad s = s.length) : q s = Chr.quote s := by unfold q Chr.quoteO; rw [if_pos h]

/-- The first byte of a value's text. -/
def headB : JV → UInt8 → Prop
  | .mk k n _ _ _, c => (k = 1 ∧ c = 110) ∨ (k = 2 ∧ n = 1 ∧ c = 116) ∨ (k = 2 ∧ n ≠ 1 ∧ c = 102) ∨ (k = 3 ∧ (c = 45 ∨ (48 ≤ c.toNat ∧ c.toNat ≤ 57))) ∨ (k = 4 ∧ c = 34) ∨ (k = 5 ∧ c = 91) ∨ (k = 6 ∧ c = 123)
theorem wrt_head {v : JV} (h : rightB v = true) : ∃ c r, wrt v = c :: r ∧ headB v c := by
  rcases right_form h with rfl | ⟨n, hn, rfl⟩ | ⟨n, h1, h2, rfl⟩ | ⟨s, hs, rfl⟩ | ⟨l, rfl⟩ | ⟨m, rfl⟩
  · exact ⟨110, _, rfl, by simp [nullV, headB]⟩
  · rcases hn with rfl | rfl
    · exact ⟨102, [97, 108, 115, 101], by unfold boolV; rw [wrt_mk]; rfl, by simp [boolV, headB]⟩
    · exact ⟨116, [114, 117, 101], by unfold boolV; rw [wrt_mk]; rfl, by simp [boolV, headB]⟩
  · obtain ⟨c, r, h3, h4⟩ := Scn.put_head n
    exact ⟨c, r, by unfold intV; rw [wrt_mk]; simpa using h3, by simp [intV, headB]; exact h4⟩
  · exact ⟨34, _, by unfold textV; rw [wrt_mk, q_right hs]; unfold Chr.quote; simp; rfl, by simp [textV, headB]⟩
  · exact ⟨91, wrtL l true ++ [93], by unfold listV; rw [wrt_mk]; simp, by simp [listV, headB]⟩
  · exact ⟨123, wrtM m true ++ [125], by unfold mapV; rw [wrt_mk]; simp, by simp [mapV, headB]⟩
theorem head_kd {u v : JV} {c : UInt8} (h : headB u c) (h' : headB v c) : u.kd = v.kd := by
  cases u with
  | mk k n s l m =>
    cases v with
    | mk k' n' s' l' m' =>
      simp only [headB, kd] at h h' ⊢
      rcases h with ⟨rfl, rfl⟩ | ⟨rfl, _, rfl⟩ | ⟨rfl, _, rfl⟩ | ⟨rfl, h⟩ | ⟨rfl, rfl⟩ | ⟨rfl, rfl⟩ | ⟨rfl, rfl⟩ <;>
      rcases h' with ⟨rfl, h2⟩ | ⟨rfl, _, h2⟩ | ⟨rfl, _, h2⟩ | ⟨rfl, h2⟩ | ⟨rfl, h2⟩ | ⟨rfl, h2⟩ | ⟨rfl, h2⟩ <;> (try rfl) <;> exfalso <;> (try subst h2) <;> (try revert h2) <;> (try revert h) <;> decide
theorem head_not {v : JV} {c : UInt8} (h : headB v c) : c ≠ 93 ∧ c ≠ 125 ∧ c ≠ 44 ∧ c ≠ 58 ∧ Scn.white c = false := by
  cases v with
  | mk k n s l m =>
    simp only [headB] at h
    rcases h with ⟨_, rfl⟩ | ⟨_, _, rfl⟩ | ⟨_, _, rfl⟩ | ⟨_, h⟩ | ⟨_, rfl⟩ | ⟨_, rfl⟩ | ⟨_, rfl⟩
    any_goals decide
    have hw : ∀ d : UInt8, (d = 45 ∨ 48 ≤ d.toNat ∧ d.toNat ≤ 57) → d ≠ 93 ∧ d ≠ 125 ∧ d ≠ 44 ∧ d ≠ 58 ∧ Scn.white d = false := by
      intro d
      have : ∀ n : Fin 256, ((UInt8.ofFin n) = 45 ∨ 48 ≤ (UInt8.ofFin n).toNat ∧ (UInt8.ofFin n).toNat ≤ 57) → (UInt8.ofFin n) ≠ 93 ∧ (UInt8.ofFin n) ≠ 125 ∧ (UInt8.ofFin n) ≠ 44 ∧ (UInt8.ofFin n) ≠ 58 ∧ Scn.white (UInt8.ofFin n) = false := by decide +kernel
      exact this d.toFin
    exact hw c h
/-- What may stand behind a value. -/
def Dl (t : List UInt8) : Prop := t = [] ∨ ∃ c r, t = c :: r ∧ (c = 44 ∨ c = 93 ∨ c = 125)
theorem Dl.ends {t : List UInt8} (h : Dl t) : Nm.ends t = true := by
  rcases h with rfl | ⟨c, r, rfl, h⟩
  · rfl
  · rcases h with rfl | rfl | rfl <;> rfl
theorem quote_inj {s s' t t' : List UInt8} (h : Utf.bad s = s.length) (h' : Utf.bad s' = s'.length) (e : Chr.quote s ++ t = Chr.quote s' ++ t') : s = s' ∧ t = t' := by
  have h1 := Chr.read_back (h := []) (t := t) h
  have h2 := Chr.read_back (h := []) (t := t') h'
  rw [e, h2] at h1
  simp only [Prod.mk.injEq] at h1
  obtain ⟨rfl, _⟩ := h1
  exact ⟨rfl, List.append_cancel_left e⟩
theorem put_inj {n n' : Int} {t t' : List UInt8} (h : Dl t) (h' : Dl t') (b1 : -9007199254740991 ≤ n) (b2 : n ≤ 9007199254740991) (b1' : -9007199254740991 ≤ n') (b2' : n' ≤ 9007199254740991) (e : Nm.put n ++ t = Nm.put n' ++ t') : n = n' ∧ t = t' := by
  have h1 := Nm.readNum_put n t h.ends
  have h2 := Nm.readNum_put n' t' h'.ends
  rw [if_pos ⟨b1, b2⟩] at h1
  rw [if_pos ⟨b1', b2'⟩] at h2
  rw [e, h2] at h1
  simp only [Prod.mk.injEq] at h1
  obtain ⟨rfl, _⟩ := h1
  exact ⟨rfl, List.append_cancel_left e⟩
theorem wrt_inj (u : JV) : ∀ (v : JV) (t t' : List UInt8), okB u = true → okB v = true → Dl t → Dl t' → wrt u ++ t = wrt v ++ t' → u = v ∧ t = t' := by
  induction u using JV.ind with
  | h k n s l m ihl ihm =>
    intro v t t' hu hv ht ht' he
    have hur := ((ok_iff _).1 hu).1
    have hvr := ((ok_iff _).1 hv).1
    have hkd : (JV.mk k n s l m).kd = v.kd := by
      obtain ⟨c, r, h1, h2⟩ := wrt_head hur
      obtain ⟨c', r', h1', h2'⟩ := wrt_head hvr
      rw [h1, h1', List.cons_append, List.cons_append, List.cons.injEq] at he
      obtain ⟨rfl, _⟩ := he
      exact head_kd h2 h2'
    have hL : ∀ (l l' : List JV) (b : Bool) (t t' : List UInt8), (∀ u ∈ l, ∀ (v : JV) (t t' : List UInt8), okB u = true → okB v = true → Dl t → Dl t' → wrt u ++ t = wrt v ++ t' → u = v ∧ t = t') → (∀ u ∈ l, okB u = true) → (∀ u ∈ l', okB u = true) →
        wrtL l b ++ 93 :: t = wrtL l' b ++ 93 :: t' → l = l' ∧ t = t' := by
      intro l
      induction l with
      | nil =>
        intro l' b t t' _ _ hok' he
        cases l' with
        | nil => rw [wrtL_nil, List.nil_append, List.nil_append, List.cons.injEq] at he; exact ⟨rfl, he.2⟩
        | cons v l' =>
          exfalso
          rw [wrtL_nil, wrtL_cons] at he
          obtain ⟨c, r, h1, h2⟩ := wrt_head ((ok_iff _).1 (hok' v (by simp))).1
          have hc := head_not h2
          rw [h1] at he
          cases b with
          | true => simp at he; exact hc.1 he.1.symm
          | false => simp at he
      | cons u l ih =>
        intro l' b t t' hi hok hok' he
        cases l' with
        | nil =>
          exfalso
          rw [wrtL_nil, wrtL_cons] at he
          obtain ⟨c, r, h1, h2⟩ := wrt_head ((ok_iff _).1 (hok u (by simp))).1
          have hc := head_not h2
          rw [h1] at he
          cases b with
          | true => simp at he; exact hc.1 he.1
          | false => simp at he
        | cons v l' =>
          rw [wrtL_cons, wrtL_cons] at he
          have he2 : wrt u ++ (wrtL l false ++ 93 :: t) = wrt v ++ (wrtL l' false ++ 93 :: t') := by
            cases b with
            | true => simpa using he
            | false => simpa using he
          have hd : ∀ (l : List JV) (t : List UInt8), Dl (wrtL l false ++ 93 :: t) := by
            intro l t
            cases l with
            | nil => rw [wrtL_nil]; exact .inr ⟨93, t, rfl, .inr (.inl rfl)⟩
            | cons v l => rw [wrtL_cons]; exact .inr ⟨44, wrt v ++ wrtL l false ++ 93 :: t, by simp, .inl rfl⟩
          obtain ⟨rfl, h2⟩ := hi u (by simp) v _ _ (hok u (by simp)) (hok' v (by simp)) (hd l t) (hd l' t') he2
          obtain ⟨rfl, h3⟩ := ih l' false t t' (fun u hu => hi u (by simp [hu])) (fun u hu => hok u (by simp [hu])) (fun u hu => hok' u (by simp [hu])) h2
          exact ⟨rfl, h3⟩
    have hM : ∀ (l l' : List (List UInt8 × JV)) (b : Bool) (t t' : List UInt8), (∀ u ∈ l, ∀ (v : JV) (t t' : List UInt8), okB u.2 = true → okB v = true → Dl t → Dl t' → wrt u.2 ++ t = wrt v ++ t' → u.2 = v ∧ t = t') → (∀ u ∈ l, okB u.2 = true ∧ Utf.bad u.1 = u.1.length) → (∀ u ∈ l', okB u.2 = true ∧ Utf.bad u.1 = u.1.length) →
        wrtM l b ++ 125 :: t = wrtM l' b ++ 125 :: t' → l = l' ∧ t = t' := by
      intro l
      induction l with
      | nil =>
        intro l' b t t' _ _ hok' he
        cases l' with
        | nil => rw [wrtM_nil, List.nil_append, List.nil_append, List.cons.injEq] at he; exact ⟨rfl, he.2⟩
        | cons v l' =>
          exfalso
          rw [wrtM_nil, wrtM_cons, q_right (hok' v (by simp)).2] at he
          unfold Chr.quote at he
          cases b with
          | true => simp at he
          | false => simp at he
      | cons u l ih =>
        intro l' b t t' hi hok hok' he
        cases l' with
        | nil =>
          exfalso
          rw [wrtM_nil, wrtM_cons, q_right (hok u (by simp)).2] at he
          unfold Chr.quote at he
          cases b with
          | true => simp at he
          | false => simp at he
        | cons v l' =>
          rw [wrtM_cons, wrtM_cons, q_right (hok u (by simp)).2, q_right (hok' v (by simp)).2] at he
          have he2 : Chr.quote u.1 ++ (58 :: (wrt u.2 ++ (wrtM l false ++ 125 :: t))) = Chr.quote v.1 ++ (58 :: (wrt v.2 ++ (wrtM l' false ++ 125 :: t'))) := by
            cases b with
            | true => simpa using he
            | false => simpa using he
          have hd : ∀ (l : List (List UInt8 × JV)) (t : List UInt8), Dl (wrtM l false ++ 125 :: t) := by
            intro l t
            cases l with
            | nil => rw [wrtM_nil]; exact .inr ⟨125, t, rfl, .inr (.inr rfl)⟩
            | cons v l => rw [wrtM_cons]; exact .inr ⟨44, (q v.1 ++ 58 :: wrt v.2) ++ wrtM l false ++ 125 :: t, by simp, .inl rfl⟩
          obtain ⟨h4, h5⟩ := quote_inj (hok u (by simp)).2 (hok' v (by simp)).2 he2
          rw [List.cons.injEq] at h5
          obtain ⟨h1, h2⟩ := hi u (by simp) v.2 _ _ (hok u (by simp)).1 (hok' v (by simp)).1 (hd l t) (hd l' t') h5.2
          obtain ⟨rfl, h3⟩ := ih l' false t t' (fun u hu => hi u (by simp [hu])) (fun u hu => hok u (by simp [hu])) (fun u hu => hok' u (by simp [hu])) h2
          exact ⟨by rw [Prod.ext h4 h1], h3⟩
    have hokl := ((ok_iff _).1 hu).2.2.1
    have hokm := ((ok_iff _).1 hu).2.2.2
    have hnm := ((ok_iff _).1 hu).2.1
    have hokl' := ((ok_iff _).1 hv).2.2.1
    have hokm' := ((ok_iff _).1 hv).2.2.2
    have hnm' := ((ok_iff _).1 hv).2.1
    have names : ∀ m : List (List UInt8 × JV), namesB m = true → ∀ x ∈ m, Utf.bad x.1 = x.1.length := by
      intro m h x hx
      simp only [namesB, Bool.and_eq_true, List.all_eq_true, beq_iff_eq] at h
      exact h.1 x hx
    rcases right_form hur with e | ⟨x, hx, e⟩ | ⟨x, h1, h2, e⟩ | ⟨x, hs, e⟩ | ⟨x, e⟩ | ⟨x, e⟩ <;>
    rcases right_form hvr with rfl | ⟨y, hy, rfl⟩ | ⟨y, h1', h2', rfl⟩ | ⟨y, hs', rfl⟩ | ⟨y, rfl⟩ | ⟨y, rfl⟩ <;>
    (try (exfalso; rw [e] at hkd; simp [kd, nullV, boolV, intV, textV, listV, mapV] at hkd; done)) <;> rw [e] at he hnm hokl hokm ⊢
    · exact ⟨rfl, List.append_cancel_left he⟩
    · rcases hx with rfl | rfl <;> rcases hy with rfl | rfl
      · exact ⟨rfl, List.append_cancel_left he⟩
      · exfalso; unfold boolV at he; rw [wrt_mk, wrt_mk] at he; simp [tTrue, tFalse] at he
      · exfalso; unfold boolV at he; rw [wrt_mk, wrt_mk] at he; simp [tTrue, tFalse] at he
      · exact ⟨rfl, List.append_cancel_left he⟩
    · unfold intV at he; rw [wrt_mk, wrt_mk] at he
      simp only [if_neg (show ¬ (3 : Int) = 1 by decide), if_neg (show ¬ (3 : Int) = 2 by decide), if_true] at he
      obtain ⟨rfl, h⟩ := put_inj ht ht' h1 h2 h1' h2' he
      exact ⟨rfl, h⟩
    · unfold textV at he; rw [wrt_mk, wrt_mk, q_right hs, q_right hs'] at he
      simp only [if_neg (show ¬ (4 : Int) = 1 by decide), if_neg (show ¬ (4 : Int) = 2 by decide), if_neg (show ¬ (4 : Int) = 3 by decide), if_true] at he
      obtain ⟨rfl, h⟩ := quote_inj hs hs' he
      exact ⟨rfl, h⟩
    · unfold listV at e
      cases e
      unfold listV at he; rw [wrt_mk, wrt_mk] at he
      simp only [if_neg (show ¬ (5 : Int) = 1 by decide), if_neg (show ¬ (5 : Int) = 2 by decide), if_neg (show ¬ (5 : Int) = 3 by decide), if_neg (show ¬ (5 : Int) = 4 by decide), if_true, List.cons_append, List.append_assoc, List.cons.injEq, true_and, List.singleton_append, List.nil_append] at he
      obtain ⟨rfl, h⟩ := hL _ y true t t' ihl hokl hokl' he
      exact ⟨rfl, h⟩
    · unfold mapV at e
      cases e
      unfold mapV at he; rw [wrt_mk, wrt_mk] at he
      simp only [if_neg (show ¬ (6 : Int) = 1 by decide), if_neg (show ¬ (6 : Int) = 2 by decide), if_neg (show ¬ (6 : Int) = 3 by decide), if_neg (show ¬ (6 : Int) = 4 by decide), if_neg (show ¬ (6 : Int) = 5 by decide), List.cons_append, List.append_assoc, List.cons.injEq, true_and, List.singleton_append, List.nil_append] at he
      obtain ⟨rfl, h⟩ := hM _ y true t t' ihm (fun u hu => ⟨hokm u hu, names _ (hnm rfl) u hu⟩) (fun u hu => ⟨hokm' u hu, names _ (hnm' rfl) u hu⟩) he
      exact ⟨rfl, h⟩
end Go.Proofs.Ytgncdjcbphobmaa.JV
