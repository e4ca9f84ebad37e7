/- Tokens that are written with white space between them are scanned as they were. -/
import Derived.Test.YtgncdjcbphobmaaScanS
import Derived.Test.YtgncdjcbphobmaaNumsR
namespace Go.Proofs.Ytgncdjcbphobmaa.Scn
set_option linter.unusedVariables false
set_option linter.unusedSimpArgs false

/-- A token's text. -/
def wr (t : Tok) : List UInt8 := if t.kind = 3 then Nm.put t.n else if t.kind = 4 then (Chr.quoteO t.s).1 else t.s
inductive Good : Tok → Prop
  | mark (c : UInt8) (a : Nat) : Scn.mark c = true → Good ⟨1, 0, [c], a⟩
  | word (w : List UInt8) (a : Nat) : w = wTrue ∨ w = wFalse ∨ w = wNull → Good ⟨2, 0, w, a⟩
  | num (n : Int) (a : Nat) : -9007199254740991 ≤ n → n ≤ 9007199254740991 → Good ⟨3, n, [], a⟩
  | text (s : List UInt8) (a : Nat) : Utf.bad s = s.length → Good ⟨4, 0, s, a⟩
theorem wordLen_take {d : List UInt8} (h : wordLen d ≠ 0) : d.take (wordLen d) = wTrue ∨ d.take (wordLen d) = wFalse ∨ d.take (wordLen d) = wNull := by
  unfold wordLen at *
  by_cases h1 : pre wTrue d = true
  · rw [if_pos h1]; left
    simp only [pre, Bool.and_eq_true, beq_iff_eq] at h1; exact h1.1
  rw [if_neg h1] at h ⊢
  by_cases h2 : pre wFalse d = true
  · rw [if_pos h2]; right; left
    simp only [pre, Bool.and_eq_true, beq_iff_eq] at h2; exact h2.1
  rw [if_neg h2] at h ⊢
  by_cases h3 : pre wNull d = true
  · rw [if_pos h3]; right; right
    simp only [pre, Bool.and_eq_true, beq_iff_eq] at h3; exact h3.1
  rw [if_neg h3] at h
  exact absurd rfl h
theorem tokAt_good {l : List UInt8} {k n : Nat} {t : Tok} (h : tokAt l k = .tok t n) : Good t := by
  unfold tokAt at h
  simp only at h
  split at h
  · split at h
    · rename_i h0
      simp only [TR.tok.injEq] at h
      rw [← h.1]
      exact .text _ _ (Chr.read_right h0).1
    · cases h
  split at h
  · split at h
    · simp only [TR.tok.injEq] at h
      rw [← h.1]
      have := Nm.readNum_bounds l k
      exact .num _ _ this.1 this.2
    · cases h
  split at h
  · rename_i hm
    simp only [TR.tok.injEq] at h
    rw [← h.1]
    exact .mark _ _ hm
  split at h
  · cases h
  · rename_i hw
    simp only [TR.tok.injEq] at h
    rw [← h.1]
    exact .word _ _ (wordLen_take hw)
theorem tk_good : ∀ (n : Nat) (l : List UInt8) (k : Nat), l.length ≤ k + n → ∀ t ∈ (tk l k).1, Good t
  | n, l, k, hn, t, ht => by
    by_cases h1 : l.length ≤ k
    · rw [tk_end h1] at ht; simp at ht
    by_cases h2 : white (l.getD k 0) = true
    · rw [tk_white (by omega) h2] at ht
      cases n with
      | zero => omega
      | succ n => exact tk_good n l (k + 1) (by omega) t ht
    have h2' : white (l.getD k 0) = false := by simpa using h2
    rcases he : tokAt l k with ⟨e, q⟩ | ⟨u, m⟩
    · rw [tk_err (by omega) h2' he] at ht; simp at ht
    · have hm := tokAt_next (by omega) he
      rw [tk_tok (by omega) h2' he] at ht
      cases n with
      | zero => omega
      | succ n =>
        split at ht
        · rcases List.mem_cons.1 ht with rfl | ht
          · exact tokAt_good he
          · exact tk_good n l m (by omega) t ht
        · simp at ht

theorem mark_cases {c : UInt8} (h : mark c = true) : c = 123 ∨ c = 125 ∨ c = 91 ∨ c = 93 ∨ c = 58 ∨ c = 44 := by
  simp [mark] at h
  rcases h with ((((h | h) | h) | h) | h) | h <;> simp [h]
theorem put_head (n : Int) : ∃ c r, Nm.put n = c :: r ∧ (c = 45 ∨ (48 ≤ c.toNat ∧ c.toNat ≤ 57)) := by
  unfold Nm.put
  split
  · exact ⟨45, _, rfl, .inl rfl⟩
  · have h1 := Nm.putNat_ne n.natAbs
    have h2 := Nm.putNat_dig n.natAbs
    cases hp : Nm.putNat n.natAbs with
    | nil => exact absurd hp h1
    | cons c r =>
      rw [hp] at h2
      exact ⟨c, r, rfl, .inr (Nm.isDig_iff.1 (h2 c (by simp)))⟩
/-- A token that is written is scanned as it was. -/
theorem back_one {t : Tok} (h : Good t) {g : UInt8} (hg : white g = true) (u : List UInt8) :
    white ((wr t ++ g :: u).getD 0 0) = false ∧ tokAt (wr t ++ g :: u) 0 = .tok { t with at_ := 0 } (wr t).length := by
  cases h with
  | mark c a hm =>
    have e : wr ⟨1, 0, [c], a⟩ = [c] := rfl
    rw [e]
    have e0 : ([c] ++ g :: u).getD 0 0 = c := rfl
    rcases mark_cases hm with rfl | rfl | rfl | rfl | rfl | rfl <;> exact ⟨rfl, rfl⟩
  | word w a hw =>
    have e : wr ⟨2, 0, w, a⟩ = w := rfl
    rw [e]
    have hl : ∀ d : List UInt8, wordLen (d ++ g :: u) = wordLen d := fun d => wordLen_local hg
    unfold tokAt
    simp only [List.drop_zero]
    rw [hl]
    rcases hw with rfl | rfl | rfl <;> exact ⟨rfl, rfl⟩
  | num n a h1 h2 =>
    have e : wr ⟨3, n, [], a⟩ = Nm.put n := rfl
    rw [e]
    obtain ⟨c, r, hp, hc⟩ := put_head n
    obtain ⟨g1, g2, g3, g4, _⟩ := white_num hg
    have he : Nm.ends (g :: u) = true := by
      simp only [Nm.ends]
      simp [g1, g2, g3, g4]
    have hr := Nm.readNum_put n (g :: u) he
    rw [if_pos ⟨h1, h2⟩] at hr
    have e0 : (Nm.put n ++ g :: u).getD 0 0 = c := by rw [hp]; rfl
    have hwc : white c = false := by
      rcases hc with rfl | hc
      · rfl
      · simp only [white, Bool.or_eq_false_iff, beq_eq_false_iff_ne]
        refine ⟨⟨⟨?_, ?_⟩, ?_⟩, ?_⟩ <;> (intro e; subst e; simp at hc)
    have h34 : c ≠ 34 := by
      rcases hc with rfl | hc
      · decide
      · intro e; subst e; simp at hc
    refine ⟨by rw [e0]; exact hwc, ?_⟩
    unfold tokAt
    simp only
    rw [e0, if_neg h34, if_pos hc]
    have hr' : Nm.readNum (Nm.put n ++ g :: u) ((0 : Nat) : Int) = (n, ((Nm.put n).length : Int), 0) := hr
    rw [hr']
    simp
  | text s a hs =>
    have e : wr ⟨4, 0, s, a⟩ = Chr.quote s := by unfold wr Chr.quoteO; simp [hs]
    rw [e]
    have hr := Chr.read_back (h := []) (s := s) (t := g :: u) hs
    simp only [List.nil_append, List.length_nil] at hr
    have e0 : (Chr.quote s ++ g :: u).getD 0 0 = 34 := rfl
    refine ⟨by rw [e0]; rfl, ?_⟩
    unfold tokAt
    simp only
    rw [e0, if_pos rfl, hr]
    simp
def core (t : Tok) : Nat × Int × List UInt8 := (t.kind, t.n, t.s)
theorem core_sh (m : Nat) (ts : List Tok) : (ts.map (shTok m)).map core = ts.map core := by
  rw [List.map_map]; rfl
theorem white_skip {gap : List UInt8} (hg : ∀ c ∈ gap, white c = true) (p u : List UInt8) : ∀ (j : Nat), j ≤ gap.length → tk (p ++ gap ++ u) (p.length + j) = tk (p ++ gap ++ u) (p.length + gap.length)
  | j, hj => by
    by_cases h : j = gap.length
    · subst h; rfl
    · have hlt : j < gap.length := by omega
      have e : (p ++ gap ++ u).getD (p.length + j) 0 = gap[j] := by
        rw [List.append_assoc, getD_sh, getD_app hlt, List.getD_eq_getElem?_getD, List.getElem?_eq_getElem hlt]; rfl
      rw [tk_white (by simp; omega) (by rw [e]; exact hg _ (List.getElem_mem _)), show p.length + j + 1 = p.length + (j + 1) by omega]
      exact white_skip hg p u (j + 1) (by omega)
termination_by j => gap.length - j
/-- All of them. -/
theorem back_all {gap : List UInt8} (hg : ∀ c ∈ gap, white c = true) (hne : gap ≠ []) : ∀ (ts : List Tok), (∀ t ∈ ts, Good t) →
    ∃ us, tk (ts.flatMap fun t => wr t ++ gap) 0 = (us, 0, 0) ∧ us.map core = ts.map core
  | [], _ => ⟨[], by simp [tk_end], rfl⟩
  | t :: ts, h => by
    obtain ⟨us, h1, h2⟩ := back_all hg hne ts (fun u hu => h u (by simp [hu]))
    obtain ⟨g, gr, rfl⟩ : ∃ g gr, gap = g :: gr := by
      cases gap with
      | nil => exact absurd rfl hne
      | cons g gr => exact ⟨g, gr, rfl⟩
    obtain ⟨W, hW⟩ : ∃ W, (ts.flatMap fun t => wr t ++ g :: gr) = W := ⟨_, rfl⟩
    rw [hW] at h1
    have hb := back_one (h t (by simp)) (hg g (by simp)) (gr ++ W)
    have e : ((t :: ts).flatMap fun t => wr t ++ g :: gr) = wr t ++ (g :: gr) ++ W := by rw [List.flatMap_cons, hW]
    have e' : wr t ++ g :: (gr ++ W) = wr t ++ (g :: gr) ++ W := by simp
    rw [e'] at hb
    have hs := white_skip hg (wr t) W 0 (by omega)
    rw [Nat.add_zero] at hs
    have hsh := tk_sh (p := wr t ++ (g :: gr)) W.length W 0 (by omega)
    rw [h1, Nat.add_zero, List.length_append] at hsh
    simp only [if_true] at hsh
    refine ⟨{ t with at_ := 0 } :: us.map (shTok ((wr t).length + (g :: gr).length)), ?_, ?_⟩
    · rw [e, tk_tok (by simp; omega) hb.1 hb.2, hs, hsh]
      rfl
    · rw [List.map_cons, core_sh, h2, List.map_cons]; rfl

end Go.Proofs.Ytgncdjcbphobmaa.Scn
