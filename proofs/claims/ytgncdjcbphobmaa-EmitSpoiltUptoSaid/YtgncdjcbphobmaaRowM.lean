/- Slices of members that a call made itself. -/
import Derived.Test.YtgncdjcbphobmaaEmitY
namespace Go.Proofs.Ytgncdjcbphobmaa
set_option linter.unusedVariables false
set_option linter.unusedSimpArgs false
open Go.RowKit

/-- Members as cells. -/
def mcs (xs : List (List UInt8 × Value)) : List Value := xs.flatMap fun p => .string ⟨p.1.toArray⟩ :: p.2.cells.toList
/-- A value of five cells. -/
def Five (v : Value) : Prop := ∃ a b c d e, v = .agg #[a, b, c, d, e] ∧ a.oneCell' = true ∧ b.oneCell' = true ∧ c.oneCell' = true ∧ d.oneCell' = true ∧ e.oneCell' = true
theorem five_vA (u : JV) (B : Option Addr) (d : Nat) (B' : Option Addr) (d' : Nat) : Five (vA u B d B' d') := ⟨_, _, _, _, _, rfl, rfl, rfl, rfl, rfl, rfl⟩
theorem five_cells {v : Value} (h : Five v) : v.cells.toList.length = 5 := by obtain ⟨a, b, c, d, e, rfl, _⟩ := h; rfl
theorem mcs_len {xs : List (List UInt8 × Value)} (h : ∀ p ∈ xs, Five p.2) : (mcs xs).length = xs.length * 6 := by
  induction xs with
  | nil => rfl
  | cons p xs ih =>
    have := five_cells (h p (by simp))
    have ih := ih (fun q hq => h q (by simp [hq]))
    simp only [mcs, List.flatMap_cons, List.length_append, List.length_cons] at ih ⊢
    rw [ih, this]; omega
theorem mcs_at {xs : List (List UInt8 × Value)} (h : ∀ p ∈ xs, Five p.2) {i : Nat} (hi : i < xs.length) {j : Nat} (hj : j < 6) : (mcs xs)[i * 6 + j]? = (Value.string ⟨xs[i].1.toArray⟩ :: xs[i].2.cells.toList)[j]? := by
  induction xs generalizing i with
  | nil => simp at hi
  | cons p xs ih =>
    have h5 := five_cells (h p (by simp))
    have e : mcs (p :: xs) = (Value.string ⟨p.1.toArray⟩ :: p.2.cells.toList) ++ mcs xs := by simp [mcs]
    rw [e]
    cases i with
    | zero => rw [Nat.zero_mul, Nat.zero_add, List.getElem?_append_left (by simp only [List.length_cons]; omega)]; rfl
    | succ i =>
      rw [List.getElem?_append_right (by simp only [List.length_cons]; omega), List.length_cons, h5, show (i + 1) * 6 + j - (5 + 1) = i * 6 + j by omega]
      exact ih (fun q hq => h q (by simp [hq])) (by simpa using hi)
theorem mcs_app (a b : List (List UInt8 × Value)) : mcs (a ++ b) = mcs a ++ mcs b := by simp [mcs]
theorem mcs_one {xs : List (List UInt8 × Value)} (h : ∀ p ∈ xs, Five p.2) : ∀ u ∈ mcs xs, u.oneCell' = true := by
  intro u hu
  simp only [mcs, List.mem_flatMap, List.mem_cons] at hu
  obtain ⟨p, hp, rfl | hu⟩ := hu
  · rfl
  · obtain ⟨a, b, c, d, e, he, h1, h2, h3, h4, h5⟩ := h p hp
    rw [he] at hu
    have : u = a ∨ u = b ∨ u = c ∨ u = d ∨ u = e := by simpa [Value.cells] using hu
    rcases this with rfl | rfl | rfl | rfl | rfl <;> assumption
theorem mb_info : (Try.prog.info? 30).map (fun i => (i.zero, i.size, i.bytes)) = some (some (.agg #[.string ⟨#[]⟩, .int .i64 0, .int .i64 0, .string ⟨#[]⟩, .slice none 0 0, .slice none 0 0]), 6, 96) := by kernel_rfl
/-- The slice v owns the members xs. -/
def Mbs (w : World) (base : Nat) (v : Value) (xs : List (List UInt8 × Value)) : Prop := w.ownsRow base 30 6 v xs.length (mcs xs) ∧ ∀ p ∈ xs, Five p.2
theorem Mbs.none_ (w : World) (base : Nat) : Mbs w base (.slice none 0 0) [] := ⟨World.ownsRow_nil w base _ 6, by simp⟩
theorem Mbs.keep {w w' : World} {base : Nat} {v : Value} {xs : List (List UInt8 × Value)} (h : Mbs w base v xs) (hf : Fr w w') : Mbs w' base v xs := by
  refine ⟨?_, h.2⟩
  refine ⟨h.1.1, ?_⟩
  rcases h.1.2 with hn | ⟨g, cap, cur, rfl, hb, hg, rest⟩
  · exact .inl hn
  · exact .inr ⟨g, cap, cur, rfl, hb, (Below.block hf g (Array.getElem?_eq_some_iff.1 hg).1).trans hg, rest⟩
theorem Mbs.form {w : World} {base : Nat} {v : Value} {xs : List (List UInt8 × Value)} (h : Mbs w base v xs) : (v = .slice none 0 0 ∧ xs = []) ∨ ∃ g cap, v = .slice (some ⟨g, 0, none⟩) xs.length cap ∧ base ≤ g ∧ g < w.heap.size ∧ ∀ j u, (mcs xs)[j]? = some u → w.cell? ⟨g, j, none⟩ = some u := by
  rcases h.1.2 with ⟨hv, hn⟩ | ⟨g, cap, cur, rfl, hb, hg, hc, hm, hs, ht⟩
  · exact .inl ⟨hv, List.eq_nil_of_length_eq_zero hn⟩
  · refine .inr ⟨g, cap, rfl, hb, (Array.getElem?_eq_some_iff.1 hg).1, fun j u hu => ?_⟩
    rw [cell_of_row w g j cur _ (0, 0) hg]
    rw [← ht, List.getElem?_take] at hu
    split at hu
    · simpa using hu
    · cases hu
/-- What is no row of members stays as it was. -/
def KtM (w w' : World) : Prop := w.heap.size ≤ w'.heap.size ∧ ∀ (Y : Nat) (c : Array Value) (t : TypeId) (f : Nat × Nat), w.heap[Y]? = some (.cells c t f) → t ≠ 30 → w'.heap[Y]? = some (.cells c t f)
theorem KtM.refl (w : World) : KtM w w := ⟨Nat.le_refl _, fun _ _ _ _ h _ => h⟩
theorem KtM.trans {a b c : World} (h : KtM a b) (k : KtM b c) : KtM a c := ⟨Nat.le_trans h.1 k.1, fun Y cc t f hY ht => k.2 Y cc t f (h.2 Y cc t f hY ht) ht⟩
theorem KtM.of {w w' : World} (h : Fr w w') : KtM w w' := ⟨h.size, fun Y c t f hY _ => (Below.block h Y (Array.getElem?_eq_some_iff.1 hY).1).trans hY⟩
theorem KtM.grown {w w' : World} {base : Nat} {v : Value} {xs : List (List UInt8 × Value)} (h : Mbs w base v xs) (hg : w.grownBy w' v.ownBlock) : KtM w w' := by
  refine ⟨hg.size, fun Y c t f hY ht => (hg.block Y (Array.getElem?_eq_some_iff.1 hY).1 (fun e => ?_)).trans hY⟩
  rcases h.1.2 with ⟨rfl, _⟩ | ⟨g, cap, cur, rfl, hb, hgo, rest⟩
  · cases e
  · obtain rfl : Y = g := Option.some.inj e
    rw [hgo] at hY
    injection hY with hY; injection hY with _ h2 _
    exact ht h2.symm
theorem Mbs.is_slice {w : World} {base : Nat} {v : Value} {xs : List (List UInt8 × Value)} (h : Mbs w base v xs) : ∃ a n c, v = .slice a n c := by
  rcases h.form with ⟨rfl, _⟩ | ⟨g, cap, rfl, _⟩
  · exact ⟨_, _, _, rfl⟩
  · exact ⟨_, _, _, rfl⟩
theorem Mbs.first {w w' : World} (h : w.grownBy w' (Value.slice none 0 0).ownBlock) : Fr w w' := ⟨h.os, h.tape, h.output, h.size, fun k hk => h.block k hk (by simp [Value.ownBlock])⟩
theorem run_mb {w : World} (ty : TypeId) (base : Nat) (hb : base ≤ w.heap.size) (v : Value) (xs : List (List UInt8 × Value)) (hown : Mbs w base v xs) (b o c : Nat) (news : List (List UInt8 × Value)) (h5 : ∀ p ∈ news, Five p.2)
    (hcells : ∀ j u, (mcs news)[j]? = some u → w.cell? ⟨b, o + j, none⟩ = some u) (h63 : (xs.length + news.length) * 96 ≤ 140737488355328) :
    ∃ v' w', (Builtin.append_ #[23, 23] ty #[v, .slice (some ⟨b, o, none⟩) news.length c]).run Try.prog w = .ok v' w' ∧ Mbs w' base v' (xs ++ news) ∧ w.grownBy w' v.ownBlock := by
  obtain ⟨i, hi, hz, hsz, hby⟩ := info_parts mb_info
  obtain ⟨v', w', hr, h3, h4, _, _⟩ := run_append_own_at (P := Try.prog) w base 23 ty 30 i _ 6 96 Try.underlying23 hi hz hsz hby rfl (by omega) v _ (mcs xs) hown.1 ⟨b, o, none⟩ news.length c (mcs news) (mcs_len h5) (by
    intro j u hu
    rw [show (Addr.mk b o none).add j = ⟨b, o + j, none⟩ by
      by_cases h0 : j = 0
      · subst h0; simp [Addr.add]
      · simp [Addr.add, h0]]
    exact hcells j u hu) (mcs_one h5) (by unfold maxLen; omega) h63 hb
  refine ⟨v', w', hr, ⟨?_, fun p hp => ?_⟩, h4⟩
  · rw [mcs_app, List.length_append]; exact h3
  · rcases List.mem_append.1 hp with hp | hp
    · exact hown.2 p hp
    · exact h5 p hp
theorem wpl_mb {ops : Array Oper} {rest : List Oper} {o : Oper} {a : Act} {w : World} {Q : Exit → Act → World → Prop}
    (hgd : o.guard = none) (s x : Operand) (ho : o.op = .call { callee := .builtin .append, args := #[s, x], argTypes := #[23, 23] })
    (base : Nat) (hb : base ≤ w.heap.size) (v : Value) (xs : List (List UInt8 × Value)) (hs : a.eval s = v) (hown : Mbs w base v xs) (b of c n : Nat) (news : List (List UInt8 × Value)) (hx : a.eval x = .slice (some ⟨b, of, none⟩) n c) (hn : n = news.length) (h5 : ∀ p ∈ news, Five p.2)
    (hcells : ∀ j u, (mcs news)[j]? = some u → w.cell? ⟨b, of + j, none⟩ = some u) (h63 : (xs.length + news.length) * 96 ≤ 140737488355328)
    (h : ∀ v' w', Mbs w' base v' (xs ++ news) → w.grownBy w' v.ownBlock → KtM w w' → wpList Try.prog ops Q rest (a.put o.dst v') w') :
    wpList Try.prog ops Q (o :: rest) a w := by
  subst hn
  refine wpList_plain hgd fun K hK => ?_
  obtain ⟨v', w', hr, h3, h4⟩ := run_mb (w := w) o.type base hb v xs hown b of c news h5 hcells h63
  unfold Oper.wp execOp
  simp only [ho, resolve, invoke, builtin, Sem.run_bind, Sem.run_pure, Result.andThen_ok, List.map_toArray, List.map_cons, List.map_nil, hs, hx, hr]
  exact hK _ _ (h v' w' h3 h4 (KtM.grown hown h4))
theorem step_mb {ops : Array Oper} {o : Oper} {a : Act} {w : World} {K : Act → World → Prop} {Q : Exit → Act → World → Prop} {E : Prop}
    (hgd : o.guard = none) (s x : Operand) (ho : o.op = .call { callee := .builtin .append, args := #[s, x], argTypes := #[23, 23] })
    (base : Nat) (hb : base ≤ w.heap.size) (v : Value) (xs : List (List UInt8 × Value)) (hs : a.eval s = v) (hown : Mbs w base v xs) (b of c n : Nat) (news : List (List UInt8 × Value)) (hx : a.eval x = .slice (some ⟨b, of, none⟩) n c) (hn : n = news.length) (h5 : ∀ p ∈ news, Five p.2)
    (hcells : ∀ j u, (mcs news)[j]? = some u → w.cell? ⟨b, of + j, none⟩ = some u) (h63 : (xs.length + news.length) * 96 ≤ 140737488355328)
    (h : ∀ v' w', Mbs w' base v' (xs ++ news) → w.grownBy w' v.ownBlock → KtM w w' → K (a.put o.dst v') w') :
    if Region.wanted o (yielded ops a.tmps) = true then Oper.wp Try.prog o a w K Q else E := by
  subst hn
  have hw : Region.wanted o (yielded ops a.tmps) = true := by simp [Region.wanted, hgd]
  rw [if_pos hw]
  obtain ⟨v', w', hr, h3, h4⟩ := run_mb (w := w) o.type base hb v xs hown b of c news h5 hcells h63
  unfold Oper.wp execOp
  simp only [ho, resolve, invoke, builtin, Sem.run_bind, Sem.run_pure, Result.andThen_ok, List.map_toArray, List.map_cons, List.map_nil, hs, hx, hr]
  exact h v' w' h3 h4 (KtM.grown hown h4)
theorem pick_any {α : Type} {P : Nat → α → Prop} : ∀ n, (∀ i, i < n → ∃ u, P i u) → ∃ l : List α, l.length = n ∧ ∀ i (h : i < l.length), P i l[i]
  | 0, _ => ⟨[], rfl, fun i h => absurd h (by simp)⟩
  | n + 1, h => by
    obtain ⟨l, h1, h2⟩ := pick_any n (fun i hi => h i (by omega))
    obtain ⟨u, hu⟩ := h n (by omega)
    refine ⟨l ++ [u], by simp [h1], fun i hi => ?_⟩
    by_cases hil : i < l.length
    · rw [List.getElem_append_left hil]; exact h2 i hil
    · have : i = l.length := by simp at hi; omega
      subst this
      simp only [List.getElem_concat_length]
      rw [h1]; exact hu
/-- Members that lie somewhere, as a row. -/
theorem MsC.row {w : World} {S : Nat → Prop} {b o : Nat} {m : List (List UInt8 × JV)} (h : MsC w S (some ⟨b, o, none⟩) m) :
    ∃ xs : List (List UInt8 × Value), xs.length = m.length ∧ (∀ p ∈ xs, Five p.2) ∧ (∀ i (h1 : i < xs.length) (h2 : i < m.length), xs[i].1 = m[i].1 ∧ m[i].1.length ≤ 140737488355328 ∧ InV w S m[i].2 xs[i].2) ∧ ∀ j u, (mcs xs)[j]? = some u → w.cell? ⟨b, o + j, none⟩ = some u := by
  obtain ⟨xs, h1, h2⟩ := pick_any (P := fun i (x : List UInt8 × Value) => ∃ h : i < m.length, x.1 = m[i].1 ∧ m[i].1.length ≤ 140737488355328 ∧ InV w S m[i].2 x.2 ∧ Five x.2 ∧ ∀ j, j < 6 → w.cell? ⟨b, o + i * 6 + j, none⟩ = (Value.string ⟨m[i].1.toArray⟩ :: x.2.cells.toList)[j]?) m.length (fun i hi => by
    obtain ⟨b2, o2, B, d, B', d', he, hS, hn, c0, ⟨c1, c2, c3, c4, c5⟩, hv⟩ := h i hi
    simp only [Option.some.injEq, Addr.mk.injEq, and_true] at he
    obtain ⟨rfl, rfl⟩ := he
    refine ⟨(m[i].1, vA m[i].2 B d B' d'), hi, rfl, hn, hv, five_vA _ _ _ _ _, fun j hj => ?_⟩
    rcases (by omega : j = 0 ∨ j = 1 ∨ j = 2 ∨ j = 3 ∨ j = 4 ∨ j = 5) with rfl | rfl | rfl | rfl | rfl | rfl
    · exact c0
    · exact c1
    · exact c2
    · exact c3
    · exact c4
    · exact c5)
  have h5 : ∀ p ∈ xs, Five p.2 := by
    intro p hp
    obtain ⟨i, hi, rfl⟩ := List.getElem_of_mem hp
    obtain ⟨_, _, _, _, h, _⟩ := h2 i hi
    exact h
  refine ⟨xs, h1, h5, fun i ha hb => ?_, fun j u hu => ?_⟩
  · obtain ⟨_, e1, e2, e3, _⟩ := h2 i ha
    exact ⟨e1, e2, e3⟩
  · have hj : j < xs.length * 6 := by rw [← mcs_len h5]; exact (List.getElem?_eq_some_iff.1 hu).1
    have hi : j / 6 < xs.length := by omega
    have ej : j = j / 6 * 6 + j % 6 := by omega
    obtain ⟨_, e1, _, _, _, e5⟩ := h2 (j / 6) hi
    have := e5 (j % 6) (by omega)
    rw [ej, mcs_at h5 hi (by omega)] at hu
    rw [show o + j = o + j / 6 * 6 + j % 6 by omega, this, ← e1]
    exact hu
/-- A map of members that lie in a row. -/
theorem Mbs.inV {w : World} {base : Nat} {v : Value} {xs : List (List UInt8 × Value)} {m : List (List UInt8 × JV)} {S : Nat → Prop} (h : Mbs w base v xs) (hl : xs.length = m.length) (h63 : m.length ≤ 140737488355328) (hS : ∀ g, base ≤ g → g < w.heap.size → S g)
    (he : ∀ i (h1 : i < xs.length) (h2 : i < m.length), xs[i].1 = m[i].1 ∧ m[i].1.length ≤ 140737488355328 ∧ InV w S m[i].2 xs[i].2) :
    InV w S (JV.mapV m) (.agg #[.int .i64 6, .int .i64 0, .string ⟨#[]⟩, .slice none 0 0, v]) := by
  rcases h.form with ⟨rfl, rfl⟩ | ⟨g, cap, rfl, hb, hg, hc⟩
  · have : m = [] := List.eq_nil_of_length_eq_zero (by rw [← hl]; rfl)
    subst this
    exact InV.leaf w S 6 0 [] none none 0 0 (by decide) (by decide) (by decide) (by decide) (by simp)
  · rw [hl]
    refine InV.ofMap (hS g hb hg) h63 (fun i hi => ?_)
    have hi2 : i < xs.length := by omega
    obtain ⟨e1, e2, e3⟩ := he i hi2 hi
    obtain ⟨a, b, c, d, e, h5, _⟩ := h.2 _ (List.getElem_mem hi2)
    have hat : ∀ j u, j < 6 → (Value.string ⟨xs[i].1.toArray⟩ :: xs[i].2.cells.toList)[j]? = some u → w.cell? ⟨g, 0 + i * 6 + j, none⟩ = some u := by
      intro j u hj hu
      rw [Nat.zero_add]
      exact hc _ _ (by rw [mcs_at h.2 hi2 hj]; exact hu)
    rw [h5] at hat
    refine ⟨e2, a, b, c, d, e, ?_, hat 1 a (by omega) rfl, hat 2 b (by omega) rfl, hat 3 c (by omega) rfl, hat 4 d (by omega) rfl, hat 5 e (by omega) rfl, by rw [← h5]; exact e3⟩
    have := hat 0 _ (by omega) rfl
    rw [e1] at this
    exact this
end Go.Proofs.Ytgncdjcbphobmaa
