/- Slices of tokens that a call made itself. -/
import Derived.Test.YtmalfecpcdopfaaDoorSl
import Derived.Test.YtmalfecpcdopfaaDoorScanP
namespace Go.Proofs.YtmalfecpcdopfaaDoor
set_option linter.unusedVariables false
set_option linter.unusedSimpArgs false
open Go.RowKit

theorem owns_keep {w w' : World} {base size n : Nat} {e : TypeId} {v : Value} {xs : List Value} (h : w.ownsRow base e size v n xs) (hf : Fr w w') : w'.ownsRow base e size v n xs := by
  refine ⟨h.1, ?_⟩
  rcases h.2 with hn | ⟨g, cap, cur, rfl, hb, hg, rest⟩
  · exact .inl hn
  · exact .inr ⟨g, cap, cur, rfl, hb, (Below.block hf g (Array.getElem?_eq_some_iff.1 hg).1).trans hg, rest⟩
theorem owns_form {w : World} {base size n : Nat} {e : TypeId} {v : Value} {xs : List Value} (h : w.ownsRow base e size v n xs) :
    (v = .slice none 0 0 ∧ n = 0) ∨ ∃ g cap, v = .slice (some ⟨g, 0, none⟩) n cap ∧ base ≤ g ∧ g < w.heap.size ∧ n ≤ cap ∧ w.frozen? ⟨g, 0, none⟩ = false ∧ ∀ j u, xs[j]? = some u → w.cell? ⟨g, j, none⟩ = some u := by
  rcases h.2 with ⟨hv, hn⟩ | ⟨g, cap, cur, rfl, hb, hg, hc, hm, hs, ht⟩
  · exact .inl ⟨hv, hn⟩
  · refine .inr ⟨g, cap, rfl, hb, (Array.getElem?_eq_some_iff.1 hg).1, hc, by simp [World.frozen?, hg], fun j u hu => ?_⟩
    rw [cell_of_row w g j cur e (0, 0) hg]
    rw [← ht, List.getElem?_take] at hu
    split at hu
    · simpa using hu
    · cases hu

/-- A token's cells. -/
def tkV (t : Scn.Tok) : List Value := [.int .i64 (t.kind : Nat), .int .i64 t.n, .string ⟨t.s.toArray⟩, .int .i64 (t.at_ : Nat)]
def tkC (ts : List Scn.Tok) : List Value := ts.flatMap tkV
theorem tkC_len (ts : List Scn.Tok) : (tkC ts).length = ts.length * 4 := by
  induction ts with
  | nil => rfl
  | cons t ts ih => simp only [tkC, List.flatMap_cons, List.length_append, List.length_cons] at ih ⊢; rw [ih]; simp [tkV]; omega
theorem tkC_app (a b : List Scn.Tok) : tkC (a ++ b) = tkC a ++ tkC b := by simp [tkC]
theorem tkC_at : ∀ (ts : List Scn.Tok) (i : Nat) (h : i < ts.length) (j : Nat), j < 4 → (tkC ts)[i * 4 + j]? = (tkV ts[i])[j]?
  | [], i, h, j, hj => by simp at h
  | t :: ts, 0, h, j, hj => by
    simp only [tkC, List.flatMap_cons]
    rw [Nat.zero_mul, Nat.zero_add, List.getElem?_append_left (by simp [tkV]; omega)]
    rfl
  | t :: ts, i + 1, h, j, hj => by
    simp only [tkC, List.flatMap_cons]
    rw [List.getElem?_append_right (by simp [tkV]; omega)]
    have e : (i + 1) * 4 + j - (tkV t).length = i * 4 + j := by simp [tkV]; omega
    rw [e]
    exact tkC_at ts i (by simpa using h) j hj
/-- The slice v holds the tokens ts. -/
def Tks (w : World) (base : Nat) (v : Value) (ts : List Scn.Tok) : Prop := w.ownsRow base 34 4 v ts.length (tkC ts)
theorem Tks.none_ (w : World) (base : Nat) : Tks w base (.slice none 0 0) [] := World.ownsRow_nil w base _ 4
theorem Tks.keep {w w' : World} {base : Nat} {v : Value} {ts : List Scn.Tok} (h : Tks w base v ts) (hf : Fr w w') : Tks w' base v ts := owns_keep h hf
theorem Tks.mono {w : World} {base base' : Nat} {v : Value} {ts : List Scn.Tok} (h : Tks w base v ts) (hb : base' ≤ base) : Tks w base' v ts := by
  refine ⟨h.1, ?_⟩
  rcases h.2 with hn | ⟨g, cap, cur, rfl, hb', rest⟩
  · exact .inl hn
  · exact .inr ⟨g, cap, cur, rfl, by omega, rest⟩
theorem Tks.form {w : World} {base : Nat} {v : Value} {ts : List Scn.Tok} (h : Tks w base v ts) :
    (v = .slice none 0 0 ∧ ts = []) ∨ ∃ g cap, v = .slice (some ⟨g, 0, none⟩) ts.length cap ∧ base ≤ g ∧ g < w.heap.size ∧ ∀ i (hi : i < ts.length), w.cell? ⟨g, i * 4, none⟩ = some (.int .i64 (ts[i].kind : Nat)) ∧ w.cell? ⟨g, i * 4 + 1, none⟩ = some (.int .i64 ts[i].n) ∧ w.cell? ⟨g, i * 4 + 2, none⟩ = some (.string ⟨ts[i].s.toArray⟩) ∧ w.cell? ⟨g, i * 4 + 3, none⟩ = some (.int .i64 (ts[i].at_ : Nat)) := by
  rcases owns_form h with ⟨hv, hn⟩ | ⟨g, cap, rfl, hb, hlt, hc, _, hcells⟩
  · exact .inl ⟨hv, List.eq_nil_of_length_eq_zero hn⟩
  · refine .inr ⟨g, cap, rfl, hb, hlt, fun i hi => ?_⟩
    have h0 := tkC_at ts i hi 0 (by omega)
    have h1 := tkC_at ts i hi 1 (by omega)
    have h2 := tkC_at ts i hi 2 (by omega)
    have h3 := tkC_at ts i hi 3 (by omega)
    exact ⟨hcells _ _ h0, hcells _ _ h1, hcells _ _ h2, hcells _ _ h3⟩

theorem tk_info : (Tryd.prog.info? 34).map (fun i => (i.zero, i.size, i.bytes)) = some (some (.agg #[.int .i64 0, .int .i64 0, .string ⟨#[]⟩, .int .i64 0]), 4, 40) := by kernel_rfl
theorem tkV_one (t : Scn.Tok) : ∀ u ∈ tkV t, u.oneCell' = true := by
  intro u hu
  simp only [tkV, List.mem_cons, List.not_mem_nil, or_false] at hu
  rcases hu with rfl | rfl | rfl | rfl <;> rfl
/-- append of one token that is written out. -/
theorem wpl_tk {ops : Array Oper} {rest : List Oper} {o : Oper} {a : Act} {w : World} {Q : Exit → Act → World → Prop} {cs : Array Value} {ad : Addr}
    (hgd : o.guard = none) (s x : Operand) (ho : o.op = .call { callee := .builtin .append, args := #[s, x], argTypes := #[22, 22] })
    (w0 : World) (hfr : Fr w0 w) (v : Value) (ts : List Scn.Tok) (hs : a.eval s = v) (hown : Tks w w0.heap.size v ts)
    (t : Scn.Tok) (hx : a.eval x = .slice (some ad) 1 1) (had : ad = ⟨w.heap.size, 0, none⟩) (hcs : cs = (tkV t).toArray) (h63 : (ts.length + 1) * 40 ≤ 140737488355328)
    (h : ∀ v' w', Tks w' w0.heap.size v' (ts ++ [t]) → Fr w0 w' → wpList Tryd.prog ops Q rest (a.put o.dst v') w') :
    wpList Tryd.prog ops Q (o :: rest) a (w.alloc (.cells cs 34)) := by
  subst hcs; subst had
  obtain ⟨i, hi, hz, hsz, hby⟩ := info_parts tk_info
  refine wpList_append_own_at (w.alloc _) hgd s x 22 ho w0.heap.size 34 i _ 4 40 Tryd.underlying22 hi hz hsz hby rfl (by omega) v _ (tkC ts) hs (owns_keep hown (Fr.alloc (Fr.refl _) _)) ⟨w.heap.size, 0, none⟩ 1 1 (tkV t) hx (by simp [tkV]) ?_ (tkV_one t) (by unfold maxLen; omega) h63 (Fr.size (hfr.alloc _)) ?_
  · intro j u hu
    have e1 : (Addr.mk w.heap.size 0 none).add j = ⟨w.heap.size, j, none⟩ := by
      by_cases h0 : j = 0
      · subst h0; simp [Addr.add]
      · simp [Addr.add, h0]
    rw [e1, World.cell?_alloc_at _ _ _ _ rfl]
    simpa using hu
  · intro v' w' h3 h4 _ h5
    refine h v' w' ?_ (Below.grown (hfr.alloc _) h4 (Fr.size (hfr.alloc _)) (fun k hk => (World.ownsRow.lt hown k hk).1))
    unfold Tks
    rw [tkC_app, List.length_append]
    simpa [tkC] using h3

theorem Tks.is_slice {w : World} {base : Nat} {v : Value} {ts : List Scn.Tok} (h : Tks w base v ts) : ∃ b n c, v = .slice b n c := by
  rcases h.form with ⟨rfl, _⟩ | ⟨g, cap, rfl, _⟩
  · exact ⟨_, _, _, rfl⟩
  · exact ⟨_, _, _, rfl⟩
/-- The run of such an append, with the blocks below a number kept. -/
theorem run_tk {w : World} {cs : Array Value} (ty : TypeId) (base : Nat) (hb : base ≤ w.heap.size) (v : Value) (ts : List Scn.Tok) (hown : Tks w base v ts) (t : Scn.Tok) (hcs : cs = (tkV t).toArray) (h63 : (ts.length + 1) * 40 ≤ 140737488355328) :
    ∃ v' w', (Builtin.append_ #[22, 22] ty #[v, .slice (some ⟨w.heap.size, 0, none⟩) 1 1]).run Tryd.prog (w.alloc (.cells cs 34)) = .ok v' w' ∧ Tks w' base v' (ts ++ [t]) ∧ Below base w w' := by
  subst hcs
  obtain ⟨i, hi, hz, hsz, hby⟩ := info_parts tk_info
  obtain ⟨v', w', hr, h3, h4, _, _⟩ := run_append_own_at (P := Tryd.prog) (w.alloc (.cells (tkV t).toArray 34)) base 22 ty 34 i _ 4 40 Tryd.underlying22 hi hz hsz hby rfl (by omega) v ts.length (tkC ts) (owns_keep hown (Fr.alloc (Fr.refl _) _)) ⟨w.heap.size, 0, none⟩ 1 1 (tkV t) (by simp [tkV]) (by
    intro j u hu
    have e1 : (Addr.mk w.heap.size 0 none).add j = ⟨w.heap.size, j, none⟩ := by
      by_cases h0 : j = 0
      · subst h0; simp [Addr.add]
      · simp [Addr.add, h0]
    rw [e1, World.cell?_alloc_at _ _ _ _ rfl]
    simpa using hu) (tkV_one t) (by unfold maxLen; omega) h63 (by simp; omega)
  refine ⟨v', w', hr, ?_, Below.grown (Below.alloc (Below.refl _ _) hb _) h4 (by simp; omega) (fun k hk => (World.ownsRow.lt hown k hk).1)⟩
  unfold Tks
  rw [tkC_app, List.length_append]
  simpa [tkC] using h3
/-- Its step in a region that draws its order. -/
theorem step_tk {ops : Array Oper} {o : Oper} {a : Act} {w : World} {K : Act → World → Prop} {Q : Exit → Act → World → Prop} {E : Prop} {cs : Array Value} {ad : Addr}
    (hgd : o.guard = none) (s x : Operand) (ho : o.op = .call { callee := .builtin .append, args := #[s, x], argTypes := #[22, 22] })
    (base : Nat) (hb : base ≤ w.heap.size) (v : Value) (ts : List Scn.Tok) (hs : a.eval s = v) (hown : Tks w base v ts)
    (t : Scn.Tok) (hx : a.eval x = .slice (some ad) 1 1) (had : ad = ⟨w.heap.size, 0, none⟩) (hcs : cs = (tkV t).toArray) (h63 : (ts.length + 1) * 40 ≤ 140737488355328)
    (h : ∀ v' w', Tks w' base v' (ts ++ [t]) → Below base w w' → K (a.put o.dst v') w') :
    if Region.wanted o (yielded ops a.tmps) = true then Oper.wp Tryd.prog o a (w.alloc (.cells cs 34)) K Q else E := by
  have hw : Region.wanted o (yielded ops a.tmps) = true := by simp [Region.wanted, hgd]
  rw [if_pos hw]
  subst had
  obtain ⟨v', w', hrun, h3, h4⟩ := run_tk o.type base hb v ts hown t hcs h63
  unfold Oper.wp execOp
  simp only [ho, resolve, invoke, builtin, Sem.run_bind, Sem.run_pure, Result.andThen_ok, List.map_toArray, List.map_cons, List.map_nil, hs, hx, hrun]
  exact h v' w' h3 h4

end Go.Proofs.YtmalfecpcdopfaaDoor
