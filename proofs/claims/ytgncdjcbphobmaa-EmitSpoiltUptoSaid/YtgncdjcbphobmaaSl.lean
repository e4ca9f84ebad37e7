/- Words for slices of one-cell elements that a call made itself: what they hold, append, bytes to a text. -/
import Derived.Test.YtgncdjcbphobmaaKit
import Derived.Maps.AppendAt
import Derived.Laws.OwnMore
import Derived.Laws.AppendOwnNone
import Derived.Lib.AppendStr
namespace Go.Proofs.Ytgncdjcbphobmaa
set_option linter.unusedVariables false
set_option linter.unusedSimpArgs false
open Go.RowKit

/-- A slice type, its elements, their zero and bytes. -/
structure El (t e : TypeId) (z : Value) (bts : Nat) : Prop where
  sl : Try.prog.underlying t = some (.slice e)
  info : (Try.prog.info? e).map (fun i => (i.zero, i.size, i.bytes)) = some (some z, 1, bts)
  one : z.cells.size = 1
theorem el_u8 : El 36 5 (.int .u8 0) 1 := ⟨Try.underlying36, by kernel_rfl, rfl⟩

/-- The slice v owns the cells xs, in a block from base on. -/
def Row (w : World) (base : Nat) (e : TypeId) (v : Value) (xs : List Value) : Prop := w.ownsRow base e 1 v xs.length xs

theorem Row.none_ (w : World) (base : Nat) (e : TypeId) : Row w base e (.slice none 0 0) [] := World.ownsRow_nil w base e 1
theorem Row.keep {w w' : World} {base : Nat} {e : TypeId} {v : Value} {xs : List Value} (h : Row w base e v xs) (hf : Fr w w') : Row w' base e v xs := by
  refine ⟨h.1, ?_⟩
  rcases h.2 with hn | ⟨g, cap, cur, rfl, hb, hg, rest⟩
  · exact .inl hn
  · exact .inr ⟨g, cap, cur, rfl, hb, (Below.block hf g (Array.getElem?_eq_some_iff.1 hg).1).trans hg, rest⟩
theorem Row.mono {w : World} {base base' : Nat} {e : TypeId} {v : Value} {xs : List Value} (h : Row w base e v xs) (hb : base' ≤ base) : Row w base' e v xs := by
  refine ⟨h.1, ?_⟩
  rcases h.2 with hn | ⟨g, cap, cur, rfl, hb', rest⟩
  · exact .inl hn
  · exact .inr ⟨g, cap, cur, rfl, by omega, rest⟩
theorem Row.drew {w : World} {base : Nat} {e : TypeId} {v : Value} {xs : List Value} (h : Row w base e v xs) : Row w.drew base e v xs := h
theorem Row.made (w : World) (e : TypeId) (xs : List Value) (hm : xs.length ≤ maxLen) :
    Row (w.alloc (.cells xs.toArray e)) w.heap.size e (.slice (some ⟨w.heap.size, 0, none⟩) xs.length xs.length) xs :=
  World.ownsRow_lit (base := w.heap.size) (size := 1) (e := e) w xs.toArray xs.length (Nat.le_refl _) hm (by simp)
/-- The value's form, and its cells. -/
theorem Row.form {w : World} {base : Nat} {e : TypeId} {v : Value} {xs : List Value} (h : Row w base e v xs) :
    (v = .slice none 0 0 ∧ xs = []) ∨ ∃ g cap, v = .slice (some ⟨g, 0, none⟩) xs.length cap ∧ base ≤ g ∧ g < w.heap.size ∧ xs.length ≤ cap ∧ w.frozen? ⟨g, 0, none⟩ = false ∧ ∀ j u, xs[j]? = some u → w.cell? ⟨g, j, none⟩ = some u := by
  rcases h.2 with ⟨hv, hn⟩ | ⟨g, cap, cur, rfl, hb, hg, hc, hm, hs, ht⟩
  · exact .inl ⟨hv, List.eq_nil_of_length_eq_zero hn⟩
  · refine .inr ⟨g, cap, rfl, hb, (Array.getElem?_eq_some_iff.1 hg).1, hc, by simp [World.frozen?, hg], fun j u hu => ?_⟩
    rw [cell_of_row w g j cur e (0, 0) hg]
    rw [← ht, List.getElem?_take] at hu
    split at hu
    · simpa using hu
    · cases hu
theorem Row.some_ {w : World} {base : Nat} {e : TypeId} {v : Value} {xs : List Value} (h : Row w base e v xs) (hx : xs ≠ []) :
    ∃ g cap, v = .slice (some ⟨g, 0, none⟩) xs.length cap ∧ base ≤ g ∧ g < w.heap.size ∧ xs.length ≤ cap ∧ w.frozen? ⟨g, 0, none⟩ = false ∧ ∀ j u, xs[j]? = some u → w.cell? ⟨g, j, none⟩ = some u := by
  rcases h.form with ⟨_, he⟩ | h
  · exact absurd he hx
  · exact h
theorem Row.block_lt {w : World} {base : Nat} {e : TypeId} {v : Value} {xs : List Value} (h : Row w base e v xs) : ∀ k, v.ownBlock = some k → base ≤ k ∧ k < w.heap.size := World.ownsRow.lt h
theorem Row.own_ge {w : World} {base : Nat} {e : TypeId} {v : Value} {xs : List Value} (h : Row w base e v xs) : ∀ k, v.ownBlock = some k → base ≤ k := fun k hk => (h.block_lt k hk).1

/-- append of a slice to one that the call owns. -/
theorem wpl_app {t e : TypeId} {z : Value} {bts : Nat} (hE : El t e z bts) {ops : Array Oper} {rest : List Oper} {o : Oper} {a : Act} {w : World} {Q : Exit → Act → World → Prop}
    (hgd : o.guard = none) (s x : Operand) (ho : o.op = .call { callee := .builtin .append, args := #[s, x], argTypes := #[t, t] })
    (w0 : World) (hfr : Fr w0 w) (v : Value) (xs : List Value) (hs : a.eval s = v) (hown : Row w w0.heap.size e v xs)
    (base : Nat) (v2 : Value) (news : List Value) (hx : a.eval x = v2) (h2 : Row w base e v2 news) (h1 : ∀ u ∈ news, u.oneCell' = true)
    (h63 : xs.length + news.length ≤ 140737488355328) (hbytes : (xs.length + news.length) * bts ≤ 140737488355328)
    (h : ∀ v' w', Row w' w0.heap.size e v' (xs ++ news) → Fr w0 w' → w.grownBy w' v.ownBlock → wpList Try.prog ops Q rest (a.put o.dst v') w') :
    wpList Try.prog ops Q (o :: rest) a w := by
  obtain ⟨i, hi, hz, hsz, hby⟩ := info_parts hE.info
  rcases h2.form with ⟨rfl, rfl⟩ | ⟨g, cap, rfl, hb, hlt, hc, _, hcells⟩
  · exact wpList_append_own_none hgd s x t ho w0.heap.size e i 1 hE.sl hi v _ xs hs hown hx (h v w (by simpa [Row] using hown) hfr ⟨rfl, rfl, rfl, Nat.le_refl _, fun _ _ _ => rfl⟩)
  · refine wpList_append_own_at w hgd s x t ho w0.heap.size e i z 1 bts hE.sl hi hz hsz hby hE.one (by omega) v _ xs hs hown ⟨g, 0, none⟩ news.length cap news hx (by simp) ?_ h1 (by unfold maxLen; omega) hbytes hfr.size ?_
    · intro j u hu
      have := hcells j u hu
      have e1 : (Addr.mk g 0 none).add j = ⟨g, j, none⟩ := by
        by_cases h0 : j = 0
        · subst h0; simp [Addr.add]
        · simp [Addr.add, h0]
      rw [e1]; exact this
    · intro v' w' h3 h4 _ h5
      refine h v' w' (by simpa [Row] using h3) ?_ h4
      exact Below.grown hfr h4 hfr.size (fun k hk => hown.own_ge k hk)

/-- append of a literal's cells. -/
theorem wpl_app_lit {t e : TypeId} {z : Value} {bts : Nat} (hE : El t e z bts) {ops : Array Oper} {rest : List Oper} {o : Oper} {a : Act} {w : World} {Q : Exit → Act → World → Prop}
    (hgd : o.guard = none) (s x : Operand) (ho : o.op = .call { callee := .builtin .append, args := #[s, x], argTypes := #[t, t] })
    (w0 : World) (hfr : Fr w0 w) (v : Value) (xs : List Value) (hs : a.eval s = v) (hown : Row w w0.heap.size e v xs)
    (news : List Value) (hx : a.eval x = .slice (some ⟨w.heap.size, 0, none⟩) news.length news.length) (h1 : ∀ u ∈ news, u.oneCell' = true)
    (h63 : xs.length + news.length ≤ 140737488355328) (hbytes : (xs.length + news.length) * bts ≤ 140737488355328)
    (h : ∀ v' w', Row w' w0.heap.size e v' (xs ++ news) → Fr w0 w' → wpList Try.prog ops Q rest (a.put o.dst v') w') :
    wpList Try.prog ops Q (o :: rest) a (w.alloc (.cells news.toArray e)) :=
  wpl_app hE hgd s x ho w0 (hfr.alloc _) v xs hs (hown.keep (Fr.alloc (Fr.refl _) _)) w.heap.size _ news hx (Row.made w e news (by unfold maxLen; omega)) h1 h63 hbytes
    fun v' w' h2 h3 _ => h v' w' h2 h3

/-- The run of such an append. -/
theorem run_app {t e : TypeId} {z : Value} {bts : Nat} (hE : El t e z bts) {w : World} (ty : TypeId) (w0 : World) (hfr : Fr w0 w) (v : Value) (xs : List Value) (hown : Row w w0.heap.size e v xs)
    (base : Nat) (v2 : Value) (news : List Value) (h2 : Row w base e v2 news) (h1 : ∀ u ∈ news, u.oneCell' = true)
    (h63 : xs.length + news.length ≤ 140737488355328) (hbytes : (xs.length + news.length) * bts ≤ 140737488355328) :
    ∃ v' w', (Builtin.append_ #[t, t] ty #[v, v2]).run Try.prog w = .ok v' w' ∧ Row w' w0.heap.size e v' (xs ++ news) ∧ Fr w0 w' := by
  obtain ⟨i, hi, hz, hsz, hby⟩ := info_parts hE.info
  rcases h2.form with ⟨rfl, rfl⟩ | ⟨g, cap, rfl, hb, hlt, hc, _, hcells⟩
  · exact ⟨v, w, run_append_owned_none (P := Try.prog) (w := w) w0.heap.size t ty e i 1 hE.sl hi v _ xs hown, by simpa [Row] using hown, hfr⟩
  · obtain ⟨v', w', hr, h3, h4, _, _⟩ := run_append_own_at (P := Try.prog) w w0.heap.size t ty e i z 1 bts hE.sl hi hz hsz hby hE.one (by omega) v _ xs hown ⟨g, 0, none⟩ news.length cap news (by simp) (by
      intro j u hu
      have := hcells j u hu
      have e1 : (Addr.mk g 0 none).add j = ⟨g, j, none⟩ := by
        by_cases h0 : j = 0
        · subst h0; simp [Addr.add]
        · simp [Addr.add, h0]
      rw [e1]; exact this) h1 (by unfold maxLen; omega) hbytes hfr.size
    exact ⟨v', w', hr, by simpa [Row] using h3, Below.grown hfr h4 hfr.size (fun k hk => hown.own_ge k hk)⟩
/-- Its step in a region that draws its order. -/
theorem step_app {t e : TypeId} {z : Value} {bts : Nat} (hE : El t e z bts) {ops : Array Oper} {o : Oper} {a : Act} {w : World} {K : Act → World → Prop} {Q : Exit → Act → World → Prop} {E : Prop}
    (hgd : o.guard = none) (s x : Operand) (ho : o.op = .call { callee := .builtin .append, args := #[s, x], argTypes := #[t, t] })
    (w0 : World) (hfr : Fr w0 w) (v : Value) (xs : List Value) (hs : a.eval s = v) (hown : Row w w0.heap.size e v xs)
    (base : Nat) (v2 : Value) (news : List Value) (hx : a.eval x = v2) (h2 : Row w base e v2 news) (h1 : ∀ u ∈ news, u.oneCell' = true)
    (h63 : xs.length + news.length ≤ 140737488355328) (hbytes : (xs.length + news.length) * bts ≤ 140737488355328)
    (h : ∀ v' w', Row w' w0.heap.size e v' (xs ++ news) → Fr w0 w' → K (a.put o.dst v') w') :
    if Region.wanted o (yielded ops a.tmps) = true then Oper.wp Try.prog o a w K Q else E := by
  have hw : Region.wanted o (yielded ops a.tmps) = true := by simp [Region.wanted, hgd]
  rw [if_pos hw]
  obtain ⟨v', w', hrun, h3, h4⟩ := run_app hE o.type w0 hfr v xs hown base v2 news h2 h1 h63 hbytes
  unfold Oper.wp execOp
  simp only [ho, resolve, invoke, builtin, Sem.run_bind, Sem.run_pure, Result.andThen_ok, List.map_toArray, List.map_cons, List.map_nil, hs, hx, hrun]
  exact h v' w' h3 h4

/-- Bytes as cells. -/
def bvs (l : List UInt8) : List Value := l.map fun c => .int .u8 c.toNat
theorem bvs_len (l : List UInt8) : (bvs l).length = l.length := by simp [bvs]
theorem bvs_app (a b : List UInt8) : bvs (a ++ b) = bvs a ++ bvs b := by simp [bvs]
theorem bvs_one (l : List UInt8) : ∀ u ∈ bvs l, u.oneCell' = true := by
  intro u hu
  simp only [bvs, List.mem_map] at hu
  obtain ⟨c, _, rfl⟩ := hu
  rfl
/-- The slice v holds the bytes l. -/
def Bs (w : World) (base : Nat) (v : Value) (l : List UInt8) : Prop := Row w base 5 v (bvs l)
theorem Bs.none_ (w : World) (base : Nat) : Bs w base (.slice none 0 0) [] := Row.none_ w base _
theorem Bs.keep {w w' : World} {base : Nat} {v : Value} {l : List UInt8} (h : Bs w base v l) (hf : Fr w w') : Bs w' base v l := Row.keep h hf
theorem Bs.mono {w : World} {base base' : Nat} {v : Value} {l : List UInt8} (h : Bs w base v l) (hb : base' ≤ base) : Bs w base' v l := Row.mono h hb
theorem Bs.made (w : World) (l : List UInt8) (hm : l.length ≤ maxLen) : Bs (w.alloc (.cells (bvs l).toArray 5)) w.heap.size (.slice (some ⟨w.heap.size, 0, none⟩) l.length l.length) l := by
  have := Row.made w 5 (bvs l) (by rw [bvs_len]; exact hm)
  rwa [bvs_len] at this
/-- To a text. -/
theorem Bs.conv {w : World} {base : Nat} {v : Value} {l : List UInt8} (h : Bs w base v l) : (convert 36 9 v).run Try.prog w = .ok (.string ⟨l.toArray⟩) w := by
  rcases Row.form h with ⟨rfl, he⟩ | ⟨g, cap, rfl, hb, hlt, hc, _, hcells⟩
  · have : l = [] := by cases l with
      | nil => rfl
      | cons c l => simp [bvs] at he
    subst this
    rw [run_convert_bytes_string _ 36 9 5 _ _ _ Try.underlying36 Try.underlying5 Try.underlying9]
    rfl
  · rw [bvs_len]
    refine run_convert_row w 36 9 5 g 0 cap l Try.underlying36 Try.underlying5 Try.underlying9 ?_
    intro j hj
    rw [Nat.zero_add]
    exact hcells j _ (by simp [bvs, List.getElem?_eq_getElem hj, List.getD])

theorem wpl_bs {ops : Array Oper} {rest : List Oper} {o : Oper} {a : Act} {w : World} {Q : Exit → Act → World → Prop}
    (hgd : o.guard = none) (s x : Operand) (ho : o.op = .call { callee := .builtin .append, args := #[s, x], argTypes := #[36, 36] })
    (w0 : World) (hfr : Fr w0 w) (v : Value) (l : List UInt8) (hs : a.eval s = v) (hown : Bs w w0.heap.size v l)
    (base : Nat) (v2 : Value) (news : List UInt8) (hx : a.eval x = v2) (h2 : Bs w base v2 news) (h63 : l.length + news.length ≤ 140737488355328)
    (h : ∀ v' w', Bs w' w0.heap.size v' (l ++ news) → Fr w0 w' → w.grownBy w' v.ownBlock → wpList Try.prog ops Q rest (a.put o.dst v') w') :
    wpList Try.prog ops Q (o :: rest) a w :=
  wpl_app el_u8 hgd s x ho w0 hfr v (bvs l) hs hown base v2 (bvs news) hx h2 (bvs_one _) (by simpa [bvs_len] using h63) (by simpa [bvs_len] using h63)
    fun v' w' h3 h4 h5 => h v' w' (by unfold Bs; rw [bvs_app]; exact h3) h4 h5
/-- append of bytes that are written out. -/
theorem wpl_bs_lit {ops : Array Oper} {rest : List Oper} {o : Oper} {a : Act} {w : World} {Q : Exit → Act → World → Prop} {cs : Array Value} {ad : Addr} {n m : Nat}
    (hgd : o.guard = none) (s x : Operand) (ho : o.op = .call { callee := .builtin .append, args := #[s, x], argTypes := #[36, 36] })
    (w0 : World) (hfr : Fr w0 w) (v : Value) (l : List UInt8) (hs : a.eval s = v) (hown : Bs w w0.heap.size v l)
    (news : List UInt8) (hx : a.eval x = .slice (some ad) n m) (had : ad = ⟨w.heap.size, 0, none⟩) (hn : n = news.length) (hm : m = news.length) (hcs : cs = (bvs news).toArray) (h63 : l.length + news.length ≤ 140737488355328)
    (h : ∀ v' w', Bs w' w0.heap.size v' (l ++ news) → Fr w0 w' → wpList Try.prog ops Q rest (a.put o.dst v') w') :
    wpList Try.prog ops Q (o :: rest) a (w.alloc (.cells cs 5)) := by
  subst hn; subst hm; subst hcs; subst had
  exact wpl_bs hgd s x ho w0 (hfr.alloc _) v l hs (hown.keep (Fr.alloc (Fr.refl _) _)) w.heap.size _ news hx (Bs.made w news (by unfold maxLen; omega)) h63
    fun v' w' h2 h3 _ => h v' w' h2 h3
theorem step_bs_lit {ops : Array Oper} {o : Oper} {a : Act} {w : World} {K : Act → World → Prop} {Q : Exit → Act → World → Prop} {E : Prop} {cs : Array Value}
    (hgd : o.guard = none) (s x : Operand) (ho : o.op = .call { callee := .builtin .append, args := #[s, x], argTypes := #[36, 36] })
    (w0 : World) (hfr : Fr w0 w) (v : Value) (l : List UInt8) (hs : a.eval s = v) (hown : Bs w w0.heap.size v l)
    (news : List UInt8) (hx : a.eval x = .slice (some ⟨w.heap.size, 0, none⟩) news.length news.length) (hcs : cs = (bvs news).toArray) (h63 : l.length + news.length ≤ 140737488355328)
    (h : ∀ v' w', Bs w' w0.heap.size v' (l ++ news) → Fr w0 w' → K (a.put o.dst v') w') :
    if Region.wanted o (yielded ops a.tmps) = true then Oper.wp Try.prog o a (w.alloc (.cells cs 5)) K Q else E := by
  subst hcs
  exact step_app el_u8 hgd s x ho w0 (hfr.alloc _) v (bvs l) hs (Row.keep hown (Fr.alloc (Fr.refl _) _)) w.heap.size _ (bvs news) hx (Bs.made w news (by unfold maxLen; omega)) (bvs_one _) (by simpa [bvs_len] using h63) (by simpa [bvs_len] using h63)
    fun v' w' h3 h4 => h v' w' (by unfold Bs; rw [bvs_app]; exact h3) h4
/-- append of a text. -/
theorem wpl_bs_str {ops : Array Oper} {rest : List Oper} {o : Oper} {a : Act} {w : World} {Q : Exit → Act → World → Prop}
    (hgd : o.guard = none) (s x : Operand) (ho : o.op = .call { callee := .builtin .append, args := #[s, x], argTypes := #[36, 9] })
    (w0 : World) (hfr : Fr w0 w) (v : Value) (l : List UInt8) (hs : a.eval s = v) (hown : Bs w w0.heap.size v l)
    (u : ByteArray) (hx : a.eval x = .string u) (h63 : l.length + u.size ≤ 140737488355328)
    (h : ∀ v' w', Bs w' w0.heap.size v' (l ++ u.data.toList) → Fr w0 w' → wpList Try.prog ops Q rest (a.put o.dst v') w') :
    wpList Try.prog ops Q (o :: rest) a w := by
  obtain ⟨i, hi, hz, hsz, hby⟩ := info_parts el_u8.info
  refine Lib.wpList_append_own_string w hgd s x 36 9 ho w0.heap.size 5 i el_u8.sl Try.underlying9 hi hz hsz hby v _ (bvs l) hs hown u hx (by rw [bvs_len]; unfold maxLen; omega) (by rw [bvs_len]; omega) hfr.size ?_
  intro v' w' h2 h3 _
  refine h v' w' ?_ (Below.grown hfr h3 hfr.size (fun k hk => Row.own_ge hown k hk))
  unfold Bs Row
  rw [bvs_len, List.length_append, bvs_app]
  have e : Lib.strCells u = bvs u.data.toList := rfl
  rw [e, bvs_len] at h2
  simpa using h2

end Go.Proofs.Ytgncdjcbphobmaa
