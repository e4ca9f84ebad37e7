/- Appends to bytes that a call owns; what is no row of bytes stays as it was. -/
import Derived.Test.YtgncdjcbphobmaaSl
import Derived.Test.YtgncdjcbphobmaaInV
import Derived.Test.YtgncdjcbphobmaaKn
import Derived.Deep.RegionLaw
namespace Go.Proofs.Ytgncdjcbphobmaa
set_option linter.unusedVariables false
set_option linter.unusedSimpArgs false
open Go.RowKit

/-- What is no row of bytes stays as it was. -/
def Kt (w w' : World) : Prop := w.heap.size ≤ w'.heap.size ∧ ∀ k, k < w.heap.size → (∀ c f, w.heap[k]? ≠ some (.cells c 5 f)) → w'.heap[k]? = w.heap[k]?
theorem Kt.refl (w : World) : Kt w w := ⟨Nat.le_refl _, fun _ _ _ => rfl⟩
theorem Kt.trans {a b c : World} (h : Kt a b) (k : Kt b c) : Kt a c := by
  refine ⟨Nat.le_trans h.1 k.1, fun i hi hn => ?_⟩
  have h1 := h.2 i hi hn
  rw [k.2 i (Nat.lt_of_lt_of_le hi h.1) (by rw [h1]; exact hn), h1]
theorem Kt.of {w w' : World} (h : Fr w w') : Kt w w' := ⟨h.size, fun k hk _ => Below.block h k hk⟩
theorem Kt.alloc {a w : World} (h : Kt a w) (o : Obj) : Kt a (w.alloc o) := h.trans (Kt.of ((Fr.refl w).alloc o))
theorem Kt.drew {a w : World} (h : Kt a w) : Kt a w.drew := h
theorem Kt.drewN {a w : World} (h : Kt a w) (n : Nat) : Kt a (w.drewN n) := h
theorem Kt.cell {w w' : World} (h : Kt w w') {Y o : Nat} {c : Array Value} {t : TypeId} {f : Nat × Nat} (hY : w.heap[Y]? = some (.cells c t f)) (ht : t ≠ 5) : w'.cell? ⟨Y, o, none⟩ = w.cell? ⟨Y, o, none⟩ := by
  have hk := h.2 Y (Array.getElem?_eq_some_iff.1 hY).1 (fun c f e => by rw [hY] at e; injection e with e; injection e with e1 e2 e3; exact ht e2)
  unfold World.cell?; rw [hk]
theorem Kt.obj {w w' : World} (h : Kt w w') {Y : Nat} {c : Array Value} {t : TypeId} {f : Nat × Nat} (hY : w.heap[Y]? = some (.cells c t f)) (ht : t ≠ 5) : w'.heap[Y]? = some (.cells c t f) := by
  rw [h.2 Y (Array.getElem?_eq_some_iff.1 hY).1 (fun c f e => by rw [hY] at e; injection e with e; injection e with e1 e2 e3; exact ht e2)]; exact hY
theorem heap_made (w : World) (c : Array Value) (t : TypeId) : (w.alloc (.cells c t)).heap[w.heap.size]? = some (.cells c t (0, 0)) := by
  show (w.heap.push _)[w.heap.size]? = _
  rw [Array.getElem?_push, if_pos rfl]
theorem Kt.grown {w w' : World} {base : Nat} {v : Value} {l : List UInt8} (h : Bs w base v l) (hg : w.grownBy w' v.ownBlock) : Kt w w' := by
  refine ⟨hg.size, fun k hk hn => hg.block k hk (fun e => ?_)⟩
  rcases h.2 with ⟨rfl, _⟩ | ⟨g, cap, cur, rfl, hb, hgo, rest⟩
  · cases e
  · obtain rfl : k = g := Option.some.inj e
    exact hn _ _ hgo

theorem run_bs_k {w : World} (ty : TypeId) (w0 : World) (hfr : Fr w0 w) (v : Value) (l : List UInt8) (hown : Bs w w0.heap.size v l) (base : Nat) (v2 : Value) (news : List UInt8) (h2 : Bs w base v2 news) (h63 : l.length + news.length ≤ 140737488355328) :
    ∃ v' w', (Builtin.append_ #[36, 36] ty #[v, v2]).run Try.prog w = .ok v' w' ∧ Bs w' w0.heap.size v' (l ++ news) ∧ Fr w0 w' ∧ Kt w w' := by
  obtain ⟨i, hi, hz, hsz, hby⟩ := info_parts el_u8.info
  rcases Row.form h2 with ⟨rfl, he⟩ | ⟨g, cap, rfl, hb, hlt, hc, _, hcells⟩
  · have hn : news = [] := by cases news with
      | nil => rfl
      | cons c l => simp [bvs] at he
    subst hn
    exact ⟨v, w, run_append_owned_none (P := Try.prog) (w := w) w0.heap.size 36 ty 5 i 1 el_u8.sl hi v _ (bvs l) hown, by simpa using hown, hfr, Kt.refl _⟩
  · obtain ⟨v', w', hr, h3, h4, _, _⟩ := run_append_own_at (P := Try.prog) w w0.heap.size 36 ty 5 i _ 1 1 el_u8.sl hi hz hsz hby rfl (by omega) v _ (bvs l) hown ⟨g, 0, none⟩ (bvs news).length cap (bvs news) (by simp) (by
      intro j u hu
      have := hcells j u hu
      have e1 : (Addr.mk g 0 none).add j = ⟨g, j, none⟩ := by
        by_cases h0 : j = 0
        · subst h0; simp [Addr.add]
        · simp [Addr.add, h0]
      rw [e1]; exact this) (bvs_one _) (by simp only [bvs_len]; unfold maxLen; omega) (by simpa [bvs_len] using h63) hfr.size
    refine ⟨v', w', hr, ?_, Below.grown hfr h4 hfr.size (fun k hk => Row.own_ge hown k hk), Kt.grown hown h4⟩
    unfold Bs Row
    rw [bvs_app]
    simpa [bvs_len] using h3
theorem wpl_bs_k {ops : Array Oper} {rest : List Oper} {o : Oper} {a : Act} {w : World} {Q : Exit → Act → World → Prop}
    (hgd : o.guard = none) (s x : Operand) (ho : o.op = .call { callee := .builtin .append, args := #[s, x], argTypes := #[36, 36] })
    (w0 : World) (hfr : Fr w0 w) (v : Value) (l : List UInt8) (hs : a.eval s = v) (hown : Bs w w0.heap.size v l)
    (base : Nat) (v2 : Value) (news : List UInt8) (hx : a.eval x = v2) (h2 : Bs w base v2 news) (h63 : l.length + news.length ≤ 140737488355328)
    (h : ∀ v' w', Bs w' w0.heap.size v' (l ++ news) → Fr w0 w' → Kt w w' → wpList Try.prog ops Q rest (a.put o.dst v') w') :
    wpList Try.prog ops Q (o :: rest) a w := by
  refine wpList_plain hgd fun K hK => ?_
  obtain ⟨v', w', hr, h3, h4, h5⟩ := run_bs_k (w := w) o.type w0 hfr v l hown base v2 news h2 h63
  unfold Oper.wp execOp
  simp only [ho, resolve, invoke, builtin, Sem.run_bind, Sem.run_pure, Result.andThen_ok, List.map_toArray, List.map_cons, List.map_nil, hs, hx, hr]
  exact hK _ _ (h v' w' h3 h4 h5)
/-- .. of bytes that are written out. -/
theorem wpl_bl_k {ops : Array Oper} {rest : List Oper} {o : Oper} {a : Act} {w : World} {Q : Exit → Act → World → Prop} {cs : Array Value} {ad : Addr} {n m : Nat}
    (hgd : o.guard = none) (s x : Operand) (ho : o.op = .call { callee := .builtin .append, args := #[s, x], argTypes := #[36, 36] })
    (w0 : World) (hfr : Fr w0 w) (v : Value) (l : List UInt8) (hs : a.eval s = v) (hown : Bs w w0.heap.size v l)
    (news : List UInt8) (hx : a.eval x = .slice (some ad) n m) (had : ad = ⟨w.heap.size, 0, none⟩) (hn : n = news.length) (hm : m = news.length) (hcs : cs = (bvs news).toArray) (h63 : l.length + news.length ≤ 140737488355328)
    (h : ∀ v' w', Bs w' w0.heap.size v' (l ++ news) → Fr w0 w' → Kt w w' → wpList Try.prog ops Q rest (a.put o.dst v') w') :
    wpList Try.prog ops Q (o :: rest) a (w.alloc (.cells cs 5)) := by
  subst hn; subst hm; subst hcs; subst had
  exact wpl_bs_k hgd s x ho w0 (hfr.alloc _) v l hs (hown.keep (Fr.alloc (Fr.refl _) _)) w.heap.size _ news hx (Bs.made w news (by unfold maxLen; omega)) h63
    fun v' w' h2 h3 h4 => h v' w' h2 h3 (((Kt.refl w).alloc _).trans h4)
theorem step_bs_k {ops : Array Oper} {o : Oper} {a : Act} {w : World} {K : Act → World → Prop} {Q : Exit → Act → World → Prop} {E : Prop}
    (hgd : o.guard = none) (s x : Operand) (ho : o.op = .call { callee := .builtin .append, args := #[s, x], argTypes := #[36, 36] })
    (w0 : World) (hfr : Fr w0 w) (v : Value) (l : List UInt8) (hs : a.eval s = v) (hown : Bs w w0.heap.size v l)
    (base : Nat) (v2 : Value) (news : List UInt8) (hx : a.eval x = v2) (h2 : Bs w base v2 news) (h63 : l.length + news.length ≤ 140737488355328)
    (h : ∀ v' w', Bs w' w0.heap.size v' (l ++ news) → Fr w0 w' → Kt w w' → K (a.put o.dst v') w') :
    if Region.wanted o (yielded ops a.tmps) = true then Oper.wp Try.prog o a w K Q else E := by
  have hw : Region.wanted o (yielded ops a.tmps) = true := by simp [Region.wanted, hgd]
  rw [if_pos hw]
  obtain ⟨v', w', hrun, h3, h4, h5⟩ := run_bs_k (w := w) o.type w0 hfr v l hown base v2 news h2 h63
  unfold Oper.wp execOp
  simp only [ho, resolve, invoke, builtin, Sem.run_bind, Sem.run_pure, Result.andThen_ok, List.map_toArray, List.map_cons, List.map_nil, hs, hx, hrun]
  exact h v' w' h3 h4 h5
/-- append of a text. -/
theorem wpl_bt_k {ops : Array Oper} {rest : List Oper} {o : Oper} {a : Act} {w : World} {Q : Exit → Act → World → Prop}
    (hgd : o.guard = none) (s x : Operand) (ho : o.op = .call { callee := .builtin .append, args := #[s, x], argTypes := #[36, 9] })
    (w0 : World) (hfr : Fr w0 w) (v : Value) (l : List UInt8) (hs : a.eval s = v) (hown : Bs w w0.heap.size v l)
    (u : ByteArray) (hx : a.eval x = .string u) (h63 : l.length + u.size ≤ 140737488355328)
    (h : ∀ v' w', Bs w' w0.heap.size v' (l ++ u.data.toList) → Fr w0 w' → Kt w w' → w.grownBy w' v.ownBlock → wpList Try.prog ops Q rest (a.put o.dst v') w') :
    wpList Try.prog ops Q (o :: rest) a w := by
  obtain ⟨i, hi, hz, hsz, hby⟩ := info_parts el_u8.info
  refine Lib.wpList_append_own_string w hgd s x 36 9 ho w0.heap.size 5 i el_u8.sl Try.underlying9 hi hz hsz hby v _ (bvs l) hs hown u hx (by rw [bvs_len]; unfold maxLen; omega) (by rw [bvs_len]; omega) hfr.size ?_
  intro v' w' h2 h3 _
  refine h v' w' ?_ (Below.grown hfr h3 hfr.size (fun k hk => Row.own_ge hown k hk)) (Kt.grown hown h3) h3
  unfold Bs Row
  rw [bvs_len, List.length_append, bvs_app]
  have e : Lib.strCells u = bvs u.data.toList := rfl
  rw [e, bvs_len] at h2
  simpa using h2
theorem Fr.grows {w w' : World} (h : Fr w w') (row : Option Nat) : w.grownBy w' row := ⟨h.os, h.tape, h.output, Below.size h, fun k hk _ => Below.block h k hk⟩
/-- Bytes that were written out stay while others are appended to. -/
theorem Bs.lit_kept {w w' : World} {base : Nat} {v : Value} {l news : List UInt8} (h : Bs w base v l) (hn : news.length ≤ 1000) (hg : (w.alloc (.cells (bvs news).toArray 5)).grownBy w' v.ownBlock) :
    Bs w' w.heap.size (.slice (some ⟨w.heap.size, 0, none⟩) news.length news.length) news := by
  have h1 := Bs.made w news (by unfold maxLen; omega)
  refine World.ownsRow.kept h1 hg (.inr ?_)
  intro e
  have := Row.block_lt h w.heap.size (by rw [← e]; rfl)
  omega
theorem InV.two {w0 w wr : World} {v : JV} {x : Value} (h : InV w (Lo w0.heap.size) v x) (a : Fr w0 w) (b : Fr w0 wr) : InV wr (Lo w0.heap.size) v x := h.map (fun _ h => h) (fun _ o hs => (b.cell hs).trans (a.cell hs).symm)
theorem LsC.two {w0 w wr : World} {A : Option Addr} {l : List JV} (h : LsC w (Lo w0.heap.size) A l) (a : Fr w0 w) (b : Fr w0 wr) : LsC wr (Lo w0.heap.size) A l := h.map (fun _ h => h) (fun _ o hs => (b.cell hs).trans (a.cell hs).symm)
theorem MsC.two {w0 w wr : World} {A : Option Addr} {l : List (List UInt8 × JV)} (h : MsC w (Lo w0.heap.size) A l) (a : Fr w0 w) (b : Fr w0 wr) : MsC wr (Lo w0.heap.size) A l := h.map (fun _ h => h) (fun _ o hs => (b.cell hs).trans (a.cell hs).symm)
end Go.Proofs.Ytgncdjcbphobmaa
