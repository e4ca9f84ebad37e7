/- Slices of members that a call made itself; what they hold lies in S, anywhere but in their own block. -/
import Derived.Test.YtgaiepficjiclaaGreatDoorCpC
namespace Go.Proofs.YtgaiepficjiclaaGreatDoor
set_option maxRecDepth 100000
set_option linter.unusedVariables false
set_option linter.unusedSimpArgs false
open Go.RowKit

def MgT (w : World) (S : Nat → Prop) (K : Nat) (v : Value) (m : List (List UInt8 × JV)) : Prop := ((∀ b, S b → b < w.heap.size ∧ v.ownBlock ≠ some b) ∧ K ≤ w.heap.size) ∧ ∃ xs : List (List UInt8 × Value), Mbs w K v xs ∧ xs.length = m.length ∧ ∀ i (h1 : i < xs.length) (h2 : i < m.length), xs[i].1 = m[i].1 ∧ m[i].1.length ≤ 140737488355328 ∧ InV w (S) m[i].2 xs[i].2
theorem MgT.none_ (w : World) {S : Nat → Prop} {K : Nat} (h : (∀ b, S b → b < w.heap.size) ∧ K ≤ w.heap.size) : MgT w S K (.slice none 0 0) [] := ⟨⟨fun b hb => ⟨h.1 b hb, fun e => by cases e⟩, h.2⟩, [], Mbs.none_ w K, rfl, fun i h => absurd h (by simp)⟩
theorem MgT.keep {w w' : World} {S : Nat → Prop} {K : Nat} {v : Value} {l : List (List UInt8 × JV)} (h : MgT w S K v l) (hf : Fr w w') : MgT w' S K v l := by
 obtain ⟨h0, xs, h1, h2, h3⟩ := h
 exact ⟨⟨fun b hb => ⟨Nat.lt_of_lt_of_le (h0.1 b hb).1 hf.size, (h0.1 b hb).2⟩, Nat.le_trans h0.2 hf.size⟩, xs, h1.keep hf, h2, fun i a b => ⟨(h3 i a b).1, (h3 i a b).2.1, (h3 i a b).2.2.map (fun _ h => h) (fun b o hs => hf.cell (h0.1 b hs).1)⟩⟩
theorem MgT.frx {w w' : World} {S : Nat → Prop} {X K : Nat} {v : Value} {l : List (List UInt8 × JV)} (h : MgT w S K v l) (hZ : ∀ b, S b → b ≠ X) (hX : X < K) (hf : FrX X w w') : MgT w' S K v l := by
 obtain ⟨h0, xs, h1, h2, h3⟩ := h
 refine ⟨⟨fun b hb => ⟨Nat.lt_of_lt_of_le (h0.1 b hb).1 hf.size, (h0.1 b hb).2⟩, Nat.le_trans h0.2 hf.size⟩, xs, h1.frx hX hf, h2, fun i a b => ⟨(h3 i a b).1, (h3 i a b).2.1, (h3 i a b).2.2.map (fun _ h => h) (fun b o hs => hf.cell (h0.1 b hs).1 (fun e => ?_))⟩⟩
 exact hZ _ hs e
theorem MgT.is_slice {w : World} {S : Nat → Prop} {K : Nat} {v : Value} {l : List (List UInt8 × JV)} (h : MgT w S K v l) : ∃ a c, v = .slice a l.length c := by
 obtain ⟨_, xs, h1, h2, _⟩ := h
 rcases h1.form with ⟨rfl, rfl⟩ | ⟨g, cap, rfl, _⟩
 ·exact ⟨none, 0, by rw [← h2]; rfl⟩
 ·exact ⟨_, _, by rw [h2]⟩
theorem MgT.is_slice2 {w : World} {S : Nat → Prop} {K : Nat} {v : Value} {l us : List (List UInt8 × JV)} (h : MgT w S K v (l ++ us)) {n : Nat} (hn : us.length = n) : ∃ a c, v = .slice a (l.length + n) c := by
 obtain ⟨a, c, e⟩ := h.is_slice; exact ⟨a, c, by rw [e, List.length_append, hn]⟩
theorem MgT.own_lt {w : World} {S : Nat → Prop} {K : Nat} {v : Value} {l : List (List UInt8 × JV)} (h : MgT w S K v l) {k : Nat} (hk : v.ownBlock = some k) : K ≤ k ∧ k < w.heap.size := by
 obtain ⟨_, xs, h1, _⟩ := h; exact h1.own_ltB hk
theorem MgT.inV {w : World} {S : Nat → Prop} {K : Nat} {v : Value} {l : List (List UInt8 × JV)} (h : MgT w S K v l) (h63 : l.length ≤ 140737488355328) : InV w (fun b => S b ∨ (K ≤ b ∧ b < w.heap.size)) (JV.mapV l) (.agg #[.int .i64 6, .int .i64 0, .string ⟨#[]⟩, .slice none 0 0, v]) := by
 obtain ⟨h0, xs, h1, h2, h3⟩ := h
 exact h1.inV h2 h63 (fun g hg hl => .inr ⟨hg, hl⟩) (fun i a b => ⟨(h3 i a b).1, (h3 i a b).2.1, (h3 i a b).2.2.more (fun b hb => .inl hb)⟩)
theorem run_mTk {w : World} (ty : TypeId) (S : Nat → Prop) (K : Nat) (v : Value) (l : List (List UInt8 × JV)) (hown : MgT w S K v l) (ad : Addr) (c : Nat) (us : List (List UInt8 × JV)) (news : List (List UInt8 × Value)) (hln : news.length = us.length) (h5 : ∀ p ∈ news, Five p.2) (hu : ∀ i (h1 : i < news.length) (h2 : i < us.length), news[i].1 = us[i].1 ∧ us[i].1.length ≤ 140737488355328 ∧ InV w (S) us[i].2 news[i].2)
  (hcells : ∀ j u, (mcs news)[j]? = some u → w.cell? (ad.add j) = some u) (h63 : (l.length + us.length) * 96 ≤ 140737488355328) :
  ∃ v' w', (Builtin.append_ #[23, 23] ty #[v, .slice (some ad) us.length c]).run Tryz.prog w = .ok v' w' ∧ MgT w' S K v' (l ++ us) ∧ w.grownBy w' v.ownBlock ∧ (v'.ownBlock = v.ownBlock ∨ v'.ownBlock = some w.heap.size) := by
 obtain ⟨h0, xs, hvb, hlen, hin⟩ := hown
 obtain ⟨i, hi, hz, hsz, hby⟩ := info_parts mb_info
 obtain ⟨v', w', hr, h3, h4, _, h6⟩ := run_append_own_at (P := Tryz.prog) w K 23 ty 37 i _ 6 96 Tryz.underlying23 hi hz hsz hby rfl (by omega) v _ (mcs xs) hvb.1 ad us.length c (mcs news) (by rw [← hln]; exact mcs_len h5) hcells (mcs_one h5) (by unfold maxLen; omega) (by omega) h0.2
 have hC : ∀ b o, S b → w'.cell? ⟨b, o, none⟩ = w.cell? ⟨b, o, none⟩ := fun b o hb => by
  have hk := h0.1 b hb
  unfold World.cell?; rw [h4.block b hk.1 (fun e => hk.2 e.symm)]
 refine ⟨v', w', hr, ⟨⟨fun b hb => ⟨Nat.lt_of_lt_of_le (h0.1 b hb).1 h4.size, fun e => by rcases h6 with h6 | h6; exact (h0.1 b hb).2 (h6.symm.trans e); exact absurd (Option.some.inj (h6.symm.trans e)) (Nat.ne_of_gt (h0.1 b hb).1)⟩, Nat.le_trans h0.2 h4.size⟩, xs ++ news, ⟨?_, ?_⟩, by simp [hlen, hln], fun i a b => ?_⟩, h4, h6⟩
 ·rw [mcs_app, List.length_append, hln]; exact h3
 ·intro p hp
  rcases List.mem_append.1 hp with hp | hp
  ·exact hvb.2 p hp
  ·exact h5 p hp
 ·by_cases hil : i < l.length
  ·rw [List.getElem_append_left hil, List.getElem_append_left (by omega)]
   obtain ⟨e1, e2, e3⟩ := hin i (by omega) hil
   exact ⟨e1, e2, e3.map (fun _ h => h) hC⟩
  ·rw [List.getElem_append_right (by omega), List.getElem_append_right (by omega)]
   have e : i - xs.length = i - l.length := by omega
   simp only [e]
   obtain ⟨e1, e2, e3⟩ := hu (i - l.length) (by simp at a; omega) (by simp at b; omega)
   exact ⟨e1, e2, e3.map (fun _ h => h) hC⟩
theorem MgT.other {w : World} {S : Nat → Prop} {K : Nat} {v : Value} {l : List (List UInt8 × JV)} (h : MgT w S K v l) {a : Addr} (hv : v.ownBlock ≠ some a.block) (hZ : ∀ b, S b → b ≠ a.block) (u : Value) : MgT (w.setCell a u) S K v l := by
 obtain ⟨h0, xs, h1, h2, h3⟩ := h
 refine ⟨⟨fun b hb => ⟨by simpa [World.setCell] using (h0.1 b hb).1, (h0.1 b hb).2⟩, by simpa [World.setCell] using h0.2⟩, xs, ⟨ownsRow_setCell_other h1.1 hv u, h1.2⟩, h2, fun i a1 b1 => ⟨(h3 i a1 b1).1, (h3 i a1 b1).2.1, (h3 i a1 b1).2.2.map (fun _ h => h) (fun b o hb => ?_)⟩⟩
 unfold World.cell?
 rw [Below.heap_setCell _ _ _ _ (hZ b hb)]
theorem step_mT_lit {ops : Array Oper} {o : Oper} {a : Act} {w : World} {K : Act → World → Prop} {Q : Exit → Act → World → Prop} {E : Prop} {cs : Array Value}
  (hgd : o.guard = none) (s x : Operand) (ho : o.op = .call { callee := .builtin .append, args := #[s, x], argTypes := #[23, 23] })
  (S : Nat → Prop) (G : Nat) (v : Value) (l : List (List UInt8 × JV)) (hs : a.eval s = v) (hown : MgT w S G v l) (nm : List UInt8) (u : JV) (C : Option Addr) (f : Nat) (C' : Option Addr) (f' : Nat) (hcs : cs = #[.string ⟨nm.toArray⟩, .int .i64 u.kd, .int .i64 u.nm, .string ⟨u.tx.toArray⟩, .slice C u.ls.length f, .slice C' u.ms.length f']) (hnm : nm.length ≤ 140737488355328) (hu : InV w (S) u (vA u C f C' f')) (n m : Nat) (hx : a.eval x = .slice (some ⟨w.heap.size, 0, none⟩) n m) (hn : n = 1) (hm : m = 1) (h63 : (l.length + 1) * 96 ≤ 140737488355328)
  (h : ∀ v' w', MgT w' S G v' (l ++ [(nm, u)]) → (w.alloc (.cells cs 37)).grownBy w' v.ownBlock → (v'.ownBlock = v.ownBlock ∨ v'.ownBlock = some (w.heap.size + 1)) → K (a.put o.dst v') w') :
  if Region.wanted o (yielded ops a.tmps) = true then Oper.wp Tryz.prog o a (w.alloc (.cells cs 37)) K Q else E := by
 subst hn; subst hm
 have hw : Region.wanted o (yielded ops a.tmps) = true := by simp [Region.wanted, hgd]
 rw [if_pos hw]
 have hal := (Fr.refl w).alloc (.cells cs 37)
 have h0 := hown.1
 have hb := Blk.made w cs 37
 obtain ⟨v', w', hr, h3, h4, h6⟩ := run_mTk (w := w.alloc (.cells cs 37)) o.type S G v l (hown.keep hal) ⟨w.heap.size, 0, none⟩ 1 [(nm, u)] [(nm, vA u C f C' f')] rfl (fun p hp => by simp at hp; subst hp; exact five_vA _ _ _ _ _)
  (fun i h1 h2 => by
   obtain rfl : i = 0 := by simp at h1; omega
   exact ⟨rfl, hnm, hu.map (fun _ h => h) (fun b o hb => hal.cell (h0.1 b hb).1)⟩)
  (fun j y hy => by
   have e : mcs [(nm, vA u C f C' f')] = cs.toList := by subst hcs; simp [mcs, vA, Value.cells]
   rw [e] at hy
   have hj : (Addr.mk w.heap.size 0 none).add j = ⟨w.heap.size, j, none⟩ := by
    by_cases h0 : j = 0
    ·subst h0; simp [Addr.add]
    ·simp [Addr.add, h0]
   rw [hj, hb.cell j]
   simpa using hy) h63
 unfold Oper.wp execOp
 simp only [ho, resolve, invoke, builtin, Sem.run_bind, Sem.run_pure, Result.andThen_ok, List.map_toArray, List.map_cons, List.map_nil, hs, hx, List.length_singleton] at hr ⊢
 simp only [hr]
 exact h v' w' h3 h4 (by simpa using h6)

theorem wpl_mT_lit {ops : Array Oper} {rest : List Oper} {o : Oper} {a : Act} {w : World} {Q : Exit → Act → World → Prop} {cs : Array Value} {ad : Addr}
  (hgd : o.guard = none) (s x : Operand) (ho : o.op = .call { callee := .builtin .append, args := #[s, x], argTypes := #[23, 23] })
  (S : Nat → Prop) (K : Nat) (v : Value) (l : List (List UInt8 × JV)) (hs : a.eval s = v) (hown : MgT w S K v l) (nm : List UInt8) (u : JV) (C : Option Addr) (f : Nat) (C' : Option Addr) (f' : Nat) (hcs : cs = #[.string ⟨nm.toArray⟩, .int .i64 u.kd, .int .i64 u.nm, .string ⟨u.tx.toArray⟩, .slice C u.ls.length f, .slice C' u.ms.length f']) (hnm : nm.length ≤ 140737488355328) (hu : InV w S u (vA u C f C' f')) (hx : a.eval x = .slice (some ad) 1 1) (had : ad = ⟨w.heap.size, 0, none⟩) (h63 : (l.length + 1) * 96 ≤ 140737488355328)
  (h : ∀ v' w', MgT w' S K v' (l ++ [(nm, u)]) → (w.alloc (.cells cs 37)).grownBy w' v.ownBlock → (v'.ownBlock = v.ownBlock ∨ v'.ownBlock = some (w.heap.size + 1)) → wpList Tryz.prog ops Q rest (a.put o.dst v') w') :
  wpList Tryz.prog ops Q (o :: rest) a (w.alloc (.cells cs 37)) := by
 subst had
 have hal := (Fr.refl w).alloc (.cells cs 37)
 have h0 := hown.1
 refine wpList_plain hgd fun K2 hK => ?_
 have hb := Blk.made w cs 37
 obtain ⟨v', w', hr, h3, h4, h6⟩ := run_mTk (w := w.alloc (.cells cs 37)) o.type S K v l (hown.keep hal) ⟨w.heap.size, 0, none⟩ 1 [(nm, u)] [(nm, vA u C f C' f')] rfl (fun p hp => by simp at hp; subst hp; exact five_vA _ _ _ _ _)
  (fun i h1 h2 => by
   obtain rfl : i = 0 := by simp at h1; omega
   exact ⟨rfl, hnm, hu.map (fun _ h => h) (fun b o hb => hal.cell (h0.1 b hb).1)⟩)
  (fun j y hy => by
   have e : mcs [(nm, vA u C f C' f')] = cs.toList := by subst hcs; simp [mcs, vA, Value.cells]
   rw [e] at hy
   have hj : (Addr.mk w.heap.size 0 none).add j = ⟨w.heap.size, j, none⟩ := by
    by_cases h0 : j = 0
    ·subst h0; simp [Addr.add]
    ·simp [Addr.add, h0]
   rw [hj, hb.cell j]
   simpa using hy) h63
 unfold Oper.wp execOp
 simp only [ho, resolve, invoke, builtin, Sem.run_bind, Sem.run_pure, Result.andThen_ok, List.map_toArray, List.map_cons, List.map_nil, hs, hx, List.length_singleton] at hr ⊢
 simp only [hr]
 exact hK _ _ (h v' w' h3 h4 (by simpa using h6))
theorem mgt_fr {w a b : World} {S : Nat → Prop} {K : Nat} {v : Value} {l : List (List UInt8 × JV)} (hf : Fr w a) (hv : MgT a S K v l) (hK : w.heap.size ≤ K) (hg : a.grownBy b v.ownBlock) : Fr w b :=
 Below.grown hf hg hf.size (fun k hk => by have := (hv.own_lt hk).1; omega)
theorem MgT.more {w : World} {S S' : Nat → Prop} {K : Nat} {v : Value} {l : List (List UInt8 × JV)} (h : MgT w S K v l) (hS : ∀ b, S b → S' b) (hK : ∀ b, S' b → b < w.heap.size ∧ v.ownBlock ≠ some b) : MgT w S' K v l := by
 obtain ⟨h0, xs, h1, h2, h3⟩ := h
 exact ⟨⟨hK, h0.2⟩, xs, h1, h2, fun i a b => ⟨(h3 i a b).1, (h3 i a b).2.1, (h3 i a b).2.2.more hS⟩⟩
theorem MgT.le {w : World} {S : Nat → Prop} {K K' : Nat} {v : Value} {l : List (List UInt8 × JV)} (h : MgT w S K v l) (hle : K' ≤ K) : MgT w S K' v l := by
 obtain ⟨h0, xs, h1, h2⟩ := h
 exact ⟨⟨h0.1, Nat.le_trans hle h0.2⟩, xs, h1.le hle, h2⟩

theorem MgT.frx2 {w w' : World} {S : Nat → Prop} {X K : Nat} {v : Value} {l : List (List UInt8 × JV)} (h : MgT w S K v l) (hS : ∀ b, S b → b ≠ X) (hne : v.ownBlock ≠ some X) (hf : FrX X w w') : MgT w' S K v l := by
 obtain ⟨h0, xs, h1, h2, h3⟩ := h
 refine ⟨⟨fun b hb => ⟨Nat.lt_of_lt_of_le (h0.1 b hb).1 hf.size, (h0.1 b hb).2⟩, Nat.le_trans h0.2 hf.size⟩, xs, ⟨⟨h1.1.1, ?_⟩, h1.2⟩, h2, fun i a b => ⟨(h3 i a b).1, (h3 i a b).2.1, (h3 i a b).2.2.map (fun _ h => h) (fun b o hs => hf.cell (h0.1 b hs).1 (fun e => hS b hs e))⟩⟩
 rcases h1.1.2 with hn | ⟨g, cap, cur, rfl, hb, hg, rest⟩
 ·exact .inl hn
 ·exact .inr ⟨g, cap, cur, rfl, hb, (hf.blk (Array.getElem?_eq_some_iff.1 hg).1 (fun e => hne (by rw [← e]; rfl))).trans hg, rest⟩
theorem MgT.sblt {w : World} {S : Nat → Prop} {K : Nat} {v : Value} {l : List (List UInt8 × JV)} (h : MgT w S K v l) {b : Nat} (hb : S b) : b < w.heap.size := (h.1.1 b hb).1
theorem row_blk {w : World} {base n : Nat} {e : TypeId} {size : Nat} {v : Value} {xs : List Value} (h : w.ownsRow base e size v n xs) (h0 : 0 < n) : ∃ g cap cur, v = .slice (some ⟨g, 0, none⟩) n cap ∧ base ≤ g ∧ Blk w g cur e ∧ n * size ≤ cur.size := by
 obtain ⟨_, ⟨_, hn⟩ | ⟨g, cap, cur, hv, hb, hg, hc, hm, hs, ht⟩⟩ := h
 ·omega
 ·exact ⟨g, cap, cur, hv, hb, hg, by rw [hs]; exact Nat.mul_le_mul_right _ hc⟩
theorem MgT.blk {w : World} {S : Nat → Prop} {K n c : Nat} {A : Option Addr} {m : List (List UInt8 × JV)} (h : MgT w S K (.slice A n c) m) (h0 : 0 < m.length) : ∃ g cur, A = some ⟨g, 0, none⟩ ∧ K ≤ g ∧ Blk w g cur 37 ∧ m.length * 6 ≤ cur.size := by
 obtain ⟨_, xs, h1, h2, _⟩ := h
 obtain ⟨g, cap, cur, hv, hb, hg, hs⟩ := row_blk h1.1 (by omega)
 injection hv with e1 _ _
 exact ⟨g, cur, e1, hb, hg, by rw [← h2]; exact hs⟩
theorem FrX.grown2 {R : Nat} {w a b : World} {v : Value} (h : FrX R w a) (hg : a.grownBy b v.ownBlock) (hv : ∀ k, v.ownBlock = some k → w.heap.size ≤ k) : FrX R w b :=
 ⟨hg.os.trans (World.grownBy.os h), hg.tape.trans (World.grownBy.tape h), hg.output.trans (World.grownBy.output h), Nat.le_trans h.size hg.size, fun k hk hne => by
  rw [hg.block k (Nat.lt_of_lt_of_le hk h.size) (fun e => by have := hv k e.symm; omega)]
  exact World.grownBy.block h k hk hne⟩
def st5 (w : World) (X : Nat) (a b c d e : Value) : World := ((((w.setCell ⟨X, 0, none⟩ a).setCell ⟨X, 1, none⟩ b).setCell ⟨X, 2, none⟩ c).setCell ⟨X, 3, none⟩ d).setCell ⟨X, 4, none⟩ e
theorem st5_frx (w : World) (X : Nat) (a b c d e : Value) : FrX X w (st5 w X a b c d e) := (((((FrX.refl X w).setCell rfl _).setCell rfl _).setCell rfl _).setCell rfl _).setCell rfl _
theorem st5_fr {w W : World} (h : Fr w W) {X : Nat} (hX : w.heap.size ≤ X) (a b c d e : Value) : Fr w (st5 W X a b c d e) := ((((h.setCell (p := ⟨X, 0, none⟩) hX _).setCell (p := ⟨X, 1, none⟩) hX _).setCell (p := ⟨X, 2, none⟩) hX _).setCell (p := ⟨X, 3, none⟩) hX _).setCell (p := ⟨X, 4, none⟩) hX _
theorem st5_x {W : World} {X : Nat} {x0 x1 x2 x3 x4 : Value} {t : TypeId} (h : Blk W X #[x0, x1, x2, x3, x4] t) (a b c d e : Value) : Blk (st5 W X a b c d e) X #[a, b, c, d, e] t := ((((h.set 0 a).set 1 b).set 2 c).set 3 d).set 4 e
def MgN (w : World) (B K : Nat) (v : Value) (m : List (List UInt8 × JV)) : Prop := ∃ S : Nat → Prop, MgT w S K v m ∧ ∀ b, S b → B ≤ b
theorem MgN.none_ (w : World) {B K : Nat} (h : K ≤ w.heap.size) : MgN w B K (.slice none 0 0) [] := ⟨fun _ => False, MgT.none_ w ⟨fun _ h => h.elim, h⟩, fun _ h => h.elim⟩
theorem MgN.keep {w w' : World} {B K : Nat} {v : Value} {m : List (List UInt8 × JV)} (h : MgN w B K v m) (hf : Fr w w') : MgN w' B K v m := by
 obtain ⟨S, h1, h2⟩ := h
 exact ⟨S, h1.keep hf, h2⟩
theorem MgN.is_slice {w : World} {B K : Nat} {v : Value} {l : List (List UInt8 × JV)} (h : MgN w B K v l) : ∃ a c, v = .slice a l.length c := by
 obtain ⟨S, h1, _⟩ := h
 exact h1.is_slice
theorem MgN.own_lt {w : World} {B K : Nat} {v : Value} {l : List (List UInt8 × JV)} (h : MgN w B K v l) {k : Nat} (hk : v.ownBlock = some k) : K ≤ k ∧ k < w.heap.size := by
 obtain ⟨S, h1, _⟩ := h
 exact h1.own_lt hk
theorem MgN.blk {w : World} {B K n c : Nat} {A : Option Addr} {m : List (List UInt8 × JV)} (h : MgN w B K (.slice A n c) m) (h0 : 0 < m.length) : ∃ g cur, A = some ⟨g, 0, none⟩ ∧ K ≤ g ∧ Blk w g cur 37 ∧ m.length * 6 ≤ cur.size := by
 obtain ⟨S, h1, _⟩ := h
 exact h1.blk h0
theorem MgN.inV {w : World} {B K : Nat} {v : Value} {l : List (List UInt8 × JV)} (h : MgN w B K v l) (hB : B ≤ K) (h63 : l.length ≤ 140737488355328) : InV w (Be B w.heap.size) (JV.mapV l) (.agg #[.int .i64 6, .int .i64 0, .string ⟨#[]⟩, .slice none 0 0, v]) := by
 obtain ⟨S, h1, h2⟩ := h
 exact (h1.inV h63).more (fun b hb => by rcases hb with hb | hb; exact ⟨h2 b hb, (h1.1.1 b hb).1⟩; exact ⟨Nat.le_trans hB hb.1, hb.2⟩)
theorem MgN.with {w w' : World} {B K : Nat} {v : Value} {l : List (List UInt8 × JV)} (h : MgN w B K v l) (hf : Fr w w') (hB : B ≤ w.heap.size) : ∃ S : Nat → Prop, MgT w' S K v l ∧ (∀ b, S b → B ≤ b) ∧ ∀ b, Be w.heap.size w'.heap.size b → S b := by
 obtain ⟨S, h1, h2⟩ := h
 refine ⟨fun b => S b ∨ Be w.heap.size w'.heap.size b, (h1.keep hf).more (fun b hb => .inl hb) (fun b hb => ?_), fun b hb => ?_, fun b hb => .inr hb⟩
 ·rcases hb with hb | hb
  ·exact (h1.keep hf).1.1 b hb
  ·exact ⟨hb.2, fun e => by have := (h1.own_lt e).2; have := hb.1; omega⟩
 ·rcases hb with hb | hb
  ·exact h2 b hb
  ·exact Nat.le_trans hB hb.1
end Go.Proofs.YtgaiepficjiclaaGreatDoor
