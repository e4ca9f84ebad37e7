/- tree.Without: slices.DeleteFunc at members. -/
import Derived.Test.YtgaiepficjiclaaGreatDoorCpa
import Derived.Test.YtgaiepficjiclaaGreatDoorBka
import Derived.Laws.IdiomCopy
namespace Go.Proofs.YtgaiepficjiclaaGreatDoor
set_option maxRecDepth 100000
set_option maxHeartbeats 4000000
set_option linter.unusedVariables false
set_option linter.unusedSimpArgs false
open Go.RowKit

theorem Bk.wo_take {m : List (List UInt8 × JV)} {s : List UInt8} {i : Nat} (hi : i < m.length) : Bk.woM (m.take (i + 1)) s = Bk.woM (m.take i) s ++ (if m[i].1 = s then [] else [m[i]]) := by
 rw [List.take_succ_eq_append_getElem hi]
 unfold Bk.woM
 rw [List.filter_append]
 by_cases h : m[i].1 = s
 ·rw [if_pos h, List.filter_cons_of_neg (by simp [h])]; rfl
 ·rw [if_neg h, List.filter_cons_of_pos (by simp [h])]; rfl
theorem Bk.wo_all : ∀ {m : List (List UInt8 × JV)} {s : List UInt8}, (∀ y (hy : y < m.length), m[y].1 ≠ s) → Bk.woM m s = m := fun {m s} h => by
 unfold Bk.woM
 rw [List.filter_eq_self]
 intro p hp
 obtain ⟨y, hy, rfl⟩ := List.mem_iff_getElem.1 hp
 simpa using h y hy
theorem Bk.wo_len (m : List (List UInt8 × JV)) (s : List UInt8) : (Bk.woM m s).length ≤ m.length := List.length_filter_le _ _
theorem wo1_is (nt s : List UInt8) (u : JV) (C : Option Addr) (f : Nat) (C' : Option Addr) (f' : Nat) (X : Nat) (w : World) (hX : X < w.heap.size) (hc : w.cell? ⟨X, 0, none⟩ = some (.string ⟨s.toArray⟩)) (b : Bool) (hb : decide (nt = s) = b) :
  Calls Tryz.prog 39 #[.agg #[.string ⟨nt.toArray⟩, .int .i64 u.kd, .int .i64 u.nm, .string ⟨u.tx.toArray⟩, .slice C u.ls.length f, .slice C' u.ms.length f'], .pointer (some ⟨X, 0, none⟩)] w fun e w' => e = .returned (.bool b) ∧ Fr w w' := by
 have h2 : ((⟨nt.toArray⟩ : ByteArray).toList == (⟨s.toArray⟩ : ByteArray).toList) = b := by rw [bl_beq']; exact hb
 have h3 : (nt == s) = b := by rw [← hb, Bool.eq_iff_iff]; simp
 have hc2 := (((Fr.refl w).alloc (.cells #[.string ⟨nt.toArray⟩, .int .i64 u.kd, .int .i64 u.nm, .string ⟨u.tx.toArray⟩, .slice C u.ls.length f, .slice C' u.ms.length f'] 37)).cell (o := 0) hX).trans hc
 clear hb
 go_enter Tryz.func39, Tryz.ntmps39
 go_wp2_with fail
 go_ret
 exact ⟨rfl, (Fr.refl w).alloc _⟩
def MemC (W : World) (g o : Nat) (p : List UInt8 × JV) (O : Nat → Prop) : Prop := ∃ C f C' f', p.1.length ≤ 140737488355328 ∧ W.cell? ⟨g, o, none⟩ = some (.string ⟨p.1.toArray⟩) ∧ VC W g (o + 1) p.2 C f C' f' ∧ InV W O p.2 (vA p.2 C f C' f')
theorem MemC.to {W W' : World} {g o : Nat} {p : List UInt8 × JV} {O : Nat → Prop} (h : MemC W g o p O) (hc : ∀ j, j < 6 → W'.cell? ⟨g, o + j, none⟩ = W.cell? ⟨g, o + j, none⟩) (hO : ∀ b q, O b → W'.cell? ⟨b, q, none⟩ = W.cell? ⟨b, q, none⟩) : MemC W' g o p O := by
 obtain ⟨C, f, C', f', h0, h1, ⟨a0, a1, a2, a3, a4⟩, h3⟩ := h
 exact ⟨C, f, C', f', h0, (hc 0 (by omega)).trans h1, ⟨(hc 1 (by omega)).trans a0, (hc 2 (by omega)).trans a1, (hc 3 (by omega)).trans a2, (hc 4 (by omega)).trans a3, (hc 5 (by omega)).trans a4⟩, h3.map (fun _ h => h) hO⟩
def st6g (w : World) (g o : Nat) (u0 u1 u2 u3 u4 u5 : Value) : World := (((((w.setCell ⟨g, o, none⟩ u0).setCell ⟨g, o + 1, none⟩ u1).setCell ⟨g, o + 2, none⟩ u2).setCell ⟨g, o + 3, none⟩ u3).setCell ⟨g, o + 4, none⟩ u4).setCell ⟨g, o + 5, none⟩ u5
theorem st6g_frx (w : World) (g o : Nat) (u0 u1 u2 u3 u4 u5 : Value) : FrX g w (st6g w g o u0 u1 u2 u3 u4 u5) := ((((((FrX.refl g w).setCell rfl _).setCell rfl _).setCell rfl _).setCell rfl _).setCell rfl _).setCell rfl _
theorem st6g_blk {w : World} {g o : Nat} {cur : Array Value} {T : TypeId} (h : Blk w g cur T) (u0 u1 u2 u3 u4 u5 : Value) (ho : o + 5 < cur.size) : ∃ cur', Blk (st6g w g o u0 u1 u2 u3 u4 u5) g cur' T ∧ cur'.size = cur.size ∧ (cur'[o]? = some u0 ∧ cur'[o + 1]? = some u1 ∧ cur'[o + 2]? = some u2 ∧ cur'[o + 3]? = some u3 ∧ cur'[o + 4]? = some u4 ∧ cur'[o + 5]? = some u5) ∧ ∀ p, (∀ j, j < 6 → p ≠ o + j) → cur'[p]? = cur[p]? := by
 refine ⟨_, (((((h.set o u0).set (o + 1) u1).set (o + 2) u2).set (o + 3) u3).set (o + 4) u4).set (o + 5) u5, by simp, ?_, fun p hp => ?_⟩
 ·refine ⟨?_, ?_, ?_, ?_, ?_, ?_⟩ <;> simp [Array.getElem?_setIfInBounds] <;> omega
 ·have h0 := hp 0 (by omega)
  have h1 := hp 1 (by omega)
  have h2 := hp 2 (by omega)
  have h3 := hp 3 (by omega)
  have h4 := hp 4 (by omega)
  have h5 := hp 5 (by omega)
  rw [Array.getElem?_setIfInBounds_ne (by omega), Array.getElem?_setIfInBounds_ne (by omega), Array.getElem?_setIfInBounds_ne (by omega), Array.getElem?_setIfInBounds_ne (by omega), Array.getElem?_setIfInBounds_ne (by omega), Array.getElem?_setIfInBounds_ne (by omega)]
structure DfI (W : World) (g : Nat) (m kp : List (List UInt8 × JV)) (O : Nat → Prop) (i : Nat) : Prop where
 blk : ∃ cur, Blk W g cur 37 ∧ m.length * 6 ≤ cur.size
 kept : ∀ k (h : k < kp.length), MemC W g (k * 6) kp[k] O
 rest : ∀ k (h : k < m.length), i ≤ k → MemC W g (k * 6) m[k] O
theorem DfI.start {W : World} {g : Nat} {m : List (List UInt8 × JV)} {S O : Nat → Prop} (h : CqI W g m S O 0) (i : Nat) : DfI W g m (m.take i) O i :=
 have hat : ∀ k (h : k < m.length), MemC W g (k * 6) m[k] O := fun k hk => by
  obtain ⟨C, f, C', f', h1, h2, h3, h4⟩ := h.at_ k hk
  rw [if_neg (Nat.not_lt_zero k)] at h4
  exact ⟨C, f, C', f', h1, h2, h3, h4⟩
 ⟨h.blk, fun k hk => by rw [List.getElem_take]; exact hat k (by rw [List.length_take] at hk; omega), fun k hk _ => hat k hk⟩
theorem DfI.keep {W W' : World} {g : Nat} {m kp : List (List UInt8 × JV)} {O : Nat → Prop} {i : Nat} (h : DfI W g m kp O i) (hf : Fr W W') (hO : ∀ b, O b → b < W.heap.size) : DfI W' g m kp O i := by
 obtain ⟨⟨cur, hb, hz⟩, h2, h3⟩ := h
 exact ⟨⟨cur, hb.keep hf, hz⟩, fun k hk => (h2 k hk).to (fun j _ => hf.cell hb.lt) (fun b q hq => hf.cell (hO b hq)), fun k hk hi => (h3 k hk hi).to (fun j _ => hf.cell hb.lt) (fun b q hq => hf.cell (hO b hq))⟩
theorem DfI.next {W : World} {g : Nat} {m kp : List (List UInt8 × JV)} {O : Nat → Prop} {i : Nat} (h : DfI W g m kp O i) : DfI W g m kp O (i + 1) := ⟨h.blk, h.kept, fun k hk hi => h.rest k hk (by omega)⟩
theorem DfI.step {W : World} {g : Nat} {m kp : List (List UInt8 × JV)} {O : Nat → Prop} {i j : Nat} (h : DfI W g m kp O i) (hi : i < m.length) (hj : kp.length = j) (hk : j ≤ i) (hO : ∀ b, O b → b ≠ g) (hOl : ∀ b, O b → b < W.heap.size) {nt : List UInt8} {u : JV} (he : m[i] = (nt, u)) (hn : nt.length ≤ 140737488355328) {C : Option Addr} {f : Nat} {C' : Option Addr} {f' : Nat} (hx : InV W O u (vA u C f C' f')) :
  DfI (st6g W g (j * 6) (.string ⟨nt.toArray⟩) (.int .i64 u.kd) (.int .i64 u.nm) (.string ⟨u.tx.toArray⟩) (.slice C u.ls.length f) (.slice C' u.ms.length f')) g m (kp ++ [(nt, u)]) O (i + 1) := by
 obtain ⟨⟨cur, hb, hz⟩, h2, h3⟩ := h
 obtain ⟨cur', hb', hz', ⟨c0, c1, c2, c3, c4, c5⟩, hot⟩ := st6g_blk hb (.string ⟨nt.toArray⟩) (.int .i64 u.kd) (.int .i64 u.nm) (.string ⟨u.tx.toArray⟩) (.slice C u.ls.length f) (.slice C' u.ms.length f') (o := j * 6) (by omega)
 have hfx := st6g_frx W g (j * 6) (.string ⟨nt.toArray⟩) (.int .i64 u.kd) (.int .i64 u.nm) (.string ⟨u.tx.toArray⟩) (.slice C u.ls.length f) (.slice C' u.ms.length f')
 generalize st6g W g (j * 6) (.string ⟨nt.toArray⟩) (.int .i64 u.kd) (.int .i64 u.nm) (.string ⟨u.tx.toArray⟩) (.slice C u.ls.length f) (.slice C' u.ms.length f') = W9 at hb' hfx ⊢
 have hcc : ∀ k, k ≠ j → ∀ t, t < 6 → W9.cell? ⟨g, k * 6 + t, none⟩ = W.cell? ⟨g, k * 6 + t, none⟩ := fun k hk t ht => by
  rw [hb'.cell, hb.cell, hot _ (fun q hq => by omega)]
 have hoo : ∀ b q, O b → W9.cell? ⟨b, q, none⟩ = W.cell? ⟨b, q, none⟩ := fun b q hq => by
  exact hfx.cell (hOl b hq) (hO b hq)
 refine ⟨⟨cur', hb', by omega⟩, fun k hk2 => ?_, fun k hk2 hik => (h3 k hk2 (by omega)).to (hcc k (by omega)) hoo⟩
 rw [List.length_append, List.length_singleton] at hk2
 by_cases hkj : k < kp.length
 ·rw [List.getElem_append_left hkj]
  exact (h2 k hkj).to (hcc k (by omega)) hoo
 ·obtain rfl : k = j := by omega
  rw [List.getElem_append_right (by omega)]
  simp only [List.getElem_singleton]
  exact ⟨C, f, C', f', hn, (hb'.cell _).trans c0, ⟨(hb'.cell _).trans c1, (hb'.cell _).trans c2, (hb'.cell _).trans c3, (hb'.cell _).trans c4, (hb'.cell _).trans c5⟩, hx.map (fun _ h => h) hoo⟩
theorem DfI.msC {W : World} {g : Nat} {m kp : List (List UInt8 × JV)} {O S : Nat → Prop} {i : Nat} (h : DfI W g m kp O i) (hg : S g) (hO : ∀ b, O b → S b) : MsC W S (some ⟨g, 0, none⟩) kp := fun k hk => by
 obtain ⟨C, f, C', f', h0, h1, h2, h3⟩ := h.kept k hk
 exact ⟨g, 0, C, f, C', f', rfl, hg, h0, by rw [Nat.zero_add]; exact h1, by rw [Nat.zero_add]; exact h2, h3.more hO⟩
theorem MsB.cap {w : World} {Z K n c : Nat} {A : Option Addr} {m : List (List UInt8 × JV)} (h : MsB w Z K (.slice A n c) m) : m.length ≤ c := by
 obtain ⟨_, xs, hvb, hlen, _⟩ := h
 obtain ⟨_, ⟨hv, hn⟩ | ⟨g, cap, cur, hv, hb, hg, hc, hm, hs, ht⟩⟩ := hvb.1
 ·omega
 ·injection hv with _ _ e
  omega
theorem idxwo_is (m : List (List UInt8 × JV)) (A : Option Addr) (c X : Nat) (s : List UInt8) (w : World) (Z : Nat) (hZ : Z ≤ w.heap.size) (h : MsC w (Lo Z) A m) (hl : m.length ≤ 140737488355328) (hX : X < w.heap.size) (hc : w.cell? ⟨X, 0, none⟩ = some (.string ⟨s.toArray⟩)) :
  Calls Tryz.prog 53 #[.slice A m.length c, (Value.func (.func 39) #[] #[.pointer (some ⟨X, 0, none⟩)])] w fun e w' => (((∀ y (hy : y < m.length), m[y].1 ≠ s) ∧ e = .returned (.int .i64 (-1))) ∨ ∃ i : Nat, ∃ hi : i < m.length, (∀ y (hy : y < m.length), y < i → m[y].1 ≠ s) ∧ m[i].1 = s ∧ e = .returned (.int .i64 i)) ∧ Fr w w' := by
 have HP := Lib.hid h
 have hl' : (m.length : Int) ≤ 140737488355328 := by omega
 have HW : Hid (∀ W, Fr w W → ∀ nt (u : JV) C f C' f' b, decide (nt = s) = b → Calls Tryz.prog 39 #[.agg #[.string ⟨nt.toArray⟩, .int .i64 u.kd, .int .i64 u.nm, .string ⟨u.tx.toArray⟩, .slice C u.ls.length f, .slice C' u.ms.length f'], .pointer (some ⟨X, 0, none⟩)] W fun e w' => e = .returned (.bool b) ∧ Fr W w') := Lib.hid (fun W hW nt u C f C' f' b hb => wo1_is nt s u C f C' f' X W (Nat.lt_of_lt_of_le hX hW.size) ((hW.cell hX).trans hc) b hb)
 clear h hX hc
 go_enter Tryz.func53, Tryz.ntmps53
 go_wp2_with fail
 go_loopw [8] (fun j wr => ∃ (i : Nat), i ≤ m.length ∧ j = .int .i64 i ∧ Hid (∀ y (hy : y < m.length), y < i → m[y].1 ≠ s) ∧ Hid (Fr w wr)) (fun j _ => m.length - (intOf j).toNat)
 case atStart => exact ⟨0, by omega, rfl, Lib.hid (fun y _ h => absurd h (by omega)), Lib.hid (Fr.refl w)⟩
 case round =>
  obtain ⟨i, hi, rfl, hO, hF⟩ := hrel
  by_cases hlt : i < m.length
  ·have hlt' : (i : Int) < (m.length : Int) := by omega
   obtain ⟨b, o, C, e, C', e', rfl, hb, hnl, c0, ⟨c1, c2, c3, c4, c5⟩, hu⟩ := (HP.out.keep hZ hF.out) i hlt
   obtain ⟨q, hq⟩ : ∃ q, m[i].1 = q := ⟨_, rfl⟩
   obtain ⟨u, hxu⟩ : ∃ u, m[i].2 = u := ⟨_, rfl⟩
   rw [hq] at c0
   rw [hxu] at c1 c2 c3 c4 c5
   obtain ⟨cb, hcb⟩ : ∃ cb, decide (q = s) = cb := ⟨_, rfl⟩
   have HCB := Lib.hid hcb
   have HQ := Lib.hid hq
   clear hb hcb hq hxu hu hnl
   cases cb
   ·go_wp2_with (go_at_call 39; refine (HW.out _ hF.out _ _ _ _ _ _ _ HCB.out).mono ?_; rintro e w1 ⟨rfl, hf⟩; have HF1 := Lib.hid (hF.out.trans hf); clear hf)
    exact ⟨⟨i + 1, by omega, by go_num, Lib.hid (fun y hy hyt => by
     by_cases e : y = i
     ·subst e; rw [HQ.out]; exact of_decide_eq_false HCB.out
     ·exact hO.out y hy (by omega)), HF1⟩, by simp [intOf]; omega⟩
   ·go_wp2_with (go_at_call 39; refine (HW.out _ hF.out _ _ _ _ _ _ _ HCB.out).mono ?_; rintro e w1 ⟨rfl, hf⟩; have HF1 := Lib.hid (hF.out.trans hf); clear hf)
    go_ret
    exact ⟨.inr ⟨i, hlt, hO.out, by rw [HQ.out]; exact of_decide_eq_true HCB.out, rfl⟩, HF1.out⟩
  ·obtain rfl : i = m.length := by omega
   go_wp2_with fail
   go_ret
   exact ⟨.inl ⟨fun y hy => hO.out y hy hy, rfl⟩, hF.out⟩
def z6 : List Value := [.string ⟨#[]⟩, .int .i64 0, .int .i64 0, .string ⟨#[]⟩, .slice none 0 0, .slice none 0 0]
def zs6 : Nat → List Value
 | 0 => []
 | n + 1 => z6 ++ zs6 n
theorem zs6_len : ∀ n, (zs6 n).length = n * 6
 | 0 => rfl
 | n + 1 => by unfold zs6; rw [List.length_append, zs6_len n]; show 6 + n * 6 = _; omega
theorem zs6_at : ∀ (n i : Nat), i < n * 6 → (zs6 n)[i]? = z6[i % 6]?
 | 0, i, h => by omega
 | n + 1, i, h => by
  unfold zs6
  by_cases h6 : i < 6
  ·rw [List.getElem?_append_left (by show i < 6; exact h6), Nat.mod_eq_of_lt h6]
  ·rw [List.getElem?_append_right (by show 6 ≤ i; omega)]
   show (zs6 n)[i - 6]? = _
   rw [zs6_at n (i - 6) (by omega)]
   congr 1
   omega
theorem zs6_one (n : Nat) : ∀ v ∈ zs6 n, v.oneCell' = true := by
 induction n with
 | zero => intro v hv; cases hv
 | succ n ih =>
  intro v hv
  rcases List.mem_append.1 hv with hv | hv
  ·simp [z6] at hv
   rcases hv with rfl | rfl | rfl | rfl <;> rfl
  ·exact ih v hv
theorem run_clear_m (w : World) (ty : TypeId) (g o n c : Nat) (hn : 0 < n) (hc : ∀ j, j < n * 6 → (w.cell? ⟨g, o + j, none⟩).isSome = true) (hf : ∀ j, j < n * 6 → w.frozen? ⟨g, o + j, none⟩ = false) :
  (Builtin.clear_ #[23] ty #[.slice (some ⟨g, o, none⟩) n c]).run Tryz.prog w = .ok (.tuple #[]) (w.setCells g o (zs6 n)) := by
 have hzc : (Builtin.zeroCells z6.toArray n).toList = zs6 n := by
  apply List.ext_getElem?
  intro i
  by_cases hi : i < n * 6
  ·rw [zs6_at n i hi]
   have h6 : i % 6 < 6 := Nat.mod_lt _ (by omega)
   unfold Builtin.zeroCells
   simp [z6, Nat.mul_comm, hi, Array.getElem?_ofFn]
   rw [List.getElem?_eq_getElem (by exact h6)]; rfl
  ·rw [List.getElem?_eq_none (by simp [Builtin.zeroCells, z6]; omega), List.getElem?_eq_none (by rw [zs6_len]; omega)]
 have hst := run_storeCells_cells (P := Tryz.prog) g o (zs6 n) 0 w (by simpa [zs6_len] using hc) (by simpa [zs6_len] using hf) (zs6_one n)
 simp only [Nat.add_zero] at hst
 have ht : Tryz.prog.underlying 23 = some (.slice 37) := Tryz.underlying23
 have hv : ∀ W, (zeroValue 37).run Tryz.prog W = .ok (.agg z6.toArray) W := fun W => by kernel_rfl
 obtain ⟨k, rfl⟩ : ∃ k, n = k + 1 := ⟨n - 1, by omega⟩
 simp [Builtin.clear_, run_underlying ht, hv, Value.cells, hzc, hst]
theorem setCells_frx (g : Nat) : ∀ (vs : List Value) (o : Nat) (w : World), FrX g w (w.setCells g o vs)
 | [], _, w => FrX.refl g w
 | v :: r, o, w => ((FrX.refl g w).setCell (p := ⟨g, o, none⟩) rfl v).trans (setCells_frx g r (o + 1) _)
theorem boxz2 {w : World} {o1 o2 : Obj} {cs : Array Value} {T : TypeId} (h : Blk (((w.alloc o1).alloc o2).alloc (.cells cs T)) ((w.alloc o1).alloc o2).heap.size cs T) : Blk (((w.alloc o1).alloc o2).alloc (.cells cs T)) (w.heap.size + 1 + 1) cs T := by
 have e : ((w.alloc o1).alloc o2).heap.size = w.heap.size + 1 + 1 := (show ((w.alloc o1).alloc o2).heap.size = (w.alloc o1).heap.size + 1 from Array.size_push _).trans (congrArg (· + 1) (show (w.alloc o1).heap.size = w.heap.size + 1 from Array.size_push _))
 rwa [e] at h
theorem delM_is (m : List (List UInt8 × JV)) (A : Option Addr) (c X : Nat) (s : List UInt8) (w : World) (Z K : Nat) (h : MsB w Z K (.slice A m.length c) m) (hl : m.length ≤ 1048576) (hX : X < K) (hc : w.cell? ⟨X, 0, none⟩ = some (.string ⟨s.toArray⟩)) :
  Calls Tryz.prog 38 #[.slice A m.length c, (Value.func (.func 39) #[] #[.pointer (some ⟨X, 0, none⟩)])] w fun e w' => (∃ A' c', e = .returned (.slice A' (Bk.woM m s).length c') ∧ MsC w' (fun b => b < Z ∨ Be K w'.heap.size b) A' (Bk.woM m s)) ∧ Below K w w' := by
 have hK := h.1
 have hXw : X < w.heap.size := by omega
 have hcap := h.cap
 have hin := h.inV (by omega)
 obtain ⟨A1, c1, A1', c1', he, _, hms⟩ := hin.open_
 have hA : A = A1' := by obtain ⟨_, _, _, _, e4⟩ := five he; injection e4
 subst hA
 replace hms : MsC w (fun b => b < Z ∨ (K ≤ b ∧ b < w.heap.size)) A m := hms
 have hml : MsC w (Lo w.heap.size) A m := hms.map (fun b hb => by show b < _; omega) (fun _ _ _ => rfl)
 have HIX := Lib.hid (idxwo_is m A c X s w w.heap.size (Nat.le_refl _) hml (by omega) hXw hc)
 by_cases hno : ∀ y (hy : y < m.length), m[y].1 ≠ s
 ·have HW : Hid (Bk.woM m s = m) := Lib.hid (Bk.wo_all hno)
  have HMS := Lib.hid hms
  have HIN : Hid (Calls Tryz.prog 53 #[.slice A m.length c, (Value.func (.func 39) #[] #[.pointer (some ⟨X, 0, none⟩)])] w fun e w' => e = .returned (.int .i64 (-1)) ∧ Fr w w') := Lib.hid (HIX.out.mono (by
   rintro e w' ⟨⟨_, he⟩ | ⟨i, hi, _, hs, _⟩, hf⟩
   ·exact ⟨he, hf⟩
   ·exact absurd hs (hno i hi)))
  clear h hin he hms hml hno HIX hc
  go_enter Tryz.func38, Tryz.ntmps38
  go_wp2_with (go_at_call 53; refine HIN.out.mono ?_; rintro e w1 ⟨rfl, hf⟩; have HF1 := Lib.hid hf; clear hf)
  go_ret
  refine ⟨⟨A, c, by rw [HW.out]; rfl, ?_⟩, HF1.out.mono hK.2⟩
  rw [HW.out]
  exact HMS.out.map (fun b hb => by have := HF1.out.size; rcases hb with hb | hb; exact .inl hb; exact .inr ⟨hb.1, by omega⟩) (fun b o hb => HF1.out.cell (by omega))
 ·obtain ⟨i0, hi0, hfi, hsi⟩ : ∃ i : Nat, ∃ hi : i < m.length, (∀ y (hy : y < m.length), y < i → m[y].1 ≠ s) ∧ m[i].1 = s := by
   rcases Classical.em (∃ i : Nat, ∃ hi : i < m.length, (∀ y (hy : y < m.length), y < i → m[y].1 ≠ s) ∧ m[i].1 = s) with h1 | h1
   ·exact h1
   ·refine absurd (fun y => ?_) hno
    induction y using Nat.strongRecOn with
    | _ y ih => exact fun hy hs => h1 ⟨y, hy, fun z hz hzy => ih z hzy hz, hs⟩
  have HIN : Hid (Calls Tryz.prog 53 #[.slice A m.length c, (Value.func (.func 39) #[] #[.pointer (some ⟨X, 0, none⟩)])] w fun e w' => e = .returned (.int .i64 (i0 : Nat)) ∧ Fr w w') := Lib.hid (HIX.out.mono (by
   rintro e w' ⟨⟨hn, _⟩ | ⟨i, hi, hf2, hs, he⟩, hf⟩
   ·exact absurd hsi (hn i0 hi0)
   ·refine ⟨?_, hf⟩
    rcases Nat.lt_trichotomy i i0 with h1 | h1 | h1
    ·exact absurd hs (hfi i hi h1)
    ·subst h1; exact he
    ·exact absurd hsi (hf2 i0 hi0 h1)))
  have hm0 : 0 < m.length := by omega
  obtain ⟨g, rfl, hgK, hcq⟩ := h.cq hm0 (fun _ => False)
  obtain ⟨cur0, hb0, hz0⟩ := hcq.blk
  have hgw := hb0.lt
  have hXg : X ≠ g := by omega
  have HD0 : Hid (∀ W, Fr w W → DfI W g m (m.take i0) (Lo Z) i0) := Lib.hid (fun W hW => (DfI.start hcq i0).keep hW (fun b hb => by have : b < Z := hb; omega))
  have HK0 : Hid (Bk.woM (m.take (i0 + 1)) s = m.take i0) := Lib.hid (by
   rw [Bk.wo_take hi0, if_pos hsi, List.append_nil]
   exact Bk.wo_all (fun y hy => by rw [List.getElem_take]; rw [List.length_take] at hy; exact hfi y (by omega) (by omega)))
  have HC := Lib.hid hc
  have hLZ : ∀ b, Lo Z b → b ≠ g := fun b hb e => by have : b < Z := hb; omega
  have hi0' : (i0 : Int) < (m.length : Int) := by omega
  have hl' : (m.length : Int) ≤ 1048576 := by omega
  have hne1 : ((i0 : Int) == -1) = false := by rw [beq_eq_false_iff_ne]; omega
  have hcap' : (m.length : Int) ≤ (c : Int) := by omega
  clear h hin he hms hml hno HIX hc hcq hfi hsi hb0 hz0
  go_enter Tryz.func38, Tryz.ntmps38
  go_upto_region 5 with (go_at_call 53; refine HIN.out.mono ?_; rintro e w1 ⟨rfl, hf⟩; have HF1 := Lib.hid hf; clear hf)
  go_loopw [5, 6] (fun jv iv wr => ∃ (j i : Nat) (kp : List (List UInt8 × JV)), Hid (kp.length = j) ∧ j < i ∧ i ≤ m.length ∧ jv = .int .i64 j ∧ iv = .int .i64 i ∧ Hid (FrX g w1 wr) ∧ Hid (DfI wr g m kp (Lo Z) i) ∧ Hid (Bk.woM (m.take i) s = kp)) (fun _ iv _ => m.length - (intOf iv).toNat)
  case atStart =>
   exact ⟨i0, i0 + 1, m.take i0, Lib.hid (by rw [List.length_take]; omega), by omega, by omega, rfl, by go_num, Lib.hid (FrX.refl g w1), Lib.hid (HD0.out w1 HF1.out).next, HK0⟩
  case round =>
   obtain ⟨j, i, kp, hjk, hji, hi, rfl, rfl, hX1, hD, hKp⟩ := hrel
   have hsz := hX1.out.size
   have hs1 := HF1.out.size
   have hcx : wr.cell? ⟨X, 0, none⟩ = some (.string ⟨s.toArray⟩) := ((hX1.out.cell (by omega) hXg).trans (HF1.out.cell hXw)).trans HC.out
   by_cases hlt : i < m.length
   ·have hlt' : (i : Int) < (m.length : Int) := by omega
    have hji' : (j : Int) < (m.length : Int) := by omega
    have hji2 : j < m.length := by omega
    obtain ⟨C, f, C', f', hnl, c0, ⟨c1, c2, c3, c4, c5⟩, hu⟩ := hD.out.rest i hlt (Nat.le_refl _)
    have hnx := Bk.wo_take (s := s) hlt
    obtain ⟨pu, hpu⟩ : ∃ pu, m[i] = pu := ⟨_, rfl⟩
    rw [hpu] at hnl c0 c1 c2 c3 c4 c5 hu hnx
    obtain ⟨nt, u⟩ := pu
    simp only at hnl c0 c1 c2 c3 c4 c5 hu hnx
    rw [hKp.out] at hnx
    obtain ⟨cb, hcb⟩ : ∃ cb, decide (nt = s) = cb := ⟨_, rfl⟩
    have HPU := Lib.hid hpu
    have HNL := Lib.hid hnl
    have HNX := Lib.hid hnx
    have HU := Lib.hid hu
    have HCB := Lib.hid hcb
    clear hnx hcb hpu hnl hu
    go_upto_region 8 with fail
    have hb8 := Blk.made wr #[.string ⟨nt.toArray⟩, .int .i64 u.kd, .int .i64 u.nm, .string ⟨u.tx.toArray⟩, .slice C u.ls.length f, .slice C' u.ms.length f'] 37
    have hf8 : Fr wr (wr.alloc (.cells #[.string ⟨nt.toArray⟩, .int .i64 u.kd, .int .i64 u.nm, .string ⟨u.tx.toArray⟩, .slice C u.ls.length f, .slice C' u.ms.length f'] 37)) := (Fr.refl wr).alloc _
    have hc8 := (hf8.cell (o := 0) (by omega)).trans hcx
    generalize (wr.alloc (.cells #[.string ⟨nt.toArray⟩, .int .i64 u.kd, .int .i64 u.nm, .string ⟨u.tx.toArray⟩, .slice C u.ls.length f, .slice C' u.ms.length f'] 37)) = W8 at hb8 hf8 hc8 ⊢
    have hXg8 : wr.heap.size ≠ g := by omega
    have hX8 : X < W8.heap.size := by have := hf8.size; omega
    generalize wr.heap.size = X8 at hb8 hXg8 ⊢
    obtain ⟨⟨m0, m1, m2, m3, m4, m5⟩, _⟩ := box6 hb8
    have HB8 := Lib.hid hb8
    have HF8 := Lib.hid hf8
    have HW1 := Lib.hid (wo1_is nt s u C f C' f' X W8 hX8 hc8 cb HCB.out)
    clear hb8 hf8 hc8 c0 c1 c2 c3 c4 c5 hcx
    cases cb
    ·have hns : ¬ nt = s := of_decide_eq_false HCB.out
     rw [if_neg hns] at HNX
     have HNS := Lib.hid hns
     clear hns
     go_upto_region 9 with (go_at_call 39; refine HW1.out.mono ?_; rintro e w9 ⟨rfl, hf⟩; have hb9 := HB8.out.keep hf; obtain ⟨⟨n0, n1, n2, n3, n4, n5⟩, _⟩ := box6 hb9; have HF9 := Lib.hid (HF8.out.trans hf); clear hf hb9)
     clear m0 m1 m2 m3 m4 m5
     have hd9 := hD.out.keep HF9.out (fun b hb => by have : b < Z := hb; omega)
     obtain ⟨cur9, hk9, hz9⟩ := hd9.blk
     have q0 := hk9.cell (j * 6)
     have q1 := hk9.cell (j * 6 + 1)
     have q2 := hk9.cell (j * 6 + 2)
     have q3 := hk9.cell (j * 6 + 3)
     have q4 := hk9.cell (j * 6 + 4)
     have q5 := hk9.cell (j * 6 + 5)
     rw [Array.getElem?_eq_getElem (by omega)] at q0 q1 q2 q3 q4 q5
     have r0 := hk9.free (j * 6)
     have r1 := hk9.free (j * 6 + 1)
     have r2 := hk9.free (j * 6 + 2)
     have r3 := hk9.free (j * 6 + 3)
     have r4 := hk9.free (j * 6 + 4)
     have r5 := hk9.free (j * 6 + 5)
     have hst := hd9.step hlt hjk.out (by omega) hLZ (fun b hb => by have : b < Z := hb; have := HF9.out.size; omega) HPU.out HNL.out (HU.out.map (fun _ h => h) (fun b q hb => HF9.out.cell (by have : b < Z := hb; omega)))
     have HST := Lib.hid hst
     have HFX := Lib.hid ((hX1.out.fr HF9.out).trans (st6g_frx w9 g (j * 6) (.string ⟨nt.toArray⟩) (.int .i64 u.kd) (.int .i64 u.nm) (.string ⟨u.tx.toArray⟩) (.slice C u.ls.length f) (.slice C' u.ms.length f')))
     clear hst hd9 hk9
     go_wp2_with fail
     exact ⟨⟨j + 1, i + 1, kp ++ [(nt, u)], Lib.hid (by simp [hjk.out]), by omega, by omega, by go_num, by go_num, HFX, HST, HNX⟩, by simp [intOf]; omega⟩
    ·have hns : nt = s := of_decide_eq_true HCB.out
     rw [if_pos hns, List.append_nil] at HNX
     have HNS := Lib.hid hns
     clear hns
     go_wp2_with (go_at_call 39; refine HW1.out.mono ?_; rintro e w9 ⟨rfl, hf⟩; have HF9 := Lib.hid (HF8.out.trans hf); clear hf)
     exact ⟨⟨j, i + 1, kp, hjk, by omega, by omega, rfl, by go_num, Lib.hid (hX1.out.fr HF9.out), Lib.hid (hD.out.keep HF9.out (fun b hb => by have : b < Z := hb; omega)).next, HNX⟩, by simp [intOf]; omega⟩
   ·obtain rfl : i = m.length := by omega
    have hkp : Bk.woM m s = kp := by have := hKp.out; rwa [List.take_length] at this
    have hjm' : (j : Int) ≤ (m.length : Int) := by omega
    have hjc : (j : Int) ≤ (c : Int) := by omega
    obtain ⟨cur9, hk9, hz9⟩ := hD.out.blk
    have hcl : ∀ ty, (Builtin.clear_ #[23] ty #[.slice (some ⟨g, j * 6, none⟩) (m.length - j) (c - j)]).run Tryz.prog wr = .ok (.tuple #[]) (wr.setCells g (j * 6) (zs6 (m.length - j))) := fun ty => run_clear_m wr ty g (j * 6) (m.length - j) (c - j) (by omega) (fun t ht => by rw [hk9.cell, Array.getElem?_eq_getElem (by omega)]; rfl) (fun t ht => hk9.free _)
    have HKP := Lib.hid hkp
    have HK9 := Lib.hid hk9
    clear hkp hk9
    go_wp2_with fail
    go_ret
    have hfx := setCells_frx g (zs6 (m.length - j)) (j * 6) wr
    have hjk2 := hjk.out
    have hb1 : Below K w wr := Below.trans (HF1.out.mono hK.2) ((hX1.out.below (by omega)).mono hgK)
    refine ⟨⟨_, c, by rw [HKP.out, hjk2]; rfl, ?_⟩, Below.trans hb1 ((hfx.below (by omega)).mono hgK)⟩
    rw [HKP.out]
    have hout : ∀ b o, b ≠ g → (wr.setCells g (j * 6) (zs6 (m.length - j))).cell? ⟨b, o, none⟩ = wr.cell? ⟨b, o, none⟩ := fun b o hb => World.cell?_setCells_out g _ _ _ _ (fun e => absurd e hb)
    intro k hk
    obtain ⟨C, f, C', f', h0, h1, ⟨a0, a1, a2, a3, a4⟩, h3⟩ := hD.out.kept k hk
    have hin : ∀ t, t < 6 → (wr.setCells g (j * 6) (zs6 (m.length - j))).cell? ⟨g, k * 6 + t, none⟩ = wr.cell? ⟨g, k * 6 + t, none⟩ := fun t ht => World.cell?_setCells_out g _ _ _ _ (fun _ _ => .inl (by show k * 6 + t < j * 6; omega))
    exact ⟨g, 0, C, f, C', f', rfl, .inr ⟨hgK, by have := hfx.size; omega⟩, h0, by rw [Nat.zero_add]; exact (hin 0 (by omega)).trans h1, by rw [Nat.zero_add]; exact ⟨(hin 1 (by omega)).trans a0, (hin 2 (by omega)).trans a1, (hin 3 (by omega)).trans a2, (hin 4 (by omega)).trans a3, (hin 5 (by omega)).trans a4⟩, h3.map (fun b hb => .inl hb) (fun b o hb => hout b o (hLZ b hb))⟩
theorem without_is (v : JV) (B : Option Addr) (d : Nat) (B' : Option Addr) (d' : Nat) (s : List UInt8) (w : World) (Z : Nat) (hZ : Z ≤ w.heap.size) (h : InV w (Lo Z) v (vA v B d B' d')) (hl : v.ms.length ≤ 1048576) :
  Calls Tryz.prog 21 #[.agg #[.int .i64 v.kd, .int .i64 v.nm, .string ⟨v.tx.toArray⟩, .slice B v.ls.length d, .slice B' v.ms.length d'], .string ⟨s.toArray⟩] w fun e w' => (∃ A c, e = .returned (.agg #[.int .i64 6, .int .i64 0, .string ⟨#[]⟩, .slice none 0 0, .slice A (Bk.woM (if v.kd = 6 then v.ms else []) s).length c]) ∧ MsC w' (fun b => b < Z ∨ Be w.heap.size w'.heap.size b) A (Bk.woM (if v.kd = 6 then v.ms else []) s)) ∧ Fr w w' := by
 obtain ⟨m, hm⟩ : ∃ m, (if v.kd = 6 then v.ms else []) = m := ⟨_, rfl⟩
 have hml : m.length ≤ 1048576 := by rw [← hm]; split; exact hl; simp
 have HTB : Hid (∀ W, Fr w W → Calls Tryz.prog 37 #[.agg #[.int .i64 v.kd, .int .i64 v.nm, .string ⟨v.tx.toArray⟩, .slice B v.ls.length d, .slice B' v.ms.length d']] W fun e w' => ∃ v' K, e = .returned v' ∧ W.heap.size ≤ K ∧ MsB w' Z K v' m ∧ Fr W w') := Lib.hid (fun W hW => by rw [← hm]; exact tmembers_is v B d B' d' W Z (Nat.le_trans hZ hW.size) (h.keep hZ hW) (by omega))
 rw [hm]
 have hnl := h.facts
 clear h hl hm
 go_enter Tryz.func21, Tryz.ntmps21
 go_upto_region 1 with fail
 have hx0 : Blk (((w.alloc (.cells #[.int .i64 v.kd, .int .i64 v.nm, .string ⟨v.tx.toArray⟩, .slice B v.ls.length d, .slice B' v.ms.length d'] 25)).alloc (.cells #[.string ⟨s.toArray⟩] 9)).alloc (.cells #[.int .i64 0, .int .i64 0, .string ⟨#[]⟩, .slice none 0 0, .slice none 0 0] 25)) w.heap.size #[.int .i64 v.kd, .int .i64 v.nm, .string ⟨v.tx.toArray⟩, .slice B v.ls.length d, .slice B' v.ms.length d'] 25 := ((Blk.made w _ _).keep ((Fr.refl _).alloc _)).keep ((Fr.refl _).alloc _)
 have hs0 : Blk (((w.alloc (.cells #[.int .i64 v.kd, .int .i64 v.nm, .string ⟨v.tx.toArray⟩, .slice B v.ls.length d, .slice B' v.ms.length d'] 25)).alloc (.cells #[.string ⟨s.toArray⟩] 9)).alloc (.cells #[.int .i64 0, .int .i64 0, .string ⟨#[]⟩, .slice none 0 0, .slice none 0 0] 25)) (w.heap.size + 1) #[.string ⟨s.toArray⟩] 9 := (boxz (Blk.made (w.alloc _) _ _)).keep ((Fr.refl _).alloc _)
 have hy0 : Blk (((w.alloc (.cells #[.int .i64 v.kd, .int .i64 v.nm, .string ⟨v.tx.toArray⟩, .slice B v.ls.length d, .slice B' v.ms.length d'] 25)).alloc (.cells #[.string ⟨s.toArray⟩] 9)).alloc (.cells #[.int .i64 0, .int .i64 0, .string ⟨#[]⟩, .slice none 0 0, .slice none 0 0] 25)) (w.heap.size + 1 + 1) #[.int .i64 0, .int .i64 0, .string ⟨#[]⟩, .slice none 0 0, .slice none 0 0] 25 := boxz2 (Blk.made ((w.alloc _).alloc _) _ _)
 have hf0 : Fr w (((w.alloc (.cells #[.int .i64 v.kd, .int .i64 v.nm, .string ⟨v.tx.toArray⟩, .slice B v.ls.length d, .slice B' v.ms.length d'] 25)).alloc (.cells #[.string ⟨s.toArray⟩] 9)).alloc (.cells #[.int .i64 0, .int .i64 0, .string ⟨#[]⟩, .slice none 0 0, .slice none 0 0] 25)) := (((Fr.refl w).alloc _).alloc _).alloc _
 generalize (((w.alloc (.cells #[.int .i64 v.kd, .int .i64 v.nm, .string ⟨v.tx.toArray⟩, .slice B v.ls.length d, .slice B' v.ms.length d'] 25)).alloc (.cells #[.string ⟨s.toArray⟩] 9)).alloc (.cells #[.int .i64 0, .int .i64 0, .string ⟨#[]⟩, .slice none 0 0, .slice none 0 0] 25)) = W1 at hx0 hs0 hy0 hf0 ⊢
 have HXS : Hid (w.heap.size ≤ w.heap.size + 1 ∧ w.heap.size + 1 < w.heap.size + 1 + 1 ∧ w.heap.size + 1 + 1 < W1.heap.size) := Lib.hid ⟨by omega, by omega, hy0.lt⟩
 generalize w.heap.size + 1 + 1 = X3 at hy0 HXS ⊢
 generalize w.heap.size + 1 = X2 at hs0 HXS ⊢
 obtain ⟨X1, hX1⟩ : ∃ X, w.heap.size = X := ⟨_, rfl⟩
 rw [hX1] at hx0 ⊢
 clear hX1
 obtain ⟨⟨y0, y1, y2, y3, y4⟩, _⟩ := box5 hx0
 have HY0 := Lib.hid hy0
 have HS0 := Lib.hid hs0
 have HF0 := Lib.hid hf0
 clear hx0 hy0 hf0 hs0
 go_wp2_with (first
  | (go_at_call 38; refine (delM_is m _ _ X2 s _ Z _ HM2.out hml (by have := HXS.out; have := HKK.out; omega) ((HS0.out.keep HF2.out).cell 0)).mono ?_; rintro e w3 ⟨⟨A3, c3, rfl, hm3⟩, hb3⟩; have hy3 : Blk w3 X3 #[.int .i64 0, .int .i64 0, .string ⟨#[]⟩, .slice none 0 0, .slice none 0 0] 25 := (Below.block hb3 X3 (by have := HXS.out; have := HKK.out; omega)).trans (HY0.out.keep HF2.out); obtain ⟨⟨x0, x1, x2, x3, x4⟩, xf0, xf1, xf2, xf3, xf4⟩ := box5 hy3; have HY3 := Lib.hid hy3; have HM3 := Lib.hid hm3; have HF3 : Hid (Fr w w3) := Lib.hid (Below.trans (HF0.out.trans HF2.out) (hb3.mono (by have := HXS.out; have := HKK.out; omega))); clear hm3 hb3 hy3)
  | (go_at_call 37; refine (HTB.out _ HF0.out).mono ?_; rintro e w2 ⟨v2, K2, rfl, hK, hm2, hf⟩; obtain ⟨A2, c2, rfl⟩ := hm2.is_slice; have HM2 := Lib.hid hm2; have HKK := Lib.hid hK; have HF2 := Lib.hid hf; clear hm2 hK hf))
 refine bodyPost_ret (results_cv (by rfl) rfl _ X3 (by rfl) _ _ _ _ _ (set5 HY3.out)) rfl ?_
 have hXS := HXS.out
 have hKK := HKK.out
 have hlt3 := HY3.out.lt
 refine ⟨⟨A3, c3, rfl, ?_⟩, st5_fr HF3.out (by omega) _ _ _ _ _⟩
 have hfx := st5_frx w3 X3 (.int .i64 6) (.int .i64 0) (.string ⟨#[]⟩) (.slice none 0 0) (.slice A3 (Bk.woM m s).length c3)
 have hszz := hfx.size
 exact HM3.out.map (fun b hb => by rcases hb with hb | hb; exact .inl hb; exact .inr ⟨by have := hb.1; omega, Nat.lt_of_lt_of_le hb.2 hszz⟩) (fun b o hb => hfx.cell (by have := HF3.out.size; rcases hb with hb | hb; omega; exact hb.2) (by rcases hb with hb | hb; omega; have := hb.1; omega))
end Go.Proofs.YtgaiepficjiclaaGreatDoor
