/- The walks of Long; the law EmitLongs. -/
import Derived.Test.YtgncdjcbphobmaaDoorEmitOi
namespace Go.Proofs.YtgncdjcbphobmaaDoor
set_option linter.unusedVariables false
set_option linter.unusedSimpArgs false
open Go.RowKit

set_option maxHeartbeats 1000000 in
set_option maxRecDepth 100000 in
theorem elong_is (u : JV) (A : Option Addr) (c0 : Nat) (A' : Option Addr) (c0' : Nat) (T : List UInt8) (b : Bool) (w : World) (hb : JV.okB u = b) (hT : T = if b then JV.wrt u else []) (hv : InV w (Lo w.heap.size) u (vA u A c0 A' c0')) (hbk : JV.bulk u ≤ 1100000) (h63 : T.length ≤ 140737488355328) :
    Calls Tryd.prog 17 #[.agg #[.int .i64 u.kd, .int .i64 u.nm, .string ⟨u.tx.toArray⟩, .slice A u.ls.length c0, .slice A' u.ms.length c0']] w fun e w' => e = .returned (.string ⟨T.toArray⟩) ∧ Fr w w' := by
  have HV := Lib.hid hv
  have HBK := Lib.hid hbk
  have HB := Lib.hid hb
  have HKV : Hid (∀ W, Fr w W → InV W (Lo W.heap.size) u (vA u A c0 A' c0')) := Lib.hid (fun W hW => (hv.keep (Nat.le_refl _) hW).lo hW.size)
  cases b with
  | false =>
    obtain rfl : T = [] := hT
    clear hv hbk hb
    go_enter Tryd.func17, Tryd.ntmps17
    go_wp2_with (go_at_call 30; refine ((eall_is u (vA u A c0 A' c0') _ (HKV.out _ ((Fr.refl w).alloc _)) HBK.out).call false rfl HB.out).mono ?_; rintro e w1 ⟨rfl, hf⟩; have HF1 := Lib.hid (((Fr.refl w).alloc _).trans hf); clear hf)
    go_ret
    exact ⟨rfl, HF1.out⟩
  | true =>
    obtain rfl : T = JV.wrt u := hT
    clear hv hbk hb
    go_enter Tryd.func17, Tryd.ntmps17
    go_wp2_with (first
      | (go_at_call 29; refine ((write_is u (vA u A c0 A' c0')).call w rfl HF1.out (Bs.none_ _ _) (HV.out.keep (Nat.le_refl _) HF1.out) (by simpa using h63)).mono ?_; rintro e w2 ⟨v2, rfl, hb2, hf2, _⟩; have hcv := hb2.conv; have HF2 := Lib.hid hf2; clear hb2 hf2)
      | (go_at_call 30; refine ((eall_is u (vA u A c0 A' c0') _ (HKV.out _ ((Fr.refl w).alloc _)) HBK.out).call true rfl HB.out).mono ?_; rintro e w1 ⟨rfl, hf⟩; have hbx := (Blk.made w #[.int .i64 u.kd, .int .i64 u.nm, .string ⟨u.tx.toArray⟩, .slice A u.ls.length c0, .slice A' u.ms.length c0'] 25).keep hf; have ky0 : w1.cell? ⟨w.heap.size, 0, none⟩ = some (.int .i64 u.kd) := hbx.cell 0; have ky1 : w1.cell? ⟨w.heap.size, 1, none⟩ = some (.int .i64 u.nm) := hbx.cell 1; have ky2 : w1.cell? ⟨w.heap.size, 2, none⟩ = some (.string ⟨u.tx.toArray⟩) := hbx.cell 2; have ky3 : w1.cell? ⟨w.heap.size, 3, none⟩ = some (.slice A u.ls.length c0) := hbx.cell 3; have ky4 : w1.cell? ⟨w.heap.size, 4, none⟩ = some (.slice A' u.ms.length c0') := hbx.cell 4; have HF1 := Lib.hid (((Fr.refl w).alloc _).trans hf); clear hf hbx))
    go_ret
    exact ⟨rfl, HF2.out⟩

set_option maxHeartbeats 1000000 in
set_option maxRecDepth 100000 in
theorem rlong_is (u : JV) (A : Option Addr) (c0 : Nat) (A' : Option Addr) (c0' : Nat) (T : List UInt8) (b : Bool) (w : World) (hb : JV.allB u = b) (hab : JV.allB u = JV.okB u) (hP : PtTab w) (hT : T = if b then JV.wrt u else []) (hv : InV w (Lo w.heap.size) u (vA u A c0 A' c0')) (hbk : JV.bulk u ≤ 1100000) (h63 : T.length ≤ 140737488355328) :
    Calls Tryd.prog 18 #[.agg #[.int .i64 u.kd, .int .i64 u.nm, .string ⟨u.tx.toArray⟩, .slice A u.ls.length c0, .slice A' u.ms.length c0']] w fun e w' => e = .returned (.string ⟨T.toArray⟩) ∧ Fr w w' := by
  have HV := Lib.hid hv
  have HBK := Lib.hid hbk
  have HB := Lib.hid hb
  have HKV : Hid (∀ W, Fr w W → InV W (Lo W.heap.size) u (vA u A c0 A' c0')) := Lib.hid (fun W hW => (hv.keep (Nat.le_refl _) hW).lo hW.size)
  cases b with
  | false =>
    obtain rfl : T = [] := hT
    clear hv hbk hb
    go_enter Tryd.func18, Tryd.ntmps18
    go_wp2_with (go_at_call 31; refine ((rall_is u (vA u A c0 A' c0') _ (HKV.out _ ((Fr.refl w).alloc _)) HBK.out).call false rfl HB.out).mono ?_; rintro e w1 ⟨rfl, hf⟩; have HF1 := Lib.hid (((Fr.refl w).alloc _).trans hf); clear hf)
    go_ret
    exact ⟨rfl, HF1.out⟩
  | true =>
    obtain rfl : T = JV.wrt u := hT
    clear hv hbk hb
    go_enter Tryd.func18, Tryd.ntmps18
    go_wp2_with (first
      | (go_at_call 28; refine ((rwrite_is u (by rw [← hab]; exact HB.out) (vA u A c0 A' c0')).call w rfl HF1.out (Bs.none_ _ _) (HV.out.keep (Nat.le_refl _) HF1.out) (by simpa using h63) HB.out HBK.out hP).mono ?_; rintro e w2 ⟨v2, rfl, hb2, hf2, _⟩; have hcv := hb2.conv; have HF2 := Lib.hid hf2; clear hb2 hf2)
      | (go_at_call 31; refine ((rall_is u (vA u A c0 A' c0') _ (HKV.out _ ((Fr.refl w).alloc _)) HBK.out).call true rfl HB.out).mono ?_; rintro e w1 ⟨rfl, hf⟩; have hbx := (Blk.made w #[.int .i64 u.kd, .int .i64 u.nm, .string ⟨u.tx.toArray⟩, .slice A u.ls.length c0, .slice A' u.ms.length c0'] 25).keep hf; have ky0 : w1.cell? ⟨w.heap.size, 0, none⟩ = some (.int .i64 u.kd) := hbx.cell 0; have ky1 : w1.cell? ⟨w.heap.size, 1, none⟩ = some (.int .i64 u.nm) := hbx.cell 1; have ky2 : w1.cell? ⟨w.heap.size, 2, none⟩ = some (.string ⟨u.tx.toArray⟩) := hbx.cell 2; have ky3 : w1.cell? ⟨w.heap.size, 3, none⟩ = some (.slice A u.ls.length c0) := hbx.cell 3; have ky4 : w1.cell? ⟨w.heap.size, 4, none⟩ = some (.slice A' u.ms.length c0') := hbx.cell 4; have HF1 := Lib.hid (((Fr.refl w).alloc _).trans hf); clear hf hbx))
    go_ret
    exact ⟨rfl, HF2.out⟩

/-- Where a variable's value lies: not in the variable. -/
def Nx (w : World) (X : Nat) : Nat → Prop := fun b => b < w.heap.size ∧ b ≠ X
/-- The variable holds so many lists around the value. -/
def LgI (w wr : World) (v : JV) (i : Nat) (a0 a1 a2 a3 a4 : Value) : Prop := Blk wr w.heap.size #[a0, a1, a2, a3, a4] 25 ∧ InV wr (Nx wr w.heap.size) (JV.wraps i v) (.agg #[a0, a1, a2, a3, a4]) ∧ Fr w wr
theorem blk5 {W : World} {X : Nat} {a b c d e v0 v1 v2 v3 v4 : Value} {t : TypeId} (h : Blk W X #[a, b, c, d, e] t) :
    Blk (((((W.setCell ⟨X, 0, none⟩ v0).setCell ⟨X, 1, none⟩ v1).setCell ⟨X, 2, none⟩ v2).setCell ⟨X, 3, none⟩ v3).setCell ⟨X, 4, none⟩ v4) X #[v0, v1, v2, v3, v4] t := by
  have h' : W.heap[X]? = some (.cells #[a, b, c, d, e] t (0, 0)) := h
  show _ = _
  simp [World.setCell, Array.getElem?_modify, h']
theorem LgI.step {w wr : World} {v : JV} {i : Nat} {a0 a1 a2 a3 a4 : Value} (h : LgI w wr v i a0 a1 a2 a3 a4) :
    LgI w ((((((wr.alloc (.cells #[a0, a1, a2, a3, a4] 25)).setCell ⟨w.heap.size, 0, none⟩ (.int .i64 5)).setCell ⟨w.heap.size, 1, none⟩ (.int .i64 0)).setCell ⟨w.heap.size, 2, none⟩ (.string ⟨#[]⟩)).setCell ⟨w.heap.size, 3, none⟩ (.slice (some ⟨wr.heap.size, 0, none⟩) 1 1)).setCell ⟨w.heap.size, 4, none⟩ (.slice none 0 0)) v (i + 1)
      (.int .i64 5) (.int .i64 0) (.string ⟨#[]⟩) (.slice (some ⟨wr.heap.size, 0, none⟩) 1 1) (.slice none 0 0) := by
  obtain ⟨hb, hi, hf⟩ := h
  have hlt := hb.lt
  have hX : ∀ j, w.heap.size ≤ (Addr.mk w.heap.size j none).block := fun _ => Nat.le_refl _
  have hk : ∀ b, b ≠ w.heap.size → ((((((wr.alloc (.cells #[a0, a1, a2, a3, a4] 25)).setCell ⟨w.heap.size, 0, none⟩ (.int .i64 5)).setCell ⟨w.heap.size, 1, none⟩ (.int .i64 0)).setCell ⟨w.heap.size, 2, none⟩ (.string ⟨#[]⟩)).setCell ⟨w.heap.size, 3, none⟩ (.slice (some ⟨wr.heap.size, 0, none⟩) 1 1)).setCell ⟨w.heap.size, 4, none⟩ (.slice none 0 0)).heap[b]? = (wr.alloc (.cells #[a0, a1, a2, a3, a4] 25)).heap[b]? := fun b hb => by
    rw [Below.heap_setCell _ _ _ _ hb, Below.heap_setCell _ _ _ _ hb, Below.heap_setCell _ _ _ _ hb, Below.heap_setCell _ _ _ _ hb, Below.heap_setCell _ _ _ _ hb]
  have hsz : ((((((wr.alloc (.cells #[a0, a1, a2, a3, a4] 25)).setCell ⟨w.heap.size, 0, none⟩ (.int .i64 5)).setCell ⟨w.heap.size, 1, none⟩ (.int .i64 0)).setCell ⟨w.heap.size, 2, none⟩ (.string ⟨#[]⟩)).setCell ⟨w.heap.size, 3, none⟩ (.slice (some ⟨wr.heap.size, 0, none⟩) 1 1)).setCell ⟨w.heap.size, 4, none⟩ (.slice none 0 0)).heap.size = wr.heap.size + 1 := by simp [World.setCell]
  refine ⟨blk5 (hb.keep ((Fr.refl wr).alloc _)), ?_, ((((((hf.alloc _).setCell (hX 0) _).setCell (hX 1) _).setCell (hX 2) _).setCell (hX 3) _).setCell (hX 4) _)⟩
  generalize ((((((wr.alloc (.cells #[a0, a1, a2, a3, a4] 25)).setCell ⟨w.heap.size, 0, none⟩ (.int .i64 5)).setCell ⟨w.heap.size, 1, none⟩ (.int .i64 0)).setCell ⟨w.heap.size, 2, none⟩ (.string ⟨#[]⟩)).setCell ⟨w.heap.size, 3, none⟩ (.slice (some ⟨wr.heap.size, 0, none⟩) 1 1)).setCell ⟨w.heap.size, 4, none⟩ (.slice none 0 0)) = W at hk hsz ⊢
  refine InV.ofList (l := [JV.wraps i v]) ⟨by omega, by omega⟩ (by simp) (fun j hj => ?_)
  obtain rfl : j = 0 := by simpa using hj
  have hc : ∀ o, W.cell? ⟨wr.heap.size, o, none⟩ = (#[a0, a1, a2, a3, a4] : Array Value)[o]? := fun o => by
    have hm : Blk (wr.alloc (.cells #[a0, a1, a2, a3, a4] 25)) wr.heap.size #[a0, a1, a2, a3, a4] 25 := Blk.made wr _ _
    have hm' : Blk W wr.heap.size #[a0, a1, a2, a3, a4] 25 := (hk _ (by omega)).trans hm
    exact hm'.cell o
  refine ⟨a0, a1, a2, a3, a4, hc 0, hc 1, hc 2, hc 3, hc 4, ?_⟩
  refine hi.map (fun b hb => ⟨by have := hb.1; omega, hb.2⟩) (fun b o hb => ?_)
  unfold World.cell?
  rw [hk b hb.2, Below.heap_alloc _ _ _ hb.1]

set_option maxHeartbeats 2000000 in
set_option maxRecDepth 100000 in
theorem longs_is (v : JV) (A : Option Addr) (c0 : Nat) (A' : Option Addr) (c0' : Nat) (K : Nat) (w : World) (hK : K < 256) (hv : InV w (Lo w.heap.size) v (vA v A c0 A' c0')) (hbk : JV.bulk v ≤ 1048576) (hP : PtTab w) :
    Calls Tryd.prog 4 #[vA v A c0 A' c0', .int .u8 (K : Nat)] w fun e w' => e = .returned (.bool true) ∧ Fr w w' := by
  have HV := Lib.hid hv
  have HBK := Lib.hid hbk
  have HP := Lib.hid hP
  have hw : IntKind.i64.wrap ((K : Int) % 40) = ((K % 40 : Nat) : Int) := by rw [IntKind.wrap_i64]; omega
  have hw8 : IntKind.u8.wrap ((K : Int) % 40) = ((K % 40 : Nat) : Int) := by rw [IntKind.wrap_u8]; omega
  have ht8 : (K : Int).tmod 40 = ((K % 40 : Nat) : Int) := by rw [Int.tmod_eq_emod_of_nonneg (by omega)]; omega
  clear hv hbk hP
  show Calls Tryd.prog _ #[.agg #[.int .i64 v.kd, .int .i64 v.nm, .string ⟨v.tx.toArray⟩, .slice A v.ls.length c0, .slice A' v.ms.length c0'], _] _ _
  go_enter Tryd.func4, Tryd.ntmps4
  go_wp2_with fail
  go_loopw [5] (fun j wr => ∃ i : Nat, i ≤ K % 40 ∧ j = .int .i64 i ∧ Hid (∃ a0 a1 a2 a3 a4, LgI w wr v i a0 a1 a2 a3 a4)) (fun j _ => K % 40 - (intOf j).toNat)
  case atStart => exact ⟨0, by omega, rfl, Lib.hid ⟨_, _, _, _, _, Blk.made w _ _, (HV.out.keep (Nat.le_refl _) ((Fr.refl w).alloc _)).more (fun b hb => ⟨by have : b < w.heap.size := hb; simp; omega, Nat.ne_of_lt hb⟩), (Fr.refl w).alloc _⟩⟩
  case round =>
    obtain ⟨i, hi, rfl, hI⟩ := hrel
    obtain ⟨a0, a1, a2, a3, a4, hI⟩ := hI.out
    have HI := Lib.hid hI
    obtain ⟨y0, y1, y2, y3, y4⟩ := cells5 hI.1
    have hfz : ∀ ob j, (wr.alloc ob).frozen? ⟨w.heap.size, j, none⟩ = false := fun ob j => (hI.1.keep ((Fr.refl wr).alloc ob)).free j
    have g0 : ∀ ob, (wr.alloc ob).cell? ⟨w.heap.size, 0, none⟩ = some a0 := fun ob => (cells5 (hI.1.keep ((Fr.refl wr).alloc ob))).1
    have g1 : ∀ ob, (wr.alloc ob).cell? ⟨w.heap.size, 1, none⟩ = some a1 := fun ob => (cells5 (hI.1.keep ((Fr.refl wr).alloc ob))).2.1
    have g2 : ∀ ob, (wr.alloc ob).cell? ⟨w.heap.size, 2, none⟩ = some a2 := fun ob => (cells5 (hI.1.keep ((Fr.refl wr).alloc ob))).2.2.1
    have g3 : ∀ ob, (wr.alloc ob).cell? ⟨w.heap.size, 3, none⟩ = some a3 := fun ob => (cells5 (hI.1.keep ((Fr.refl wr).alloc ob))).2.2.2.1
    have g4 : ∀ ob, (wr.alloc ob).cell? ⟨w.heap.size, 4, none⟩ = some a4 := fun ob => (cells5 (hI.1.keep ((Fr.refl wr).alloc ob))).2.2.2.2
    by_cases h : i < K % 40
    · have h' : (i : Int) < ((K % 40 : Nat) : Int) := by omega
      clear hI
      go_wp2_with fail
      refine ⟨⟨i + 1, by omega, by go_num, Lib.hid ⟨_, _, _, _, _, HI.out.step⟩⟩, by simp [intOf]; omega⟩
    · obtain rfl : K % 40 = i := by omega
      obtain ⟨u, hu⟩ : ∃ u, JV.wraps (K % 40) v = u := ⟨_, rfl⟩
      have hub : JV.bulk u ≤ 1100000 := by rw [← hu, JV.wraps_bulk]; have := HBK.out; omega
      have hiv := hI.2.1
      have hbk := hI.1
      rw [hu] at hiv
      obtain ⟨B, d, B', d', he, _, _⟩ := hiv.open_
      obtain ⟨rfl, rfl, rfl, rfl, rfl⟩ := five he
      clear g0 g1 g2 g3 g4 hfz he
      have HUB := Lib.hid hub
      have HFR := Lib.hid hI.2.2
      have HBX : Hid (∀ W, Fr wr W → Blk W w.heap.size #[.int .i64 u.kd, .int .i64 u.nm, .string ⟨u.tx.toArray⟩, .slice B u.ls.length d, .slice B' u.ms.length d'] 25) := Lib.hid (fun W hW => hbk.keep hW)
      have HKV : Hid (∀ W, Fr wr W → InV W (Lo W.heap.size) u (vA u B d B' d')) := Lib.hid (fun W hW => (hiv.more (S' := Lo wr.heap.size) (fun b hb => hb.1)).keep (Nat.le_refl _) hW |>.lo hW.size)
      have HPW : Hid (PtTab wr) := Lib.hid (HP.out.keep HFR.out)
      have HA : Hid (vA u B d B' d' = .agg #[.int .i64 u.kd, .int .i64 u.nm, .string ⟨u.tx.toArray⟩, .slice B u.ls.length d, .slice B' u.ms.length d']) := rfl
      clear hI hiv hbk hu hub
      cases hr : JV.fewV u 3000 100 with
      | none =>
        have HFW := Lib.hid hr
        clear hr
        go_wp2_with (first
          | (go_at_call 12; have hm := HF2.out; refine (awake06 _).mono ?_; rintro e w3 ⟨rfl, hf⟩; have HF3 := Lib.hid (hm.trans hf); clear hf hm)
          | (go_at_call 12; have hm := HF1.out; refine (awake06 _).mono ?_; rintro e w2 ⟨rfl, hf⟩; have HF2 := Lib.hid (hm.trans hf); clear hf hm)
          | (go_at_call 16; refine ((few_is u (vA u B d B' d') 3000 100 _ (HKV.out _ (Fr.refl _)) (by omega) (by omega)).no rfl rfl rfl HFW.out).mono ?_; rintro e w1 ⟨rfl, hf⟩; have HF1 := Lib.hid hf; clear hf))
        go_ret
        exact ⟨rfl, HFR.out.trans HF3.out⟩
      | some j =>
        have HFW := Lib.hid hr
        have HAB := Lib.hid (JV.few_all u 3000 100 j hr (by omega))
        clear hr
        rcases hc : JV.chk u 1 0 with ⟨c, q⟩
        have hlt := JV.long_text u
        rw [hc] at hlt
        have HC := Lib.hid hc
        cases hb : JV.okB u with
        | true =>
          have HOK := Lib.hid hb
          have hwl := JV.wrt_len u (JV.ok_all hb)
          have c1 : c ≠ 1 := fun e => by have := hlt.2 e; rw [HAB.out, hb] at this; cases this
          obtain ⟨T, hT⟩ : ∃ T, JV.wrt u = T := ⟨_, rfl⟩
          rw [hT] at hwl
          have HT := Lib.hid hT
          have hTl : T.length ≤ 140737488355328 := by have := HUB.out; omega
          have e1 : ((c : Int) != 1) = true := by rw [bne_iff_ne]; omega
          clear hwl hT hlt hc hb
          by_cases h0 : c = 0
          · subst h0
            clear c1 e1
            go_wp2_with (first
              | (go_at_call 18; have hm := HF4.out; refine (rlong_is u B d B' d' T true _ (by rw [HAB.out]; exact HOK.out) HAB.out (HPW.out.keep hm) (HT.out.symm) (HKV.out _ hm) HUB.out hTl).mono ?_; rintro e w5 ⟨rfl, hf⟩; have HF5 := Lib.hid (hm.trans hf); clear hf hm)
              | (go_at_call 17; have hm := HF3.out; refine (elong_is u B d B' d' T true _ HOK.out (HT.out.symm) (HKV.out _ hm) HUB.out hTl).mono ?_; rintro e w4 ⟨rfl, hf⟩; have hbx := HBX.out w4 (hm.trans hf); have kd0 : w4.cell? ⟨w.heap.size, 0, none⟩ = some (.int .i64 u.kd) := hbx.cell 0; have kd1 : w4.cell? ⟨w.heap.size, 1, none⟩ = some (.int .i64 u.nm) := hbx.cell 1; have kd2 : w4.cell? ⟨w.heap.size, 2, none⟩ = some (.string ⟨u.tx.toArray⟩) := hbx.cell 2; have kd3 : w4.cell? ⟨w.heap.size, 3, none⟩ = some (.slice B u.ls.length d) := hbx.cell 3; have kd4 : w4.cell? ⟨w.heap.size, 4, none⟩ = some (.slice B' u.ms.length d') := hbx.cell 4; have HF4 := Lib.hid (hm.trans hf); clear hf hm hbx)
              | (go_at_call 15; have hm := HF2.out; refine (text_is u B d B' d' _ 0 q T (HKV.out _ hm) HC.out (by rw [if_pos rfl]; exact HT.out.symm) hTl).mono ?_; rintro e w3 ⟨rfl, hf⟩; have hbx := HBX.out w3 (hm.trans hf); have kc0 : w3.cell? ⟨w.heap.size, 0, none⟩ = some (.int .i64 u.kd) := hbx.cell 0; have kc1 : w3.cell? ⟨w.heap.size, 1, none⟩ = some (.int .i64 u.nm) := hbx.cell 1; have kc2 : w3.cell? ⟨w.heap.size, 2, none⟩ = some (.string ⟨u.tx.toArray⟩) := hbx.cell 2; have kc3 : w3.cell? ⟨w.heap.size, 3, none⟩ = some (.slice B u.ls.length d) := hbx.cell 3; have kc4 : w3.cell? ⟨w.heap.size, 4, none⟩ = some (.slice B' u.ms.length d') := hbx.cell 4; have HF3 := Lib.hid (hm.trans hf); clear hf hm hbx)
              | (go_at_call 12; have hm := HF1.out; refine (awake06 _).mono ?_; rintro e w2 ⟨rfl, hf⟩; have hbx := HBX.out w2 (hm.trans hf); have kb0 : w2.cell? ⟨w.heap.size, 0, none⟩ = some (.int .i64 u.kd) := hbx.cell 0; have kb1 : w2.cell? ⟨w.heap.size, 1, none⟩ = some (.int .i64 u.nm) := hbx.cell 1; have kb2 : w2.cell? ⟨w.heap.size, 2, none⟩ = some (.string ⟨u.tx.toArray⟩) := hbx.cell 2; have kb3 : w2.cell? ⟨w.heap.size, 3, none⟩ = some (.slice B u.ls.length d) := hbx.cell 3; have kb4 : w2.cell? ⟨w.heap.size, 4, none⟩ = some (.slice B' u.ms.length d') := hbx.cell 4; have HF2 := Lib.hid (hm.trans hf); clear hf hm hbx)
              | (go_at_call 16; refine ((few_is u (vA u B d B' d') 3000 100 _ (HKV.out _ (Fr.refl _)) (by omega) (by omega)).yes rfl rfl rfl HFW.out).mono ?_; rintro e w1 ⟨rfl, hf⟩; have HF1 := Lib.hid hf; clear hf))
            go_ret
            exact ⟨rfl, HFR.out.trans HF5.out⟩
          · have e0 : ((c : Int) != 0) = true := by rw [bne_iff_ne]; omega
            clear c1
            go_wp2_with (first
              | (go_at_call 18; have hm := HF4.out; refine (rlong_is u B d B' d' T true _ (by rw [HAB.out]; exact HOK.out) HAB.out (HPW.out.keep hm) (HT.out.symm) (HKV.out _ hm) HUB.out hTl).mono ?_; rintro e w5 ⟨rfl, hf⟩; have HF5 := Lib.hid (hm.trans hf); clear hf hm)
              | (go_at_call 17; have hm := HF3.out; refine (elong_is u B d B' d' T true _ HOK.out (HT.out.symm) (HKV.out _ hm) HUB.out hTl).mono ?_; rintro e w4 ⟨rfl, hf⟩; have hbx := HBX.out w4 (hm.trans hf); have kd0 : w4.cell? ⟨w.heap.size, 0, none⟩ = some (.int .i64 u.kd) := hbx.cell 0; have kd1 : w4.cell? ⟨w.heap.size, 1, none⟩ = some (.int .i64 u.nm) := hbx.cell 1; have kd2 : w4.cell? ⟨w.heap.size, 2, none⟩ = some (.string ⟨u.tx.toArray⟩) := hbx.cell 2; have kd3 : w4.cell? ⟨w.heap.size, 3, none⟩ = some (.slice B u.ls.length d) := hbx.cell 3; have kd4 : w4.cell? ⟨w.heap.size, 4, none⟩ = some (.slice B' u.ms.length d') := hbx.cell 4; have HF4 := Lib.hid (hm.trans hf); clear hf hm hbx)
              | (go_at_call 15; have hm := HF2.out; refine (text_is u B d B' d' _ c q [] (HKV.out _ hm) HC.out (by rw [if_neg h0]) (by simp)).mono ?_; rintro e w3 ⟨rfl, hf⟩; have hbx := HBX.out w3 (hm.trans hf); have kc0 : w3.cell? ⟨w.heap.size, 0, none⟩ = some (.int .i64 u.kd) := hbx.cell 0; have kc1 : w3.cell? ⟨w.heap.size, 1, none⟩ = some (.int .i64 u.nm) := hbx.cell 1; have kc2 : w3.cell? ⟨w.heap.size, 2, none⟩ = some (.string ⟨u.tx.toArray⟩) := hbx.cell 2; have kc3 : w3.cell? ⟨w.heap.size, 3, none⟩ = some (.slice B u.ls.length d) := hbx.cell 3; have kc4 : w3.cell? ⟨w.heap.size, 4, none⟩ = some (.slice B' u.ms.length d') := hbx.cell 4; have HF3 := Lib.hid (hm.trans hf); clear hf hm hbx)
              | (go_at_call 12; have hm := HF1.out; refine (awake06 _).mono ?_; rintro e w2 ⟨rfl, hf⟩; have hbx := HBX.out w2 (hm.trans hf); have kb0 : w2.cell? ⟨w.heap.size, 0, none⟩ = some (.int .i64 u.kd) := hbx.cell 0; have kb1 : w2.cell? ⟨w.heap.size, 1, none⟩ = some (.int .i64 u.nm) := hbx.cell 1; have kb2 : w2.cell? ⟨w.heap.size, 2, none⟩ = some (.string ⟨u.tx.toArray⟩) := hbx.cell 2; have kb3 : w2.cell? ⟨w.heap.size, 3, none⟩ = some (.slice B u.ls.length d) := hbx.cell 3; have kb4 : w2.cell? ⟨w.heap.size, 4, none⟩ = some (.slice B' u.ms.length d') := hbx.cell 4; have HF2 := Lib.hid (hm.trans hf); clear hf hm hbx)
              | (go_at_call 16; refine ((few_is u (vA u B d B' d') 3000 100 _ (HKV.out _ (Fr.refl _)) (by omega) (by omega)).yes rfl rfl rfl HFW.out).mono ?_; rintro e w1 ⟨rfl, hf⟩; have HF1 := Lib.hid hf; clear hf))
            go_ret
            exact ⟨rfl, HFR.out.trans HF5.out⟩
        | false =>
          have HOK := Lib.hid hb
          have c0 : c ≠ 0 := fun e => by have := hlt.1 e; rw [hb] at this; cases this
          have e0 : ((c : Int) != 0) = true := by rw [bne_iff_ne]; omega
          have HC0 := Lib.hid c0
          clear hlt hc hb c0
          go_wp2_with (first
            | (go_at_call 18; have hm := HF4.out; refine (rlong_is u B d B' d' [] false _ (by rw [HAB.out]; exact HOK.out) HAB.out (HPW.out.keep hm) (rfl) (HKV.out _ hm) HUB.out (by simp)).mono ?_; rintro e w5 ⟨rfl, hf⟩; have HF5 := Lib.hid (hm.trans hf); clear hf hm)
            | (go_at_call 17; have hm := HF3.out; refine (elong_is u B d B' d' [] false _ HOK.out (rfl) (HKV.out _ hm) HUB.out (by simp)).mono ?_; rintro e w4 ⟨rfl, hf⟩; have hbx := HBX.out w4 (hm.trans hf); have kd0 : w4.cell? ⟨w.heap.size, 0, none⟩ = some (.int .i64 u.kd) := hbx.cell 0; have kd1 : w4.cell? ⟨w.heap.size, 1, none⟩ = some (.int .i64 u.nm) := hbx.cell 1; have kd2 : w4.cell? ⟨w.heap.size, 2, none⟩ = some (.string ⟨u.tx.toArray⟩) := hbx.cell 2; have kd3 : w4.cell? ⟨w.heap.size, 3, none⟩ = some (.slice B u.ls.length d) := hbx.cell 3; have kd4 : w4.cell? ⟨w.heap.size, 4, none⟩ = some (.slice B' u.ms.length d') := hbx.cell 4; have HF4 := Lib.hid (hm.trans hf); clear hf hm hbx)
            | (go_at_call 15; have hm := HF2.out; refine (text_is u B d B' d' _ c q [] (HKV.out _ hm) HC.out (by rw [if_neg HC0.out]) (by simp)).mono ?_; rintro e w3 ⟨rfl, hf⟩; have hbx := HBX.out w3 (hm.trans hf); have kc0 : w3.cell? ⟨w.heap.size, 0, none⟩ = some (.int .i64 u.kd) := hbx.cell 0; have kc1 : w3.cell? ⟨w.heap.size, 1, none⟩ = some (.int .i64 u.nm) := hbx.cell 1; have kc2 : w3.cell? ⟨w.heap.size, 2, none⟩ = some (.string ⟨u.tx.toArray⟩) := hbx.cell 2; have kc3 : w3.cell? ⟨w.heap.size, 3, none⟩ = some (.slice B u.ls.length d) := hbx.cell 3; have kc4 : w3.cell? ⟨w.heap.size, 4, none⟩ = some (.slice B' u.ms.length d') := hbx.cell 4; have HF3 := Lib.hid (hm.trans hf); clear hf hm hbx)
            | (go_at_call 12; have hm := HF1.out; refine (awake06 _).mono ?_; rintro e w2 ⟨rfl, hf⟩; have hbx := HBX.out w2 (hm.trans hf); have kb0 : w2.cell? ⟨w.heap.size, 0, none⟩ = some (.int .i64 u.kd) := hbx.cell 0; have kb1 : w2.cell? ⟨w.heap.size, 1, none⟩ = some (.int .i64 u.nm) := hbx.cell 1; have kb2 : w2.cell? ⟨w.heap.size, 2, none⟩ = some (.string ⟨u.tx.toArray⟩) := hbx.cell 2; have kb3 : w2.cell? ⟨w.heap.size, 3, none⟩ = some (.slice B u.ls.length d) := hbx.cell 3; have kb4 : w2.cell? ⟨w.heap.size, 4, none⟩ = some (.slice B' u.ms.length d') := hbx.cell 4; have HF2 := Lib.hid (hm.trans hf); clear hf hm hbx)
            | (go_at_call 16; refine ((few_is u (vA u B d B' d') 3000 100 _ (HKV.out _ (Fr.refl _)) (by omega) (by omega)).yes rfl rfl rfl HFW.out).mono ?_; rintro e w1 ⟨rfl, hf⟩; have HF1 := Lib.hid hf; clear hf))
          all_goals
            go_ret
            exact ⟨rfl, HFR.out.trans HF5.out⟩
theorem longs_law (v : JV) (A : Option Addr) (c0 : Nat) (A' : Option Addr) (c0' : Nat) (a : Int) (w : World) (h0 : 0 ≤ a) (h1 : a ≤ 255) (hv : InV w (Lo w.heap.size) v (vA v A c0 A' c0')) (hbk : JV.bulk v ≤ 1048576) (hP : PtTab w) :
    Calls Tryd.prog 4 #[vA v A c0 A' c0', .int .u8 a] w fun e w' => e = .returned (.bool true) ∧ Fr w w' := by
  obtain ⟨K, rfl⟩ : ∃ K : Nat, a = K := ⟨a.toNat, by omega⟩
  exact longs_is v A c0 A' c0' K w (by omega) hv hbk hP
end Go.Proofs.YtgncdjcbphobmaaDoor
