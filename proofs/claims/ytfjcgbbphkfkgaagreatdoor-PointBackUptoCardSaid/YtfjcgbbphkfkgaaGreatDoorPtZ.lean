/- The walk of chapter 08's back. -/
import Derived.Test.YtfjcgbbphkfkgaaGreatDoorPtU
import Derived.Test.YtfjcgbbphkfkgaaGreatDoorPtZP
import Derived.Test.YtfjcgbbphkfkgaaGreatDoorOpenS
import Derived.Test.YtfjcgbbphkfkgaaGreatDoorNumsBr
import Derived.Deep.CutRange
namespace Go.Proofs.YtfjcgbbphkfkgaaGreatDoor
set_option linter.unusedVariables false
set_option linter.unusedSimpArgs false
open Go.RowKit

namespace Pt
theorem bulkS_app (a b : List (List UInt8)) : bulkS (a ++ b) = bulkS a + bulkS b := by
  induction a with
  | nil => simp [bulkS]
  | cons q r ih => simp only [List.cons_append, bulkS, ih]; omega
theorem bulk_ls {x u : JV} (h : u ∈ x.ls) : JV.bulk u + 3 ≤ JV.bulk x := by
  have hL : ∀ l : List JV, u ∈ l → JV.bulk u ≤ JV.bulkL l := by
    intro l
    induction l with
    | nil => intro h; simp at h
    | cons a l ih =>
      intro h
      rw [JV.bulkL_cons]
      rcases List.mem_cons.1 h with rfl | h
      · omega
      · have := ih h; omega
  have := hL _ h
  obtain ⟨k, n, s, l, m⟩ := x
  rw [JV.bulk_mk]
  have h2 : JV.bulk u ≤ JV.bulkL l := this
  omega
theorem bulk_ms {x : JV} {p : List UInt8 × JV} (h : p ∈ x.ms) : JV.bulk p.2 + p.1.length + 4 ≤ JV.bulk x := by
  have hL : ∀ l : List (List UInt8 × JV), p ∈ l → 1 + p.1.length + JV.bulk p.2 ≤ JV.bulkM l := by
    intro l
    induction l with
    | nil => intro h; simp at h
    | cons a l ih =>
      intro h
      rw [JV.bulkM_cons]
      rcases List.mem_cons.1 h with rfl | h
      · omega
      · have := ih h; omega
  have := hL _ h
  obtain ⟨k, n, s, l, m⟩ := x
  rw [JV.bulk_mk]
  have h2 : 1 + p.1.length + JV.bulk p.2 ≤ JV.bulkM m := this
  omega
end Pt
/-- append of the texts that a slice shows. -/
theorem run_sS {w : World} (ty : TypeId) (w0 : World) (hfr : Fr w0 w) (v : Value) (l : List (List UInt8)) (hown : Ssl w w0.heap.size v l) (A : Option Addr) (c : Nat) (us : List (List UInt8)) (hA : PsC w A us) (h63 : (l.length + us.length) * 16 ≤ 140737488355328) :
    ∃ v' w', (Builtin.append_ #[22, 22] ty #[v, .slice A us.length c]).run Tryz.prog w = .ok v' w' ∧ Ssl w' w0.heap.size v' (l ++ us) ∧ Fr w0 w' := by
  obtain ⟨i, hi, hz, hsz, hby⟩ := info_parts el_st.info
  have key : ∀ (ad : Addr) (hc : ∀ j u, (svs us)[j]? = some u → w.cell? (ad.add j) = some u), ∃ v' w', (Builtin.append_ #[22, 22] ty #[v, .slice (some ad) us.length c]).run Tryz.prog w = .ok v' w' ∧ Ssl w' w0.heap.size v' (l ++ us) ∧ Fr w0 w' := by
    intro ad hc
    obtain ⟨v', w', hr, h3, h4, _, _⟩ := run_append_own_at (P := Tryz.prog) w w0.heap.size 22 ty 9 i _ 1 16 el_st.sl hi hz hsz hby el_st.one (by omega) v _ (svs l) hown ad us.length c (svs us) (by simp [svs_len]) hc (svs_one _) (by rw [svs_len]; unfold maxLen; omega) (by rw [svs_len]; omega) hfr.size
    refine ⟨v', w', hr, ?_, Below.grown hfr h4 hfr.size (fun k hk => (Row.own_ge hown) k hk)⟩
    unfold Ssl Row
    rw [svs_app]
    simpa [svs_len] using h3
  by_cases hne : us = []
  · subst hne
    cases A with
    | none => exact ⟨v, w, run_append_owned_empty w0.heap.size _ ty _ i 1 el_st.sl hi v _ (svs l) hown c, by rw [List.append_nil]; exact hown, hfr⟩
    | some ad => exact key ad (fun j u hu => by simp [svs] at hu)
  · obtain ⟨b, o, rfl, _, hc⟩ := hA hne
    refine key ⟨b, o, none⟩ (fun j u hu => ?_)
    rw [show (Addr.mk b o none).add j = ⟨b, o + j, none⟩ by
      by_cases h0 : j = 0
      · subst h0; simp [Addr.add]
      · simp [Addr.add, h0]]
    obtain ⟨hj, rfl⟩ := List.getElem?_eq_some_iff.1 hu
    rw [svs_len] at hj
    rw [hc j hj]
    simp [svs]
theorem wpl_sS {ops : Array Oper} {rest : List Oper} {o : Oper} {a : Act} {w : World} {Q : Exit → Act → World → Prop}
    (hgd : o.guard = none) (s x : Operand) (ho : o.op = .call { callee := .builtin .append, args := #[s, x], argTypes := #[22, 22] })
    (w0 : World) (hfr : Fr w0 w) (v : Value) (l : List (List UInt8)) (hs : a.eval s = v) (hown : Ssl w w0.heap.size v l) (A : Option Addr) (c n : Nat) (us : List (List UInt8)) (hx : a.eval x = .slice A n c) (hn : n = us.length) (hA : PsC w A us) (h63 : (l.length + us.length) * 16 ≤ 140737488355328)
    (h : ∀ v' w', Ssl w' w0.heap.size v' (l ++ us) → Fr w0 w' → wpList Tryz.prog ops Q rest (a.put o.dst v') w') :
    wpList Tryz.prog ops Q (o :: rest) a w := by
  subst hn
  refine wpList_plain hgd fun K2 hK => ?_
  obtain ⟨v', w', hr, h3, h4⟩ := run_sS (w := w) o.type w0 hfr v l hown A c us hA h63
  unfold Oper.wp execOp
  simp only [ho, resolve, invoke, builtin, Sem.run_bind, Sem.run_pure, Result.andThen_ok, List.map_toArray, List.map_cons, List.map_nil, hs, hx, hr]
  exact hK _ _ (h v' w' h3 h4)
theorem step_ss_lit {ops : Array Oper} {o : Oper} {a : Act} {w : World} {K : Act → World → Prop} {Q : Exit → Act → World → Prop} {E : Prop} {cs : Array Value}
    (hgd : o.guard = none) (s x : Operand) (ho : o.op = .call { callee := .builtin .append, args := #[s, x], argTypes := #[22, 22] })
    (w0 : World) (hfr : Fr w0 w) (v : Value) (l : List (List UInt8)) (hs : a.eval s = v) (hown : Ssl w w0.heap.size v l)
    (news : List (List UInt8)) (n m : Nat) (hx : a.eval x = .slice (some ⟨w.heap.size, 0, none⟩) n m) (hn : n = news.length) (hm : m = news.length) (hcs : cs = (svs news).toArray) (h63 : (l.length + news.length) * 16 ≤ 140737488355328)
    (h : ∀ v' w', Ssl w' w0.heap.size v' (l ++ news) → Fr w0 w' → K (a.put o.dst v') w') :
    if Region.wanted o (yielded ops a.tmps) = true then Oper.wp Tryz.prog o a (w.alloc (.cells cs 9)) K Q else E := by
  subst hcs; subst hn; subst hm
  exact step_app el_st hgd s x ho w0 (hfr.alloc _) v (svs l) hs (Row.keep hown (Fr.alloc (Fr.refl _) _)) w.heap.size _ (svs news) (by rw [svs_len]; exact hx) (Row.made w 9 (svs news) (by rw [svs_len]; unfold maxLen; omega)) (svs_one _) (by rw [svs_len, svs_len]; omega) (by rw [svs_len, svs_len]; omega)
    fun v' w' h3 h4 => h v' w' (by unfold Ssl; rw [svs_app]; exact h3) h4

theorem size_put5 (w : World) (X : Nat) (u0 u1 u2 u3 u4 : Value) : (((((w.setCell ⟨X, 0, none⟩ u0).setCell ⟨X, 1, none⟩ u1).setCell ⟨X, 2, none⟩ u2).setCell ⟨X, 3, none⟩ u3).setCell ⟨X, 4, none⟩ u4).heap.size = w.heap.size := by simp [World.setCell]
theorem InV.putZ {w : World} {S : Nat → Prop} {v : JV} {x : Value} (h : InV w S v x) {X : Nat} (hX : ∀ b, S b → b ≠ X) (u0 u1 u2 u3 u4 : Value) : InV (((((w.setCell ⟨X, 0, none⟩ u0).setCell ⟨X, 1, none⟩ u1).setCell ⟨X, 2, none⟩ u2).setCell ⟨X, 3, none⟩ u3).setCell ⟨X, 4, none⟩ u4) S v x :=
  h.map (fun _ h => h) (fun b o hb => by
    have hne := hX b hb
    unfold World.cell?
    rw [Below.heap_setCell _ _ _ _ hne, Below.heap_setCell _ _ _ _ hne, Below.heap_setCell _ _ _ _ hne, Below.heap_setCell _ _ _ _ hne, Below.heap_setCell _ _ _ _ hne])
/-- What back does at x. -/
def BkAt (v x : JV) : Prop := ∀ (ps : List (List UInt8)) (A : Option Addr) (c : Nat) (B : Option Addr) (d : Nat) (B' : Option Addr) (d' : Nat) (C : Option Addr) (f : Nat) (C' : Option Addr) (f' : Nat) (w : World), InV w (Lo w.heap.size) v (vA v B d B' d') → InV w (Lo w.heap.size) x (vA x C f C' f') → PsC w A ps → Pt.find false ps v = some x → JV.okB x = true → JV.bulk v ≤ 1048576 → Pt.bulkS ps + 22 * JV.bulk x ≤ 24000000 → MxL w →
  Calls Tryz.prog 33 #[.agg #[.int .i64 v.kd, .int .i64 v.nm, .string ⟨v.tx.toArray⟩, .slice B v.ls.length d, .slice B' v.ms.length d'], .slice A ps.length c, .agg #[.int .i64 x.kd, .int .i64 x.nm, .string ⟨x.tx.toArray⟩, .slice C x.ls.length f, .slice C' x.ms.length f']] w fun e w' => e = .returned (.bool true) ∧ Fr w w'

set_option maxHeartbeats 8000000 in
set_option maxRecDepth 100000 in
theorem back_step (v x : JV) (ihl : ∀ u ∈ x.ls, BkAt v u) (ihm : ∀ p ∈ x.ms, BkAt v p.2) : BkAt v x := by
  intro ps A c B d B' d' C f C' f' w hv hx hps hfind hok hbv hm hM
  have hkk := @Pt.ok_open x.kd x.nm x.tx x.ls x.ms (by obtain ⟨_, _, _, _, _⟩ := x; exact hok)
  obtain ⟨ok1, ok2, ok3, ok4⟩ := hkk
  have hnv := nv_bulk v
  have hpl := Pt.bulkS_len ps
  have htl := Pt.text_le ps
  have hxb : x.ls.length ≤ JV.bulk x ∧ x.ms.length ≤ JV.bulk x := by
    obtain ⟨k, n, s, l, m⟩ := x
    have := JV.bulkL_len l
    have := JV.bulkM_len m
    rw [JV.bulk_mk]
    constructor
    · show l.length ≤ _; omega
    · show m.length ≤ _; omega
  have hL' : (x.ls.length : Int) ≤ 24000000 := by omega
  have hM' : (x.ms.length : Int) ≤ 24000000 := by omega
  obtain ⟨A1, k5, A1', k6, he, hls, hms⟩ := hx.open_
  obtain ⟨hA, hA'⟩ : C = A1 ∧ C' = A1' := by obtain ⟨_, _, _, e3, e4⟩ := five he; injection e3; injection e4; exact ⟨‹_›, ‹_›⟩
  subst hA; subst hA'
  have HLS := Lib.hid hls
  have HMS := Lib.hid hms
  have HV := Lib.hid hv
  have HX := Lib.hid hx
  have HPS := Lib.hid hps
  have HM := Lib.hid hM
  obtain ⟨S, hS⟩ : ∃ S : ByteArray, S = ⟨(Pt.text ps).toArray⟩ := ⟨_, rfl⟩
  have hSl : S.data.toList = Pt.text ps := by rw [hS]
  have hSz : S.size = (Pt.text ps).length := by rw [hS]; show (Pt.text ps).toArray.size = _; simp
  have HT : Hid (∀ W, Fr w W → Calls Tryz.prog 53 #[.slice A ps.length c] W fun e w' => e = .returned (.string S) ∧ Fr W w') := Lib.hid (fun W hW => by rw [hS]; exact ptext_is ps A c W (hps.keep hW) (by omega) (by omega) (fun q hq => by have := Pt.bulkS_mem hq; omega))
  have hans : Pt.ans false (Pt.parts S.data.toList) v = (x, 0) := by rw [hSl]; exact Pt.ans_text hfind
  have HD : Hid (∀ W, Fr w W → Calls Tryz.prog 28 #[.agg #[.int .i64 v.kd, .int .i64 v.nm, .string ⟨v.tx.toArray⟩, .slice B v.ls.length d, .slice B' v.ms.length d'], .string S] W fun e w' => ∃ (D : Option Addr) (g : Nat) (D' : Option Addr) (g' : Nat), e = .returned (.tuple #[.agg #[.int .i64 x.kd, .int .i64 x.nm, .string ⟨x.tx.toArray⟩, .slice D x.ls.length g, .slice D' x.ms.length g'], .int .i64 0]) ∧ InV w' (Ne w.heap.size W w') x (vA x D g D' g') ∧ Fr W w') :=
    Lib.hid (fun W hW => (pfind_is v B d B' d' S W w.heap.size hW.size (hv.keep (Nat.le_refl _) hW) (by omega) (by omega) (hM.keep hW)).mono fun e w' h => h.ans hW.size hans)
  have hF0 : Fr w ((w.alloc (.cells #[.int .i64 v.kd, .int .i64 v.nm, .string ⟨v.tx.toArray⟩, .slice B v.ls.length d, .slice B' v.ms.length d'] 29)).alloc (.cells #[.int .i64 x.kd, .int .i64 x.nm, .string ⟨x.tx.toArray⟩, .slice C x.ls.length f, .slice C' x.ms.length f'] 29)) := ((Fr.refl w).alloc _).alloc _
  have hB0 : Blk ((w.alloc (.cells #[.int .i64 v.kd, .int .i64 v.nm, .string ⟨v.tx.toArray⟩, .slice B v.ls.length d, .slice B' v.ms.length d'] 29)).alloc (.cells #[.int .i64 x.kd, .int .i64 x.nm, .string ⟨x.tx.toArray⟩, .slice C x.ls.length f, .slice C' x.ms.length f'] 29)) w.heap.size #[.int .i64 v.kd, .int .i64 v.nm, .string ⟨v.tx.toArray⟩, .slice B v.ls.length d, .slice B' v.ms.length d'] 29 := (Blk.made w _ _).keep ((Fr.refl _).alloc _)
  have hX0 : Blk ((w.alloc (.cells #[.int .i64 v.kd, .int .i64 v.nm, .string ⟨v.tx.toArray⟩, .slice B v.ls.length d, .slice B' v.ms.length d'] 29)).alloc (.cells #[.int .i64 x.kd, .int .i64 x.nm, .string ⟨x.tx.toArray⟩, .slice C x.ls.length f, .slice C' x.ms.length f'] 29)) (w.heap.size + 1) #[.int .i64 x.kd, .int .i64 x.nm, .string ⟨x.tx.toArray⟩, .slice C x.ls.length f, .slice C' x.ms.length f'] 29 := boxz (Blk.made (w.alloc _) _ _)
  have HIL := Lib.hid ihl
  have HIM := Lib.hid ihm
  have HFI := Lib.hid hfind
  have HO1 := Lib.hid ok1
  have HO2 := Lib.hid ok2
  have HO3 := Lib.hid ok3
  have HO4 := Lib.hid ok4
  have hk16 : (0 + ps.length) * 16 ≤ 140737488355328 := by omega
  have hk17 : (ps.length + 1) * 16 ≤ 140737488355328 := by omega
  clear hv hx hps hfind hok hM ok1 ok2 ok3 ok4 hnv hpl htl he hls hms hS hSl hSz hans ihl ihm
  go_enter Tryz.func33, Tryz.ntmps33
  go_upto_region 1 with fail
  generalize ((w.alloc (.cells #[.int .i64 v.kd, .int .i64 v.nm, .string ⟨v.tx.toArray⟩, .slice B v.ls.length d, .slice B' v.ms.length d'] 29)).alloc (.cells #[.int .i64 x.kd, .int .i64 x.nm, .string ⟨x.tx.toArray⟩, .slice C x.ls.length f, .slice C' x.ms.length f'] 29)) = W0 at hF0 hB0 hX0 ⊢
  have HF0 := Lib.hid hF0
  have HB0 := Lib.hid hB0
  have HX0 := Lib.hid hX0
  have hw0 : w.heap.size + 1 < W0.heap.size := hX0.lt
  have HS : Hid (∀ W, Fr W0 W → W.cell? ⟨w.heap.size, 0, none⟩ = some (Value.int .i64 v.kd) ∧ W.cell? ⟨w.heap.size, 1, none⟩ = some (Value.int .i64 v.nm) ∧ W.cell? ⟨w.heap.size, 2, none⟩ = some (Value.string ⟨v.tx.toArray⟩) ∧ W.cell? ⟨w.heap.size, 3, none⟩ = some (Value.slice B v.ls.length d) ∧ W.cell? ⟨w.heap.size, 4, none⟩ = some (Value.slice B' v.ms.length d')) := Lib.hid (fun W hW => by
    have h := HB0.out.keep hW
    exact ⟨h.cell 0, h.cell 1, h.cell 2, h.cell 3, h.cell 4⟩)
  clear hF0 hB0 hX0
  go_cut [7, 8] from 13 (fun p q wx => ∃ (X8 : Nat) (D : Option Addr) (g : Nat) (D' : Option Addr) (g' : Nat), p = .pointer (some ⟨X8, 0, none⟩) ∧ q = .int .i64 0 ∧ Hid (Fr W0 wx) ∧ Hid (Blk wx X8 #[.int .i64 x.kd, .int .i64 x.nm, .string ⟨x.tx.toArray⟩, .slice D x.ls.length g, .slice D' x.ms.length g'] 29) ∧ Hid (InV wx (Lo wx.heap.size) x (vA x D g D' g')))
  case first =>
    go_region_held3 (fun W => W.cell? ⟨w.heap.size, 0, none⟩ = some (Value.int .i64 v.kd) ∧ W.cell? ⟨w.heap.size, 1, none⟩ = some (Value.int .i64 v.nm) ∧ W.cell? ⟨w.heap.size, 2, none⟩ = some (Value.string ⟨v.tx.toArray⟩) ∧ W.cell? ⟨w.heap.size, 3, none⟩ = some (Value.slice B v.ls.length d) ∧ W.cell? ⟨w.heap.size, 4, none⟩ = some (Value.slice B' v.ms.length d'))
      (first | with_reducible exact HS.out _ (HP2.out _ (Nat.le_refl _) _ _ _ _ _) | with_reducible exact HS.out _ (HP2.out _ HF1.out.size _ _ _ _ _) | with_reducible exact HS.out _ (HQ2.out _ _ _ _ _) | with_reducible exact HS.out _ (HG2.out.alloc _) | with_reducible exact HS.out _ HG2.out | with_reducible exact HS.out _ (HF1.out.alloc _) | with_reducible exact HS.out _ HF1.out | with_reducible exact HS.out _ ((Fr.refl _).alloc _).drew | with_reducible exact HS.out _ (Fr.refl _).drew | with_reducible exact HS.out _ (Fr.refl _))
      (first
        | (go_at_call 28; have hm := HB8.out; refine (HD.out _ (HF0.out.trans HF1.out)).mono ?_; rintro e w2 ⟨D, g, D', g', rfl, hin, hf⟩; have hlt := hm.lt; have hb2 := hm.keep hf; obtain ⟨⟨s0, s1, s2, s3, s4⟩, sf0, sf1, sf2, sf3, sf4⟩ := box5 hb2; have HBx := Lib.hid hb2; have HIN := Lib.hid (hin.more (S' := fun b => b ≠ W0.heap.size ∧ b < w2.heap.size) (fun b hb => by have := hf.size; rcases hb with hb | hb <;> constructor <;> omega)); clear hin hb2 hm hlt; have hg2 := HF1.out.trans hf; have HP2 : Hid (∀ (X : Nat), W0.heap.size ≤ X → ∀ u0 u1 u2 u3 u4, Fr W0 (((((w2.setCell ⟨X, 0, none⟩ u0).setCell ⟨X, 1, none⟩ u1).setCell ⟨X, 2, none⟩ u2).setCell ⟨X, 3, none⟩ u3).setCell ⟨X, 4, none⟩ u4)) := Lib.hid (fun X hX u0 u1 u2 u3 u4 => hg2.put5 hX u0 u1 u2 u3 u4); have HQ2 : Hid (∀ u0 u1 u2 u3 u4, Fr W0 ((((((w2.alloc (.cells #[.int .i64 0, .int .i64 0, .string ⟨#[]⟩, .slice none 0 0, .slice none 0 0] 29)).setCell ⟨w2.heap.size, 0, none⟩ u0).setCell ⟨w2.heap.size, 1, none⟩ u1).setCell ⟨w2.heap.size, 2, none⟩ u2).setCell ⟨w2.heap.size, 3, none⟩ u3).setCell ⟨w2.heap.size, 4, none⟩ u4)) := Lib.hid (fun u0 u1 u2 u3 u4 => (hg2.alloc _).put5 (X := w2.heap.size) hg2.size u0 u1 u2 u3 u4); have HG2 := Lib.hid hg2; clear hg2 hf)
        | (go_at_call 28; refine (HD.out _ (by with_reducible exact (HF0.out.trans HF1.out).alloc _)).mono ?_; rintro e w2 ⟨D, g, D', g', rfl, hin, hf⟩; have hb2 := (Blk.made w1 #[.int .i64 0, .int .i64 0, .string ⟨#[]⟩, .slice none 0 0, .slice none 0 0] 29).keep hf; obtain ⟨⟨s0, s1, s2, s3, s4⟩, sf0, sf1, sf2, sf3, sf4⟩ := box5 hb2; have HBx := Lib.hid hb2; have h1s : w1.heap.size < (w1.alloc (.cells #[.int .i64 0, .int .i64 0, .string ⟨#[]⟩, .slice none 0 0, .slice none 0 0] 29)).heap.size := (by simp); have HIN := Lib.hid (hin.more (S' := fun b => b ≠ w1.heap.size ∧ b < w2.heap.size) (fun b hb => by have := hf.size; have := HF1.out.size; rcases hb with hb | hb <;> constructor <;> omega)); clear hin hb2 h1s; have hg2 := (HF1.out.alloc _).trans hf; have HP2 : Hid (∀ (X : Nat), W0.heap.size ≤ X → ∀ u0 u1 u2 u3 u4, Fr W0 (((((w2.setCell ⟨X, 0, none⟩ u0).setCell ⟨X, 1, none⟩ u1).setCell ⟨X, 2, none⟩ u2).setCell ⟨X, 3, none⟩ u3).setCell ⟨X, 4, none⟩ u4)) := Lib.hid (fun X hX u0 u1 u2 u3 u4 => hg2.put5 hX u0 u1 u2 u3 u4); have HQ2 : Hid (∀ u0 u1 u2 u3 u4, Fr W0 ((((((w2.alloc (.cells #[.int .i64 0, .int .i64 0, .string ⟨#[]⟩, .slice none 0 0, .slice none 0 0] 29)).setCell ⟨w2.heap.size, 0, none⟩ u0).setCell ⟨w2.heap.size, 1, none⟩ u1).setCell ⟨w2.heap.size, 2, none⟩ u2).setCell ⟨w2.heap.size, 3, none⟩ u3).setCell ⟨w2.heap.size, 4, none⟩ u4)) := Lib.hid (fun u0 u1 u2 u3 u4 => (hg2.alloc _).put5 (X := w2.heap.size) hg2.size u0 u1 u2 u3 u4); have HG2 := Lib.hid hg2; clear hg2 hf)
        | (go_at_call 28; refine (HD.out _ (by with_reducible exact HF0.out.trans HF1.out)).mono ?_; rintro e w2 ⟨D, g, D', g', rfl, hin, hf⟩; have HIN := Lib.hid (hin.more (S' := Lo w2.heap.size) (fun b hb => by have := hf.size; have := HF1.out.size; show b < _; rcases hb with hb | hb <;> omega)); clear hin; have hg2 := HF1.out.trans hf; have HP2 : Hid (∀ (X : Nat), W0.heap.size ≤ X → ∀ u0 u1 u2 u3 u4, Fr W0 (((((w2.setCell ⟨X, 0, none⟩ u0).setCell ⟨X, 1, none⟩ u1).setCell ⟨X, 2, none⟩ u2).setCell ⟨X, 3, none⟩ u3).setCell ⟨X, 4, none⟩ u4)) := Lib.hid (fun X hX u0 u1 u2 u3 u4 => hg2.put5 hX u0 u1 u2 u3 u4); have HQ2 : Hid (∀ u0 u1 u2 u3 u4, Fr W0 ((((((w2.alloc (.cells #[.int .i64 0, .int .i64 0, .string ⟨#[]⟩, .slice none 0 0, .slice none 0 0] 29)).setCell ⟨w2.heap.size, 0, none⟩ u0).setCell ⟨w2.heap.size, 1, none⟩ u1).setCell ⟨w2.heap.size, 2, none⟩ u2).setCell ⟨w2.heap.size, 3, none⟩ u3).setCell ⟨w2.heap.size, 4, none⟩ u4)) := Lib.hid (fun u0 u1 u2 u3 u4 => (hg2.alloc _).put5 (X := w2.heap.size) hg2.size u0 u1 u2 u3 u4); have HG2 := Lib.hid hg2; clear hg2 hf)
        | (go_at_call 53; refine (HT.out _ (by with_reducible exact (HF0.out.alloc _).drew)).mono ?_; rintro e w1 ⟨rfl, hf⟩; have hb8 : Blk w1 W0.heap.size #[.int .i64 0, .int .i64 0, .string ⟨#[]⟩, .slice none 0 0, .slice none 0 0] 29 := (Blk.made W0 _ _).keep ((Fr.refl _).drew.trans hf); have HB8 := Lib.hid hb8; have hf1 : Fr W0 w1 := ((Fr.refl _).alloc _).drew.trans hf; have HF1 := Lib.hid hf1; clear hf hb8 hf1)
        | (go_at_call 53; refine (HT.out _ (by first | with_reducible exact HF0.out.drew | with_reducible exact HF0.out)).mono ?_; rintro e w1 ⟨rfl, hf⟩; have hf1 : Fr W0 w1 := (by first | exact hf | exact (Fr.refl _).drew.trans hf); have HF1 := Lib.hid hf1; clear hf hf1))
    all_goals (go_wp2_with fail; go_meet; first
      | exact ⟨_, D, g, D', g', rfl, rfl, Lib.hid (HP2.out W0.heap.size (Nat.le_refl _) _ _ _ _ _), Lib.hid (set5 HBx.out), Lib.hid ((HIN.out.putZ (fun b hb => hb.1) _ _ _ _ _).more (fun b hb => by show b < _; simp only [size_put5]; exact hb.2))⟩
      | exact ⟨_, D, g, D', g', rfl, rfl, Lib.hid (HP2.out w1.heap.size HF1.out.size _ _ _ _ _), Lib.hid (set5 HBx.out), Lib.hid ((HIN.out.putZ (fun b hb => hb.1) _ _ _ _ _).more (fun b hb => by show b < _; simp only [size_put5]; exact hb.2))⟩
      | exact ⟨_, D, g, D', g', rfl, rfl, Lib.hid (HG2.out.alloc _), Lib.hid (Blk.made w2 _ _), Lib.hid ((HIN.out.keep (Nat.le_refl _) ((Fr.refl w2).alloc _)).lo (by simp))⟩)
  case rest =>
  obtain ⟨X8, D, g, D', g', rfl, rfl, hF5, hB5, hI5⟩ := hcut
  obtain ⟨⟨p0, p1, p2, p3, p4⟩, _⟩ := box5 hB5.out
  obtain ⟨⟨q0, q1, q2, q3, q4⟩, _⟩ := box5 (HX0.out.keep hF5.out)
  have HX5 := Lib.hid ((HX.out.keep (Nat.le_refl _) (HF0.out.trans hF5.out)).lo (HF0.out.trans hF5.out).size)
  go_wp2_with (go_at_call 15; refine ((same_is x x _ _).call true (by simp) rfl rfl HX5.out hI5.out).mono ?_; rintro e w4 ⟨rfl, hf⟩; have HF4 := Lib.hid (hF5.out.trans hf); clear hf)
  clear p0 p1 p2 p3 p4 q0 q1 q2 q3 q4
  go_loopw [9] (fun j wr => ∃ (i : Nat), i ≤ x.ls.length ∧ j = .int .i64 i ∧ Hid (Fr w4 wr)) (fun j _ => x.ls.length - (intOf j).toNat)
  case atStart => exact ⟨0, by omega, rfl, Lib.hid (Fr.refl _)⟩
  case round =>
    obtain ⟨i, hi, rfl, hR⟩ := hrel
    obtain ⟨⟨_, _, _, q3, q4⟩, _⟩ := box5 (HX0.out.keep (HF4.out.trans hR.out))
    by_cases hlt : i < x.ls.length
    · have hlt' : (i : Int) < (x.ls.length : Int) := by omega
      obtain ⟨b5, o5, E, e, E', e', rfl, hbb, ⟨c1, c2, c3, c4, c5⟩, hu⟩ := HLS.out i hlt
      have hmem := List.getElem_mem hlt
      have hih := HIL.out _ hmem
      have hou := HO3.out _ hmem
      have hbu := Pt.bulk_ls hmem
      have hfs := Pt.find_snoc HFI.out (Pt.step_put (HO1.out (fun e => by rw [e] at hlt; simp at hlt)) hlt (by omega))
      have hpn := Nm.put_len (n := (i : Int)) (by omega) (by omega)
      have hms2 : Pt.bulkS (ps ++ [Nm.put (i : Int)]) + 22 * JV.bulk x.ls[i] ≤ 24000000 := by
        rw [Pt.bulkS_app]
        show Pt.bulkS ps + ((Nm.put (i : Int)).length + 1 + 0) + _ ≤ _
        omega
      obtain ⟨u, hxu⟩ : ∃ u, x.ls[i] = u := ⟨_, rfl⟩
      rw [hxu] at c1 c2 c3 c4 c5 hu hih hou hbu hfs hms2
      have HCB : Hid (∀ (W : World) (A9 : Option Addr) (c9 : Nat), Fr wr W → PsC W A9 (ps ++ [Nm.put (i : Int)]) → Calls Tryz.prog 33 #[.agg #[.int .i64 v.kd, .int .i64 v.nm, .string ⟨v.tx.toArray⟩, .slice B v.ls.length d, .slice B' v.ms.length d'], .slice A9 (ps.length + 1) c9, .agg #[.int .i64 u.kd, .int .i64 u.nm, .string ⟨u.tx.toArray⟩, .slice E u.ls.length e, .slice E' u.ms.length e']] W fun e w' => e = .returned (.bool true) ∧ Fr W w') := Lib.hid (fun W A9 c9 hW hp => by
        rw [show ps.length + 1 = (ps ++ [Nm.put (i : Int)]).length by simp]
        have hfw := HF0.out.trans (HF4.out.trans (hR.out.trans hW))
        exact hih (ps ++ [Nm.put (i : Int)]) A9 c9 B d B' d' E e E' e' W ((HV.out.keep (Nat.le_refl _) hfw).lo hfw.size) ((hu.keep (Nat.le_refl _) hfw).lo hfw.size) hp hfs hou hbv hms2 (HM.out.keep hfw))
      have HS1 : Hid (∀ W, Fr wr W → W.cell? ⟨w.heap.size, 0, none⟩ = some (Value.int .i64 v.kd) ∧ W.cell? ⟨w.heap.size, 1, none⟩ = some (Value.int .i64 v.nm) ∧ W.cell? ⟨w.heap.size, 2, none⟩ = some (Value.string ⟨v.tx.toArray⟩) ∧ W.cell? ⟨w.heap.size, 3, none⟩ = some (Value.slice B v.ls.length d) ∧ W.cell? ⟨w.heap.size, 4, none⟩ = some (Value.slice B' v.ms.length d') ∧ W.cell? ⟨w.heap.size + 1, 3, none⟩ = some (Value.slice (some ⟨b5, o5, none⟩) x.ls.length f) ∧ W.cell? ⟨b5, o5 + i * 5, none⟩ = some (.int .i64 u.kd) ∧ W.cell? ⟨b5, o5 + i * 5 + 1, none⟩ = some (.int .i64 u.nm) ∧ W.cell? ⟨b5, o5 + i * 5 + 2, none⟩ = some (.string ⟨u.tx.toArray⟩) ∧ W.cell? ⟨b5, o5 + i * 5 + 3, none⟩ = some (.slice E u.ls.length e) ∧ W.cell? ⟨b5, o5 + i * 5 + 4, none⟩ = some (.slice E' u.ms.length e')) := Lib.hid (fun W hW => by
        have h := HB0.out.keep (HF4.out.trans (hR.out.trans hW))
        have hx := HX0.out.keep (HF4.out.trans (hR.out.trans hW))
        have hk := fun j => (HF0.out.trans (HF4.out.trans (hR.out.trans hW))).cell (o := j) hbb
        exact ⟨h.cell 0, h.cell 1, h.cell 2, h.cell 3, h.cell 4, hx.cell 3, (hk _).trans c1, (hk _).trans c2, (hk _).trans c3, (hk _).trans c4, (hk _).trans c5⟩)
      have HPR := Lib.hid (HPS.out.keep (HF0.out.trans (HF4.out.trans hR.out)))
      clear c1 c2 c3 c4 c5 hu hih hou hbu hfs hpn hms2 hxu hmem hbb
      go_wp2_with (at_builtin; refine wpl_sS rfl (.tmp 35) (.tmp 36) rfl wr (Fr.refl wr) _ [] rfl (Ssl.none_ _ _) A c ps.length ps rfl rfl HPR.out hk16 ?_; intro v8 w8 hs8 hf8; have hs8 : Ssl w8 wr.heap.size v8 ps := hs8; obtain ⟨A8, c8, rfl, _⟩ := hs8.shows; have HS8 := Lib.hid hs8; have HF8 := Lib.hid hf8; clear hs8 hf8)
      refine wp_region_held_drew (S := (fun W => W.cell? ⟨w.heap.size, 0, none⟩ = some (Value.int .i64 v.kd) ∧ W.cell? ⟨w.heap.size, 1, none⟩ = some (Value.int .i64 v.nm) ∧ W.cell? ⟨w.heap.size, 2, none⟩ = some (Value.string ⟨v.tx.toArray⟩) ∧ W.cell? ⟨w.heap.size, 3, none⟩ = some (Value.slice B v.ls.length d) ∧ W.cell? ⟨w.heap.size, 4, none⟩ = some (Value.slice B' v.ms.length d') ∧ W.cell? ⟨w.heap.size + 1, 3, none⟩ = some (Value.slice (some ⟨b5, o5, none⟩) x.ls.length f) ∧ W.cell? ⟨b5, o5 + i * 5, none⟩ = some (.int .i64 u.kd) ∧ W.cell? ⟨b5, o5 + i * 5 + 1, none⟩ = some (.int .i64 u.nm) ∧ W.cell? ⟨b5, o5 + i * 5 + 2, none⟩ = some (.string ⟨u.tx.toArray⟩) ∧ W.cell? ⟨b5, o5 + i * 5 + 3, none⟩ = some (.slice E u.ls.length e) ∧ W.cell? ⟨b5, o5 + i * 5 + 4, none⟩ = some (.slice E' u.ms.length e'))) (by kernel_rfl) ?_ (fun hHeld => ?_)
      · exact HS1.out _ HF8.out.drew
      refine wpAnyH_take (i := 0) (v := ?_) rfl (by kernel_rfl) (by kernel_rfl) (by kernel_rfl) (fun _ _ _ h => h) (Or.inl ⟨by rfl, ?_⟩) hHeld ?_
      rotate_left
      · (intro w' hSw; (try dsimp only at hSw); go_simp; try with_reducible rfl)
      try simp only [Act.put, List.getElem_toArray, List.getElem_cons_succ, List.getElem_cons_zero, List.setIfInBounds_toArray, List.set_cons_zero, List.set_cons_succ]
      refine wpAnyH_take (i := 1) (v := ?_) rfl (by kernel_rfl) (by kernel_rfl) (by kernel_rfl) (fun _ _ _ h => h) (Or.inl ⟨by rfl, ?_⟩) hHeld ?_
      rotate_left
      · (intro w' hSw; (try dsimp only at hSw); go_simp; try with_reducible rfl)
      try simp only [Act.put, List.getElem_toArray, List.getElem_cons_succ, List.getElem_cons_zero, List.setIfInBounds_toArray, List.set_cons_zero, List.set_cons_succ]
      refine wpAnyH_take (i := 2) (v := ?_) rfl (by kernel_rfl) (by kernel_rfl) (by kernel_rfl) (fun _ _ _ h => h) (Or.inl ⟨by rfl, ?_⟩) hHeld ?_
      rotate_left
      · (intro w' hSw; (try dsimp only at hSw); go_simp; try with_reducible rfl)
      try simp only [Act.put, List.getElem_toArray, List.getElem_cons_succ, List.getElem_cons_zero, List.setIfInBounds_toArray, List.set_cons_zero, List.set_cons_succ]
      refine wpAnyH_take (i := 6) (v := ?_) rfl (by kernel_rfl) (by kernel_rfl) (by kernel_rfl) (fun _ _ _ h => h) (Or.inl ⟨by rfl, ?_⟩) hHeld ?_
      rotate_left
      · (intro w' hSw; (try dsimp only at hSw); go_simp; try with_reducible rfl)
      try simp only [Act.put, List.getElem_toArray, List.getElem_cons_succ, List.getElem_cons_zero, List.setIfInBounds_toArray, List.set_cons_zero, List.set_cons_succ]
      refine wpAnyH_take (i := 7) (v := ?_) rfl (by kernel_rfl) (by kernel_rfl) (by kernel_rfl) (fun _ _ _ h => h) (Or.inl ⟨by rfl, ?_⟩) hHeld ?_
      rotate_left
      · (intro w' hSw; (try dsimp only at hSw); go_simp; try with_reducible rfl)
      try simp only [Act.put, List.getElem_toArray, List.getElem_cons_succ, List.getElem_cons_zero, List.setIfInBounds_toArray, List.set_cons_zero, List.set_cons_succ]
      refine wpAnyH_take (i := 8) (v := ?_) rfl (by kernel_rfl) (by kernel_rfl) (by kernel_rfl) (fun _ _ _ h => h) (Or.inl ⟨by rfl, ?_⟩) hHeld ?_
      rotate_left
      · (intro w' hSw; (try dsimp only at hSw); go_simp; try with_reducible rfl)
      try simp only [Act.put, List.getElem_toArray, List.getElem_cons_succ, List.getElem_cons_zero, List.setIfInBounds_toArray, List.set_cons_zero, List.set_cons_succ]
      refine wpAnyH_take (i := 9) (v := ?_) rfl (by kernel_rfl) (by kernel_rfl) (by kernel_rfl) (fun _ _ _ h => h) (Or.inl ⟨by rfl, ?_⟩) hHeld ?_
      rotate_left
      · (intro w' hSw; (try dsimp only at hSw); go_simp; try with_reducible rfl)
      try simp only [Act.put, List.getElem_toArray, List.getElem_cons_succ, List.getElem_cons_zero, List.setIfInBounds_toArray, List.set_cons_zero, List.set_cons_succ]
      refine wpAnyH_take (i := 10) (v := ?_) rfl (by kernel_rfl) (by kernel_rfl) (by kernel_rfl) (fun _ _ _ h => h) (Or.inl ⟨by rfl, ?_⟩) hHeld ?_
      rotate_left
      · (intro w' hSw; (try dsimp only at hSw); go_simp; try with_reducible rfl)
      try simp only [Act.put, List.getElem_toArray, List.getElem_cons_succ, List.getElem_cons_zero, List.setIfInBounds_toArray, List.set_cons_zero, List.set_cons_succ]
      refine wpAnyH_ready (rs := [3]) (by kernel_rfl) (by simp) ?_
      refine AllReadyH.cons rfl (fun K hK => ?_) AllReadyH.nil
      go_simp
      (go_at_call 35; refine (rput_any i _ _ (by omega) (by omega) (by omega)).mono ?_; rintro e w9a ⟨rfl, hf⟩; have HFp := Lib.hid ((Fr.refl w8).drew.trans hf); have HFa := Lib.hid (HF8.out.drew.trans hf); clear hf)
      try (refine hK.out _ _ ?_ (fun hHeld2 => ?_))
      · exact HS1.out _ HFa.out
      clear hK K
      try simp only [Act.put, List.getElem_toArray, List.getElem_cons_succ, List.getElem_cons_zero, List.setIfInBounds_toArray, List.set_cons_zero, List.set_cons_succ]
      refine wpAnyH_ready (rs := [4]) (by kernel_rfl) (by simp) ?_
      refine AllReadyH.cons rfl (fun K hK => ?_) AllReadyH.nil
      go_simp
      try (refine hK.out _ _ ?_ (fun hHeld2 => ?_))
      · exact HS1.out _ (HFa.out.alloc _)
      clear hK K
      try simp only [Act.put, List.getElem_toArray, List.getElem_cons_succ, List.getElem_cons_zero, List.setIfInBounds_toArray, List.set_cons_zero, List.set_cons_succ]
      refine wpAnyH_ready (rs := [5]) (by kernel_rfl) (by simp) ?_
      refine AllReadyH.cons rfl (fun K hK => ?_) AllReadyH.nil
      refine step_ss_lit rfl (.tmp 39) (.tmp 42) rfl wr HFa.out _ ps rfl (HS8.out.keep HFp.out) [Nm.put (i : Int)] 1 1 rfl rfl rfl (by simp [svs]) (by simpa using hk17) ?_
      intro v9 w9 hs9 hf9
      obtain ⟨A9, c9, rfl, hp9⟩ := hs9.shows
      rw [List.length_append, List.length_singleton]
      have HF9 := Lib.hid hf9
      have HP9 := Lib.hid hp9
      clear hs9 hf9 hp9
      refine hK.out _ _ ?_ (fun hHeld2 => ?_)
      · exact HS1.out _ HF9.out
      clear hK K
      try simp only [Act.put, List.getElem_toArray, List.getElem_cons_succ, List.getElem_cons_zero, List.setIfInBounds_toArray, List.set_cons_zero, List.set_cons_succ]
      refine wpAnyH_ready (rs := [11]) (by kernel_rfl) (by simp) ?_
      refine AllReadyH.cons rfl (fun K hK => ?_) AllReadyH.nil
      go_simp
      (go_at_call 33; refine (HCB.out _ A9 c9 HF9.out HP9.out).mono ?_; rintro e w10 ⟨rfl, hf⟩; have HF10 := Lib.hid (HF9.out.trans hf); clear hf)
      try (refine hK.out _ _ ?_ (fun hHeld2 => ?_))
      · exact HS1.out _ HF10.out
      clear hK K
      try simp only [Act.put, List.getElem_toArray, List.getElem_cons_succ, List.getElem_cons_zero, List.setIfInBounds_toArray, List.set_cons_zero, List.set_cons_succ]
      refine wpAnyH_take (i := 12) (v := ?_) rfl (by kernel_rfl) (by kernel_rfl) (by kernel_rfl) (fun _ _ _ h => h) (Or.inl ⟨by rfl, ?_⟩) hHeld2 ?_
      rotate_left
      · (intro w' hSw; (try dsimp only at hSw); go_simp; try with_reducible rfl)
      try simp only [Act.put, List.getElem_toArray, List.getElem_cons_succ, List.getElem_cons_zero, List.setIfInBounds_toArray, List.set_cons_zero, List.set_cons_succ]
      refine wpAnyH_done (by kernel_rfl) ?_ _
      clear hHeld2
      go_wp2_with fail
      exact ⟨⟨i + 1, by omega, by go_num, Lib.hid (hR.out.trans HF10.out)⟩, by simp [intOf]; omega⟩
    · go_wp2_with fail
      go_loopw [11] (fun j wr => ∃ (i : Nat), i ≤ x.ms.length ∧ j = .int .i64 i ∧ Hid (Fr w4 wr)) (fun j _ => x.ms.length - (intOf j).toNat)
      case atStart => exact ⟨0, by omega, rfl, hR⟩
      case round =>
        obtain ⟨i, hi, rfl, hR⟩ := hrel
        obtain ⟨⟨_, _, _, q3, q4⟩, _⟩ := box5 (HX0.out.keep (HF4.out.trans hR.out))
        by_cases hlt : i < x.ms.length
        · have hlt' : (i : Int) < (x.ms.length : Int) := by omega
          obtain ⟨b5, o5, E, e, E', e', rfl, hbb, hnl, c0, ⟨c1, c2, c3, c4, c5⟩, hu⟩ := HMS.out i hlt
          have hmem := List.getElem_mem hlt
          have hih := HIM.out _ hmem
          have hou := HO4.out _ hmem
          have hbu := Pt.bulk_ms hmem
          have hne6 := HO2.out (fun e => by rw [e] at hlt; simp at hlt)
          have hfs := Pt.find_snoc HFI.out (Pt.step_name hne6.1 hlt hne6.2)
          have hms2 : Pt.bulkS (ps ++ [x.ms[i].1]) + 22 * JV.bulk x.ms[i].2 ≤ 24000000 := by
            rw [Pt.bulkS_app]
            show Pt.bulkS ps + ((x.ms[i].1).length + 1 + 0) + _ ≤ _
            omega
          obtain ⟨pu, hxu⟩ : ∃ pu, x.ms[i] = pu := ⟨_, rfl⟩
          rw [hxu] at c0 c1 c2 c3 c4 c5 hu hih hou hbu hfs hms2 hnl
          obtain ⟨nm, u⟩ := pu
          simp only at c0 c1 c2 c3 c4 c5 hu hih hou hbu hfs hms2 hnl
          have HCB : Hid (∀ (W : World) (A9 : Option Addr) (c9 : Nat), Fr wr W → PsC W A9 (ps ++ [nm]) → Calls Tryz.prog 33 #[.agg #[.int .i64 v.kd, .int .i64 v.nm, .string ⟨v.tx.toArray⟩, .slice B v.ls.length d, .slice B' v.ms.length d'], .slice A9 (ps.length + 1) c9, .agg #[.int .i64 u.kd, .int .i64 u.nm, .string ⟨u.tx.toArray⟩, .slice E u.ls.length e, .slice E' u.ms.length e']] W fun e w' => e = .returned (.bool true) ∧ Fr W w') := Lib.hid (fun W A9 c9 hW hp => by
            rw [show ps.length + 1 = (ps ++ [nm]).length by simp]
            have hfw := HF0.out.trans (HF4.out.trans (hR.out.trans hW))
            exact hih (ps ++ [nm]) A9 c9 B d B' d' E e E' e' W ((HV.out.keep (Nat.le_refl _) hfw).lo hfw.size) ((hu.keep (Nat.le_refl _) hfw).lo hfw.size) hp hfs hou hbv hms2 (HM.out.keep hfw))
          have HS1 : Hid (∀ W, Fr wr W → W.cell? ⟨w.heap.size, 0, none⟩ = some (Value.int .i64 v.kd) ∧ W.cell? ⟨w.heap.size, 1, none⟩ = some (Value.int .i64 v.nm) ∧ W.cell? ⟨w.heap.size, 2, none⟩ = some (Value.string ⟨v.tx.toArray⟩) ∧ W.cell? ⟨w.heap.size, 3, none⟩ = some (Value.slice B v.ls.length d) ∧ W.cell? ⟨w.heap.size, 4, none⟩ = some (Value.slice B' v.ms.length d') ∧ W.cell? ⟨w.heap.size + 1, 4, none⟩ = some (Value.slice (some ⟨b5, o5, none⟩) x.ms.length f') ∧ W.cell? ⟨b5, o5 + i * 6, none⟩ = some (.string ⟨nm.toArray⟩) ∧ W.cell? ⟨b5, o5 + i * 6 + 1, none⟩ = some (.int .i64 u.kd) ∧ W.cell? ⟨b5, o5 + i * 6 + 1 + 1, none⟩ = some (.int .i64 u.nm) ∧ W.cell? ⟨b5, o5 + i * 6 + 1 + 2, none⟩ = some (.string ⟨u.tx.toArray⟩) ∧ W.cell? ⟨b5, o5 + i * 6 + 1 + 3, none⟩ = some (.slice E u.ls.length e) ∧ W.cell? ⟨b5, o5 + i * 6 + 1 + 4, none⟩ = some (.slice E' u.ms.length e')) := Lib.hid (fun W hW => by
            have h := HB0.out.keep (HF4.out.trans (hR.out.trans hW))
            have hx := HX0.out.keep (HF4.out.trans (hR.out.trans hW))
            have hk := fun j => (HF0.out.trans (HF4.out.trans (hR.out.trans hW))).cell (o := j) hbb
            exact ⟨h.cell 0, h.cell 1, h.cell 2, h.cell 3, h.cell 4, hx.cell 4, (hk _).trans c0, (hk _).trans c1, (hk _).trans c2, (hk _).trans c3, (hk _).trans c4, (hk _).trans c5⟩)
          have HPR := Lib.hid (HPS.out.keep (HF0.out.trans (HF4.out.trans hR.out)))
          clear c0 c1 c2 c3 c4 c5 hu hih hou hbu hfs hms2 hxu hmem hbb hne6
          go_wp2_with (at_builtin; refine wpl_sS rfl (.tmp 58) (.tmp 59) rfl wr (Fr.refl wr) _ [] rfl (Ssl.none_ _ _) A c ps.length ps rfl rfl HPR.out hk16 ?_; intro v8 w8 hs8 hf8; have hs8 : Ssl w8 wr.heap.size v8 ps := hs8; obtain ⟨A8, c8, rfl, _⟩ := hs8.shows; have HS8 := Lib.hid hs8; have HF8 := Lib.hid hf8; clear hs8 hf8)
          refine wp_region_held_drew (S := (fun W => W.cell? ⟨w.heap.size, 0, none⟩ = some (Value.int .i64 v.kd) ∧ W.cell? ⟨w.heap.size, 1, none⟩ = some (Value.int .i64 v.nm) ∧ W.cell? ⟨w.heap.size, 2, none⟩ = some (Value.string ⟨v.tx.toArray⟩) ∧ W.cell? ⟨w.heap.size, 3, none⟩ = some (Value.slice B v.ls.length d) ∧ W.cell? ⟨w.heap.size, 4, none⟩ = some (Value.slice B' v.ms.length d') ∧ W.cell? ⟨w.heap.size + 1, 4, none⟩ = some (Value.slice (some ⟨b5, o5, none⟩) x.ms.length f') ∧ W.cell? ⟨b5, o5 + i * 6, none⟩ = some (.string ⟨nm.toArray⟩) ∧ W.cell? ⟨b5, o5 + i * 6 + 1, none⟩ = some (.int .i64 u.kd) ∧ W.cell? ⟨b5, o5 + i * 6 + 1 + 1, none⟩ = some (.int .i64 u.nm) ∧ W.cell? ⟨b5, o5 + i * 6 + 1 + 2, none⟩ = some (.string ⟨u.tx.toArray⟩) ∧ W.cell? ⟨b5, o5 + i * 6 + 1 + 3, none⟩ = some (.slice E u.ls.length e) ∧ W.cell? ⟨b5, o5 + i * 6 + 1 + 4, none⟩ = some (.slice E' u.ms.length e'))) (by kernel_rfl) ?_ (fun hHeld => ?_)
          · exact HS1.out _ HF8.out.drew
          refine wpAnyH_take (i := 0) (v := ?_) rfl (by kernel_rfl) (by kernel_rfl) (by kernel_rfl) (fun _ _ _ h => h) (Or.inl ⟨by rfl, ?_⟩) hHeld ?_
          rotate_left
          · (intro w' hSw; (try dsimp only at hSw); go_simp; try with_reducible rfl)
          try simp only [Act.put, List.getElem_toArray, List.getElem_cons_succ, List.getElem_cons_zero, List.setIfInBounds_toArray, List.set_cons_zero, List.set_cons_succ]
          refine wpAnyH_take (i := 1) (v := ?_) rfl (by kernel_rfl) (by kernel_rfl) (by kernel_rfl) (fun _ _ _ h => h) (Or.inl ⟨by rfl, ?_⟩) hHeld ?_
          rotate_left
          · (intro w' hSw; (try dsimp only at hSw); go_simp; try with_reducible rfl)
          try simp only [Act.put, List.getElem_toArray, List.getElem_cons_succ, List.getElem_cons_zero, List.setIfInBounds_toArray, List.set_cons_zero, List.set_cons_succ]
          refine wpAnyH_take (i := 2) (v := ?_) rfl (by kernel_rfl) (by kernel_rfl) (by kernel_rfl) (fun _ _ _ h => h) (Or.inl ⟨by rfl, ?_⟩) hHeld ?_
          rotate_left
          · (intro w' hSw; (try dsimp only at hSw); go_simp; try with_reducible rfl)
          try simp only [Act.put, List.getElem_toArray, List.getElem_cons_succ, List.getElem_cons_zero, List.setIfInBounds_toArray, List.set_cons_zero, List.set_cons_succ]
          refine wpAnyH_take (i := 3) (v := ?_) rfl (by kernel_rfl) (by kernel_rfl) (by kernel_rfl) (fun _ _ _ h => h) (Or.inl ⟨by rfl, ?_⟩) hHeld ?_
          rotate_left
          · (intro w' hSw; (try dsimp only at hSw); go_simp; try with_reducible rfl)
          try simp only [Act.put, List.getElem_toArray, List.getElem_cons_succ, List.getElem_cons_zero, List.setIfInBounds_toArray, List.set_cons_zero, List.set_cons_succ]
          refine wpAnyH_take (i := 4) (v := ?_) rfl (by kernel_rfl) (by kernel_rfl) (by kernel_rfl) (fun _ _ _ h => h) (Or.inl ⟨by rfl, ?_⟩) hHeld ?_
          rotate_left
          · (intro w' hSw; (try dsimp only at hSw); go_simp; try with_reducible rfl)
          try simp only [Act.put, List.getElem_toArray, List.getElem_cons_succ, List.getElem_cons_zero, List.setIfInBounds_toArray, List.set_cons_zero, List.set_cons_succ]
          refine wpAnyH_take (i := 5) (v := ?_) rfl (by kernel_rfl) (by kernel_rfl) (by kernel_rfl) (fun _ _ _ h => h) (Or.inl ⟨by rfl, ?_⟩) hHeld ?_
          rotate_left
          · (intro w' hSw; (try dsimp only at hSw); go_simp; try with_reducible rfl)
          try simp only [Act.put, List.getElem_toArray, List.getElem_cons_succ, List.getElem_cons_zero, List.setIfInBounds_toArray, List.set_cons_zero, List.set_cons_succ]
          refine wpAnyH_take (i := 6) (v := ?_) rfl (by kernel_rfl) (by kernel_rfl) (by kernel_rfl) (fun _ _ _ h => h) (Or.inl ⟨by rfl, ?_⟩) hHeld ?_
          rotate_left
          · (intro w' hSw; (try dsimp only at hSw); go_simp; try with_reducible rfl)
          try simp only [Act.put, List.getElem_toArray, List.getElem_cons_succ, List.getElem_cons_zero, List.setIfInBounds_toArray, List.set_cons_zero, List.set_cons_succ]
          refine wpAnyH_take (i := 7) (v := ?_) rfl (by kernel_rfl) (by kernel_rfl) (by kernel_rfl) (fun _ _ _ h => h) (Or.inl ⟨by rfl, ?_⟩) hHeld ?_
          rotate_left
          · (intro w' hSw; (try dsimp only at hSw); go_simp; try with_reducible rfl)
          try simp only [Act.put, List.getElem_toArray, List.getElem_cons_succ, List.getElem_cons_zero, List.setIfInBounds_toArray, List.set_cons_zero, List.set_cons_succ]
          refine wpAnyH_take (i := 10) (v := ?_) rfl (by kernel_rfl) (by kernel_rfl) (by kernel_rfl) (fun _ _ _ h => h) (Or.inl ⟨by rfl, ?_⟩) hHeld ?_
          rotate_left
          · (intro w' hSw; (try dsimp only at hSw); go_simp; try with_reducible rfl)
          try simp only [Act.put, List.getElem_toArray, List.getElem_cons_succ, List.getElem_cons_zero, List.setIfInBounds_toArray, List.set_cons_zero, List.set_cons_succ]
          refine wpAnyH_take (i := 11) (v := ?_) rfl (by kernel_rfl) (by kernel_rfl) (by kernel_rfl) (fun _ _ _ h => h) (Or.inl ⟨by rfl, ?_⟩) hHeld ?_
          rotate_left
          · (intro w' hSw; (try dsimp only at hSw); go_simp; try with_reducible rfl)
          try simp only [Act.put, List.getElem_toArray, List.getElem_cons_succ, List.getElem_cons_zero, List.setIfInBounds_toArray, List.set_cons_zero, List.set_cons_succ]
          refine wpAnyH_take (i := 12) (v := ?_) rfl (by kernel_rfl) (by kernel_rfl) (by kernel_rfl) (fun _ _ _ h => h) (Or.inl ⟨by rfl, ?_⟩) hHeld ?_
          rotate_left
          · (intro w' hSw; (try dsimp only at hSw); go_simp; try with_reducible rfl)
          try simp only [Act.put, List.getElem_toArray, List.getElem_cons_succ, List.getElem_cons_zero, List.setIfInBounds_toArray, List.set_cons_zero, List.set_cons_succ]
          refine wpAnyH_take (i := 13) (v := ?_) rfl (by kernel_rfl) (by kernel_rfl) (by kernel_rfl) (fun _ _ _ h => h) (Or.inl ⟨by rfl, ?_⟩) hHeld ?_
          rotate_left
          · (intro w' hSw; (try dsimp only at hSw); go_simp; try with_reducible rfl)
          try simp only [Act.put, List.getElem_toArray, List.getElem_cons_succ, List.getElem_cons_zero, List.setIfInBounds_toArray, List.set_cons_zero, List.set_cons_succ]
          refine wpAnyH_take (i := 14) (v := ?_) rfl (by kernel_rfl) (by kernel_rfl) (by kernel_rfl) (fun _ _ _ h => h) (Or.inl ⟨by rfl, ?_⟩) hHeld ?_
          rotate_left
          · (intro w' hSw; (try dsimp only at hSw); go_simp; try with_reducible rfl)
          try simp only [Act.put, List.getElem_toArray, List.getElem_cons_succ, List.getElem_cons_zero, List.setIfInBounds_toArray, List.set_cons_zero, List.set_cons_succ]
          refine wpAnyH_take (i := 15) (v := ?_) rfl (by kernel_rfl) (by kernel_rfl) (by kernel_rfl) (fun _ _ _ h => h) (Or.inl ⟨by rfl, ?_⟩) hHeld ?_
          rotate_left
          · (intro w' hSw; (try dsimp only at hSw); go_simp; try with_reducible rfl)
          try simp only [Act.put, List.getElem_toArray, List.getElem_cons_succ, List.getElem_cons_zero, List.setIfInBounds_toArray, List.set_cons_zero, List.set_cons_succ]
          refine wpAnyH_ready (rs := [8]) (by kernel_rfl) (by simp) ?_
          refine AllReadyH.cons rfl (fun K hK => ?_) AllReadyH.nil
          go_simp
          try (refine hK.out _ _ ?_ (fun hHeld2 => ?_))
          · exact HS1.out _ (HF8.out.drew.alloc _)
          clear hK K
          try simp only [Act.put, List.getElem_toArray, List.getElem_cons_succ, List.getElem_cons_zero, List.setIfInBounds_toArray, List.set_cons_zero, List.set_cons_succ]
          refine wpAnyH_ready (rs := [9]) (by kernel_rfl) (by simp) ?_
          refine AllReadyH.cons rfl (fun K hK => ?_) AllReadyH.nil
          refine step_ss_lit rfl (.tmp 62) (.tmp 69) rfl wr HF8.out.drew _ ps rfl (HS8.out.keep (Fr.refl _).drew) [nm] 1 1 rfl rfl rfl (by simp [svs]) (by simpa using hk17) ?_
          intro v9 w9 hs9 hf9
          obtain ⟨A9, c9, rfl, hp9⟩ := hs9.shows
          rw [List.length_append, List.length_singleton]
          have HF9 := Lib.hid hf9
          have HP9 := Lib.hid hp9
          clear hs9 hf9 hp9
          refine hK.out _ _ ?_ (fun hHeld2 => ?_)
          · exact HS1.out _ HF9.out
          clear hK K
          try simp only [Act.put, List.getElem_toArray, List.getElem_cons_succ, List.getElem_cons_zero, List.setIfInBounds_toArray, List.set_cons_zero, List.set_cons_succ]
          refine wpAnyH_ready (rs := [16]) (by kernel_rfl) (by simp) ?_
          refine AllReadyH.cons rfl (fun K hK => ?_) AllReadyH.nil
          go_simp
          (go_at_call 33; refine (HCB.out _ A9 c9 HF9.out HP9.out).mono ?_; rintro e w10 ⟨rfl, hf⟩; have HF10 := Lib.hid (HF9.out.trans hf); clear hf)
          try (refine hK.out _ _ ?_ (fun hHeld2 => ?_))
          · exact HS1.out _ HF10.out
          clear hK K
          try simp only [Act.put, List.getElem_toArray, List.getElem_cons_succ, List.getElem_cons_zero, List.setIfInBounds_toArray, List.set_cons_zero, List.set_cons_succ]
          refine wpAnyH_take (i := 17) (v := ?_) rfl (by kernel_rfl) (by kernel_rfl) (by kernel_rfl) (fun _ _ _ h => h) (Or.inl ⟨by rfl, ?_⟩) hHeld2 ?_
          rotate_left
          · (intro w' hSw; (try dsimp only at hSw); go_simp; try with_reducible rfl)
          try simp only [Act.put, List.getElem_toArray, List.getElem_cons_succ, List.getElem_cons_zero, List.setIfInBounds_toArray, List.set_cons_zero, List.set_cons_succ]
          refine wpAnyH_done (by kernel_rfl) ?_ _
          clear hHeld2
          go_wp2_with fail
          exact ⟨⟨i + 1, by omega, by go_num, Lib.hid (hR.out.trans HF10.out)⟩, by simp [intOf]; omega⟩
        · go_wp2_with fail
          go_ret
          exact ⟨rfl, HF0.out.trans (HF4.out.trans hR.out)⟩
theorem back_is (v x : JV) : BkAt v x := by
  induction x using JV.ind with
  | h k n s l m ihl ihm => exact back_step v _ ihl ihm
end Go.Proofs.YtfjcgbbphkfkgaaGreatDoor
