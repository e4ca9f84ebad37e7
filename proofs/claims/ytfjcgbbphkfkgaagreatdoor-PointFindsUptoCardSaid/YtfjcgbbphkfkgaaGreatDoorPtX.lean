/- The walk of the document's Lead at a star; Lead, Find, Each (cardboxref08). -/
import Derived.Test.YtfjcgbbphkfkgaaGreatDoorPtW
namespace Go.Proofs.YtfjcgbbphkfkgaaGreatDoor
set_option linter.unusedVariables false
set_option linter.unusedSimpArgs false
open Go.RowKit

/-- In the loop. -/
structure GL (Z : Nat) (W0 wr : World) (v : Value) (acc : List JV) : Prop where
  vs : VsB wr Z (W0.heap.size + 1) v acc
  bx : Blk wr W0.heap.size #[.int .i64 5, .int .i64 0, .string ⟨#[]⟩, v, .slice none 0 0] 29
  fr : Fr W0 wr
theorem GL.keep {Z : Nat} {W0 wr w' : World} {v : Value} {acc : List JV} (h : GL Z W0 wr v acc) (hf : Fr wr w') : GL Z W0 w' v acc := ⟨h.vs.keep hf, h.bx.keep hf, h.fr.trans hf⟩
/-- Behind an append and the store of what it answers. -/
theorem GL.app {Z : Nat} {W0 w3 w4 : World} {v v4 : Value} {acc new : List JV} (h : GL Z W0 w3 v acc) (hZ : Z ≤ W0.heap.size) (hv : VsB w4 Z (W0.heap.size + 1) v4 (acc ++ new)) (hg : w3.grownBy w4 v.ownBlock) :
    GL Z W0 (w4.setCell ⟨W0.heap.size, 3, none⟩ v4) v4 (acc ++ new) := by
  have hne : ∀ k, k < W0.heap.size + 1 → v.ownBlock ≠ some k := fun k hk e => by have := (h.vs.own_lt e).1; omega
  have hY : Blk w4 W0.heap.size _ _ := (hg.block _ h.bx.lt (fun e => hne _ (by omega) e.symm)).trans h.bx
  refine ⟨hv.frx (X := W0.heap.size) (by omega) (by omega) ((FrX.refl _ _).setCell rfl _), hY.set 3 _, ?_⟩
  exact (Below.grown h.fr hg h.fr.size (fun k hk => by have := (h.vs.own_lt hk).1; omega) : Fr W0 w4).setCell (p := ⟨W0.heap.size, 3, none⟩) (Nat.le_refl _) _
theorem InV.put5 {w : World} {S : Nat → Prop} {v : JV} {x : Value} (h : InV w S v x) {X : Nat} (hX : ∀ b, S b → b ≠ X) (u0 u1 u2 u3 u4 : Value) : InV (((((w.setCell ⟨X, 0, none⟩ u0).setCell ⟨X, 1, none⟩ u1).setCell ⟨X, 2, none⟩ u2).setCell ⟨X, 3, none⟩ u3).setCell ⟨X, 4, none⟩ u4) S v x :=
  h.map (fun _ h => h) (fun b o hb => by
    have hne := hX b hb
    unfold World.cell?
    rw [Below.heap_setCell _ _ _ _ hne, Below.heap_setCell _ _ _ _ hne, Below.heap_setCell _ _ _ _ hne, Below.heap_setCell _ _ _ _ hne, Below.heap_setCell _ _ _ _ hne])

set_option maxHeartbeats 4000000 in
set_option maxRecDepth 100000 in
theorem lead_star_is (ps : List (List UInt8)) (hF : LeadAt true ps) (v : JV) (B : Option Addr) (d : Nat) (B' : Option Addr) (d' : Nat) (A : Option Addr) (c : Nat) (w : World) (Z : Nat) (hZ : Z ≤ w.heap.size) (hv : InV w (Lo Z) v (vA v B d B' d')) (hn : Rd.nv v ≤ 1048576) (hp : PsC w A ([42] :: ps)) (hc : ([42] :: ps).length ≤ c) (hc2 : c ≤ 9223372036854775807) (hq : ∀ q ∈ ([42] : List UInt8) :: ps, q.length ≤ 9223372036854775807) (h5 : v.kd = 5) :
    Calls Tryz.prog 59 #[.agg #[.int .i64 v.kd, .int .i64 v.nm, .string ⟨v.tx.toArray⟩, .slice B v.ls.length d, .slice B' v.ms.length d'], .slice A (([42] : List UInt8) :: ps).length c, .bool true] w (FdP Z w (Pt.find true ([42] :: ps) v)) := by
  obtain ⟨p, hpp⟩ : ∃ p : List UInt8, [42] = p := ⟨_, rfl⟩
  rw [hpp] at hp hc hq ⊢
  have HV := Lib.hid hv
  have HN := Lib.hid hn
  have HF := Lib.hid hF
  have HQ : Hid (∀ q ∈ ps, q.length ≤ 9223372036854775807) := fun q hq' => hq q (by simp [hq'])
  have HQ0 : Hid (p.length ≤ 9223372036854775807) := hq p (by simp)
  obtain ⟨b, o, rfl, hb, hcl⟩ := hp (by simp)
  have hc0 : w.cell? ⟨b, o, none⟩ = some (.string ⟨p.toArray⟩) := hcl 0 (by simp)
  obtain ⟨A', hcut, hps, hpc⟩ := psc_cut hp hc hc2
  have HPS := Lib.hid hps
  have hpc2 : c - 1 ≤ 9223372036854775807 := by omega
  have HB := Lib.hid hb
  have HC0 := Lib.hid hc0
  simp only [List.length_cons] at hc ⊢
  have hlp : ((ps.length : Int) + 1 == 0) = false := by rw [beq_eq_false_iff_ne]; omega
  have hpl : (ps.length : Int) + 1 ≤ 9223372036854775807 := by omega
  have hF3 : Fr w (((w.alloc (.cells #[.int .i64 v.kd, .int .i64 v.nm, .string ⟨v.tx.toArray⟩, .slice B v.ls.length d, .slice B' v.ms.length d'] 29)).alloc (.cells #[.int .i64 0, .int .i64 0, .string ⟨#[]⟩, .slice none 0 0, .slice none 0 0] 29)).alloc (.cells #[.int .i64 0, .int .i64 0, .string ⟨#[]⟩, .slice none 0 0, .slice none 0 0] 29)) := (((Fr.refl w).alloc _).alloc _).alloc _
  have hB3 : Blk (((w.alloc (.cells #[.int .i64 v.kd, .int .i64 v.nm, .string ⟨v.tx.toArray⟩, .slice B v.ls.length d, .slice B' v.ms.length d'] 29)).alloc (.cells #[.int .i64 0, .int .i64 0, .string ⟨#[]⟩, .slice none 0 0, .slice none 0 0] 29)).alloc (.cells #[.int .i64 0, .int .i64 0, .string ⟨#[]⟩, .slice none 0 0, .slice none 0 0] 29)) w.heap.size #[.int .i64 v.kd, .int .i64 v.nm, .string ⟨v.tx.toArray⟩, .slice B v.ls.length d, .slice B' v.ms.length d'] 29 := ((Blk.made w _ _).keep ((Fr.refl _).alloc _)).keep ((Fr.refl _).alloc _)
  have hZ3 : Blk (((w.alloc (.cells #[.int .i64 v.kd, .int .i64 v.nm, .string ⟨v.tx.toArray⟩, .slice B v.ls.length d, .slice B' v.ms.length d'] 29)).alloc (.cells #[.int .i64 0, .int .i64 0, .string ⟨#[]⟩, .slice none 0 0, .slice none 0 0] 29)).alloc (.cells #[.int .i64 0, .int .i64 0, .string ⟨#[]⟩, .slice none 0 0, .slice none 0 0] 29)) (w.heap.size + 1) #[.int .i64 0, .int .i64 0, .string ⟨#[]⟩, .slice none 0 0, .slice none 0 0] 29 := (boxz (Blk.made (w.alloc _) _ _)).keep ((Fr.refl _).alloc _)
  have hN3 : Blk (((w.alloc (.cells #[.int .i64 v.kd, .int .i64 v.nm, .string ⟨v.tx.toArray⟩, .slice B v.ls.length d, .slice B' v.ms.length d'] 29)).alloc (.cells #[.int .i64 0, .int .i64 0, .string ⟨#[]⟩, .slice none 0 0, .slice none 0 0] 29)).alloc (.cells #[.int .i64 0, .int .i64 0, .string ⟨#[]⟩, .slice none 0 0, .slice none 0 0] 29)) (w.heap.size + 1 + 1) #[.int .i64 0, .int .i64 0, .string ⟨#[]⟩, .slice none 0 0, .slice none 0 0] 29 := boxy (Blk.made ((w.alloc _).alloc _) _ _)
  obtain ⟨q6, _⟩ := ikind (show v.kd ≠ 6 by omega)
  have q5 : (v.kd != 5) = false := by rw [bne_eq_false_iff_eq]; exact h5
  have qs1 : ((⟨p.toArray⟩ : ByteArray).toList == (⟨#[42]⟩ : ByteArray).toList) = true := (bl_beq' p [42]).trans (decide_eq_true hpp.symm)
  have qs2 : (p == [42]) = true := by rw [beq_iff_eq]; exact hpp.symm
  rw [Pt.find_cons, if_pos ⟨rfl, hpp.symm, h5⟩]
  have hL := hv.facts.2.2.2.1
  have hL' : (v.ls.length : Int) ≤ 140737488355328 := by omega
  obtain ⟨A1, k5, A1', k6, he, hls, _⟩ := hv.open_
  have hA : B = A1 := by obtain ⟨_, _, _, e3, _⟩ := five he; injection e3
  subst hA
  have HLS := Lib.hid hls
  have hnl : Rd.nvL v.ls ≤ 1048576 := by have := Pt.nv_eq v; omega
  have HNL := Lib.hid hnl
  obtain ⟨r, hr⟩ : ∃ r, Pt.gather (Pt.find true ps) v.ls = r := ⟨_, rfl⟩
  rw [hr]
  have HR := Lib.hid hr
  clear hv hp hcl hps hF hn hq h5 hpp hL he hls hnl hr
  go_enter Tryz.func59, Tryz.ntmps59
  go_upto_region 4 with fail
  generalize (((w.alloc (.cells #[.int .i64 v.kd, .int .i64 v.nm, .string ⟨v.tx.toArray⟩, .slice B v.ls.length d, .slice B' v.ms.length d'] 29)).alloc (.cells #[.int .i64 0, .int .i64 0, .string ⟨#[]⟩, .slice none 0 0, .slice none 0 0] 29)).alloc (.cells #[.int .i64 0, .int .i64 0, .string ⟨#[]⟩, .slice none 0 0, .slice none 0 0] 29)) = W0 at hF3 hB3 hZ3 hN3 ⊢
  have HF3 := Lib.hid hF3
  have HB3 := Lib.hid hB3
  have HZ3 := Lib.hid hZ3
  have HN3 := Lib.hid hN3
  obtain ⟨⟨a0, a1, a2, a3, a4⟩, _⟩ := box5 hB3
  obtain ⟨⟨z0, z1, z2, z3, z4⟩, zf0, zf1, zf2, zf3, zf4⟩ := box5 hZ3
  obtain ⟨⟨n0, n1, n2, n3, n4⟩, _⟩ := box5 hN3
  have hz1 : w.heap.size + 1 < W0.heap.size := hZ3.lt
  have hzn : ¬ w.heap.size + 1 = w.heap.size := by omega
  have hzn2 : ¬ w.heap.size + 1 + 1 = w.heap.size := by omega
  have hzn3 : ¬ w.heap.size + 1 + 1 = w.heap.size + 1 := by omega
  have hc0' : W0.cell? ⟨b, o, none⟩ = some (.string ⟨p.toArray⟩) := (hF3.cell hb).trans hc0
  clear hF3 hB3 hZ3 hN3
  have hG0 : Hid (GL Z W0 (W0.alloc (.cells #[.int .i64 5, .int .i64 0, .string ⟨#[]⟩, (.slice none 0 0), .slice none 0 0] 29)) (.slice none 0 0) []) :=
    ⟨VsB.none_ _ ⟨Nat.le_trans hZ (Nat.le_trans HF3.out.size (Nat.le_succ _)), by simp⟩, Blk.made W0 _ _, (Fr.refl W0).alloc _⟩
  clear hb hc0
  go_wp2_with fail
  go_loopw [12] (fun j wr => ∃ (i : Nat) (nv : Value) (acc : List JV), i ≤ v.ls.length ∧ j = .int .i64 i ∧ Hid (GL Z W0 wr nv acc) ∧ Hid (r = (Pt.gather (Pt.find true ps) (v.ls.drop i)).map (acc ++ ·)) ∧ Hid (acc.length + Rd.nvL (v.ls.drop i) ≤ 1048576)) (fun j _ => v.ls.length - (intOf j).toNat)
  case atStart => exact ⟨0, _, [], by omega, rfl, hG0, Lib.hid (by rw [List.drop_zero, HR.out]; cases r <;> simp), Lib.hid (by rw [List.drop_zero]; have := HNL.out; simp; omega)⟩
  case round =>
    obtain ⟨i, nv, acc, hi, rfl, hG, hI, hcnt⟩ := hrel
    obtain ⟨sa, sc, rfl⟩ := hG.out.vs.is_slice
    obtain ⟨⟨y0, y1, y2, y3, y4⟩, g0, g1, g2, g3, g4⟩ := box5 hG.out.bx
    obtain ⟨⟨w0, w1', w2', w3', w4'⟩, _⟩ := box5 (HB3.out.keep hG.out.fr)
    by_cases hlt : i < v.ls.length
    · have hlt' : (i : Int) < (v.ls.length : Int) := by omega
      obtain ⟨b5, o5, C, f, C', f', rfl, hbb, ⟨c1, c2, c3, c4, c5⟩, hvx⟩ := (HLS.out.keep hZ (HF3.out.trans hG.out.fr)) i hlt
      have hnx := hI.out
      have hcq := hcnt.out
      rw [List.drop_eq_getElem_cons hlt] at hnx hcq
      obtain ⟨x, hx⟩ : ∃ x, v.ls[i] = x := ⟨_, rfl⟩
      rw [hx] at c1 c2 c3 c4 c5 hvx hnx hcq
      rw [Rd.nvL_cons] at hcq
      rw [Pt.gather_cons] at hnx
      have hZr : Z ≤ wr.heap.size := Nat.le_trans hZ (HF3.out.trans hG.out.fr).size
      have hKr : W0.heap.size + 1 ≤ wr.heap.size := hG.out.bx.lt
      have HC5 : Hid (b5 < wr.heap.size ∧ wr.cell? ⟨b5, o5 + i * 5, none⟩ = some (.int .i64 x.kd) ∧ wr.cell? ⟨b5, o5 + i * 5 + 1, none⟩ = some (.int .i64 x.nm) ∧ wr.cell? ⟨b5, o5 + i * 5 + 2, none⟩ = some (.string ⟨x.tx.toArray⟩) ∧ wr.cell? ⟨b5, o5 + i * 5 + 3, none⟩ = some (.slice C x.ls.length f) ∧ wr.cell? ⟨b5, o5 + i * 5 + 4, none⟩ = some (.slice C' x.ms.length f')) := ⟨Nat.lt_of_lt_of_le hbb hZr, c1, c2, c3, c4, c5⟩
      have HVX := Lib.hid hvx
      have hx63 : Rd.nv x ≤ 1048576 := by omega
      have HC : Hid (∀ W, Fr wr W → Calls Tryz.prog 59 #[.agg #[.int .i64 x.kd, .int .i64 x.nm, .string ⟨x.tx.toArray⟩, .slice C x.ls.length f, .slice C' x.ms.length f'], .slice A' ps.length (c - 1), .bool true] W (FdP Z W (Pt.find true ps x))) := Lib.hid (fun W hW => HF.out x C f C' f' A' (c - 1) W Z (Nat.le_trans hZr hW.size) (HVX.out.keep hZr hW) hx63 (HPS.out W (HF3.out.trans (hG.out.fr.trans hW))) hpc hpc2 HQ.out)
      have HS : Hid (∀ W, Fr wr W → W.cell? ⟨w.heap.size, 3, none⟩ = some (.slice (some ⟨b5, o5, none⟩) v.ls.length d) ∧ W.cell? ⟨b5, o5 + i * 5, none⟩ = some (.int .i64 x.kd) ∧ W.cell? ⟨b5, o5 + i * 5 + 1, none⟩ = some (.int .i64 x.nm) ∧ W.cell? ⟨b5, o5 + i * 5 + 2, none⟩ = some (.string ⟨x.tx.toArray⟩) ∧ W.cell? ⟨b5, o5 + i * 5 + 3, none⟩ = some (.slice C x.ls.length f) ∧ W.cell? ⟨b5, o5 + i * 5 + 4, none⟩ = some (.slice C' x.ms.length f')) := Lib.hid (fun W hW => by
        have h := (HB3.out.keep hG.out.fr).keep hW
        obtain ⟨hbb, c1, c2, c3, c4, c5⟩ := HC5.out
        have hk := fun j => hW.cell (o := j) hbb
        exact ⟨h.cell 3, (hk _).trans c1, (hk _).trans c2, (hk _).trans c3, (hk _).trans c4, (hk _).trans c5⟩)
      have hlenY : ∀ y, Pt.find true ps x = some y → (Pt.flat y).length ≤ Rd.nv x := fun y hy => Pt.find_len true ps x y hy
      rcases hq : Pt.find true ps x with _ | y
      · rw [hq] at hnx HC
        obtain rfl : r = none := hnx
        clear hq hlenY hvx hcq hx
        go_wp2_with fail
        go_region_held3 (fun W => W.cell? ⟨w.heap.size, 3, none⟩ = some (.slice (some ⟨b5, o5, none⟩) v.ls.length d) ∧ W.cell? ⟨b5, o5 + i * 5, none⟩ = some (.int .i64 x.kd) ∧ W.cell? ⟨b5, o5 + i * 5 + 1, none⟩ = some (.int .i64 x.nm) ∧ W.cell? ⟨b5, o5 + i * 5 + 2, none⟩ = some (.string ⟨x.tx.toArray⟩) ∧ W.cell? ⟨b5, o5 + i * 5 + 3, none⟩ = some (.slice C x.ls.length f) ∧ W.cell? ⟨b5, o5 + i * 5 + 4, none⟩ = some (.slice C' x.ms.length f'))
          (first | with_reducible exact HS.out _ (HF8.out _ _ _ _ _) | with_reducible exact HS.out _ (HF9.out _ _ _ _ _) | with_reducible exact HS.out _ (HF1.out.alloc _) | with_reducible exact HS.out _ HF1.out | with_reducible exact HS.out _ ((Fr.refl _).alloc _).drew | with_reducible exact HS.out _ (Fr.refl _).drew | with_reducible exact HS.out _ (Fr.refl _))
          (first
          | (go_at_call 59; refine (HC.out _ (by with_reducible exact ((Fr.refl wr).alloc _).drew)).mono ?_; rintro e w1 ⟨rfl, hf⟩; have hb8 : Blk w1 wr.heap.size #[.int .i64 0, .int .i64 0, .string ⟨#[]⟩, .slice none 0 0, .slice none 0 0] 29 := (Blk.made wr _ _).keep ((Fr.refl _).drew.trans hf); obtain ⟨⟨s0, s1, s2, s3, s4⟩, sf0, sf1, sf2, sf3, sf4⟩ := box5 hb8; have HB8 := Lib.hid hb8; have hf1 : Fr wr w1 := (by first | exact hf | exact (Fr.refl _).drew.trans hf | exact ((Fr.refl _).alloc _).drew.trans hf); have HF8 : Hid (∀ u0 u1 u2 u3 u4, Fr wr (((((w1.setCell ⟨wr.heap.size, 0, none⟩ u0).setCell ⟨wr.heap.size, 1, none⟩ u1).setCell ⟨wr.heap.size, 2, none⟩ u2).setCell ⟨wr.heap.size, 3, none⟩ u3).setCell ⟨wr.heap.size, 4, none⟩ u4)) := Lib.hid (fun u0 u1 u2 u3 u4 => hf1.put5 (X := wr.heap.size) (Nat.le_refl _) u0 u1 u2 u3 u4); have HF9 : Hid (∀ u0 u1 u2 u3 u4, Fr wr ((((((w1.alloc (.cells #[.int .i64 0, .int .i64 0, .string ⟨#[]⟩, .slice none 0 0, .slice none 0 0] 29)).setCell ⟨w1.heap.size, 0, none⟩ u0).setCell ⟨w1.heap.size, 1, none⟩ u1).setCell ⟨w1.heap.size, 2, none⟩ u2).setCell ⟨w1.heap.size, 3, none⟩ u3).setCell ⟨w1.heap.size, 4, none⟩ u4)) := Lib.hid (fun u0 u1 u2 u3 u4 => (hf1.alloc _).put5 (X := w1.heap.size) hf1.size u0 u1 u2 u3 u4); have HF1 := Lib.hid hf1; clear hf1 hf hb8)
          | (go_at_call 59; refine (HC.out _ (by first | with_reducible exact (Fr.refl wr).drew | with_reducible exact Fr.refl wr)).mono ?_; rintro e w1 ⟨rfl, hf⟩; have hf1 : Fr wr w1 := (by first | exact hf | exact (Fr.refl _).drew.trans hf | exact ((Fr.refl _).alloc _).drew.trans hf); have HF8 : Hid (∀ u0 u1 u2 u3 u4, Fr wr (((((w1.setCell ⟨wr.heap.size, 0, none⟩ u0).setCell ⟨wr.heap.size, 1, none⟩ u1).setCell ⟨wr.heap.size, 2, none⟩ u2).setCell ⟨wr.heap.size, 3, none⟩ u3).setCell ⟨wr.heap.size, 4, none⟩ u4)) := Lib.hid (fun u0 u1 u2 u3 u4 => hf1.put5 (X := wr.heap.size) (Nat.le_refl _) u0 u1 u2 u3 u4); have HF9 : Hid (∀ u0 u1 u2 u3 u4, Fr wr ((((((w1.alloc (.cells #[.int .i64 0, .int .i64 0, .string ⟨#[]⟩, .slice none 0 0, .slice none 0 0] 29)).setCell ⟨w1.heap.size, 0, none⟩ u0).setCell ⟨w1.heap.size, 1, none⟩ u1).setCell ⟨w1.heap.size, 2, none⟩ u2).setCell ⟨w1.heap.size, 3, none⟩ u3).setCell ⟨w1.heap.size, 4, none⟩ u4)) := Lib.hid (fun u0 u1 u2 u3 u4 => (hf1.alloc _).put5 (X := w1.heap.size) hf1.size u0 u1 u2 u3 u4); have HF1 := Lib.hid hf1; clear hf1 hf))
        · have hw9 := HF1.out.alloc (.cells #[.int .i64 0, .int .i64 0, .string ⟨#[]⟩, .slice none 0 0, .slice none 0 0] 29)
          generalize (w1.alloc (.cells #[.int .i64 0, .int .i64 0, .string ⟨#[]⟩, .slice none 0 0, .slice none 0 0] 29)) = Wf at hw9 ⊢
          have HWf := Lib.hid hw9
          have hb := HZ3.out.keep (hG.out.fr.trans hw9)
          have HBz := Lib.hid hb
          obtain ⟨⟨t0, t1, t2, t3, t4⟩, tf0, tf1, tf2, tf3, tf4⟩ := box5 hb
          obtain ⟨⟨m0, m1, m2, m3, m4⟩, _⟩ := box5 (HN3.out.keep (hG.out.fr.trans hw9))
          clear hb hw9
          go_wp2_with fail
          refine bodyPost_ret (results_cs (by rfl) rfl _ (w.heap.size + 1) (by rfl) (by rfl) _ _ _ _ _ (set5 HBz.out)) rfl ?_
          exact ⟨rfl, (HF3.out.trans (hG.out.fr.trans HWf.out)).put5 (Nat.le_succ _) _ _ _ _ _⟩
        · have hw9 := HF8.out (.int .i64 0) (.int .i64 0) (.string ⟨#[]⟩) (.slice none 0 0) (.slice none 0 0)
          generalize (((((w1.setCell ⟨wr.heap.size, 0, none⟩ (.int .i64 0)).setCell ⟨wr.heap.size, 1, none⟩ (.int .i64 0)).setCell ⟨wr.heap.size, 2, none⟩ (.string ⟨#[]⟩)).setCell ⟨wr.heap.size, 3, none⟩ (.slice none 0 0)).setCell ⟨wr.heap.size, 4, none⟩ (.slice none 0 0)) = Wf at hw9 ⊢
          have HWf := Lib.hid hw9
          have hb := HZ3.out.keep (hG.out.fr.trans hw9)
          have HBz := Lib.hid hb
          obtain ⟨⟨t0, t1, t2, t3, t4⟩, tf0, tf1, tf2, tf3, tf4⟩ := box5 hb
          obtain ⟨⟨m0, m1, m2, m3, m4⟩, _⟩ := box5 (HN3.out.keep (hG.out.fr.trans hw9))
          clear hb hw9
          go_wp2_with fail
          refine bodyPost_ret (results_cs (by rfl) rfl _ (w.heap.size + 1) (by rfl) (by rfl) _ _ _ _ _ (set5 HBz.out)) rfl ?_
          exact ⟨rfl, (HF3.out.trans (hG.out.fr.trans HWf.out)).put5 (Nat.le_succ _) _ _ _ _ _⟩
      · rw [hq] at hnx HC
        have hly := hlenY y hq
        have hnx2 : Hid (r = (Pt.gather (Pt.find true ps) (v.ls.drop (i + 1))).map ((acc ++ Pt.flat y) ++ ·)) := by
          show _ = _
          rw [hnx]
          show Option.map _ (Option.map _ _) = _
          cases Pt.gather (Pt.find true ps) (v.ls.drop (i + 1)) <;> simp
        have hcnt2 : Hid ((acc ++ Pt.flat y).length + Rd.nvL (v.ls.drop (i + 1)) ≤ 1048576) := by
          show _ ≤ _
          rw [List.length_append]; omega
        clear hq hlenY hvx hcq hx hnx
        go_wp2_with fail
        go_region_held3 (fun W => W.cell? ⟨w.heap.size, 3, none⟩ = some (.slice (some ⟨b5, o5, none⟩) v.ls.length d) ∧ W.cell? ⟨b5, o5 + i * 5, none⟩ = some (.int .i64 x.kd) ∧ W.cell? ⟨b5, o5 + i * 5 + 1, none⟩ = some (.int .i64 x.nm) ∧ W.cell? ⟨b5, o5 + i * 5 + 2, none⟩ = some (.string ⟨x.tx.toArray⟩) ∧ W.cell? ⟨b5, o5 + i * 5 + 3, none⟩ = some (.slice C x.ls.length f) ∧ W.cell? ⟨b5, o5 + i * 5 + 4, none⟩ = some (.slice C' x.ms.length f'))
          (first | with_reducible exact HS.out _ (HF8.out _ _ _ _ _) | with_reducible exact HS.out _ (HF9.out _ _ _ _ _) | with_reducible exact HS.out _ (HF1.out.alloc _) | with_reducible exact HS.out _ HF1.out | with_reducible exact HS.out _ ((Fr.refl _).alloc _).drew | with_reducible exact HS.out _ (Fr.refl _).drew | with_reducible exact HS.out _ (Fr.refl _))
          (first
          | (go_at_call 59; refine (HC.out _ (by with_reducible exact ((Fr.refl wr).alloc _).drew)).mono ?_; rintro e w1 ⟨D, g, D', g', rfl, hin, hf⟩; have hb8 : Blk w1 wr.heap.size #[.int .i64 0, .int .i64 0, .string ⟨#[]⟩, .slice none 0 0, .slice none 0 0] 29 := (Blk.made wr _ _).keep ((Fr.refl _).drew.trans hf); obtain ⟨⟨s0, s1, s2, s3, s4⟩, sf0, sf1, sf2, sf3, sf4⟩ := box5 hb8; have HB8 := Lib.hid hb8; have HIN := Lib.hid (hin.more (S' := fun b => b < Z ∨ (wr.heap.size < b ∧ b < w1.heap.size)) (fun b hb => by rcases hb with hb | hb; exact .inl hb; exact .inr ⟨Nat.lt_of_lt_of_le (by simp [World.drew]) hb.1, hb.2⟩)); clear hin; have hf1 : Fr wr w1 := (by first | exact hf | exact (Fr.refl _).drew.trans hf | exact ((Fr.refl _).alloc _).drew.trans hf); have HF8 : Hid (∀ u0 u1 u2 u3 u4, Fr wr (((((w1.setCell ⟨wr.heap.size, 0, none⟩ u0).setCell ⟨wr.heap.size, 1, none⟩ u1).setCell ⟨wr.heap.size, 2, none⟩ u2).setCell ⟨wr.heap.size, 3, none⟩ u3).setCell ⟨wr.heap.size, 4, none⟩ u4)) := Lib.hid (fun u0 u1 u2 u3 u4 => hf1.put5 (X := wr.heap.size) (Nat.le_refl _) u0 u1 u2 u3 u4); have HF9 : Hid (∀ u0 u1 u2 u3 u4, Fr wr ((((((w1.alloc (.cells #[.int .i64 0, .int .i64 0, .string ⟨#[]⟩, .slice none 0 0, .slice none 0 0] 29)).setCell ⟨w1.heap.size, 0, none⟩ u0).setCell ⟨w1.heap.size, 1, none⟩ u1).setCell ⟨w1.heap.size, 2, none⟩ u2).setCell ⟨w1.heap.size, 3, none⟩ u3).setCell ⟨w1.heap.size, 4, none⟩ u4)) := Lib.hid (fun u0 u1 u2 u3 u4 => (hf1.alloc _).put5 (X := w1.heap.size) hf1.size u0 u1 u2 u3 u4); have HF1 := Lib.hid hf1; clear hf1 hf hb8)
          | (go_at_call 59; refine (HC.out _ (by first | with_reducible exact (Fr.refl wr).drew | with_reducible exact Fr.refl wr)).mono ?_; rintro e w1 ⟨D, g, D', g', rfl, hin, hf⟩; have HIN := Lib.hid (hin.more (S' := Ne Z wr w1) (fun b hb => hb)); clear hin; have hf1 : Fr wr w1 := (by first | exact hf | exact (Fr.refl _).drew.trans hf | exact ((Fr.refl _).alloc _).drew.trans hf); have HF8 : Hid (∀ u0 u1 u2 u3 u4, Fr wr (((((w1.setCell ⟨wr.heap.size, 0, none⟩ u0).setCell ⟨wr.heap.size, 1, none⟩ u1).setCell ⟨wr.heap.size, 2, none⟩ u2).setCell ⟨wr.heap.size, 3, none⟩ u3).setCell ⟨wr.heap.size, 4, none⟩ u4)) := Lib.hid (fun u0 u1 u2 u3 u4 => hf1.put5 (X := wr.heap.size) (Nat.le_refl _) u0 u1 u2 u3 u4); have HF9 : Hid (∀ u0 u1 u2 u3 u4, Fr wr ((((((w1.alloc (.cells #[.int .i64 0, .int .i64 0, .string ⟨#[]⟩, .slice none 0 0, .slice none 0 0] 29)).setCell ⟨w1.heap.size, 0, none⟩ u0).setCell ⟨w1.heap.size, 1, none⟩ u1).setCell ⟨w1.heap.size, 2, none⟩ u2).setCell ⟨w1.heap.size, 3, none⟩ u3).setCell ⟨w1.heap.size, 4, none⟩ u4)) := Lib.hid (fun u0 u1 u2 u3 u4 => (hf1.alloc _).put5 (X := w1.heap.size) hf1.size u0 u1 u2 u3 u4); have HF1 := Lib.hid hf1; clear hf1 hf))
        · have hw9 := HF1.out.alloc (.cells #[.int .i64 y.kd, .int .i64 y.nm, .string ⟨y.tx.toArray⟩, .slice D y.ls.length g, .slice D' y.ms.length g'] 29)
          have hbx := Blk.made w1 #[.int .i64 y.kd, .int .i64 y.nm, .string ⟨y.tx.toArray⟩, .slice D y.ls.length g, .slice D' y.ms.length g'] 29
          have hin2 : InV (w1.alloc (.cells #[.int .i64 y.kd, .int .i64 y.nm, .string ⟨y.tx.toArray⟩, .slice D y.ls.length g, .slice D' y.ms.length g'] 29)) (InB Z (W0.heap.size + 1) (w1.alloc (.cells #[.int .i64 y.kd, .int .i64 y.nm, .string ⟨y.tx.toArray⟩, .slice D y.ls.length g, .slice D' y.ms.length g'] 29)) (.slice sa acc.length sc)) y (vA y D g D' g') := HIN.out.map (fun b hb => by
            rcases hb with hb | hb
            · exact .inl hb
            · exact .inr ⟨by omega, by simp; omega, fun e => by have := (hG.out.vs.own_lt e).2; omega⟩) (fun b o hb => ((Fr.refl w1).alloc _).cell (by have := HF1.out.size; rcases hb with hb | hb <;> omega))
          generalize (w1.alloc (.cells #[.int .i64 y.kd, .int .i64 y.nm, .string ⟨y.tx.toArray⟩, .slice D y.ls.length g, .slice D' y.ms.length g'] 29)) = Wf at hw9 hbx hin2 ⊢
          generalize w1.heap.size = X8 at hbx ⊢
          have HG := Lib.hid (hG.out.keep hw9)
          have HIN2 := Lib.hid hin2
          obtain ⟨⟨p0, p1, p2, p3, p4⟩, f0, f1, f2, f3, f4⟩ := box5 HG.out.bx
          obtain ⟨⟨m0, m1, m2, m3, m4⟩, _⟩ := box5 hbx
          have hZW : Z ≤ W0.heap.size := Nat.le_trans hZ HF3.out.size
          clear hw9 hbx hin2
          by_cases hk : y.kd = 5
          · have hfl : Pt.flat y = y.ls := by unfold Pt.flat; exact if_pos hk
            rw [hfl] at hnx2 hcnt2 hly
            have q5 : (y.kd == 5) = true := by rw [beq_iff_eq]; exact hk
            have hk63 : (acc.length + y.ls.length) * 80 ≤ 140737488355328 := by have := hcnt2.out; simp only [List.length_append] at this; omega
            obtain ⟨D1, g1', D1', g2', he1, hls1, _⟩ := HIN2.out.open_
            have hD : D = D1 := by obtain ⟨_, _, _, e3, _⟩ := five he1; injection e3
            subst hD
            have HL3 := Lib.hid hls1
            clear hk hfl hls1 he1
            go_wp2_with (at_builtin; refine wpl_vB rfl (.tmp 81) (.tmp 83) rfl Z (W0.heap.size + 1) _ acc rfl HG.out.vs D g y.ls.length y.ls rfl rfl HL3.out hk63 ?_; intro v4 w4 hv4 hg4; obtain ⟨a4, c4, rfl⟩ := hv4.is_slice2 (n := y.ls.length) rfl; have hg5 := HG.out.app hZW hv4 hg4; have HG5 := Lib.hid hg5; have hne4 : ∀ k, k < W0.heap.size + 1 → (Value.slice sa acc.length sc).ownBlock ≠ some k := (fun k hk e => by have := (HG.out.vs.own_lt e).1; omega); have hy4 : Blk w4 W0.heap.size _ _ := (hg4.block _ HG.out.bx.lt (fun e => hne4 _ (by omega) e.symm)).trans HG.out.bx; have zz3 := hy4.cell 3; have zzf := hy4.free 3; clear hv4 hg4 hg5 hy4 hne4)
            exact ⟨⟨i + 1, _, acc ++ y.ls, by omega, by go_num, HG5, hnx2, hcnt2⟩, by simp [intOf]; omega⟩
          · have hfl : Pt.flat y = [y] := by unfold Pt.flat; exact if_neg hk
            rw [hfl] at hnx2 hcnt2 hly
            obtain ⟨q5, _⟩ := ikind hk
            have hk63 : (acc.length + 1) * 80 ≤ 140737488355328 := by have := hcnt2.out; simp at this; omega
            clear hk hfl
            go_wp2_with (at_builtin; refine wpl_vB_lit rfl (.tmp 87) (.tmp 89) rfl Z (W0.heap.size + 1) _ acc rfl HG.out.vs y D g D' g' rfl HIN2.out rfl (by simp) hk63 ?_; intro v4 w4 hv4 hg4; obtain ⟨a4, c4, rfl⟩ := hv4.is_slice2 (n := 1) rfl; have hga := HG.out.keep ((Fr.refl _).alloc (.cells #[.int .i64 y.kd, .int .i64 y.nm, .string ⟨y.tx.toArray⟩, .slice D y.ls.length g, .slice D' y.ms.length g'] 29)); have hg5 := hga.app hZW hv4 hg4; have HG5 := Lib.hid hg5; have hne4 : ∀ k, k < W0.heap.size + 1 → (Value.slice sa acc.length sc).ownBlock ≠ some k := (fun k hk e => by have := (HG.out.vs.own_lt e).1; omega); have hy4 : Blk w4 W0.heap.size _ _ := (hg4.block _ hga.bx.lt (fun e => hne4 _ (by omega) e.symm)).trans hga.bx; have zz3 := hy4.cell 3; have zzf := hy4.free 3; clear hv4 hg4 hg5 hy4 hne4; clear hga)
            exact ⟨⟨i + 1, _, acc ++ [y], by omega, by go_num, HG5, hnx2, hcnt2⟩, by simp [intOf]; omega⟩
        · have hw9 := HF8.out (.int .i64 y.kd) (.int .i64 y.nm) (.string ⟨y.tx.toArray⟩) (.slice D y.ls.length g) (.slice D' y.ms.length g')
          have hbx : Blk _ wr.heap.size #[.int .i64 y.kd, .int .i64 y.nm, .string ⟨y.tx.toArray⟩, .slice D y.ls.length g, .slice D' y.ms.length g'] 29 := set5 HB8.out (v0 := .int .i64 y.kd) (v1 := .int .i64 y.nm) (v2 := .string ⟨y.tx.toArray⟩) (v3 := .slice D y.ls.length g) (v4 := .slice D' y.ms.length g')
          have hsz9 : (((((w1.setCell ⟨wr.heap.size, 0, none⟩ (.int .i64 y.kd)).setCell ⟨wr.heap.size, 1, none⟩ (.int .i64 y.nm)).setCell ⟨wr.heap.size, 2, none⟩ (.string ⟨y.tx.toArray⟩)).setCell ⟨wr.heap.size, 3, none⟩ (.slice D y.ls.length g)).setCell ⟨wr.heap.size, 4, none⟩ (.slice D' y.ms.length g')).heap.size = w1.heap.size := by simp [World.setCell]
          have hin2 : InV (((((w1.setCell ⟨wr.heap.size, 0, none⟩ (.int .i64 y.kd)).setCell ⟨wr.heap.size, 1, none⟩ (.int .i64 y.nm)).setCell ⟨wr.heap.size, 2, none⟩ (.string ⟨y.tx.toArray⟩)).setCell ⟨wr.heap.size, 3, none⟩ (.slice D y.ls.length g)).setCell ⟨wr.heap.size, 4, none⟩ (.slice D' y.ms.length g')) (InB Z (W0.heap.size + 1) (((((w1.setCell ⟨wr.heap.size, 0, none⟩ (.int .i64 y.kd)).setCell ⟨wr.heap.size, 1, none⟩ (.int .i64 y.nm)).setCell ⟨wr.heap.size, 2, none⟩ (.string ⟨y.tx.toArray⟩)).setCell ⟨wr.heap.size, 3, none⟩ (.slice D y.ls.length g)).setCell ⟨wr.heap.size, 4, none⟩ (.slice D' y.ms.length g')) (.slice sa acc.length sc)) y (vA y D g D' g') := (HIN.out.put5 (X := wr.heap.size) (fun b hb => by rcases hb with hb | hb <;> omega) _ _ _ _ _).more (fun b hb => by
            rcases hb with hb | hb
            · exact .inl hb
            · exact .inr ⟨by omega, by rw [hsz9]; omega, fun e => by have := (hG.out.vs.own_lt e).2; omega⟩)
          clear hsz9
          generalize (((((w1.setCell ⟨wr.heap.size, 0, none⟩ (.int .i64 y.kd)).setCell ⟨wr.heap.size, 1, none⟩ (.int .i64 y.nm)).setCell ⟨wr.heap.size, 2, none⟩ (.string ⟨y.tx.toArray⟩)).setCell ⟨wr.heap.size, 3, none⟩ (.slice D y.ls.length g)).setCell ⟨wr.heap.size, 4, none⟩ (.slice D' y.ms.length g')) = Wf at hw9 hbx hin2 ⊢
          generalize hX8 : wr.heap.size = X8 at hbx ⊢
          have HG := Lib.hid (hG.out.keep hw9)
          have HIN2 := Lib.hid hin2
          obtain ⟨⟨p0, p1, p2, p3, p4⟩, f0, f1, f2, f3, f4⟩ := box5 HG.out.bx
          obtain ⟨⟨m0, m1, m2, m3, m4⟩, _⟩ := box5 hbx
          have hZW : Z ≤ W0.heap.size := Nat.le_trans hZ HF3.out.size
          clear hw9 hbx hin2
          by_cases hk : y.kd = 5
          · have hfl : Pt.flat y = y.ls := by unfold Pt.flat; exact if_pos hk
            rw [hfl] at hnx2 hcnt2 hly
            have q5 : (y.kd == 5) = true := by rw [beq_iff_eq]; exact hk
            have hk63 : (acc.length + y.ls.length) * 80 ≤ 140737488355328 := by have := hcnt2.out; simp only [List.length_append] at this; omega
            obtain ⟨D1, g1', D1', g2', he1, hls1, _⟩ := HIN2.out.open_
            have hD : D = D1 := by obtain ⟨_, _, _, e3, _⟩ := five he1; injection e3
            subst hD
            have HL3 := Lib.hid hls1
            clear hk hfl hls1 he1
            go_wp2_with (at_builtin; refine wpl_vB rfl (.tmp 81) (.tmp 83) rfl Z (W0.heap.size + 1) _ acc rfl HG.out.vs D g y.ls.length y.ls rfl rfl HL3.out hk63 ?_; intro v4 w4 hv4 hg4; obtain ⟨a4, c4, rfl⟩ := hv4.is_slice2 (n := y.ls.length) rfl; have hg5 := HG.out.app hZW hv4 hg4; have HG5 := Lib.hid hg5; have hne4 : ∀ k, k < W0.heap.size + 1 → (Value.slice sa acc.length sc).ownBlock ≠ some k := (fun k hk e => by have := (HG.out.vs.own_lt e).1; omega); have hy4 : Blk w4 W0.heap.size _ _ := (hg4.block _ HG.out.bx.lt (fun e => hne4 _ (by omega) e.symm)).trans HG.out.bx; have zz3 := hy4.cell 3; have zzf := hy4.free 3; clear hv4 hg4 hg5 hy4 hne4)
            exact ⟨⟨i + 1, _, acc ++ y.ls, by omega, by go_num, HG5, hnx2, hcnt2⟩, by simp [intOf]; omega⟩
          · have hfl : Pt.flat y = [y] := by unfold Pt.flat; exact if_neg hk
            rw [hfl] at hnx2 hcnt2 hly
            obtain ⟨q5, _⟩ := ikind hk
            have hk63 : (acc.length + 1) * 80 ≤ 140737488355328 := by have := hcnt2.out; simp at this; omega
            clear hk hfl
            go_wp2_with (at_builtin; refine wpl_vB_lit rfl (.tmp 87) (.tmp 89) rfl Z (W0.heap.size + 1) _ acc rfl HG.out.vs y D g D' g' rfl HIN2.out rfl (by simp) hk63 ?_; intro v4 w4 hv4 hg4; obtain ⟨a4, c4, rfl⟩ := hv4.is_slice2 (n := 1) rfl; have hga := HG.out.keep ((Fr.refl _).alloc (.cells #[.int .i64 y.kd, .int .i64 y.nm, .string ⟨y.tx.toArray⟩, .slice D y.ls.length g, .slice D' y.ms.length g'] 29)); have hg5 := hga.app hZW hv4 hg4; have HG5 := Lib.hid hg5; have hne4 : ∀ k, k < W0.heap.size + 1 → (Value.slice sa acc.length sc).ownBlock ≠ some k := (fun k hk e => by have := (HG.out.vs.own_lt e).1; omega); have hy4 : Blk w4 W0.heap.size _ _ := (hg4.block _ hga.bx.lt (fun e => hne4 _ (by omega) e.symm)).trans hga.bx; have zz3 := hy4.cell 3; have zzf := hy4.free 3; clear hv4 hg4 hg5 hy4 hne4; clear hga)
            exact ⟨⟨i + 1, _, acc ++ [y], by omega, by go_num, HG5, hnx2, hcnt2⟩, by simp [intOf]; omega⟩
    · obtain rfl : i = v.ls.length := by omega
      have hres := hI.out
      rw [List.drop_length, Pt.gather_nil] at hres
      obtain rfl : r = some acc := by rw [hres]; simp
      have hb := HZ3.out.keep hG.out.fr
      have HBz := Lib.hid hb
      obtain ⟨⟨t0, t1, t2, t3, t4⟩, tf0, tf1, tf2, tf3, tf4⟩ := box5 hb
      clear hres hb
      go_wp2_with fail
      have hc9 := hcnt.out
      refine bodyPost_ret (results_cs (by rfl) rfl _ (w.heap.size + 1) (by rfl) (by rfl) _ _ _ _ _ (set5 HBz.out)) rfl ?_
      have hfin := (HF3.out.trans hG.out.fr).put5 (X := w.heap.size + 1) (Nat.le_succ _) (.int .i64 5) (.int .i64 0) (.string ⟨#[]⟩) (.slice sa acc.length sc) (.slice none 0 0)
      have hs : (((((wr.setCell ⟨w.heap.size + 1, 0, none⟩ (.int .i64 5)).setCell ⟨w.heap.size + 1, 1, none⟩ (.int .i64 0)).setCell ⟨w.heap.size + 1, 2, none⟩ (.string ⟨#[]⟩)).setCell ⟨w.heap.size + 1, 3, none⟩ (.slice sa acc.length sc)).setCell ⟨w.heap.size + 1, 4, none⟩ (.slice none 0 0)).heap.size = wr.heap.size := by simp [World.setCell]
      refine ⟨sa, sc, none, 0, rfl, ((hG.out.vs.inV (by omega)).put5 (X := w.heap.size + 1) (fun b hb => by rcases hb with hb | hb <;> omega) _ _ _ _ _).more (fun b hb => ?_), hfin⟩
      rcases hb with hb | hb
      · exact .inl hb
      · exact .inr ⟨by omega, by rw [hs]; exact hb.2⟩

theorem lead_cons_is (st : Bool) (p : List UInt8) (ps : List (List UInt8)) (hF : LeadAt st ps) : LeadAt st (p :: ps) := by
  intro v B d B' d' A c w Z hZ hv hn hp hc hc2 hq
  by_cases h6 : v.kd = 6
  · exact lead_map_is st p ps hF v B d B' d' A c w Z hZ hv hn hp hc hc2 hq h6
  · by_cases h5 : v.kd = 5
    · by_cases hcase : st = true ∧ p = [42] ∧ v.kd = 5
      · obtain ⟨rfl, rfl, _⟩ := hcase
        exact lead_star_is ps hF v B d B' d' A c w Z hZ hv hn hp hc hc2 hq h5
      · rcases hna : Nm.allNum p with _ | n
        · exact lead_numn_is st p ps hF v B d B' d' A c w Z hZ hv hn hp hc hc2 hq h5 hcase hna
        · by_cases hin : 0 ≤ n ∧ n < (v.ls.length : Nat)
          · obtain ⟨i, rfl⟩ : ∃ i : Nat, n = (i : Nat) := ⟨n.toNat, by omega⟩
            exact lead_numi_is st p ps hF v B d B' d' A c w Z hZ hv hn hp hc hc2 hq h5 hcase i hna (by omega)
          · exact lead_numo_is st p ps hF v B d B' d' A c w Z hZ hv hn hp hc hc2 hq h5 hcase n hna _ rfl (fun h => by have := of_decide_eq_false h; exact decide_eq_true (by omega))
    · exact lead_other_is st p ps hF v B d B' d' A c w Z hZ hv hn hp hc hc2 hq h6 h5
theorem rlead_is (st : Bool) : ∀ ps, LeadAt st ps
  | [] => lead_nil_is st
  | p :: ps => lead_cons_is st p ps (rlead_is st ps)

set_option maxHeartbeats 2000000 in
set_option maxRecDepth 100000 in
theorem rfind_is (v : JV) (B : Option Addr) (d : Nat) (B' : Option Addr) (d' : Nat) (s : ByteArray) (w : World) (Z : Nat) (hZ : Z ≤ w.heap.size) (h : InV w (Lo Z) v (vA v B d B' d')) (hn : Rd.nv v ≤ 1048576) (hs : s.size < 4294967281) :
    Calls Tryz.prog 29 #[.agg #[.int .i64 v.kd, .int .i64 v.nm, .string ⟨v.tx.toArray⟩, .slice B v.ls.length d, .slice B' v.ms.length d'], .string s] w (LdP Z w (Pt.parts s.data.toList) false v) := by
  have HW : Hid (Fr w ((w.alloc (.cells #[.int .i64 v.kd, .int .i64 v.nm, .string ⟨v.tx.toArray⟩, .slice B v.ls.length d, .slice B' v.ms.length d'] 29)).alloc (.cells #[.int .i64 0, .int .i64 0, .string ⟨#[]⟩, .slice none 0 0, .slice none 0 0] 29))) := ((Fr.refl w).alloc _).alloc _
  have HBV : Hid (Blk ((w.alloc (.cells #[.int .i64 v.kd, .int .i64 v.nm, .string ⟨v.tx.toArray⟩, .slice B v.ls.length d, .slice B' v.ms.length d'] 29)).alloc (.cells #[.int .i64 0, .int .i64 0, .string ⟨#[]⟩, .slice none 0 0, .slice none 0 0] 29)) w.heap.size #[.int .i64 v.kd, .int .i64 v.nm, .string ⟨v.tx.toArray⟩, .slice B v.ls.length d, .slice B' v.ms.length d'] 29) := (Blk.made w _ _).keep ((Fr.refl _).alloc _)
  have HBZ : Hid (Blk ((w.alloc (.cells #[.int .i64 v.kd, .int .i64 v.nm, .string ⟨v.tx.toArray⟩, .slice B v.ls.length d, .slice B' v.ms.length d'] 29)).alloc (.cells #[.int .i64 0, .int .i64 0, .string ⟨#[]⟩, .slice none 0 0, .slice none 0 0] 29)) (w.heap.size + 1) #[.int .i64 0, .int .i64 0, .string ⟨#[]⟩, .slice none 0 0, .slice none 0 0] 29) := boxz (Blk.made (w.alloc _) _ _)
  have HV := Lib.hid h
  have HS := Lib.hid hs
  have n0 : ¬ w.heap.size + 1 = w.heap.size := by omega
  rcases hp : Pt.parts s.data.toList with _ | ps
  · have HP := Lib.hid hp
    clear hp h hn
    go_enter Tryz.func29, Tryz.ntmps29
    go_wp2_with (go_at_call 58; refine (rparts_is s _ HS.out).mono ?_; rw [HP.out]; rintro e w1 ⟨rfl, hf⟩; have hb := HBZ.out.keep hf; obtain ⟨⟨x0, x1, x2, x3, x4⟩, g0, g1, g2, g3, g4⟩ := box5 hb; have HB1 := Lib.hid hb; have HF1 := Lib.hid hf; clear hf hb)
    refine bodyPost_ret (results_cs (by rfl) rfl _ (w.heap.size + 1) (by rfl) (by rfl) _ _ _ _ _ (set5 HB1.out)) rfl ?_
    exact ⟨rfl, (HW.out.trans HF1.out).put5 (Nat.le_succ _) _ _ _ _ _⟩
  · obtain ⟨hl1, hl2⟩ := Pt.parts_len hp
    have hsz : s.data.toList.length = s.size := by simp
    have HP := Lib.hid hp
    have HL : Hid (∀ q ∈ ps, q.length ≤ 9223372036854775807) := fun q hq => by have := hl2 q hq; omega
    have HC : Hid (∀ (W : World) (A : Option Addr) (c : Nat), Fr w W → PsC W A ps → ps.length ≤ c → c ≤ 9223372036854775807 → Calls Tryz.prog 59 #[.agg #[.int .i64 v.kd, .int .i64 v.nm, .string ⟨v.tx.toArray⟩, .slice B v.ls.length d, .slice B' v.ms.length d'], .slice A ps.length c, .bool false] W (FdP Z W (Pt.find false ps v))) := Lib.hid (fun W A c hW hA hc hc2 => rlead_is false ps v B d B' d' A c W Z (Nat.le_trans hZ hW.size) (HV.out.keep hZ hW) hn hA hc hc2 HL.out)
    obtain ⟨r, hr⟩ : ∃ r, Pt.find false ps v = r := ⟨_, rfl⟩
    have HR := Lib.hid hr
    rw [hr] at HC
    clear hp h hn hl1 hl2 hsz hr
    go_enter Tryz.func29, Tryz.ntmps29
    go_wp2_with (first
      | (go_at_call 59; refine (HC.out _ A c (HW.out.trans HF1.out) HPS.out hcap.1 hcap.2).mono ?_; intro x w2 h2; obtain ⟨k3, n3, s3, A3, a3, b3, A3', a3', b3', t3, rfl⟩ := h2.form; have hb := HBZ.out.keep (HF1.out.trans h2.fr); obtain ⟨⟨x0, x1, x2, x3, x4⟩, g0, g1, g2, g3, g4⟩ := box5 hb; have HB2 := Lib.hid hb; have H2 := Lib.hid h2; clear h2 hb)
      | (go_at_call 58; refine (rparts_is s _ HS.out).mono ?_; rw [HP.out]; rintro e w1 ⟨pv, rfl, hss, hf⟩; obtain ⟨A, c, rfl, hps⟩ := hss.shows; have hcap := Ssl.caps hss; have hb := HBV.out.keep hf; obtain ⟨⟨y0, y1, y2, y3, y4⟩, _⟩ := box5 hb; have HPS := Lib.hid hps; have HF1 := Lib.hid hf; clear hf hb hss hps))
    refine bodyPost_ret (results_cs (by rfl) rfl _ (w.heap.size + 1) (by rfl) (by rfl) _ _ _ _ _ (set5 HB2.out)) rfl ?_
    have := H2.out.lift (HW.out.trans HF1.out) hZ (X := w.heap.size + 1) (Nat.le_succ _) (Nat.lt_of_lt_of_le HBZ.out.lt HF1.out.size) (.int .i64 k3) (.int .i64 n3) (.string s3) (.slice A3 a3 b3) (.slice A3' a3' b3')
    rw [← HR.out] at this
    exact this

set_option maxHeartbeats 2000000 in
set_option maxRecDepth 100000 in
theorem reach_is (v : JV) (B : Option Addr) (d : Nat) (B' : Option Addr) (d' : Nat) (s : ByteArray) (w : World) (Z : Nat) (hZ : Z ≤ w.heap.size) (h : InV w (Lo Z) v (vA v B d B' d')) (hn : Rd.nv v ≤ 1048576) (hs : s.size < 4294967281) :
    Calls Tryz.prog 31 #[.agg #[.int .i64 v.kd, .int .i64 v.nm, .string ⟨v.tx.toArray⟩, .slice B v.ls.length d, .slice B' v.ms.length d'], .string s] w (LdP Z w (Pt.parts s.data.toList) true v) := by
  have HW : Hid (Fr w ((w.alloc (.cells #[.int .i64 v.kd, .int .i64 v.nm, .string ⟨v.tx.toArray⟩, .slice B v.ls.length d, .slice B' v.ms.length d'] 29)).alloc (.cells #[.int .i64 0, .int .i64 0, .string ⟨#[]⟩, .slice none 0 0, .slice none 0 0] 29))) := ((Fr.refl w).alloc _).alloc _
  have HBV : Hid (Blk ((w.alloc (.cells #[.int .i64 v.kd, .int .i64 v.nm, .string ⟨v.tx.toArray⟩, .slice B v.ls.length d, .slice B' v.ms.length d'] 29)).alloc (.cells #[.int .i64 0, .int .i64 0, .string ⟨#[]⟩, .slice none 0 0, .slice none 0 0] 29)) w.heap.size #[.int .i64 v.kd, .int .i64 v.nm, .string ⟨v.tx.toArray⟩, .slice B v.ls.length d, .slice B' v.ms.length d'] 29) := (Blk.made w _ _).keep ((Fr.refl _).alloc _)
  have HBZ : Hid (Blk ((w.alloc (.cells #[.int .i64 v.kd, .int .i64 v.nm, .string ⟨v.tx.toArray⟩, .slice B v.ls.length d, .slice B' v.ms.length d'] 29)).alloc (.cells #[.int .i64 0, .int .i64 0, .string ⟨#[]⟩, .slice none 0 0, .slice none 0 0] 29)) (w.heap.size + 1) #[.int .i64 0, .int .i64 0, .string ⟨#[]⟩, .slice none 0 0, .slice none 0 0] 29) := boxz (Blk.made (w.alloc _) _ _)
  have HV := Lib.hid h
  have HS := Lib.hid hs
  have n0 : ¬ w.heap.size + 1 = w.heap.size := by omega
  rcases hp : Pt.parts s.data.toList with _ | ps
  · have HP := Lib.hid hp
    clear hp h hn
    go_enter Tryz.func31, Tryz.ntmps31
    go_wp2_with (go_at_call 58; refine (rparts_is s _ HS.out).mono ?_; rw [HP.out]; rintro e w1 ⟨rfl, hf⟩; have hb := HBZ.out.keep hf; obtain ⟨⟨x0, x1, x2, x3, x4⟩, g0, g1, g2, g3, g4⟩ := box5 hb; have HB1 := Lib.hid hb; have HF1 := Lib.hid hf; clear hf hb)
    refine bodyPost_ret (results_cs (by rfl) rfl _ (w.heap.size + 1) (by rfl) (by rfl) _ _ _ _ _ (set5 HB1.out)) rfl ?_
    exact ⟨rfl, (HW.out.trans HF1.out).put5 (Nat.le_succ _) _ _ _ _ _⟩
  · obtain ⟨hl1, hl2⟩ := Pt.parts_len hp
    have hsz : s.data.toList.length = s.size := by simp
    have HP := Lib.hid hp
    have HL : Hid (∀ q ∈ ps, q.length ≤ 9223372036854775807) := fun q hq => by have := hl2 q hq; omega
    have HC : Hid (∀ (W : World) (A : Option Addr) (c : Nat), Fr w W → PsC W A ps → ps.length ≤ c → c ≤ 9223372036854775807 → Calls Tryz.prog 59 #[.agg #[.int .i64 v.kd, .int .i64 v.nm, .string ⟨v.tx.toArray⟩, .slice B v.ls.length d, .slice B' v.ms.length d'], .slice A ps.length c, .bool true] W (FdP Z W (Pt.find true ps v))) := Lib.hid (fun W A c hW hA hc hc2 => rlead_is true ps v B d B' d' A c W Z (Nat.le_trans hZ hW.size) (HV.out.keep hZ hW) hn hA hc hc2 HL.out)
    obtain ⟨r, hr⟩ : ∃ r, Pt.find true ps v = r := ⟨_, rfl⟩
    have HR := Lib.hid hr
    rw [hr] at HC
    clear hp h hn hl1 hl2 hsz hr
    go_enter Tryz.func31, Tryz.ntmps31
    go_wp2_with (first
      | (go_at_call 59; refine (HC.out _ A c (HW.out.trans HF1.out) HPS.out hcap.1 hcap.2).mono ?_; intro x w2 h2; obtain ⟨k3, n3, s3, A3, a3, b3, A3', a3', b3', t3, rfl⟩ := h2.form; have hb := HBZ.out.keep (HF1.out.trans h2.fr); obtain ⟨⟨x0, x1, x2, x3, x4⟩, g0, g1, g2, g3, g4⟩ := box5 hb; have HB2 := Lib.hid hb; have H2 := Lib.hid h2; clear h2 hb)
      | (go_at_call 58; refine (rparts_is s _ HS.out).mono ?_; rw [HP.out]; rintro e w1 ⟨pv, rfl, hss, hf⟩; obtain ⟨A, c, rfl, hps⟩ := hss.shows; have hcap := Ssl.caps hss; have hb := HBV.out.keep hf; obtain ⟨⟨y0, y1, y2, y3, y4⟩, _⟩ := box5 hb; have HPS := Lib.hid hps; have HF1 := Lib.hid hf; clear hf hb hss hps))
    refine bodyPost_ret (results_cs (by rfl) rfl _ (w.heap.size + 1) (by rfl) (by rfl) _ _ _ _ _ (set5 HB2.out)) rfl ?_
    have := H2.out.lift (HW.out.trans HF1.out) hZ (X := w.heap.size + 1) (Nat.le_succ _) (Nat.lt_of_lt_of_le HBZ.out.lt HF1.out.size) (.int .i64 k3) (.int .i64 n3) (.string s3) (.slice A3 a3 b3) (.slice A3' a3' b3')
    rw [← HR.out] at this
    exact this
end Go.Proofs.YtfjcgbbphkfkgaaGreatDoor
