/- The walk of the document's Lead (cardboxref08). -/
import Derived.Test.YtfjcgbbphkfkgaaGreatDoorPtV
namespace Go.Proofs.YtfjcgbbphkfkgaaGreatDoor
set_option linter.unusedVariables false
set_option linter.unusedSimpArgs false
open Go.RowKit

/-- What Lead does by these parts. -/
def LeadAt (st : Bool) (ps : List (List UInt8)) : Prop := ∀ (v : JV) (B : Option Addr) (d : Nat) (B' : Option Addr) (d' : Nat) (A : Option Addr) (c : Nat) (w : World) (Z : Nat), Z ≤ w.heap.size → InV w (Lo Z) v (vA v B d B' d') → Rd.nv v ≤ 1048576 → PsC w A ps → ps.length ≤ c → c ≤ 9223372036854775807 → (∀ q ∈ ps, q.length ≤ 9223372036854775807) →
  Calls Tryz.prog 59 #[.agg #[.int .i64 v.kd, .int .i64 v.nm, .string ⟨v.tx.toArray⟩, .slice B v.ls.length d, .slice B' v.ms.length d'], .slice A ps.length c, .bool st] w (FdP Z w (Pt.find st ps v))

set_option maxHeartbeats 2000000 in
set_option maxRecDepth 100000 in
theorem lead_nil_is (st : Bool) : LeadAt st [] := by
  intro v B d B' d' A c w Z hZ hv hn hp hc hc2 hq
  have HV := Lib.hid hv
  rw [Pt.find_nil]
  simp only [List.length_nil]
  clear hv hp hc hn hq
  go_enter Tryz.func59, Tryz.ntmps59
  go_wp2_with fail
  refine bodyPost_ret (results_cs (by rfl) rfl _ (w.heap.size + 1) (by rfl) (by rfl) _ _ _ _ _ (boxz (Blk.made (w.alloc _) _ _))) rfl ?_
  have hfin := ((Fr.refl w).alloc (.cells #[.int .i64 v.kd, .int .i64 v.nm, .string ⟨v.tx.toArray⟩, .slice B v.ls.length d, .slice B' v.ms.length d'] 29)).alloc (.cells #[.int .i64 v.kd, .int .i64 v.nm, .string ⟨v.tx.toArray⟩, .slice B v.ls.length d, .slice B' v.ms.length d'] 29)
  exact ⟨B, d, B', d', rfl, (HV.out.keep hZ hfin).more (fun b hb => .inl hb), hfin⟩

theorem Pt.step_six {v : JV} (h : v.kd = 6) (s : List UInt8) : Pt.step v s = Pt.get v s := by unfold Pt.step; exact if_neg (by omega)
theorem Pt.step_other {v : JV} (h : v.kd ≠ 6) (h5 : v.kd ≠ 5) (s : List UInt8) : Pt.step v s = none := by
  unfold Pt.step; rw [if_neg h5]; unfold Pt.get; exact if_neg h
theorem Pt.step_five {v : JV} (h : v.kd = 5) (s : List UInt8) : Pt.step v s = (match Pt.num s v.ls.length with | some i => v.ls[i]? | none => none) := by unfold Pt.step; exact if_pos h

set_option maxHeartbeats 2000000 in
set_option maxRecDepth 100000 in
theorem lead_other_is (st : Bool) (p : List UInt8) (ps : List (List UInt8)) (hF : LeadAt st ps) (v : JV) (B : Option Addr) (d : Nat) (B' : Option Addr) (d' : Nat) (A : Option Addr) (c : Nat) (w : World) (Z : Nat) (hZ : Z ≤ w.heap.size) (hv : InV w (Lo Z) v (vA v B d B' d')) (hn : Rd.nv v ≤ 1048576) (hp : PsC w A (p :: ps)) (hc : (p :: ps).length ≤ c) (hc2 : c ≤ 9223372036854775807) (hq : ∀ q ∈ p :: ps, q.length ≤ 9223372036854775807) (h6 : v.kd ≠ 6) (h5 : v.kd ≠ 5) :
    Calls Tryz.prog 59 #[.agg #[.int .i64 v.kd, .int .i64 v.nm, .string ⟨v.tx.toArray⟩, .slice B v.ls.length d, .slice B' v.ms.length d'], .slice A (p :: ps).length c, .bool st] w (FdP Z w (Pt.find st (p :: ps) v)) := by
  have HV := Lib.hid hv
  have HN := Lib.hid hn
  have HF := Lib.hid hF
  have HQ : Hid (∀ q ∈ ps, q.length ≤ 9223372036854775807) := fun q hq' => hq q (by simp [hq'])
  have HQ0 : Hid (p.length ≤ 9223372036854775807) := hq p (by simp)
  obtain ⟨b, o, rfl, hb, hcl⟩ := hp (by simp)
  have hc0 : w.cell? ⟨b, o, none⟩ = some (.string ⟨p.toArray⟩) := hcl 0 (by simp)
  obtain ⟨A', hcut, hps, hpc⟩ := psc_cut hp hc hc2
  have HPS := Lib.hid hps
  have hpc2 : c - 1 ≤ 9223372036854775807 := by omega
  have HB := Lib.hid hb
  have HC0 := Lib.hid hc0
  simp only [List.length_cons] at hc ⊢
  have hlp : ((ps.length : Int) + 1 == 0) = false := by rw [beq_eq_false_iff_ne]; omega
  have hpl : (ps.length : Int) + 1 ≤ 9223372036854775807 := by omega
  have hF3 : Fr w (((w.alloc (.cells #[.int .i64 v.kd, .int .i64 v.nm, .string ⟨v.tx.toArray⟩, .slice B v.ls.length d, .slice B' v.ms.length d'] 29)).alloc (.cells #[.int .i64 0, .int .i64 0, .string ⟨#[]⟩, .slice none 0 0, .slice none 0 0] 29)).alloc (.cells #[.int .i64 0, .int .i64 0, .string ⟨#[]⟩, .slice none 0 0, .slice none 0 0] 29)) := (((Fr.refl w).alloc _).alloc _).alloc _
  have hB3 : Blk (((w.alloc (.cells #[.int .i64 v.kd, .int .i64 v.nm, .string ⟨v.tx.toArray⟩, .slice B v.ls.length d, .slice B' v.ms.length d'] 29)).alloc (.cells #[.int .i64 0, .int .i64 0, .string ⟨#[]⟩, .slice none 0 0, .slice none 0 0] 29)).alloc (.cells #[.int .i64 0, .int .i64 0, .string ⟨#[]⟩, .slice none 0 0, .slice none 0 0] 29)) w.heap.size #[.int .i64 v.kd, .int .i64 v.nm, .string ⟨v.tx.toArray⟩, .slice B v.ls.length d, .slice B' v.ms.length d'] 29 := ((Blk.made w _ _).keep ((Fr.refl _).alloc _)).keep ((Fr.refl _).alloc _)
  have hZ3 : Blk (((w.alloc (.cells #[.int .i64 v.kd, .int .i64 v.nm, .string ⟨v.tx.toArray⟩, .slice B v.ls.length d, .slice B' v.ms.length d'] 29)).alloc (.cells #[.int .i64 0, .int .i64 0, .string ⟨#[]⟩, .slice none 0 0, .slice none 0 0] 29)).alloc (.cells #[.int .i64 0, .int .i64 0, .string ⟨#[]⟩, .slice none 0 0, .slice none 0 0] 29)) (w.heap.size + 1) #[.int .i64 0, .int .i64 0, .string ⟨#[]⟩, .slice none 0 0, .slice none 0 0] 29 := (boxz (Blk.made (w.alloc _) _ _)).keep ((Fr.refl _).alloc _)
  have hN3 : Blk (((w.alloc (.cells #[.int .i64 v.kd, .int .i64 v.nm, .string ⟨v.tx.toArray⟩, .slice B v.ls.length d, .slice B' v.ms.length d'] 29)).alloc (.cells #[.int .i64 0, .int .i64 0, .string ⟨#[]⟩, .slice none 0 0, .slice none 0 0] 29)).alloc (.cells #[.int .i64 0, .int .i64 0, .string ⟨#[]⟩, .slice none 0 0, .slice none 0 0] 29)) (w.heap.size + 1 + 1) #[.int .i64 0, .int .i64 0, .string ⟨#[]⟩, .slice none 0 0, .slice none 0 0] 29 := boxy (Blk.made ((w.alloc _).alloc _) _ _)
  obtain ⟨q6, _⟩ := ikind h6
  obtain ⟨_, q5⟩ := ikind h5
  rw [Pt.find_cons, if_neg (fun e => h5 e.2.2), Pt.step_other h6 h5]
  clear hv hp hcl hps hF hn hq h6 h5
  go_enter Tryz.func59, Tryz.ntmps59
  go_upto_region 4 with fail
  generalize (((w.alloc (.cells #[.int .i64 v.kd, .int .i64 v.nm, .string ⟨v.tx.toArray⟩, .slice B v.ls.length d, .slice B' v.ms.length d'] 29)).alloc (.cells #[.int .i64 0, .int .i64 0, .string ⟨#[]⟩, .slice none 0 0, .slice none 0 0] 29)).alloc (.cells #[.int .i64 0, .int .i64 0, .string ⟨#[]⟩, .slice none 0 0, .slice none 0 0] 29)) = W0 at hF3 hB3 hZ3 hN3 ⊢
  have HF3 := Lib.hid hF3
  have HB3 := Lib.hid hB3
  have HZ3 := Lib.hid hZ3
  have HN3 := Lib.hid hN3
  obtain ⟨⟨a0, a1, a2, a3, a4⟩, _⟩ := box5 hB3
  obtain ⟨⟨z0, z1, z2, z3, z4⟩, zf0, zf1, zf2, zf3, zf4⟩ := box5 hZ3
  obtain ⟨⟨n0, n1, n2, n3, n4⟩, _⟩ := box5 hN3
  have hz1 : w.heap.size + 1 < W0.heap.size := hZ3.lt
  have hzn : ¬ w.heap.size + 1 = w.heap.size := by omega
  have hzn2 : ¬ w.heap.size + 1 + 1 = w.heap.size := by omega
  have hzn3 : ¬ w.heap.size + 1 + 1 = w.heap.size + 1 := by omega
  have hc0' : W0.cell? ⟨b, o, none⟩ = some (.string ⟨p.toArray⟩) := (hF3.cell hb).trans hc0
  clear hF3 hB3 hZ3 hN3
  clear hb hc0
  go_wp2_with fail
  refine bodyPost_ret (results_cs (by rfl) rfl _ (w.heap.size + 1) (by rfl) (by rfl) _ _ _ _ _ (set5 HZ3.out)) rfl ?_
  exact ⟨rfl, HF3.out.put5 (Nat.le_succ _) _ _ _ _ _⟩

set_option maxHeartbeats 4000000 in
set_option maxRecDepth 100000 in
theorem lead_map_is (st : Bool) (p : List UInt8) (ps : List (List UInt8)) (hF : LeadAt st ps) (v : JV) (B : Option Addr) (d : Nat) (B' : Option Addr) (d' : Nat) (A : Option Addr) (c : Nat) (w : World) (Z : Nat) (hZ : Z ≤ w.heap.size) (hv : InV w (Lo Z) v (vA v B d B' d')) (hn : Rd.nv v ≤ 1048576) (hp : PsC w A (p :: ps)) (hc : (p :: ps).length ≤ c) (hc2 : c ≤ 9223372036854775807) (hq : ∀ q ∈ p :: ps, q.length ≤ 9223372036854775807) (h6 : v.kd = 6) :
    Calls Tryz.prog 59 #[.agg #[.int .i64 v.kd, .int .i64 v.nm, .string ⟨v.tx.toArray⟩, .slice B v.ls.length d, .slice B' v.ms.length d'], .slice A (p :: ps).length c, .bool st] w (FdP Z w (Pt.find st (p :: ps) v)) := by
  have HV := Lib.hid hv
  have HN := Lib.hid hn
  have HF := Lib.hid hF
  have HQ : Hid (∀ q ∈ ps, q.length ≤ 9223372036854775807) := fun q hq' => hq q (by simp [hq'])
  have HQ0 : Hid (p.length ≤ 9223372036854775807) := hq p (by simp)
  obtain ⟨b, o, rfl, hb, hcl⟩ := hp (by simp)
  have hc0 : w.cell? ⟨b, o, none⟩ = some (.string ⟨p.toArray⟩) := hcl 0 (by simp)
  obtain ⟨A', hcut, hps, hpc⟩ := psc_cut hp hc hc2
  have HPS := Lib.hid hps
  have hpc2 : c - 1 ≤ 9223372036854775807 := by omega
  have HB := Lib.hid hb
  have HC0 := Lib.hid hc0
  simp only [List.length_cons] at hc ⊢
  have hlp : ((ps.length : Int) + 1 == 0) = false := by rw [beq_eq_false_iff_ne]; omega
  have hpl : (ps.length : Int) + 1 ≤ 9223372036854775807 := by omega
  have hF3 : Fr w (((w.alloc (.cells #[.int .i64 v.kd, .int .i64 v.nm, .string ⟨v.tx.toArray⟩, .slice B v.ls.length d, .slice B' v.ms.length d'] 29)).alloc (.cells #[.int .i64 0, .int .i64 0, .string ⟨#[]⟩, .slice none 0 0, .slice none 0 0] 29)).alloc (.cells #[.int .i64 0, .int .i64 0, .string ⟨#[]⟩, .slice none 0 0, .slice none 0 0] 29)) := (((Fr.refl w).alloc _).alloc _).alloc _
  have hB3 : Blk (((w.alloc (.cells #[.int .i64 v.kd, .int .i64 v.nm, .string ⟨v.tx.toArray⟩, .slice B v.ls.length d, .slice B' v.ms.length d'] 29)).alloc (.cells #[.int .i64 0, .int .i64 0, .string ⟨#[]⟩, .slice none 0 0, .slice none 0 0] 29)).alloc (.cells #[.int .i64 0, .int .i64 0, .string ⟨#[]⟩, .slice none 0 0, .slice none 0 0] 29)) w.heap.size #[.int .i64 v.kd, .int .i64 v.nm, .string ⟨v.tx.toArray⟩, .slice B v.ls.length d, .slice B' v.ms.length d'] 29 := ((Blk.made w _ _).keep ((Fr.refl _).alloc _)).keep ((Fr.refl _).alloc _)
  have hZ3 : Blk (((w.alloc (.cells #[.int .i64 v.kd, .int .i64 v.nm, .string ⟨v.tx.toArray⟩, .slice B v.ls.length d, .slice B' v.ms.length d'] 29)).alloc (.cells #[.int .i64 0, .int .i64 0, .string ⟨#[]⟩, .slice none 0 0, .slice none 0 0] 29)).alloc (.cells #[.int .i64 0, .int .i64 0, .string ⟨#[]⟩, .slice none 0 0, .slice none 0 0] 29)) (w.heap.size + 1) #[.int .i64 0, .int .i64 0, .string ⟨#[]⟩, .slice none 0 0, .slice none 0 0] 29 := (boxz (Blk.made (w.alloc _) _ _)).keep ((Fr.refl _).alloc _)
  have hN3 : Blk (((w.alloc (.cells #[.int .i64 v.kd, .int .i64 v.nm, .string ⟨v.tx.toArray⟩, .slice B v.ls.length d, .slice B' v.ms.length d'] 29)).alloc (.cells #[.int .i64 0, .int .i64 0, .string ⟨#[]⟩, .slice none 0 0, .slice none 0 0] 29)).alloc (.cells #[.int .i64 0, .int .i64 0, .string ⟨#[]⟩, .slice none 0 0, .slice none 0 0] 29)) (w.heap.size + 1 + 1) #[.int .i64 0, .int .i64 0, .string ⟨#[]⟩, .slice none 0 0, .slice none 0 0] 29 := boxy (Blk.made ((w.alloc _).alloc _) _ _)
  have q6 : (v.kd == 6) = true := by rw [beq_iff_eq]; exact h6
  have HC1 : Hid (∀ W, Fr w W → Calls Tryz.prog 45 #[.agg #[.int .i64 v.kd, .int .i64 v.nm, .string ⟨v.tx.toArray⟩, .slice B v.ls.length d, .slice B' v.ms.length d'], .string ⟨p.toArray⟩] W (OpP Z W (Pt.step v p))) := Lib.hid (fun W hW => by rw [Pt.step_six h6]; exact get7_is v B d B' d' p W Z (Nat.le_trans hZ hW.size) (HV.out.keep hZ hW))
  have hnx : Hid (∀ x, Pt.step v p = some x → Rd.nv x ≤ 1048576) := Lib.hid (fun x hx => by have := Pt.step_nv hx; have := HN.out; omega)
  rw [Pt.find_cons, if_neg (fun e => by have := e.2.2; omega)]
  obtain ⟨r, hr⟩ : ∃ r, Pt.step v p = r := ⟨_, rfl⟩
  rw [hr] at HC1 hnx ⊢
  clear hr hv hp hcl hps hF hn hq h6
  go_enter Tryz.func59, Tryz.ntmps59
  go_upto_region 4 with fail
  generalize (((w.alloc (.cells #[.int .i64 v.kd, .int .i64 v.nm, .string ⟨v.tx.toArray⟩, .slice B v.ls.length d, .slice B' v.ms.length d'] 29)).alloc (.cells #[.int .i64 0, .int .i64 0, .string ⟨#[]⟩, .slice none 0 0, .slice none 0 0] 29)).alloc (.cells #[.int .i64 0, .int .i64 0, .string ⟨#[]⟩, .slice none 0 0, .slice none 0 0] 29)) = W0 at hF3 hB3 hZ3 hN3 ⊢
  have HF3 := Lib.hid hF3
  have HB3 := Lib.hid hB3
  have HZ3 := Lib.hid hZ3
  have HN3 := Lib.hid hN3
  obtain ⟨⟨a0, a1, a2, a3, a4⟩, _⟩ := box5 hB3
  obtain ⟨⟨z0, z1, z2, z3, z4⟩, zf0, zf1, zf2, zf3, zf4⟩ := box5 hZ3
  obtain ⟨⟨n0, n1, n2, n3, n4⟩, _⟩ := box5 hN3
  have hz1 : w.heap.size + 1 < W0.heap.size := hZ3.lt
  have hzn : ¬ w.heap.size + 1 = w.heap.size := by omega
  have hzn2 : ¬ w.heap.size + 1 + 1 = w.heap.size := by omega
  have hzn3 : ¬ w.heap.size + 1 + 1 = w.heap.size + 1 := by omega
  have hc0' : W0.cell? ⟨b, o, none⟩ = some (.string ⟨p.toArray⟩) := (hF3.cell hb).trans hc0
  clear hF3 hB3 hZ3 hN3
  have HC : Hid (∀ W, Fr W0 W → Calls Tryz.prog 45 #[.agg #[.int .i64 v.kd, .int .i64 v.nm, .string ⟨v.tx.toArray⟩, .slice B v.ls.length d, .slice B' v.ms.length d'], .string ⟨p.toArray⟩] W (OpP Z W r)) := Lib.hid (fun W hW => HC1.out W (HF3.out.trans hW))
  have HS : Hid (∀ W, Fr W0 W → W.cell? ⟨w.heap.size, 0, none⟩ = some (Value.int .i64 v.kd) ∧ W.cell? ⟨w.heap.size, 1, none⟩ = some (Value.int .i64 v.nm) ∧ W.cell? ⟨w.heap.size, 2, none⟩ = some (Value.string ⟨v.tx.toArray⟩) ∧ W.cell? ⟨w.heap.size, 3, none⟩ = some (Value.slice B v.ls.length d) ∧ W.cell? ⟨w.heap.size, 4, none⟩ = some (Value.slice B' v.ms.length d') ∧ W.cell? ⟨b, o, none⟩ = some (.string ⟨p.toArray⟩)) := Lib.hid (fun W hW => by
    have h := HB3.out.keep hW
    exact ⟨h.cell 0, h.cell 1, h.cell 2, h.cell 3, h.cell 4, ((HF3.out.trans hW).cell HB.out).trans HC0.out⟩)
  clear hb hc0
  go_wp2_with fail
  rcases r with _ | x
  · go_region_held3 (fun W => W.cell? ⟨w.heap.size, 0, none⟩ = some (Value.int .i64 v.kd) ∧ W.cell? ⟨w.heap.size, 1, none⟩ = some (Value.int .i64 v.nm) ∧ W.cell? ⟨w.heap.size, 2, none⟩ = some (Value.string ⟨v.tx.toArray⟩) ∧ W.cell? ⟨w.heap.size, 3, none⟩ = some (Value.slice B v.ls.length d) ∧ W.cell? ⟨w.heap.size, 4, none⟩ = some (Value.slice B' v.ms.length d') ∧ W.cell? ⟨b, o, none⟩ = some (.string ⟨p.toArray⟩))
      (first | with_reducible exact HS.out _ (HF8.out _ _ _ _ _) | with_reducible exact HS.out _ (HF9.out _ _ _ _ _) | with_reducible exact HS.out _ (HF1.out.alloc _) | with_reducible exact HS.out _ HF1.out | with_reducible exact HS.out _ ((Fr.refl _).alloc _).drew | with_reducible exact HS.out _ (Fr.refl _).drew | with_reducible exact HS.out _ (Fr.refl _))
      (first
        | (go_at_call 45; refine (HC.out _ (by with_reducible exact ((Fr.refl W0).alloc _).drew)).mono ?_; rintro e w1 ⟨rfl, hf⟩; have hb8 : Blk w1 W0.heap.size #[.int .i64 0, .int .i64 0, .string ⟨#[]⟩, .slice none 0 0, .slice none 0 0] 29 := (Blk.made W0 _ _).keep ((Fr.refl _).drew.trans hf); obtain ⟨⟨s0, s1, s2, s3, s4⟩, sf0, sf1, sf2, sf3, sf4⟩ := box5 hb8; have HB8 := Lib.hid hb8; have hf1 : Fr W0 w1 := (by first | exact hf | exact (Fr.refl _).drew.trans hf | exact ((Fr.refl _).alloc _).drew.trans hf); have HF8 : Hid (∀ u0 u1 u2 u3 u4, Fr W0 (((((w1.setCell ⟨W0.heap.size, 0, none⟩ u0).setCell ⟨W0.heap.size, 1, none⟩ u1).setCell ⟨W0.heap.size, 2, none⟩ u2).setCell ⟨W0.heap.size, 3, none⟩ u3).setCell ⟨W0.heap.size, 4, none⟩ u4)) := Lib.hid (fun u0 u1 u2 u3 u4 => hf1.put5 (X := W0.heap.size) (Nat.le_refl _) u0 u1 u2 u3 u4); have HF9 : Hid (∀ u0 u1 u2 u3 u4, Fr W0 ((((((w1.alloc (.cells #[.int .i64 0, .int .i64 0, .string ⟨#[]⟩, .slice none 0 0, .slice none 0 0] 29)).setCell ⟨w1.heap.size, 0, none⟩ u0).setCell ⟨w1.heap.size, 1, none⟩ u1).setCell ⟨w1.heap.size, 2, none⟩ u2).setCell ⟨w1.heap.size, 3, none⟩ u3).setCell ⟨w1.heap.size, 4, none⟩ u4)) := Lib.hid (fun u0 u1 u2 u3 u4 => (hf1.alloc _).put5 (X := w1.heap.size) hf1.size u0 u1 u2 u3 u4); have HF1 := Lib.hid hf1; clear hf1 hf hb8)
        | (go_at_call 45; refine (HC.out _ (by first | with_reducible exact (Fr.refl W0).drew | with_reducible exact Fr.refl W0)).mono ?_; rintro e w1 ⟨rfl, hf⟩; have hf1 : Fr W0 w1 := (by first | exact hf | exact (Fr.refl _).drew.trans hf | exact ((Fr.refl _).alloc _).drew.trans hf); have HF8 : Hid (∀ u0 u1 u2 u3 u4, Fr W0 (((((w1.setCell ⟨W0.heap.size, 0, none⟩ u0).setCell ⟨W0.heap.size, 1, none⟩ u1).setCell ⟨W0.heap.size, 2, none⟩ u2).setCell ⟨W0.heap.size, 3, none⟩ u3).setCell ⟨W0.heap.size, 4, none⟩ u4)) := Lib.hid (fun u0 u1 u2 u3 u4 => hf1.put5 (X := W0.heap.size) (Nat.le_refl _) u0 u1 u2 u3 u4); have HF9 : Hid (∀ u0 u1 u2 u3 u4, Fr W0 ((((((w1.alloc (.cells #[.int .i64 0, .int .i64 0, .string ⟨#[]⟩, .slice none 0 0, .slice none 0 0] 29)).setCell ⟨w1.heap.size, 0, none⟩ u0).setCell ⟨w1.heap.size, 1, none⟩ u1).setCell ⟨w1.heap.size, 2, none⟩ u2).setCell ⟨w1.heap.size, 3, none⟩ u3).setCell ⟨w1.heap.size, 4, none⟩ u4)) := Lib.hid (fun u0 u1 u2 u3 u4 => (hf1.alloc _).put5 (X := w1.heap.size) hf1.size u0 u1 u2 u3 u4); have HF1 := Lib.hid hf1; clear hf1 hf))
    · have hw9 := HF1.out.alloc (.cells #[.int .i64 0, .int .i64 0, .string ⟨#[]⟩, .slice none 0 0, .slice none 0 0] 29)
      generalize (w1.alloc (.cells #[.int .i64 0, .int .i64 0, .string ⟨#[]⟩, .slice none 0 0, .slice none 0 0] 29)) = Wf at hw9 ⊢
      have HWf := Lib.hid hw9
      have hb := HZ3.out.keep hw9
      have HBz := Lib.hid hb
      obtain ⟨⟨x0, x1, x2, x3, x4⟩, g0, g1, g2, g3, g4⟩ := box5 hb
      obtain ⟨⟨m0, m1, m2, m3, m4⟩, _⟩ := box5 (HN3.out.keep hw9)
      clear hb hw9
      go_wp2_with fail
      refine bodyPost_ret (results_cs (by rfl) rfl _ (w.heap.size + 1) (by rfl) (by rfl) _ _ _ _ _ (set5 HBz.out)) rfl ?_
      exact ⟨rfl, (HF3.out.trans HWf.out).put5 (Nat.le_succ _) _ _ _ _ _⟩
    · have hw9 := HF8.out (.int .i64 0) (.int .i64 0) (.string ⟨#[]⟩) (.slice none 0 0) (.slice none 0 0)
      generalize (((((w1.setCell ⟨W0.heap.size, 0, none⟩ (.int .i64 0)).setCell ⟨W0.heap.size, 1, none⟩ (.int .i64 0)).setCell ⟨W0.heap.size, 2, none⟩ (.string ⟨#[]⟩)).setCell ⟨W0.heap.size, 3, none⟩ (.slice none 0 0)).setCell ⟨W0.heap.size, 4, none⟩ (.slice none 0 0)) = Wf at hw9 ⊢
      have HWf := Lib.hid hw9
      have hb := HZ3.out.keep hw9
      have HBz := Lib.hid hb
      obtain ⟨⟨x0, x1, x2, x3, x4⟩, g0, g1, g2, g3, g4⟩ := box5 hb
      obtain ⟨⟨m0, m1, m2, m3, m4⟩, _⟩ := box5 (HN3.out.keep hw9)
      clear hb hw9
      go_wp2_with fail
      refine bodyPost_ret (results_cs (by rfl) rfl _ (w.heap.size + 1) (by rfl) (by rfl) _ _ _ _ _ (set5 HBz.out)) rfl ?_
      exact ⟨rfl, (HF3.out.trans HWf.out).put5 (Nat.le_succ _) _ _ _ _ _⟩
  · have hx63 := hnx.out x rfl
    go_region_held3 (fun W => W.cell? ⟨w.heap.size, 0, none⟩ = some (Value.int .i64 v.kd) ∧ W.cell? ⟨w.heap.size, 1, none⟩ = some (Value.int .i64 v.nm) ∧ W.cell? ⟨w.heap.size, 2, none⟩ = some (Value.string ⟨v.tx.toArray⟩) ∧ W.cell? ⟨w.heap.size, 3, none⟩ = some (Value.slice B v.ls.length d) ∧ W.cell? ⟨w.heap.size, 4, none⟩ = some (Value.slice B' v.ms.length d') ∧ W.cell? ⟨b, o, none⟩ = some (.string ⟨p.toArray⟩))
      (first | with_reducible exact HS.out _ (HF8.out _ _ _ _ _) | with_reducible exact HS.out _ (HF9.out _ _ _ _ _) | with_reducible exact HS.out _ (HF1.out.alloc _) | with_reducible exact HS.out _ HF1.out | with_reducible exact HS.out _ ((Fr.refl _).alloc _).drew | with_reducible exact HS.out _ (Fr.refl _).drew | with_reducible exact HS.out _ (Fr.refl _))
      (first
        | (go_at_call 45; refine (HC.out _ (by with_reducible exact ((Fr.refl W0).alloc _).drew)).mono ?_; rintro e w1 ⟨C, f, C', f', rfl, hin, hf⟩; have hb8 : Blk w1 W0.heap.size #[.int .i64 0, .int .i64 0, .string ⟨#[]⟩, .slice none 0 0, .slice none 0 0] 29 := (Blk.made W0 _ _).keep ((Fr.refl _).drew.trans hf); obtain ⟨⟨s0, s1, s2, s3, s4⟩, sf0, sf1, sf2, sf3, sf4⟩ := box5 hb8; have HB8 := Lib.hid hb8; have hf1 : Fr W0 w1 := (by first | exact hf | exact (Fr.refl _).drew.trans hf | exact ((Fr.refl _).alloc _).drew.trans hf); have HF8 : Hid (∀ u0 u1 u2 u3 u4, Fr W0 (((((w1.setCell ⟨W0.heap.size, 0, none⟩ u0).setCell ⟨W0.heap.size, 1, none⟩ u1).setCell ⟨W0.heap.size, 2, none⟩ u2).setCell ⟨W0.heap.size, 3, none⟩ u3).setCell ⟨W0.heap.size, 4, none⟩ u4)) := Lib.hid (fun u0 u1 u2 u3 u4 => hf1.put5 (X := W0.heap.size) (Nat.le_refl _) u0 u1 u2 u3 u4); have HF9 : Hid (∀ u0 u1 u2 u3 u4, Fr W0 ((((((w1.alloc (.cells #[.int .i64 0, .int .i64 0, .string ⟨#[]⟩, .slice none 0 0, .slice none 0 0] 29)).setCell ⟨w1.heap.size, 0, none⟩ u0).setCell ⟨w1.heap.size, 1, none⟩ u1).setCell ⟨w1.heap.size, 2, none⟩ u2).setCell ⟨w1.heap.size, 3, none⟩ u3).setCell ⟨w1.heap.size, 4, none⟩ u4)) := Lib.hid (fun u0 u1 u2 u3 u4 => (hf1.alloc _).put5 (X := w1.heap.size) hf1.size u0 u1 u2 u3 u4); have HIN := Lib.hid hin; clear hin; have HF1 := Lib.hid hf1; clear hf1 hf hb8)
        | (go_at_call 45; refine (HC.out _ (by first | with_reducible exact (Fr.refl W0).drew | with_reducible exact Fr.refl W0)).mono ?_; rintro e w1 ⟨C, f, C', f', rfl, hin, hf⟩; have hf1 : Fr W0 w1 := (by first | exact hf | exact (Fr.refl _).drew.trans hf | exact ((Fr.refl _).alloc _).drew.trans hf); have HF8 : Hid (∀ u0 u1 u2 u3 u4, Fr W0 (((((w1.setCell ⟨W0.heap.size, 0, none⟩ u0).setCell ⟨W0.heap.size, 1, none⟩ u1).setCell ⟨W0.heap.size, 2, none⟩ u2).setCell ⟨W0.heap.size, 3, none⟩ u3).setCell ⟨W0.heap.size, 4, none⟩ u4)) := Lib.hid (fun u0 u1 u2 u3 u4 => hf1.put5 (X := W0.heap.size) (Nat.le_refl _) u0 u1 u2 u3 u4); have HF9 : Hid (∀ u0 u1 u2 u3 u4, Fr W0 ((((((w1.alloc (.cells #[.int .i64 0, .int .i64 0, .string ⟨#[]⟩, .slice none 0 0, .slice none 0 0] 29)).setCell ⟨w1.heap.size, 0, none⟩ u0).setCell ⟨w1.heap.size, 1, none⟩ u1).setCell ⟨w1.heap.size, 2, none⟩ u2).setCell ⟨w1.heap.size, 3, none⟩ u3).setCell ⟨w1.heap.size, 4, none⟩ u4)) := Lib.hid (fun u0 u1 u2 u3 u4 => (hf1.alloc _).put5 (X := w1.heap.size) hf1.size u0 u1 u2 u3 u4); have HIN := Lib.hid hin; clear hin; have HF1 := Lib.hid hf1; clear hf1 hf))
    · have hw9 := HF1.out.alloc (.cells #[.int .i64 x.kd, .int .i64 x.nm, .string ⟨x.tx.toArray⟩, .slice C x.ls.length f, .slice C' x.ms.length f'] 29)
      have hbx := Blk.made w1 #[.int .i64 x.kd, .int .i64 x.nm, .string ⟨x.tx.toArray⟩, .slice C x.ls.length f, .slice C' x.ms.length f'] 29
      have hx8 : w.heap.size + 1 < w1.heap.size := Nat.lt_of_lt_of_le hz1 HF1.out.size
      generalize (w1.alloc (.cells #[.int .i64 x.kd, .int .i64 x.nm, .string ⟨x.tx.toArray⟩, .slice C x.ls.length f, .slice C' x.ms.length f'] 29)) = Wf at hw9 hbx ⊢
      generalize w1.heap.size = X8 at hbx hx8 ⊢
      have HWf := Lib.hid hw9
      have HBX := Lib.hid hbx
      have hZf : Z ≤ Wf.heap.size := Nat.le_trans hZ (HF3.out.trans hw9).size
      have hin2 : InV Wf (Lo Z) x (vA x C f C' f') := HIN.out.map (fun _ h => h) (fun b o hb => by have hb : b < Z := hb; rw [(HF3.out.trans HWf.out).cell (by omega), (HF3.out.trans HF1.out).cell (by omega)])
      have HIN2 := Lib.hid hin2
      clear hw9 hbx hin2
      have HC2 : Hid (∀ W, Fr Wf W → Calls Tryz.prog 59 #[.agg #[.int .i64 x.kd, .int .i64 x.nm, .string ⟨x.tx.toArray⟩, .slice C x.ls.length f, .slice C' x.ms.length f'], .slice A' ps.length (c - 1), .bool st] W (FdP Z W (Pt.find st ps x))) := Lib.hid (fun W hW => HF.out x C f C' f' A' (c - 1) W Z (Nat.le_trans hZf hW.size) (HIN2.out.keep hZf hW) hx63 (HPS.out W ((HF3.out.trans HWf.out).trans hW)) hpc hpc2 HQ.out)
      have HS8 : Hid (∀ W, Fr Wf W → W.cell? ⟨X8, 0, none⟩ = some (Value.int .i64 x.kd) ∧ W.cell? ⟨X8, 1, none⟩ = some (Value.int .i64 x.nm) ∧ W.cell? ⟨X8, 2, none⟩ = some (Value.string ⟨x.tx.toArray⟩) ∧ W.cell? ⟨X8, 3, none⟩ = some (Value.slice C x.ls.length f) ∧ W.cell? ⟨X8, 4, none⟩ = some (Value.slice C' x.ms.length f')) := Lib.hid (fun W hW => by
        have h := HBX.out.keep hW
        exact ⟨h.cell 0, h.cell 1, h.cell 2, h.cell 3, h.cell 4⟩)
      have HS85 : Hid (∀ W, Fr Wf W → ∀ u0 u1 u2 u3 u4, (((((W.setCell ⟨w.heap.size + 1, 0, none⟩ u0).setCell ⟨w.heap.size + 1, 1, none⟩ u1).setCell ⟨w.heap.size + 1, 2, none⟩ u2).setCell ⟨w.heap.size + 1, 3, none⟩ u3).setCell ⟨w.heap.size + 1, 4, none⟩ u4).cell? ⟨X8, 0, none⟩ = some (Value.int .i64 x.kd) ∧ (((((W.setCell ⟨w.heap.size + 1, 0, none⟩ u0).setCell ⟨w.heap.size + 1, 1, none⟩ u1).setCell ⟨w.heap.size + 1, 2, none⟩ u2).setCell ⟨w.heap.size + 1, 3, none⟩ u3).setCell ⟨w.heap.size + 1, 4, none⟩ u4).cell? ⟨X8, 1, none⟩ = some (Value.int .i64 x.nm) ∧ (((((W.setCell ⟨w.heap.size + 1, 0, none⟩ u0).setCell ⟨w.heap.size + 1, 1, none⟩ u1).setCell ⟨w.heap.size + 1, 2, none⟩ u2).setCell ⟨w.heap.size + 1, 3, none⟩ u3).setCell ⟨w.heap.size + 1, 4, none⟩ u4).cell? ⟨X8, 2, none⟩ = some (Value.string ⟨x.tx.toArray⟩) ∧ (((((W.setCell ⟨w.heap.size + 1, 0, none⟩ u0).setCell ⟨w.heap.size + 1, 1, none⟩ u1).setCell ⟨w.heap.size + 1, 2, none⟩ u2).setCell ⟨w.heap.size + 1, 3, none⟩ u3).setCell ⟨w.heap.size + 1, 4, none⟩ u4).cell? ⟨X8, 3, none⟩ = some (Value.slice C x.ls.length f) ∧ (((((W.setCell ⟨w.heap.size + 1, 0, none⟩ u0).setCell ⟨w.heap.size + 1, 1, none⟩ u1).setCell ⟨w.heap.size + 1, 2, none⟩ u2).setCell ⟨w.heap.size + 1, 3, none⟩ u3).setCell ⟨w.heap.size + 1, 4, none⟩ u4).cell? ⟨X8, 4, none⟩ = some (Value.slice C' x.ms.length f')) := Lib.hid (fun W hW u0 u1 u2 u3 u4 => by
        have h := HBX.out.keep hW
        have n : ∀ j, (Addr.mk (w.heap.size + 1) j none).block ≠ X8 := fun j => by show w.heap.size + 1 ≠ X8; omega
        have h5 := ((((h.other (n 0) u0).other (n 1) u1).other (n 2) u2).other (n 3) u3).other (n 4) u4
        exact ⟨h5.cell 0, h5.cell 1, h5.cell 2, h5.cell 3, h5.cell 4⟩)
      go_wp2_with fail
      go_region_held3 (fun W => W.cell? ⟨X8, 0, none⟩ = some (Value.int .i64 x.kd) ∧ W.cell? ⟨X8, 1, none⟩ = some (Value.int .i64 x.nm) ∧ W.cell? ⟨X8, 2, none⟩ = some (Value.string ⟨x.tx.toArray⟩) ∧ W.cell? ⟨X8, 3, none⟩ = some (Value.slice C x.ls.length f) ∧ W.cell? ⟨X8, 4, none⟩ = some (Value.slice C' x.ms.length f'))
        (first | with_reducible exact HS85.out _ HF2.out _ _ _ _ _ | with_reducible exact HS8.out _ HF2.out | with_reducible exact HS8.out _ (Fr.refl _).drew | with_reducible exact HS8.out _ (Fr.refl _))
        (first
          | (go_at_call 59; refine (HC2.out _ (by first | with_reducible exact (Fr.refl _).drew | with_reducible exact Fr.refl _)).mono ?_; intro x2 w2 h2; obtain ⟨k3, n3, s3, A3, a3, b3, A3', a3', b3', t3, rfl⟩ := h2.form; have hf2 : Fr Wf w2 := (by first | exact h2.fr | exact (Fr.refl _).drew.trans h2.fr); have hb := HZ3.out.keep (HWf.out.trans hf2); obtain ⟨⟨x0, x1, x2, x3, x4⟩, g0, g1, g2, g3, g4⟩ := box5 hb; have HB2 := Lib.hid hb; have HF2 := Lib.hid hf2; have H2 := Lib.hid h2; clear h2 hb hf2))
      go_wp2_with fail
      refine bodyPost_ret (results_cs (by rfl) rfl _ (w.heap.size + 1) (by rfl) (by rfl) _ _ _ _ _ (set5 HB2.out)) rfl ?_
      exact H2.out.lift (by first | exact (HF3.out.trans HWf.out).drew | exact HF3.out.trans HWf.out) hZ (Nat.le_succ _) (by have := HBX.out.lt; first | exact Nat.lt_trans hx8 this | (simp [World.drew]; omega)) _ _ _ _ _
    · have hw9 := HF8.out (.int .i64 x.kd) (.int .i64 x.nm) (.string ⟨x.tx.toArray⟩) (.slice C x.ls.length f) (.slice C' x.ms.length f')
      have hbx : Blk _ W0.heap.size #[.int .i64 x.kd, .int .i64 x.nm, .string ⟨x.tx.toArray⟩, .slice C x.ls.length f, .slice C' x.ms.length f'] 29 := set5 HB8.out (v0 := .int .i64 x.kd) (v1 := .int .i64 x.nm) (v2 := .string ⟨x.tx.toArray⟩) (v3 := .slice C x.ls.length f) (v4 := .slice C' x.ms.length f')
      have hx8 : w.heap.size + 1 < W0.heap.size := hz1
      generalize (((((w1.setCell ⟨W0.heap.size, 0, none⟩ (.int .i64 x.kd)).setCell ⟨W0.heap.size, 1, none⟩ (.int .i64 x.nm)).setCell ⟨W0.heap.size, 2, none⟩ (.string ⟨x.tx.toArray⟩)).setCell ⟨W0.heap.size, 3, none⟩ (.slice C x.ls.length f)).setCell ⟨W0.heap.size, 4, none⟩ (.slice C' x.ms.length f')) = Wf at hw9 hbx ⊢
      generalize W0.heap.size = X8 at hbx hx8 ⊢
      have HWf := Lib.hid hw9
      have HBX := Lib.hid hbx
      have hZf : Z ≤ Wf.heap.size := Nat.le_trans hZ (HF3.out.trans hw9).size
      have hin2 : InV Wf (Lo Z) x (vA x C f C' f') := HIN.out.map (fun _ h => h) (fun b o hb => by have hb : b < Z := hb; rw [(HF3.out.trans HWf.out).cell (by omega), (HF3.out.trans HF1.out).cell (by omega)])
      have HIN2 := Lib.hid hin2
      clear hw9 hbx hin2
      have HC2 : Hid (∀ W, Fr Wf W → Calls Tryz.prog 59 #[.agg #[.int .i64 x.kd, .int .i64 x.nm, .string ⟨x.tx.toArray⟩, .slice C x.ls.length f, .slice C' x.ms.length f'], .slice A' ps.length (c - 1), .bool st] W (FdP Z W (Pt.find st ps x))) := Lib.hid (fun W hW => HF.out x C f C' f' A' (c - 1) W Z (Nat.le_trans hZf hW.size) (HIN2.out.keep hZf hW) hx63 (HPS.out W ((HF3.out.trans HWf.out).trans hW)) hpc hpc2 HQ.out)
      have HS8 : Hid (∀ W, Fr Wf W → W.cell? ⟨X8, 0, none⟩ = some (Value.int .i64 x.kd) ∧ W.cell? ⟨X8, 1, none⟩ = some (Value.int .i64 x.nm) ∧ W.cell? ⟨X8, 2, none⟩ = some (Value.string ⟨x.tx.toArray⟩) ∧ W.cell? ⟨X8, 3, none⟩ = some (Value.slice C x.ls.length f) ∧ W.cell? ⟨X8, 4, none⟩ = some (Value.slice C' x.ms.length f')) := Lib.hid (fun W hW => by
        have h := HBX.out.keep hW
        exact ⟨h.cell 0, h.cell 1, h.cell 2, h.cell 3, h.cell 4⟩)
      have HS85 : Hid (∀ W, Fr Wf W → ∀ u0 u1 u2 u3 u4, (((((W.setCell ⟨w.heap.size + 1, 0, none⟩ u0).setCell ⟨w.heap.size + 1, 1, none⟩ u1).setCell ⟨w.heap.size + 1, 2, none⟩ u2).setCell ⟨w.heap.size + 1, 3, none⟩ u3).setCell ⟨w.heap.size + 1, 4, none⟩ u4).cell? ⟨X8, 0, none⟩ = some (Value.int .i64 x.kd) ∧ (((((W.setCell ⟨w.heap.size + 1, 0, none⟩ u0).setCell ⟨w.heap.size + 1, 1, none⟩ u1).setCell ⟨w.heap.size + 1, 2, none⟩ u2).setCell ⟨w.heap.size + 1, 3, none⟩ u3).setCell ⟨w.heap.size + 1, 4, none⟩ u4).cell? ⟨X8, 1, none⟩ = some (Value.int .i64 x.nm) ∧ (((((W.setCell ⟨w.heap.size + 1, 0, none⟩ u0).setCell ⟨w.heap.size + 1, 1, none⟩ u1).setCell ⟨w.heap.size + 1, 2, none⟩ u2).setCell ⟨w.heap.size + 1, 3, none⟩ u3).setCell ⟨w.heap.size + 1, 4, none⟩ u4).cell? ⟨X8, 2, none⟩ = some (Value.string ⟨x.tx.toArray⟩) ∧ (((((W.setCell ⟨w.heap.size + 1, 0, none⟩ u0).setCell ⟨w.heap.size + 1, 1, none⟩ u1).setCell ⟨w.heap.size + 1, 2, none⟩ u2).setCell ⟨w.heap.size + 1, 3, none⟩ u3).setCell ⟨w.heap.size + 1, 4, none⟩ u4).cell? ⟨X8, 3, none⟩ = some (Value.slice C x.ls.length f) ∧ (((((W.setCell ⟨w.heap.size + 1, 0, none⟩ u0).setCell ⟨w.heap.size + 1, 1, none⟩ u1).setCell ⟨w.heap.size + 1, 2, none⟩ u2).setCell ⟨w.heap.size + 1, 3, none⟩ u3).setCell ⟨w.heap.size + 1, 4, none⟩ u4).cell? ⟨X8, 4, none⟩ = some (Value.slice C' x.ms.length f')) := Lib.hid (fun W hW u0 u1 u2 u3 u4 => by
        have h := HBX.out.keep hW
        have n : ∀ j, (Addr.mk (w.heap.size + 1) j none).block ≠ X8 := fun j => by show w.heap.size + 1 ≠ X8; omega
        have h5 := ((((h.other (n 0) u0).other (n 1) u1).other (n 2) u2).other (n 3) u3).other (n 4) u4
        exact ⟨h5.cell 0, h5.cell 1, h5.cell 2, h5.cell 3, h5.cell 4⟩)
      go_wp2_with fail
      go_region_held3 (fun W => W.cell? ⟨X8, 0, none⟩ = some (Value.int .i64 x.kd) ∧ W.cell? ⟨X8, 1, none⟩ = some (Value.int .i64 x.nm) ∧ W.cell? ⟨X8, 2, none⟩ = some (Value.string ⟨x.tx.toArray⟩) ∧ W.cell? ⟨X8, 3, none⟩ = some (Value.slice C x.ls.length f) ∧ W.cell? ⟨X8, 4, none⟩ = some (Value.slice C' x.ms.length f'))
        (first | with_reducible exact HS85.out _ HF2.out _ _ _ _ _ | with_reducible exact HS8.out _ HF2.out | with_reducible exact HS8.out _ (Fr.refl _).drew | with_reducible exact HS8.out _ (Fr.refl _))
        (first
          | (go_at_call 59; refine (HC2.out _ (by first | with_reducible exact (Fr.refl _).drew | with_reducible exact Fr.refl _)).mono ?_; intro x2 w2 h2; obtain ⟨k3, n3, s3, A3, a3, b3, A3', a3', b3', t3, rfl⟩ := h2.form; have hf2 : Fr Wf w2 := (by first | exact h2.fr | exact (Fr.refl _).drew.trans h2.fr); have hb := HZ3.out.keep (HWf.out.trans hf2); obtain ⟨⟨x0, x1, x2, x3, x4⟩, g0, g1, g2, g3, g4⟩ := box5 hb; have HB2 := Lib.hid hb; have HF2 := Lib.hid hf2; have H2 := Lib.hid h2; clear h2 hb hf2))
      go_wp2_with fail
      refine bodyPost_ret (results_cs (by rfl) rfl _ (w.heap.size + 1) (by rfl) (by rfl) _ _ _ _ _ (set5 HB2.out)) rfl ?_
      exact H2.out.lift (by first | exact (HF3.out.trans HWf.out).drew | exact HF3.out.trans HWf.out) hZ (Nat.le_succ _) (by have := HBX.out.lt; first | exact Nat.lt_trans hx8 this | (simp [World.drew]; omega)) _ _ _ _ _

set_option maxHeartbeats 4000000 in
set_option maxRecDepth 100000 in
theorem lead_numn_is (st : Bool) (p : List UInt8) (ps : List (List UInt8)) (hF : LeadAt st ps) (v : JV) (B : Option Addr) (d : Nat) (B' : Option Addr) (d' : Nat) (A : Option Addr) (c : Nat) (w : World) (Z : Nat) (hZ : Z ≤ w.heap.size) (hv : InV w (Lo Z) v (vA v B d B' d')) (hn : Rd.nv v ≤ 1048576) (hp : PsC w A (p :: ps)) (hc : (p :: ps).length ≤ c) (hc2 : c ≤ 9223372036854775807) (hq : ∀ q ∈ p :: ps, q.length ≤ 9223372036854775807) (h5 : v.kd = 5) (hcase : ¬ (st = true ∧ p = [42] ∧ v.kd = 5)) (hna : Nm.allNum p = none) :
    Calls Tryz.prog 59 #[.agg #[.int .i64 v.kd, .int .i64 v.nm, .string ⟨v.tx.toArray⟩, .slice B v.ls.length d, .slice B' v.ms.length d'], .slice A (p :: ps).length c, .bool st] w (FdP Z w (Pt.find st (p :: ps) v)) := by
  have HV := Lib.hid hv
  have HN := Lib.hid hn
  have HF := Lib.hid hF
  have HQ : Hid (∀ q ∈ ps, q.length ≤ 9223372036854775807) := fun q hq' => hq q (by simp [hq'])
  have HQ0 : Hid (p.length ≤ 9223372036854775807) := hq p (by simp)
  obtain ⟨b, o, rfl, hb, hcl⟩ := hp (by simp)
  have hc0 : w.cell? ⟨b, o, none⟩ = some (.string ⟨p.toArray⟩) := hcl 0 (by simp)
  obtain ⟨A', hcut, hps, hpc⟩ := psc_cut hp hc hc2
  have HPS := Lib.hid hps
  have hpc2 : c - 1 ≤ 9223372036854775807 := by omega
  have HB := Lib.hid hb
  have HC0 := Lib.hid hc0
  simp only [List.length_cons] at hc ⊢
  have hlp : ((ps.length : Int) + 1 == 0) = false := by rw [beq_eq_false_iff_ne]; omega
  have hpl : (ps.length : Int) + 1 ≤ 9223372036854775807 := by omega
  have hF3 : Fr w (((w.alloc (.cells #[.int .i64 v.kd, .int .i64 v.nm, .string ⟨v.tx.toArray⟩, .slice B v.ls.length d, .slice B' v.ms.length d'] 29)).alloc (.cells #[.int .i64 0, .int .i64 0, .string ⟨#[]⟩, .slice none 0 0, .slice none 0 0] 29)).alloc (.cells #[.int .i64 0, .int .i64 0, .string ⟨#[]⟩, .slice none 0 0, .slice none 0 0] 29)) := (((Fr.refl w).alloc _).alloc _).alloc _
  have hB3 : Blk (((w.alloc (.cells #[.int .i64 v.kd, .int .i64 v.nm, .string ⟨v.tx.toArray⟩, .slice B v.ls.length d, .slice B' v.ms.length d'] 29)).alloc (.cells #[.int .i64 0, .int .i64 0, .string ⟨#[]⟩, .slice none 0 0, .slice none 0 0] 29)).alloc (.cells #[.int .i64 0, .int .i64 0, .string ⟨#[]⟩, .slice none 0 0, .slice none 0 0] 29)) w.heap.size #[.int .i64 v.kd, .int .i64 v.nm, .string ⟨v.tx.toArray⟩, .slice B v.ls.length d, .slice B' v.ms.length d'] 29 := ((Blk.made w _ _).keep ((Fr.refl _).alloc _)).keep ((Fr.refl _).alloc _)
  have hZ3 : Blk (((w.alloc (.cells #[.int .i64 v.kd, .int .i64 v.nm, .string ⟨v.tx.toArray⟩, .slice B v.ls.length d, .slice B' v.ms.length d'] 29)).alloc (.cells #[.int .i64 0, .int .i64 0, .string ⟨#[]⟩, .slice none 0 0, .slice none 0 0] 29)).alloc (.cells #[.int .i64 0, .int .i64 0, .string ⟨#[]⟩, .slice none 0 0, .slice none 0 0] 29)) (w.heap.size + 1) #[.int .i64 0, .int .i64 0, .string ⟨#[]⟩, .slice none 0 0, .slice none 0 0] 29 := (boxz (Blk.made (w.alloc _) _ _)).keep ((Fr.refl _).alloc _)
  have hN3 : Blk (((w.alloc (.cells #[.int .i64 v.kd, .int .i64 v.nm, .string ⟨v.tx.toArray⟩, .slice B v.ls.length d, .slice B' v.ms.length d'] 29)).alloc (.cells #[.int .i64 0, .int .i64 0, .string ⟨#[]⟩, .slice none 0 0, .slice none 0 0] 29)).alloc (.cells #[.int .i64 0, .int .i64 0, .string ⟨#[]⟩, .slice none 0 0, .slice none 0 0] 29)) (w.heap.size + 1 + 1) #[.int .i64 0, .int .i64 0, .string ⟨#[]⟩, .slice none 0 0, .slice none 0 0] 29 := boxy (Blk.made ((w.alloc _).alloc _) _ _)
  obtain ⟨q6, _⟩ := ikind (show v.kd ≠ 6 by omega)
  have q5 : (v.kd != 5) = false := by rw [bne_eq_false_iff_eq]; exact h5
  have hE : Pt.find st (p :: ps) v = (Pt.step v p).bind (Pt.find st ps) := by rw [Pt.find_cons, if_neg hcase]
  have hcs : st = false ∨ (st = true ∧ p ≠ [42]) := by
    cases st with
    | false => exact .inl rfl
    | true => exact .inr ⟨rfl, fun h1 => hcase ⟨rfl, h1, h5⟩⟩
  rw [hE, Pt.step_five h5]
  have hL := hv.facts.2.2.2.1
  have hL' : (v.ls.length : Int) ≤ 140737488355328 := by omega
  have hsz : (⟨p.toArray⟩ : ByteArray).size ≤ maxLen := by
    show p.toArray.size ≤ _; rw [List.size_toArray]; unfold maxLen; exact HQ0.out
  have hr : Pt.num p v.ls.length = none := by unfold Pt.num; rw [hna]
  rw [hr]
  have HNA : Hid (Nm.allNum (⟨p.toArray⟩ : ByteArray).data.toList = none) := hna
  clear hv hp hcl hps hF hn hq h5 hna hr hL
  have HCS := Lib.hid hcs
  clear hcs hcase hE
  rcases HCS.out with rfl | ⟨rfl, hp4⟩
  · go_enter Tryz.func59, Tryz.ntmps59
    go_upto_region 4 with fail
    generalize (((w.alloc (.cells #[.int .i64 v.kd, .int .i64 v.nm, .string ⟨v.tx.toArray⟩, .slice B v.ls.length d, .slice B' v.ms.length d'] 29)).alloc (.cells #[.int .i64 0, .int .i64 0, .string ⟨#[]⟩, .slice none 0 0, .slice none 0 0] 29)).alloc (.cells #[.int .i64 0, .int .i64 0, .string ⟨#[]⟩, .slice none 0 0, .slice none 0 0] 29)) = W0 at hF3 hB3 hZ3 hN3 ⊢
    have HF3 := Lib.hid hF3
    have HB3 := Lib.hid hB3
    have HZ3 := Lib.hid hZ3
    have HN3 := Lib.hid hN3
    obtain ⟨⟨a0, a1, a2, a3, a4⟩, _⟩ := box5 hB3
    obtain ⟨⟨z0, z1, z2, z3, z4⟩, zf0, zf1, zf2, zf3, zf4⟩ := box5 hZ3
    obtain ⟨⟨n0, n1, n2, n3, n4⟩, _⟩ := box5 hN3
    have hz1 : w.heap.size + 1 < W0.heap.size := hZ3.lt
    have hzn : ¬ w.heap.size + 1 = w.heap.size := by omega
    have hzn2 : ¬ w.heap.size + 1 + 1 = w.heap.size := by omega
    have hzn3 : ¬ w.heap.size + 1 + 1 = w.heap.size + 1 := by omega
    have hc0' : W0.cell? ⟨b, o, none⟩ = some (.string ⟨p.toArray⟩) := (hF3.cell hb).trans hc0
    clear hF3 hB3 hZ3 hN3
    clear hb hc0
    go_wp2_with (go_at_call 81; refine (rall_none ⟨p.toArray⟩ _ hsz HNA.out).mono ?_; rintro e w1 ⟨rfl, rfl⟩)
    refine bodyPost_ret (results_cs (by rfl) rfl _ (w.heap.size + 1) (by rfl) (by rfl) _ _ _ _ _ (set5 HZ3.out)) rfl ?_
    exact ⟨rfl, HF3.out.put5 (Nat.le_succ _) _ _ _ _ _⟩
  · have qs1 : ((⟨p.toArray⟩ : ByteArray).toList == (⟨#[42]⟩ : ByteArray).toList) = false := (bl_beq' p [42]).trans (decide_eq_false hp4)
    have qs2 : (p == [42]) = false := by rw [beq_eq_false_iff_ne]; exact hp4
    clear hp4
    go_enter Tryz.func59, Tryz.ntmps59
    go_upto_region 4 with fail
    generalize (((w.alloc (.cells #[.int .i64 v.kd, .int .i64 v.nm, .string ⟨v.tx.toArray⟩, .slice B v.ls.length d, .slice B' v.ms.length d'] 29)).alloc (.cells #[.int .i64 0, .int .i64 0, .string ⟨#[]⟩, .slice none 0 0, .slice none 0 0] 29)).alloc (.cells #[.int .i64 0, .int .i64 0, .string ⟨#[]⟩, .slice none 0 0, .slice none 0 0] 29)) = W0 at hF3 hB3 hZ3 hN3 ⊢
    have HF3 := Lib.hid hF3
    have HB3 := Lib.hid hB3
    have HZ3 := Lib.hid hZ3
    have HN3 := Lib.hid hN3
    obtain ⟨⟨a0, a1, a2, a3, a4⟩, _⟩ := box5 hB3
    obtain ⟨⟨z0, z1, z2, z3, z4⟩, zf0, zf1, zf2, zf3, zf4⟩ := box5 hZ3
    obtain ⟨⟨n0, n1, n2, n3, n4⟩, _⟩ := box5 hN3
    have hz1 : w.heap.size + 1 < W0.heap.size := hZ3.lt
    have hzn : ¬ w.heap.size + 1 = w.heap.size := by omega
    have hzn2 : ¬ w.heap.size + 1 + 1 = w.heap.size := by omega
    have hzn3 : ¬ w.heap.size + 1 + 1 = w.heap.size + 1 := by omega
    have hc0' : W0.cell? ⟨b, o, none⟩ = some (.string ⟨p.toArray⟩) := (hF3.cell hb).trans hc0
    clear hF3 hB3 hZ3 hN3
    clear hb hc0
    go_wp2_with (go_at_call 81; refine (rall_none ⟨p.toArray⟩ _ hsz HNA.out).mono ?_; rintro e w1 ⟨rfl, rfl⟩)
    refine bodyPost_ret (results_cs (by rfl) rfl _ (w.heap.size + 1) (by rfl) (by rfl) _ _ _ _ _ (set5 HZ3.out)) rfl ?_
    exact ⟨rfl, HF3.out.put5 (Nat.le_succ _) _ _ _ _ _⟩

set_option maxHeartbeats 4000000 in
set_option maxRecDepth 100000 in
theorem lead_numo_is (st : Bool) (p : List UInt8) (ps : List (List UInt8)) (hF : LeadAt st ps) (v : JV) (B : Option Addr) (d : Nat) (B' : Option Addr) (d' : Nat) (A : Option Addr) (c : Nat) (w : World) (Z : Nat) (hZ : Z ≤ w.heap.size) (hv : InV w (Lo Z) v (vA v B d B' d')) (hn : Rd.nv v ≤ 1048576) (hp : PsC w A (p :: ps)) (hc : (p :: ps).length ≤ c) (hc2 : c ≤ 9223372036854775807) (hq : ∀ q ∈ p :: ps, q.length ≤ 9223372036854775807) (h5 : v.kd = 5) (hcase : ¬ (st = true ∧ p = [42] ∧ v.kd = 5)) (n : Int) (hna : Nm.allNum p = some n) (t1 : Bool) (hk1 : decide (n < 0) = t1) (hk2 : t1 = false → decide ((v.ls.length : Int) ≤ n) = true) :
    Calls Tryz.prog 59 #[.agg #[.int .i64 v.kd, .int .i64 v.nm, .string ⟨v.tx.toArray⟩, .slice B v.ls.length d, .slice B' v.ms.length d'], .slice A (p :: ps).length c, .bool st] w (FdP Z w (Pt.find st (p :: ps) v)) := by
  have HV := Lib.hid hv
  have HN := Lib.hid hn
  have HF := Lib.hid hF
  have HQ : Hid (∀ q ∈ ps, q.length ≤ 9223372036854775807) := fun q hq' => hq q (by simp [hq'])
  have HQ0 : Hid (p.length ≤ 9223372036854775807) := hq p (by simp)
  obtain ⟨b, o, rfl, hb, hcl⟩ := hp (by simp)
  have hc0 : w.cell? ⟨b, o, none⟩ = some (.string ⟨p.toArray⟩) := hcl 0 (by simp)
  obtain ⟨A', hcut, hps, hpc⟩ := psc_cut hp hc hc2
  have HPS := Lib.hid hps
  have hpc2 : c - 1 ≤ 9223372036854775807 := by omega
  have HB := Lib.hid hb
  have HC0 := Lib.hid hc0
  simp only [List.length_cons] at hc ⊢
  have hlp : ((ps.length : Int) + 1 == 0) = false := by rw [beq_eq_false_iff_ne]; omega
  have hpl : (ps.length : Int) + 1 ≤ 9223372036854775807 := by omega
  have hF3 : Fr w (((w.alloc (.cells #[.int .i64 v.kd, .int .i64 v.nm, .string ⟨v.tx.toArray⟩, .slice B v.ls.length d, .slice B' v.ms.length d'] 29)).alloc (.cells #[.int .i64 0, .int .i64 0, .string ⟨#[]⟩, .slice none 0 0, .slice none 0 0] 29)).alloc (.cells #[.int .i64 0, .int .i64 0, .string ⟨#[]⟩, .slice none 0 0, .slice none 0 0] 29)) := (((Fr.refl w).alloc _).alloc _).alloc _
  have hB3 : Blk (((w.alloc (.cells #[.int .i64 v.kd, .int .i64 v.nm, .string ⟨v.tx.toArray⟩, .slice B v.ls.length d, .slice B' v.ms.length d'] 29)).alloc (.cells #[.int .i64 0, .int .i64 0, .string ⟨#[]⟩, .slice none 0 0, .slice none 0 0] 29)).alloc (.cells #[.int .i64 0, .int .i64 0, .string ⟨#[]⟩, .slice none 0 0, .slice none 0 0] 29)) w.heap.size #[.int .i64 v.kd, .int .i64 v.nm, .string ⟨v.tx.toArray⟩, .slice B v.ls.length d, .slice B' v.ms.length d'] 29 := ((Blk.made w _ _).keep ((Fr.refl _).alloc _)).keep ((Fr.refl _).alloc _)
  have hZ3 : Blk (((w.alloc (.cells #[.int .i64 v.kd, .int .i64 v.nm, .string ⟨v.tx.toArray⟩, .slice B v.ls.length d, .slice B' v.ms.length d'] 29)).alloc (.cells #[.int .i64 0, .int .i64 0, .string ⟨#[]⟩, .slice none 0 0, .slice none 0 0] 29)).alloc (.cells #[.int .i64 0, .int .i64 0, .string ⟨#[]⟩, .slice none 0 0, .slice none 0 0] 29)) (w.heap.size + 1) #[.int .i64 0, .int .i64 0, .string ⟨#[]⟩, .slice none 0 0, .slice none 0 0] 29 := (boxz (Blk.made (w.alloc _) _ _)).keep ((Fr.refl _).alloc _)
  have hN3 : Blk (((w.alloc (.cells #[.int .i64 v.kd, .int .i64 v.nm, .string ⟨v.tx.toArray⟩, .slice B v.ls.length d, .slice B' v.ms.length d'] 29)).alloc (.cells #[.int .i64 0, .int .i64 0, .string ⟨#[]⟩, .slice none 0 0, .slice none 0 0] 29)).alloc (.cells #[.int .i64 0, .int .i64 0, .string ⟨#[]⟩, .slice none 0 0, .slice none 0 0] 29)) (w.heap.size + 1 + 1) #[.int .i64 0, .int .i64 0, .string ⟨#[]⟩, .slice none 0 0, .slice none 0 0] 29 := boxy (Blk.made ((w.alloc _).alloc _) _ _)
  obtain ⟨q6, _⟩ := ikind (show v.kd ≠ 6 by omega)
  have q5 : (v.kd != 5) = false := by rw [bne_eq_false_iff_eq]; exact h5
  have hE : Pt.find st (p :: ps) v = (Pt.step v p).bind (Pt.find st ps) := by rw [Pt.find_cons, if_neg hcase]
  have hcs : st = false ∨ (st = true ∧ p ≠ [42]) := by
    cases st with
    | false => exact .inl rfl
    | true => exact .inr ⟨rfl, fun h1 => hcase ⟨rfl, h1, h5⟩⟩
  rw [hE, Pt.step_five h5]
  have hL := hv.facts.2.2.2.1
  have hL' : (v.ls.length : Int) ≤ 140737488355328 := by omega
  have hsz : (⟨p.toArray⟩ : ByteArray).size ≤ maxLen := by
    show p.toArray.size ≤ _; rw [List.size_toArray]; unfold maxLen; exact HQ0.out
  have hr : Pt.num p v.ls.length = none := by
    unfold Pt.num; rw [hna]; simp only
    rw [if_neg]
    intro h
    have h1 : t1 = false := by rw [← hk1]; exact decide_eq_false (by omega)
    have h2 := of_decide_eq_true (hk2 h1)
    omega
  rw [hr]
  have HNA : Hid (Nm.allNum (⟨p.toArray⟩ : ByteArray).data.toList = some n) := hna
  clear hv hp hcl hps hF hn hq h5 hna hr hL
  have HK2 := Lib.hid hk2
  clear hk2
  have HCS := Lib.hid hcs
  clear hcs hcase hE
  rcases HCS.out with rfl | ⟨rfl, hp4⟩
  · go_enter Tryz.func59, Tryz.ntmps59
    go_upto_region 4 with fail
    generalize (((w.alloc (.cells #[.int .i64 v.kd, .int .i64 v.nm, .string ⟨v.tx.toArray⟩, .slice B v.ls.length d, .slice B' v.ms.length d'] 29)).alloc (.cells #[.int .i64 0, .int .i64 0, .string ⟨#[]⟩, .slice none 0 0, .slice none 0 0] 29)).alloc (.cells #[.int .i64 0, .int .i64 0, .string ⟨#[]⟩, .slice none 0 0, .slice none 0 0] 29)) = W0 at hF3 hB3 hZ3 hN3 ⊢
    have HF3 := Lib.hid hF3
    have HB3 := Lib.hid hB3
    have HZ3 := Lib.hid hZ3
    have HN3 := Lib.hid hN3
    obtain ⟨⟨a0, a1, a2, a3, a4⟩, _⟩ := box5 hB3
    obtain ⟨⟨z0, z1, z2, z3, z4⟩, zf0, zf1, zf2, zf3, zf4⟩ := box5 hZ3
    obtain ⟨⟨n0, n1, n2, n3, n4⟩, _⟩ := box5 hN3
    have hz1 : w.heap.size + 1 < W0.heap.size := hZ3.lt
    have hzn : ¬ w.heap.size + 1 = w.heap.size := by omega
    have hzn2 : ¬ w.heap.size + 1 + 1 = w.heap.size := by omega
    have hzn3 : ¬ w.heap.size + 1 + 1 = w.heap.size + 1 := by omega
    have hc0' : W0.cell? ⟨b, o, none⟩ = some (.string ⟨p.toArray⟩) := (hF3.cell hb).trans hc0
    clear hF3 hB3 hZ3 hN3
    clear hb hc0
    cases t1 with
    | false =>
      have k2 := HK2.out rfl
      go_wp2_with (go_at_call 81; refine (rall_some ⟨p.toArray⟩ _ _ hsz HNA.out).mono ?_; rintro e w1 ⟨rfl, rfl⟩)
      refine bodyPost_ret (results_cs (by rfl) rfl _ (w.heap.size + 1) (by rfl) (by rfl) _ _ _ _ _ (set5 HZ3.out)) rfl ?_
      exact ⟨rfl, HF3.out.put5 (Nat.le_succ _) _ _ _ _ _⟩
    | true =>
      go_wp2_with (go_at_call 81; refine (rall_some ⟨p.toArray⟩ _ _ hsz HNA.out).mono ?_; rintro e w1 ⟨rfl, rfl⟩)
      refine bodyPost_ret (results_cs (by rfl) rfl _ (w.heap.size + 1) (by rfl) (by rfl) _ _ _ _ _ (set5 HZ3.out)) rfl ?_
      exact ⟨rfl, HF3.out.put5 (Nat.le_succ _) _ _ _ _ _⟩
  · have qs1 : ((⟨p.toArray⟩ : ByteArray).toList == (⟨#[42]⟩ : ByteArray).toList) = false := (bl_beq' p [42]).trans (decide_eq_false hp4)
    have qs2 : (p == [42]) = false := by rw [beq_eq_false_iff_ne]; exact hp4
    clear hp4
    go_enter Tryz.func59, Tryz.ntmps59
    go_upto_region 4 with fail
    generalize (((w.alloc (.cells #[.int .i64 v.kd, .int .i64 v.nm, .string ⟨v.tx.toArray⟩, .slice B v.ls.length d, .slice B' v.ms.length d'] 29)).alloc (.cells #[.int .i64 0, .int .i64 0, .string ⟨#[]⟩, .slice none 0 0, .slice none 0 0] 29)).alloc (.cells #[.int .i64 0, .int .i64 0, .string ⟨#[]⟩, .slice none 0 0, .slice none 0 0] 29)) = W0 at hF3 hB3 hZ3 hN3 ⊢
    have HF3 := Lib.hid hF3
    have HB3 := Lib.hid hB3
    have HZ3 := Lib.hid hZ3
    have HN3 := Lib.hid hN3
    obtain ⟨⟨a0, a1, a2, a3, a4⟩, _⟩ := box5 hB3
    obtain ⟨⟨z0, z1, z2, z3, z4⟩, zf0, zf1, zf2, zf3, zf4⟩ := box5 hZ3
    obtain ⟨⟨n0, n1, n2, n3, n4⟩, _⟩ := box5 hN3
    have hz1 : w.heap.size + 1 < W0.heap.size := hZ3.lt
    have hzn : ¬ w.heap.size + 1 = w.heap.size := by omega
    have hzn2 : ¬ w.heap.size + 1 + 1 = w.heap.size := by omega
    have hzn3 : ¬ w.heap.size + 1 + 1 = w.heap.size + 1 := by omega
    have hc0' : W0.cell? ⟨b, o, none⟩ = some (.string ⟨p.toArray⟩) := (hF3.cell hb).trans hc0
    clear hF3 hB3 hZ3 hN3
    clear hb hc0
    cases t1 with
    | false =>
      have k2 := HK2.out rfl
      go_wp2_with (go_at_call 81; refine (rall_some ⟨p.toArray⟩ _ _ hsz HNA.out).mono ?_; rintro e w1 ⟨rfl, rfl⟩)
      refine bodyPost_ret (results_cs (by rfl) rfl _ (w.heap.size + 1) (by rfl) (by rfl) _ _ _ _ _ (set5 HZ3.out)) rfl ?_
      exact ⟨rfl, HF3.out.put5 (Nat.le_succ _) _ _ _ _ _⟩
    | true =>
      go_wp2_with (go_at_call 81; refine (rall_some ⟨p.toArray⟩ _ _ hsz HNA.out).mono ?_; rintro e w1 ⟨rfl, rfl⟩)
      refine bodyPost_ret (results_cs (by rfl) rfl _ (w.heap.size + 1) (by rfl) (by rfl) _ _ _ _ _ (set5 HZ3.out)) rfl ?_
      exact ⟨rfl, HF3.out.put5 (Nat.le_succ _) _ _ _ _ _⟩


set_option maxHeartbeats 4000000 in
set_option maxRecDepth 100000 in
theorem lead_numi_is (st : Bool) (p : List UInt8) (ps : List (List UInt8)) (hF : LeadAt st ps) (v : JV) (B : Option Addr) (d : Nat) (B' : Option Addr) (d' : Nat) (A : Option Addr) (c : Nat) (w : World) (Z : Nat) (hZ : Z ≤ w.heap.size) (hv : InV w (Lo Z) v (vA v B d B' d')) (hn : Rd.nv v ≤ 1048576) (hp : PsC w A (p :: ps)) (hc : (p :: ps).length ≤ c) (hc2 : c ≤ 9223372036854775807) (hq : ∀ q ∈ p :: ps, q.length ≤ 9223372036854775807) (h5 : v.kd = 5) (hcase : ¬ (st = true ∧ p = [42] ∧ v.kd = 5)) (i : Nat) (hna : Nm.allNum p = some (i : Nat)) (hi : i < v.ls.length) :
    Calls Tryz.prog 59 #[.agg #[.int .i64 v.kd, .int .i64 v.nm, .string ⟨v.tx.toArray⟩, .slice B v.ls.length d, .slice B' v.ms.length d'], .slice A (p :: ps).length c, .bool st] w (FdP Z w (Pt.find st (p :: ps) v)) := by
  have HV := Lib.hid hv
  have HN := Lib.hid hn
  have HF := Lib.hid hF
  have HQ : Hid (∀ q ∈ ps, q.length ≤ 9223372036854775807) := fun q hq' => hq q (by simp [hq'])
  have HQ0 : Hid (p.length ≤ 9223372036854775807) := hq p (by simp)
  obtain ⟨b, o, rfl, hb, hcl⟩ := hp (by simp)
  have hc0 : w.cell? ⟨b, o, none⟩ = some (.string ⟨p.toArray⟩) := hcl 0 (by simp)
  obtain ⟨A', hcut, hps, hpc⟩ := psc_cut hp hc hc2
  have HPS := Lib.hid hps
  have hpc2 : c - 1 ≤ 9223372036854775807 := by omega
  have HB := Lib.hid hb
  have HC0 := Lib.hid hc0
  simp only [List.length_cons] at hc ⊢
  have hlp : ((ps.length : Int) + 1 == 0) = false := by rw [beq_eq_false_iff_ne]; omega
  have hpl : (ps.length : Int) + 1 ≤ 9223372036854775807 := by omega
  have hF3 : Fr w (((w.alloc (.cells #[.int .i64 v.kd, .int .i64 v.nm, .string ⟨v.tx.toArray⟩, .slice B v.ls.length d, .slice B' v.ms.length d'] 29)).alloc (.cells #[.int .i64 0, .int .i64 0, .string ⟨#[]⟩, .slice none 0 0, .slice none 0 0] 29)).alloc (.cells #[.int .i64 0, .int .i64 0, .string ⟨#[]⟩, .slice none 0 0, .slice none 0 0] 29)) := (((Fr.refl w).alloc _).alloc _).alloc _
  have hB3 : Blk (((w.alloc (.cells #[.int .i64 v.kd, .int .i64 v.nm, .string ⟨v.tx.toArray⟩, .slice B v.ls.length d, .slice B' v.ms.length d'] 29)).alloc (.cells #[.int .i64 0, .int .i64 0, .string ⟨#[]⟩, .slice none 0 0, .slice none 0 0] 29)).alloc (.cells #[.int .i64 0, .int .i64 0, .string ⟨#[]⟩, .slice none 0 0, .slice none 0 0] 29)) w.heap.size #[.int .i64 v.kd, .int .i64 v.nm, .string ⟨v.tx.toArray⟩, .slice B v.ls.length d, .slice B' v.ms.length d'] 29 := ((Blk.made w _ _).keep ((Fr.refl _).alloc _)).keep ((Fr.refl _).alloc _)
  have hZ3 : Blk (((w.alloc (.cells #[.int .i64 v.kd, .int .i64 v.nm, .string ⟨v.tx.toArray⟩, .slice B v.ls.length d, .slice B' v.ms.length d'] 29)).alloc (.cells #[.int .i64 0, .int .i64 0, .string ⟨#[]⟩, .slice none 0 0, .slice none 0 0] 29)).alloc (.cells #[.int .i64 0, .int .i64 0, .string ⟨#[]⟩, .slice none 0 0, .slice none 0 0] 29)) (w.heap.size + 1) #[.int .i64 0, .int .i64 0, .string ⟨#[]⟩, .slice none 0 0, .slice none 0 0] 29 := (boxz (Blk.made (w.alloc _) _ _)).keep ((Fr.refl _).alloc _)
  have hN3 : Blk (((w.alloc (.cells #[.int .i64 v.kd, .int .i64 v.nm, .string ⟨v.tx.toArray⟩, .slice B v.ls.length d, .slice B' v.ms.length d'] 29)).alloc (.cells #[.int .i64 0, .int .i64 0, .string ⟨#[]⟩, .slice none 0 0, .slice none 0 0] 29)).alloc (.cells #[.int .i64 0, .int .i64 0, .string ⟨#[]⟩, .slice none 0 0, .slice none 0 0] 29)) (w.heap.size + 1 + 1) #[.int .i64 0, .int .i64 0, .string ⟨#[]⟩, .slice none 0 0, .slice none 0 0] 29 := boxy (Blk.made ((w.alloc _).alloc _) _ _)
  obtain ⟨q6, _⟩ := ikind (show v.kd ≠ 6 by omega)
  have q5 : (v.kd != 5) = false := by rw [bne_eq_false_iff_eq]; exact h5
  have hE : Pt.find st (p :: ps) v = (Pt.step v p).bind (Pt.find st ps) := by rw [Pt.find_cons, if_neg hcase]
  have hcs : st = false ∨ (st = true ∧ p ≠ [42]) := by
    cases st with
    | false => exact .inl rfl
    | true => exact .inr ⟨rfl, fun h1 => hcase ⟨rfl, h1, h5⟩⟩
  rw [hE, Pt.step_five h5]
  have hL := hv.facts.2.2.2.1
  have hL' : (v.ls.length : Int) ≤ 140737488355328 := by omega
  have hsz : (⟨p.toArray⟩ : ByteArray).size ≤ maxLen := by
    show p.toArray.size ≤ _; rw [List.size_toArray]; unfold maxLen; exact HQ0.out
  have hr : Pt.num p v.ls.length = some i := by
    unfold Pt.num; rw [hna]
    show (if (0 : Int) ≤ ((i : Nat) : Int) ∧ ((i : Nat) : Int) < (v.ls.length : Nat) then some ((i : Nat) : Int).toNat else none) = some i
    rw [if_pos (by omega)]; simp
  rw [hr]
  simp only
  rw [List.getElem?_eq_getElem hi]
  have hi' : (i : Int) < (v.ls.length : Int) := by omega
  have k1 : decide ((i : Int) < 0) = false := decide_eq_false (by omega)
  have k2 : decide ((v.ls.length : Int) ≤ (i : Int)) = false := decide_eq_false (by omega)
  have k3 : decide (v.ls.length ≤ i) = false := decide_eq_false (by omega)
  have HNA : Hid (Nm.allNum (⟨p.toArray⟩ : ByteArray).data.toList = some ((i : Nat) : Int)) := hna
  obtain ⟨A1, k5, A1', k6, he, hls, _⟩ := hv.open_
  have hA : B = A1 := by obtain ⟨_, _, _, e3, _⟩ := five he; injection e3
  subst hA
  obtain ⟨b5, o5, C, f, C', f', rfl, hbb, ⟨c1, c2, c3, c4, c5⟩, hvx⟩ := hls i hi
  have hxn := Pt.nvL_mem (List.getElem_mem hi)
  have hvn := Pt.nv_eq v
  obtain ⟨x, hx⟩ : ∃ x, v.ls[i] = x := ⟨_, rfl⟩
  rw [hx] at c1 c2 c3 c4 c5 hvx hxn ⊢
  have hx63 : Rd.nv x ≤ 1048576 := by omega
  have HVX := Lib.hid hvx
  have HBB : Hid (b5 < w.heap.size) := Nat.lt_of_lt_of_le hbb hZ
  have HC5 : Hid (w.cell? ⟨b5, o5 + i * 5, none⟩ = some (.int .i64 x.kd) ∧ w.cell? ⟨b5, o5 + i * 5 + 1, none⟩ = some (.int .i64 x.nm) ∧ w.cell? ⟨b5, o5 + i * 5 + 2, none⟩ = some (.string ⟨x.tx.toArray⟩) ∧ w.cell? ⟨b5, o5 + i * 5 + 3, none⟩ = some (.slice C x.ls.length f) ∧ w.cell? ⟨b5, o5 + i * 5 + 4, none⟩ = some (.slice C' x.ms.length f')) := ⟨c1, c2, c3, c4, c5⟩
  show Calls _ _ _ _ (FdP Z w (Pt.find st ps x))
  clear hv hp hcl hps hF hn hq h5 hna hr hL hvx hx c1 c2 c3 c4 c5 hbb he hls hxn hvn hi
  have HCS := Lib.hid hcs
  clear hcs hcase hE
  rcases HCS.out with rfl | ⟨rfl, hp4⟩
  · go_enter Tryz.func59, Tryz.ntmps59
    go_upto_region 4 with fail
    generalize (((w.alloc (.cells #[.int .i64 v.kd, .int .i64 v.nm, .string ⟨v.tx.toArray⟩, .slice (some ⟨b5, o5, none⟩) v.ls.length d, .slice B' v.ms.length d'] 29)).alloc (.cells #[.int .i64 0, .int .i64 0, .string ⟨#[]⟩, .slice none 0 0, .slice none 0 0] 29)).alloc (.cells #[.int .i64 0, .int .i64 0, .string ⟨#[]⟩, .slice none 0 0, .slice none 0 0] 29)) = W0 at hF3 hB3 hZ3 hN3 ⊢
    have HF3 := Lib.hid hF3
    have HB3 := Lib.hid hB3
    have HZ3 := Lib.hid hZ3
    have HN3 := Lib.hid hN3
    obtain ⟨⟨a0, a1, a2, a3, a4⟩, _⟩ := box5 hB3
    obtain ⟨⟨z0, z1, z2, z3, z4⟩, zf0, zf1, zf2, zf3, zf4⟩ := box5 hZ3
    obtain ⟨⟨n0, n1, n2, n3, n4⟩, _⟩ := box5 hN3
    have hz1 : w.heap.size + 1 < W0.heap.size := hZ3.lt
    have hzn : ¬ w.heap.size + 1 = w.heap.size := by omega
    have hzn2 : ¬ w.heap.size + 1 + 1 = w.heap.size := by omega
    have hzn3 : ¬ w.heap.size + 1 + 1 = w.heap.size + 1 := by omega
    have hc0' : W0.cell? ⟨b, o, none⟩ = some (.string ⟨p.toArray⟩) := (hF3.cell hb).trans hc0
    clear hF3 hB3 hZ3 hN3
    have HSE : Hid (∀ W, Fr W0 W → W.cell? ⟨w.heap.size, 3, none⟩ = some (.slice (some ⟨b5, o5, none⟩) v.ls.length d) ∧ W.cell? ⟨b5, o5 + i * 5, none⟩ = some (.int .i64 x.kd) ∧ W.cell? ⟨b5, o5 + i * 5 + 1, none⟩ = some (.int .i64 x.nm) ∧ W.cell? ⟨b5, o5 + i * 5 + 2, none⟩ = some (.string ⟨x.tx.toArray⟩) ∧ W.cell? ⟨b5, o5 + i * 5 + 3, none⟩ = some (.slice C x.ls.length f) ∧ W.cell? ⟨b5, o5 + i * 5 + 4, none⟩ = some (.slice C' x.ms.length f')) := Lib.hid (fun W hW => by
      have h := HB3.out.keep hW
      obtain ⟨c1, c2, c3, c4, c5⟩ := HC5.out
      have hk := fun j => (HF3.out.trans hW).cell (o := j) HBB.out
      exact ⟨h.cell 3, (hk _).trans c1, (hk _).trans c2, (hk _).trans c3, (hk _).trans c4, (hk _).trans c5⟩)
    have HSE5 : Hid (∀ W, Fr W0 W → ∀ u0 u1 u2 u3 u4, (((((W.setCell ⟨w.heap.size + 1, 0, none⟩ u0).setCell ⟨w.heap.size + 1, 1, none⟩ u1).setCell ⟨w.heap.size + 1, 2, none⟩ u2).setCell ⟨w.heap.size + 1, 3, none⟩ u3).setCell ⟨w.heap.size + 1, 4, none⟩ u4).cell? ⟨w.heap.size, 3, none⟩ = some (.slice (some ⟨b5, o5, none⟩) v.ls.length d) ∧ (((((W.setCell ⟨w.heap.size + 1, 0, none⟩ u0).setCell ⟨w.heap.size + 1, 1, none⟩ u1).setCell ⟨w.heap.size + 1, 2, none⟩ u2).setCell ⟨w.heap.size + 1, 3, none⟩ u3).setCell ⟨w.heap.size + 1, 4, none⟩ u4).cell? ⟨b5, o5 + i * 5, none⟩ = some (.int .i64 x.kd) ∧ (((((W.setCell ⟨w.heap.size + 1, 0, none⟩ u0).setCell ⟨w.heap.size + 1, 1, none⟩ u1).setCell ⟨w.heap.size + 1, 2, none⟩ u2).setCell ⟨w.heap.size + 1, 3, none⟩ u3).setCell ⟨w.heap.size + 1, 4, none⟩ u4).cell? ⟨b5, o5 + i * 5 + 1, none⟩ = some (.int .i64 x.nm) ∧ (((((W.setCell ⟨w.heap.size + 1, 0, none⟩ u0).setCell ⟨w.heap.size + 1, 1, none⟩ u1).setCell ⟨w.heap.size + 1, 2, none⟩ u2).setCell ⟨w.heap.size + 1, 3, none⟩ u3).setCell ⟨w.heap.size + 1, 4, none⟩ u4).cell? ⟨b5, o5 + i * 5 + 2, none⟩ = some (.string ⟨x.tx.toArray⟩) ∧ (((((W.setCell ⟨w.heap.size + 1, 0, none⟩ u0).setCell ⟨w.heap.size + 1, 1, none⟩ u1).setCell ⟨w.heap.size + 1, 2, none⟩ u2).setCell ⟨w.heap.size + 1, 3, none⟩ u3).setCell ⟨w.heap.size + 1, 4, none⟩ u4).cell? ⟨b5, o5 + i * 5 + 3, none⟩ = some (.slice C x.ls.length f) ∧ (((((W.setCell ⟨w.heap.size + 1, 0, none⟩ u0).setCell ⟨w.heap.size + 1, 1, none⟩ u1).setCell ⟨w.heap.size + 1, 2, none⟩ u2).setCell ⟨w.heap.size + 1, 3, none⟩ u3).setCell ⟨w.heap.size + 1, 4, none⟩ u4).cell? ⟨b5, o5 + i * 5 + 4, none⟩ = some (.slice C' x.ms.length f')) := Lib.hid (fun W hW u0 u1 u2 u3 u4 => by
      have h := HB3.out.keep hW
      have n : ∀ j, (Addr.mk (w.heap.size + 1) j none).block ≠ w.heap.size := fun j => by show w.heap.size + 1 ≠ w.heap.size; omega
      have h5 := ((((h.other (n 0) u0).other (n 1) u1).other (n 2) u2).other (n 3) u3).other (n 4) u4
      obtain ⟨c1, c2, c3, c4, c5⟩ := HC5.out
      have hk := fun j => ((HF3.out.trans hW).put5 (X := w.heap.size + 1) (Nat.le_succ _) u0 u1 u2 u3 u4).cell (o := j) HBB.out
      exact ⟨h5.cell 3, (hk _).trans c1, (hk _).trans c2, (hk _).trans c3, (hk _).trans c4, (hk _).trans c5⟩)
    obtain ⟨_, e1, e2, e3, e4, e5⟩ := HSE.out W0 (Fr.refl _)
    have HC2 : Hid (∀ W, Fr W0 W → Calls Tryz.prog 59 #[.agg #[.int .i64 x.kd, .int .i64 x.nm, .string ⟨x.tx.toArray⟩, .slice C x.ls.length f, .slice C' x.ms.length f'], .slice A' ps.length (c - 1), .bool false] W (FdP Z W (Pt.find false ps x))) := Lib.hid (fun W hW => HF.out x C f C' f' A' (c - 1) W Z (Nat.le_trans hZ (HF3.out.trans hW).size) (HVX.out.keep hZ (HF3.out.trans hW)) hx63 (HPS.out W (HF3.out.trans hW)) hpc hpc2 HQ.out)
    clear hb hc0
    go_wp2_with (go_at_call 81; refine (rall_some ⟨p.toArray⟩ _ _ hsz HNA.out).mono ?_; rintro e w1 ⟨rfl, rfl⟩)
    go_region_held3 (fun W => W.cell? ⟨w.heap.size, 3, none⟩ = some (.slice (some ⟨b5, o5, none⟩) v.ls.length d) ∧ W.cell? ⟨b5, o5 + i * 5, none⟩ = some (.int .i64 x.kd) ∧ W.cell? ⟨b5, o5 + i * 5 + 1, none⟩ = some (.int .i64 x.nm) ∧ W.cell? ⟨b5, o5 + i * 5 + 2, none⟩ = some (.string ⟨x.tx.toArray⟩) ∧ W.cell? ⟨b5, o5 + i * 5 + 3, none⟩ = some (.slice C x.ls.length f) ∧ W.cell? ⟨b5, o5 + i * 5 + 4, none⟩ = some (.slice C' x.ms.length f'))
      (first | with_reducible exact HSE5.out _ HF2.out _ _ _ _ _ | with_reducible exact HSE.out _ HF2.out | with_reducible exact HSE.out _ (Fr.refl _).drew | with_reducible exact HSE.out _ (Fr.refl _))
      (first
        | (go_at_call 59; refine (HC2.out _ (by first | with_reducible exact (Fr.refl _).drew | with_reducible exact Fr.refl _)).mono ?_; intro x2 w2 h2; obtain ⟨k3, n3, s3, A3, a3, b3, A3', a3', b3', t3, rfl⟩ := h2.form; have hf2 : Fr W0 w2 := (by first | exact h2.fr | exact (Fr.refl _).drew.trans h2.fr); have hb := HZ3.out.keep hf2; obtain ⟨⟨x0, x1, x2, x3, x4⟩, g0, g1, g2, g3, g4⟩ := box5 hb; have HB2 := Lib.hid hb; have HF2 := Lib.hid hf2; have H2 := Lib.hid h2; clear h2 hb hf2))
    go_wp2_with fail
    refine bodyPost_ret (results_cs (by rfl) rfl _ (w.heap.size + 1) (by rfl) (by rfl) _ _ _ _ _ (set5 HB2.out)) rfl ?_
    exact H2.out.lift (by first | exact HF3.out.drew | exact HF3.out) hZ (Nat.le_succ _) (by first | exact hz1 | (simp [World.drew]; omega)) _ _ _ _ _
  · have qs1 : ((⟨p.toArray⟩ : ByteArray).toList == (⟨#[42]⟩ : ByteArray).toList) = false := (bl_beq' p [42]).trans (decide_eq_false hp4)
    have qs2 : (p == [42]) = false := by rw [beq_eq_false_iff_ne]; exact hp4
    clear hp4
    go_enter Tryz.func59, Tryz.ntmps59
    go_upto_region 4 with fail
    generalize (((w.alloc (.cells #[.int .i64 v.kd, .int .i64 v.nm, .string ⟨v.tx.toArray⟩, .slice (some ⟨b5, o5, none⟩) v.ls.length d, .slice B' v.ms.length d'] 29)).alloc (.cells #[.int .i64 0, .int .i64 0, .string ⟨#[]⟩, .slice none 0 0, .slice none 0 0] 29)).alloc (.cells #[.int .i64 0, .int .i64 0, .string ⟨#[]⟩, .slice none 0 0, .slice none 0 0] 29)) = W0 at hF3 hB3 hZ3 hN3 ⊢
    have HF3 := Lib.hid hF3
    have HB3 := Lib.hid hB3
    have HZ3 := Lib.hid hZ3
    have HN3 := Lib.hid hN3
    obtain ⟨⟨a0, a1, a2, a3, a4⟩, _⟩ := box5 hB3
    obtain ⟨⟨z0, z1, z2, z3, z4⟩, zf0, zf1, zf2, zf3, zf4⟩ := box5 hZ3
    obtain ⟨⟨n0, n1, n2, n3, n4⟩, _⟩ := box5 hN3
    have hz1 : w.heap.size + 1 < W0.heap.size := hZ3.lt
    have hzn : ¬ w.heap.size + 1 = w.heap.size := by omega
    have hzn2 : ¬ w.heap.size + 1 + 1 = w.heap.size := by omega
    have hzn3 : ¬ w.heap.size + 1 + 1 = w.heap.size + 1 := by omega
    have hc0' : W0.cell? ⟨b, o, none⟩ = some (.string ⟨p.toArray⟩) := (hF3.cell hb).trans hc0
    clear hF3 hB3 hZ3 hN3
    have HSE : Hid (∀ W, Fr W0 W → W.cell? ⟨w.heap.size, 3, none⟩ = some (.slice (some ⟨b5, o5, none⟩) v.ls.length d) ∧ W.cell? ⟨b5, o5 + i * 5, none⟩ = some (.int .i64 x.kd) ∧ W.cell? ⟨b5, o5 + i * 5 + 1, none⟩ = some (.int .i64 x.nm) ∧ W.cell? ⟨b5, o5 + i * 5 + 2, none⟩ = some (.string ⟨x.tx.toArray⟩) ∧ W.cell? ⟨b5, o5 + i * 5 + 3, none⟩ = some (.slice C x.ls.length f) ∧ W.cell? ⟨b5, o5 + i * 5 + 4, none⟩ = some (.slice C' x.ms.length f')) := Lib.hid (fun W hW => by
      have h := HB3.out.keep hW
      obtain ⟨c1, c2, c3, c4, c5⟩ := HC5.out
      have hk := fun j => (HF3.out.trans hW).cell (o := j) HBB.out
      exact ⟨h.cell 3, (hk _).trans c1, (hk _).trans c2, (hk _).trans c3, (hk _).trans c4, (hk _).trans c5⟩)
    have HSE5 : Hid (∀ W, Fr W0 W → ∀ u0 u1 u2 u3 u4, (((((W.setCell ⟨w.heap.size + 1, 0, none⟩ u0).setCell ⟨w.heap.size + 1, 1, none⟩ u1).setCell ⟨w.heap.size + 1, 2, none⟩ u2).setCell ⟨w.heap.size + 1, 3, none⟩ u3).setCell ⟨w.heap.size + 1, 4, none⟩ u4).cell? ⟨w.heap.size, 3, none⟩ = some (.slice (some ⟨b5, o5, none⟩) v.ls.length d) ∧ (((((W.setCell ⟨w.heap.size + 1, 0, none⟩ u0).setCell ⟨w.heap.size + 1, 1, none⟩ u1).setCell ⟨w.heap.size + 1, 2, none⟩ u2).setCell ⟨w.heap.size + 1, 3, none⟩ u3).setCell ⟨w.heap.size + 1, 4, none⟩ u4).cell? ⟨b5, o5 + i * 5, none⟩ = some (.int .i64 x.kd) ∧ (((((W.setCell ⟨w.heap.size + 1, 0, none⟩ u0).setCell ⟨w.heap.size + 1, 1, none⟩ u1).setCell ⟨w.heap.size + 1, 2, none⟩ u2).setCell ⟨w.heap.size + 1, 3, none⟩ u3).setCell ⟨w.heap.size + 1, 4, none⟩ u4).cell? ⟨b5, o5 + i * 5 + 1, none⟩ = some (.int .i64 x.nm) ∧ (((((W.setCell ⟨w.heap.size + 1, 0, none⟩ u0).setCell ⟨w.heap.size + 1, 1, none⟩ u1).setCell ⟨w.heap.size + 1, 2, none⟩ u2).setCell ⟨w.heap.size + 1, 3, none⟩ u3).setCell ⟨w.heap.size + 1, 4, none⟩ u4).cell? ⟨b5, o5 + i * 5 + 2, none⟩ = some (.string ⟨x.tx.toArray⟩) ∧ (((((W.setCell ⟨w.heap.size + 1, 0, none⟩ u0).setCell ⟨w.heap.size + 1, 1, none⟩ u1).setCell ⟨w.heap.size + 1, 2, none⟩ u2).setCell ⟨w.heap.size + 1, 3, none⟩ u3).setCell ⟨w.heap.size + 1, 4, none⟩ u4).cell? ⟨b5, o5 + i * 5 + 3, none⟩ = some (.slice C x.ls.length f) ∧ (((((W.setCell ⟨w.heap.size + 1, 0, none⟩ u0).setCell ⟨w.heap.size + 1, 1, none⟩ u1).setCell ⟨w.heap.size + 1, 2, none⟩ u2).setCell ⟨w.heap.size + 1, 3, none⟩ u3).setCell ⟨w.heap.size + 1, 4, none⟩ u4).cell? ⟨b5, o5 + i * 5 + 4, none⟩ = some (.slice C' x.ms.length f')) := Lib.hid (fun W hW u0 u1 u2 u3 u4 => by
      have h := HB3.out.keep hW
      have n : ∀ j, (Addr.mk (w.heap.size + 1) j none).block ≠ w.heap.size := fun j => by show w.heap.size + 1 ≠ w.heap.size; omega
      have h5 := ((((h.other (n 0) u0).other (n 1) u1).other (n 2) u2).other (n 3) u3).other (n 4) u4
      obtain ⟨c1, c2, c3, c4, c5⟩ := HC5.out
      have hk := fun j => ((HF3.out.trans hW).put5 (X := w.heap.size + 1) (Nat.le_succ _) u0 u1 u2 u3 u4).cell (o := j) HBB.out
      exact ⟨h5.cell 3, (hk _).trans c1, (hk _).trans c2, (hk _).trans c3, (hk _).trans c4, (hk _).trans c5⟩)
    obtain ⟨_, e1, e2, e3, e4, e5⟩ := HSE.out W0 (Fr.refl _)
    have HC2 : Hid (∀ W, Fr W0 W → Calls Tryz.prog 59 #[.agg #[.int .i64 x.kd, .int .i64 x.nm, .string ⟨x.tx.toArray⟩, .slice C x.ls.length f, .slice C' x.ms.length f'], .slice A' ps.length (c - 1), .bool true] W (FdP Z W (Pt.find true ps x))) := Lib.hid (fun W hW => HF.out x C f C' f' A' (c - 1) W Z (Nat.le_trans hZ (HF3.out.trans hW).size) (HVX.out.keep hZ (HF3.out.trans hW)) hx63 (HPS.out W (HF3.out.trans hW)) hpc hpc2 HQ.out)
    clear hb hc0
    go_wp2_with (go_at_call 81; refine (rall_some ⟨p.toArray⟩ _ _ hsz HNA.out).mono ?_; rintro e w1 ⟨rfl, rfl⟩)
    go_region_held3 (fun W => W.cell? ⟨w.heap.size, 3, none⟩ = some (.slice (some ⟨b5, o5, none⟩) v.ls.length d) ∧ W.cell? ⟨b5, o5 + i * 5, none⟩ = some (.int .i64 x.kd) ∧ W.cell? ⟨b5, o5 + i * 5 + 1, none⟩ = some (.int .i64 x.nm) ∧ W.cell? ⟨b5, o5 + i * 5 + 2, none⟩ = some (.string ⟨x.tx.toArray⟩) ∧ W.cell? ⟨b5, o5 + i * 5 + 3, none⟩ = some (.slice C x.ls.length f) ∧ W.cell? ⟨b5, o5 + i * 5 + 4, none⟩ = some (.slice C' x.ms.length f'))
      (first | with_reducible exact HSE5.out _ HF2.out _ _ _ _ _ | with_reducible exact HSE.out _ HF2.out | with_reducible exact HSE.out _ (Fr.refl _).drew | with_reducible exact HSE.out _ (Fr.refl _))
      (first
        | (go_at_call 59; refine (HC2.out _ (by first | with_reducible exact (Fr.refl _).drew | with_reducible exact Fr.refl _)).mono ?_; intro x2 w2 h2; obtain ⟨k3, n3, s3, A3, a3, b3, A3', a3', b3', t3, rfl⟩ := h2.form; have hf2 : Fr W0 w2 := (by first | exact h2.fr | exact (Fr.refl _).drew.trans h2.fr); have hb := HZ3.out.keep hf2; obtain ⟨⟨x0, x1, x2, x3, x4⟩, g0, g1, g2, g3, g4⟩ := box5 hb; have HB2 := Lib.hid hb; have HF2 := Lib.hid hf2; have H2 := Lib.hid h2; clear h2 hb hf2))
    go_wp2_with fail
    refine bodyPost_ret (results_cs (by rfl) rfl _ (w.heap.size + 1) (by rfl) (by rfl) _ _ _ _ _ (set5 HB2.out)) rfl ?_
    exact H2.out.lift (by first | exact HF3.out.drew | exact HF3.out) hZ (Nat.le_succ _) (by first | exact hz1 | (simp [World.drew]; omega)) _ _ _ _ _
end Go.Proofs.YtfjcgbbphkfkgaaGreatDoor
