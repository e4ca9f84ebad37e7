/- The walks of point.lead, Find, Each. -/
import Derived.Test.YtfjcgbbphkfkgaaGreatDoorPtI
import Derived.Test.YtfjcgbbphkfkgaaGreatDoorRdd
import Derived.Test.YtfjcgbbphkfkgaaGreatDoorEe
namespace Go.Proofs.YtfjcgbbphkfkgaaGreatDoor
set_option linter.unusedVariables false
set_option linter.unusedSimpArgs false
open Go.RowKit

namespace Pt
theorem plain_len : ∀ (n : Nat) (l t : List UInt8), l.length ≤ n → plain l = some t → t.length ≤ l.length := by
  intro n
  induction n with
  | zero =>
    intro l t hl h
    have : l = [] := List.eq_nil_of_length_eq_zero (by omega)
    subst this
    obtain rfl := Option.some.inj h; simp
  | succ n ih =>
    intro l t hl h
    match l, hl with
    | [], _ => obtain rfl := Option.some.inj h; simp
    | c :: r, hl =>
      have hr : r.length ≤ n := by simp at hl; omega
      by_cases hc : c = 126
      · subst hc
        match r, hr with
        | [], _ => simp [plain] at h
        | d :: r, hr =>
          have hr2 : r.length ≤ n := by simp at hr; omega
          rw [plain_two, if_pos rfl] at h
          cases hp : plain r with
          | none => rw [hp] at h; split at h <;> (try split at h) <;> cases h
          | some q =>
            have := ih r q hr2 hp
            rw [hp] at h
            split at h
            · obtain rfl := Option.some.inj h; simp; omega
            · split at h
              · obtain rfl := Option.some.inj h; simp; omega
              · cases h
      · rw [plain_ne _ hc] at h
        cases hp : plain r with
        | none => rw [hp] at h; cases h
        | some q =>
          have := ih r q hr hp
          rw [hp] at h
          obtain rfl := Option.some.inj h; simp; omega
theorem allP_each : ∀ (qs ps : List (List UInt8)), allP qs = some ps → ps.length = qs.length ∧ ∀ p ∈ ps, ∃ q ∈ qs, p.length ≤ q.length
  | [], ps, h => by obtain rfl := Option.some.inj h; exact ⟨rfl, by simp⟩
  | q :: qs, ps, h => by
    rw [allP_def] at h
    cases hp : plain q with
    | none => rw [hp] at h; cases h
    | some t =>
      rw [hp] at h
      cases hq : allP qs with
      | none => rw [hq] at h; cases h
      | some r =>
        rw [hq] at h
        obtain rfl := Option.some.inj h
        obtain ⟨h1, h2⟩ := allP_each qs r hq
        refine ⟨by simp [h1], fun p hp2 => ?_⟩
        rcases List.mem_cons.1 hp2 with rfl | hp2
        · exact ⟨q, by simp, plain_len _ q p (Nat.le_refl _) hp⟩
        · obtain ⟨q', hq', hl⟩ := h2 p hp2
          exact ⟨q', by simp [hq'], hl⟩
theorem parts_len {s : List UInt8} {ps : List (List UInt8)} (h : parts s = some ps) : ps.length ≤ s.length + 1 ∧ ∀ p ∈ ps, p.length ≤ s.length := by
  cases s with
  | nil => obtain rfl := Option.some.inj h; simp
  | cons c r =>
    rw [show parts (c :: r) = if c = 47 then allP (cut r) else none from rfl] at h
    by_cases hc : c = 47
    · rw [if_pos hc] at h
      obtain ⟨h1, h2⟩ := allP_each _ _ h
      have := cut_len r
      refine ⟨by rw [h1]; simp; omega, fun p hp => ?_⟩
      obtain ⟨q, hq, hl⟩ := h2 p hp
      have := cut_each r q hq
      simp; omega
    · rw [if_neg hc] at h; cases h
end Pt
theorem Ssl.caps {w : World} {base : Nat} {A : Option Addr} {n c : Nat} {l : List (List UInt8)} (h : Ssl w base (.slice A n c) l) : l.length ≤ c ∧ c ≤ 9223372036854775807 := by
  rcases h.2 with ⟨hv, hn⟩ | ⟨g, cap, cur, hv, hb, hg, hc, hm, hs, ht⟩
  · injection hv with _ _ h3
    rw [svs_len] at hn
    omega
  · injection hv with _ _ h3
    rw [svs_len] at hc
    unfold maxLen at hm
    omega
/-- What leading by a pointer leaves: the answer, or why not. -/
def LdP (Z : Nat) (w : World) (ps : Option (List (List UInt8))) (st : Bool) (v : JV) : Ending → World → Prop := match ps with
  | none => fun e w' => e = .returned (.tuple #[.agg #[.int .i64 0, .int .i64 0, .string ⟨#[]⟩, .slice none 0 0, .slice none 0 0], .int .i64 80]) ∧ Fr w w'
  | some ps => FdP Z w (Pt.find st ps v)
theorem LdP.form {Z : Nat} {w w' : World} {ps : Option (List (List UInt8))} {st : Bool} {v : JV} {x : Ending} (h : LdP Z w ps st v x w') : ∃ (k n : Int) (s : ByteArray) (A : Option Addr) (a1 b : Nat) (A' : Option Addr) (a' b' : Nat) (c : Int), x = .returned (.tuple #[.agg #[.int .i64 k, .int .i64 n, .string s, .slice A a1 b, .slice A' a' b'], .int .i64 c]) := by
  cases ps with
  | none => obtain ⟨hx, _⟩ := h; exact ⟨_, _, _, _, _, _, _, _, _, _, hx⟩
  | some ps => exact FdP.form h
theorem LdP.fr {Z : Nat} {w w' : World} {ps : Option (List (List UInt8))} {st : Bool} {v : JV} {x : Ending} (h : LdP Z w ps st v x w') : Fr w w' := by
  cases ps with
  | none => exact h.2
  | some ps => exact FdP.fr h
theorem LdP.lift {Z : Nat} {w W0 w' : World} {ps : Option (List (List UInt8))} {st : Bool} {v : JV} {x : Ending} (h : LdP Z W0 ps st v x w') (hF : Fr w W0) (hZ : Z ≤ w.heap.size) {X : Nat} (hX : w.heap.size ≤ X) (hX2 : X < W0.heap.size) (u0 u1 u2 u3 u4 : Value) :
    LdP Z w ps st v x (((((w'.setCell ⟨X, 0, none⟩ u0).setCell ⟨X, 1, none⟩ u1).setCell ⟨X, 2, none⟩ u2).setCell ⟨X, 3, none⟩ u3).setCell ⟨X, 4, none⟩ u4) := by
  cases ps with
  | none => exact ⟨h.1, (hF.trans h.2).put5 hX _ _ _ _ _⟩
  | some ps => exact FdP.lift h hF hZ hX hX2 _ _ _ _ _

set_option maxHeartbeats 2000000 in
set_option maxRecDepth 100000 in
theorem lead_is (st : Bool) (v : JV) (B : Option Addr) (d : Nat) (B' : Option Addr) (d' : Nat) (s : ByteArray) (w : World) (Z : Nat) (hZ : Z ≤ w.heap.size) (h : InV w (Lo Z) v (vA v B d B' d')) (hn : Rd.nv v ≤ 1048576) (hs : s.size < 4294967281) (hM : MxL w) :
    Calls Tryz.prog 57 #[.agg #[.int .i64 v.kd, .int .i64 v.nm, .string ⟨v.tx.toArray⟩, .slice B v.ls.length d, .slice B' v.ms.length d'], .string s, .bool st] w (LdP Z w (Pt.parts s.data.toList) st v) := by
  have HW : Hid (Fr w ((w.alloc (.cells #[.int .i64 v.kd, .int .i64 v.nm, .string ⟨v.tx.toArray⟩, .slice B v.ls.length d, .slice B' v.ms.length d'] 29)).alloc (.cells #[.int .i64 0, .int .i64 0, .string ⟨#[]⟩, .slice none 0 0, .slice none 0 0] 29))) := ((Fr.refl w).alloc _).alloc _
  have HBV : Hid (Blk ((w.alloc (.cells #[.int .i64 v.kd, .int .i64 v.nm, .string ⟨v.tx.toArray⟩, .slice B v.ls.length d, .slice B' v.ms.length d'] 29)).alloc (.cells #[.int .i64 0, .int .i64 0, .string ⟨#[]⟩, .slice none 0 0, .slice none 0 0] 29)) w.heap.size #[.int .i64 v.kd, .int .i64 v.nm, .string ⟨v.tx.toArray⟩, .slice B v.ls.length d, .slice B' v.ms.length d'] 29) := (Blk.made w _ _).keep ((Fr.refl _).alloc _)
  have HBZ : Hid (Blk ((w.alloc (.cells #[.int .i64 v.kd, .int .i64 v.nm, .string ⟨v.tx.toArray⟩, .slice B v.ls.length d, .slice B' v.ms.length d'] 29)).alloc (.cells #[.int .i64 0, .int .i64 0, .string ⟨#[]⟩, .slice none 0 0, .slice none 0 0] 29)) (w.heap.size + 1) #[.int .i64 0, .int .i64 0, .string ⟨#[]⟩, .slice none 0 0, .slice none 0 0] 29) := boxz (Blk.made (w.alloc _) _ _)
  have HV := Lib.hid h
  have HM := Lib.hid hM
  have HS := Lib.hid hs
  have n0 : ¬ w.heap.size + 1 = w.heap.size := by omega
  rcases hp : Pt.parts s.data.toList with _ | ps
  · have HP := Lib.hid hp
    clear hp h hM hn
    go_enter Tryz.func57, Tryz.ntmps57
    go_wp2_with (go_at_call 79; refine (parts_is s _ HS.out (HM.out.keep HW.out)).mono ?_; rw [HP.out]; rintro e w1 ⟨rfl, hf⟩; have hb := HBZ.out.keep hf; obtain ⟨⟨x0, x1, x2, x3, x4⟩, g0, g1, g2, g3, g4⟩ := box5 hb; have HB1 := Lib.hid hb; have HF1 := Lib.hid hf; clear hf hb)
    refine bodyPost_ret (results_cs (by rfl) rfl _ (w.heap.size + 1) (by rfl) (by rfl) _ _ _ _ _ (set5 HB1.out)) rfl ?_
    exact ⟨rfl, (HW.out.trans HF1.out).put5 (Nat.le_succ _) _ _ _ _ _⟩
  · obtain ⟨hl1, hl2⟩ := Pt.parts_len hp
    have hsz : s.data.toList.length = s.size := by simp
    have HP := Lib.hid hp
    have HL : Hid (∀ q ∈ ps, q.length ≤ 9223372036854775807) := fun q hq => by have := hl2 q hq; omega
    have HC : Hid (∀ (W : World) (A : Option Addr) (c : Nat), Fr w W → PsC W A ps → ps.length ≤ c → c ≤ 9223372036854775807 → Calls Tryz.prog 80 #[.agg #[.int .i64 v.kd, .int .i64 v.nm, .string ⟨v.tx.toArray⟩, .slice B v.ls.length d, .slice B' v.ms.length d'], .slice A ps.length c, .bool st] W (FdP Z W (Pt.find st ps v))) := Lib.hid (fun W A c hW hA hc hc2 => find_is st ps v B d B' d' A c W Z (Nat.le_trans hZ hW.size) (HV.out.keep hZ hW) hn hA hc hc2 HL.out)
    obtain ⟨r, hr⟩ : ∃ r, Pt.find st ps v = r := ⟨_, rfl⟩
    have HR := Lib.hid hr
    rw [hr] at HC
    clear hp h hM hn hl1 hl2 hsz hr
    go_enter Tryz.func57, Tryz.ntmps57
    go_wp2_with (first
      | (go_at_call 80; refine (HC.out _ A c (HW.out.trans HF1.out) HPS.out hcap.1 hcap.2).mono ?_; intro x w2 h2; obtain ⟨k3, n3, s3, A3, a3, b3, A3', a3', b3', t3, rfl⟩ := h2.form; have hb := HBZ.out.keep (HF1.out.trans h2.fr); obtain ⟨⟨x0, x1, x2, x3, x4⟩, g0, g1, g2, g3, g4⟩ := box5 hb; have HB2 := Lib.hid hb; have H2 := Lib.hid h2; clear h2 hb)
      | (go_at_call 79; refine (parts_is s _ HS.out (HM.out.keep HW.out)).mono ?_; rw [HP.out]; rintro e w1 ⟨pv, rfl, hss, hf⟩; obtain ⟨A, c, rfl, hps⟩ := hss.shows; have hcap := Ssl.caps hss; have hb := HBV.out.keep hf; obtain ⟨⟨y0, y1, y2, y3, y4⟩, _⟩ := box5 hb; have HPS := Lib.hid hps; have HF1 := Lib.hid hf; clear hf hb hss hps))
    refine bodyPost_ret (results_cs (by rfl) rfl _ (w.heap.size + 1) (by rfl) (by rfl) _ _ _ _ _ (set5 HB2.out)) rfl ?_
    have := H2.out.lift (HW.out.trans HF1.out) hZ (X := w.heap.size + 1) (Nat.le_succ _) (Nat.lt_of_lt_of_le HBZ.out.lt HF1.out.size) (.int .i64 k3) (.int .i64 n3) (.string s3) (.slice A3 a3 b3) (.slice A3' a3' b3')
    rw [← HR.out] at this
    exact this
end Go.Proofs.YtfjcgbbphkfkgaaGreatDoor
/- The walks of point.Find and point.Each. -/
namespace Go.Proofs.YtfjcgbbphkfkgaaGreatDoor
set_option linter.unusedVariables false
set_option linter.unusedSimpArgs false
open Go.RowKit

set_option maxHeartbeats 2000000 in
set_option maxRecDepth 100000 in
theorem pfind_is (v : JV) (B : Option Addr) (d : Nat) (B' : Option Addr) (d' : Nat) (s : ByteArray) (w : World) (Z : Nat) (hZ : Z ≤ w.heap.size) (h : InV w (Lo Z) v (vA v B d B' d')) (hn : Rd.nv v ≤ 1048576) (hs : s.size < 4294967281) (hM : MxL w) :
    Calls Tryz.prog 28 #[.agg #[.int .i64 v.kd, .int .i64 v.nm, .string ⟨v.tx.toArray⟩, .slice B v.ls.length d, .slice B' v.ms.length d'], .string s] w (LdP Z w (Pt.parts s.data.toList) false v) := by
  have HW : Hid (Fr w ((w.alloc (.cells #[.int .i64 v.kd, .int .i64 v.nm, .string ⟨v.tx.toArray⟩, .slice B v.ls.length d, .slice B' v.ms.length d'] 29)).alloc (.cells #[.int .i64 0, .int .i64 0, .string ⟨#[]⟩, .slice none 0 0, .slice none 0 0] 29))) := ((Fr.refl w).alloc _).alloc _
  have HBV : Hid (Blk ((w.alloc (.cells #[.int .i64 v.kd, .int .i64 v.nm, .string ⟨v.tx.toArray⟩, .slice B v.ls.length d, .slice B' v.ms.length d'] 29)).alloc (.cells #[.int .i64 0, .int .i64 0, .string ⟨#[]⟩, .slice none 0 0, .slice none 0 0] 29)) w.heap.size #[.int .i64 v.kd, .int .i64 v.nm, .string ⟨v.tx.toArray⟩, .slice B v.ls.length d, .slice B' v.ms.length d'] 29) := (Blk.made w _ _).keep ((Fr.refl _).alloc _)
  have HBZ : Hid (Blk ((w.alloc (.cells #[.int .i64 v.kd, .int .i64 v.nm, .string ⟨v.tx.toArray⟩, .slice B v.ls.length d, .slice B' v.ms.length d'] 29)).alloc (.cells #[.int .i64 0, .int .i64 0, .string ⟨#[]⟩, .slice none 0 0, .slice none 0 0] 29)) (w.heap.size + 1) #[.int .i64 0, .int .i64 0, .string ⟨#[]⟩, .slice none 0 0, .slice none 0 0] 29) := boxz (Blk.made (w.alloc _) _ _)
  have n0 : ¬ w.heap.size + 1 = w.heap.size := by omega
  have HC : Hid (∀ (W : World), Fr w W → Calls Tryz.prog 57 #[.agg #[.int .i64 v.kd, .int .i64 v.nm, .string ⟨v.tx.toArray⟩, .slice B v.ls.length d, .slice B' v.ms.length d'], .string s, .bool false] W (LdP Z W (Pt.parts s.data.toList) false v)) := Lib.hid (fun W hW => lead_is false v B d B' d' s W Z (Nat.le_trans hZ hW.size) (h.keep hZ hW) hn hs (hM.keep hW))
  obtain ⟨r, hr⟩ : ∃ r, Pt.parts s.data.toList = r := ⟨_, rfl⟩
  have HR := Lib.hid hr
  rw [hr] at HC
  clear h hM hn hr hs
  obtain ⟨⟨y0, y1, y2, y3, y4⟩, f0, f1, f2, f3, f4⟩ := box5 HBV.out
  go_enter Tryz.func28, Tryz.ntmps28
  go_wp2_with (go_at_call 57; refine (HC.out _ HW.out).mono ?_; intro x w2 h2; obtain ⟨k3, n3, s3, A3, a3, b3, A3', a3', b3', t3, rfl⟩ := h2.form; have hb := HBZ.out.keep h2.fr; obtain ⟨⟨x0, x1, x2, x3, x4⟩, g0, g1, g2, g3, g4⟩ := box5 hb; have HB2 := Lib.hid hb; have H2 := Lib.hid h2; clear h2 hb)
  refine bodyPost_ret (results_cs (by rfl) rfl _ (w.heap.size + 1) (by rfl) (by rfl) _ _ _ _ _ (set5 HB2.out)) rfl ?_
  have := H2.out.lift HW.out hZ (X := w.heap.size + 1) (Nat.le_succ _) HBZ.out.lt (.int .i64 k3) (.int .i64 n3) (.string s3) (.slice A3 a3 b3) (.slice A3' a3' b3')
  rw [← HR.out] at this
  exact this
set_option maxHeartbeats 2000000 in
set_option maxRecDepth 100000 in
theorem peach_is (v : JV) (B : Option Addr) (d : Nat) (B' : Option Addr) (d' : Nat) (s : ByteArray) (w : World) (Z : Nat) (hZ : Z ≤ w.heap.size) (h : InV w (Lo Z) v (vA v B d B' d')) (hn : Rd.nv v ≤ 1048576) (hs : s.size < 4294967281) (hM : MxL w) :
    Calls Tryz.prog 30 #[.agg #[.int .i64 v.kd, .int .i64 v.nm, .string ⟨v.tx.toArray⟩, .slice B v.ls.length d, .slice B' v.ms.length d'], .string s] w (LdP Z w (Pt.parts s.data.toList) true v) := by
  have HW : Hid (Fr w ((w.alloc (.cells #[.int .i64 v.kd, .int .i64 v.nm, .string ⟨v.tx.toArray⟩, .slice B v.ls.length d, .slice B' v.ms.length d'] 29)).alloc (.cells #[.int .i64 0, .int .i64 0, .string ⟨#[]⟩, .slice none 0 0, .slice none 0 0] 29))) := ((Fr.refl w).alloc _).alloc _
  have HBV : Hid (Blk ((w.alloc (.cells #[.int .i64 v.kd, .int .i64 v.nm, .string ⟨v.tx.toArray⟩, .slice B v.ls.length d, .slice B' v.ms.length d'] 29)).alloc (.cells #[.int .i64 0, .int .i64 0, .string ⟨#[]⟩, .slice none 0 0, .slice none 0 0] 29)) w.heap.size #[.int .i64 v.kd, .int .i64 v.nm, .string ⟨v.tx.toArray⟩, .slice B v.ls.length d, .slice B' v.ms.length d'] 29) := (Blk.made w _ _).keep ((Fr.refl _).alloc _)
  have HBZ : Hid (Blk ((w.alloc (.cells #[.int .i64 v.kd, .int .i64 v.nm, .string ⟨v.tx.toArray⟩, .slice B v.ls.length d, .slice B' v.ms.length d'] 29)).alloc (.cells #[.int .i64 0, .int .i64 0, .string ⟨#[]⟩, .slice none 0 0, .slice none 0 0] 29)) (w.heap.size + 1) #[.int .i64 0, .int .i64 0, .string ⟨#[]⟩, .slice none 0 0, .slice none 0 0] 29) := boxz (Blk.made (w.alloc _) _ _)
  have n0 : ¬ w.heap.size + 1 = w.heap.size := by omega
  have HC : Hid (∀ (W : World), Fr w W → Calls Tryz.prog 57 #[.agg #[.int .i64 v.kd, .int .i64 v.nm, .string ⟨v.tx.toArray⟩, .slice B v.ls.length d, .slice B' v.ms.length d'], .string s, .bool true] W (LdP Z W (Pt.parts s.data.toList) true v)) := Lib.hid (fun W hW => lead_is true v B d B' d' s W Z (Nat.le_trans hZ hW.size) (h.keep hZ hW) hn hs (hM.keep hW))
  obtain ⟨r, hr⟩ : ∃ r, Pt.parts s.data.toList = r := ⟨_, rfl⟩
  have HR := Lib.hid hr
  rw [hr] at HC
  clear h hM hn hr hs
  obtain ⟨⟨y0, y1, y2, y3, y4⟩, f0, f1, f2, f3, f4⟩ := box5 HBV.out
  go_enter Tryz.func30, Tryz.ntmps30
  go_wp2_with (go_at_call 57; refine (HC.out _ HW.out).mono ?_; intro x w2 h2; obtain ⟨k3, n3, s3, A3, a3, b3, A3', a3', b3', t3, rfl⟩ := h2.form; have hb := HBZ.out.keep h2.fr; obtain ⟨⟨x0, x1, x2, x3, x4⟩, g0, g1, g2, g3, g4⟩ := box5 hb; have HB2 := Lib.hid hb; have H2 := Lib.hid h2; clear h2 hb)
  refine bodyPost_ret (results_cs (by rfl) rfl _ (w.heap.size + 1) (by rfl) (by rfl) _ _ _ _ _ (set5 HB2.out)) rfl ?_
  have := H2.out.lift HW.out hZ (X := w.heap.size + 1) (Nat.le_succ _) HBZ.out.lt (.int .i64 k3) (.int .i64 n3) (.string s3) (.slice A3 a3 b3) (.slice A3' a3' b3')
  rw [← HR.out] at this
  exact this
end Go.Proofs.YtfjcgbbphkfkgaaGreatDoor
/- What chapter 08's awake sees. -/
namespace Go.Proofs.YtfjcgbbphkfkgaaGreatDoor
set_option linter.unusedVariables false
set_option linter.unusedSimpArgs false
open Go.RowKit

def aw8y : JV := JV.listV [JV.intV 1, JV.intV 2, JV.intV 3]
def aw8 : JV := JV.mapV [([97], JV.listV [JV.mapV [([98], JV.intV 1)], JV.mapV [([98], JV.listV [JV.intV 2, JV.intV 3])]])]
theorem aw8_1 : Rd.rdS [123, 34, 97, 34, 58, 91, 123, 34, 98, 34, 58, 49, 125, 44, 123, 34, 98, 34, 58, 91, 50, 44, 51, 93, 125, 93, 125] = .ok aw8 [] 8 := by kernel_rfl
theorem aw8_p1 : Pt.parts [47, 97, 47, 48, 47, 98] = some [[97], [48], [98]] := by kernel_rfl
theorem aw8_p2 : Pt.parts [47, 97, 47, 42, 47, 98] = some [[97], [42], [98]] := by kernel_rfl
theorem aw8_p3 : Pt.parts [47, 97, 47, 50] = some [[97], [50]] := by kernel_rfl
theorem aw8_p4 : Pt.parts [97] = none := by kernel_rfl
theorem aw8_f1 : Pt.find false [[97], [48], [98]] aw8 = some (JV.intV 1) := by kernel_rfl
theorem aw8_f2 : Pt.find true [[97], [42], [98]] aw8 = some aw8y := by kernel_rfl
theorem aw8_f3 : Pt.find false [[97], [50]] aw8 = none := by kernel_rfl
theorem aw8_nv : Rd.nv aw8 ≤ 1048576 := by decide
theorem aw8_chk : ∃ q, JV.chk aw8y 1 0 = (0, q) := ⟨4, by kernel_rfl⟩
theorem aw8_w : JV.wrt aw8y = [91, 49, 44, 50, 44, 51, 93] := by kernel_rfl
theorem aw8_t : Pt.text [[120, 47, 121]] = [47, 120, 126, 49, 121] := by kernel_rfl
theorem aw8_find1 (B : Option Addr) (d : Nat) (B' : Option Addr) (d' : Nat) (W : World) (Z : Nat) (hZ : Z ≤ W.heap.size) (h : InV W (Lo Z) aw8 (vA aw8 B d B' d')) (hM : MxL W) :
    Calls Tryz.prog 28 #[.agg #[.int .i64 6, .int .i64 0, .string ⟨#[]⟩, .slice B 0 d, .slice B' 1 d'], .string ⟨#[47, 97, 47, 48, 47, 98]⟩] W fun e w' => (∃ C f C' f', e = .returned (.tuple #[.agg #[.int .i64 3, .int .i64 1, .string ⟨#[]⟩, .slice C 0 f, .slice C' 0 f'], .int .i64 0])) ∧ Fr W w' := by
  have := pfind_is aw8 B d B' d' ⟨#[47, 97, 47, 48, 47, 98]⟩ W Z hZ h aw8_nv (by decide) hM
  refine this.mono ?_
  intro e w1 h1
  have h2 : LdP Z W (some [[97], [48], [98]]) false aw8 e w1 := by rw [← aw8_p1]; exact h1
  have h3 : FdP Z W (some (JV.intV 1)) e w1 := by rw [← aw8_f1]; exact h2
  obtain ⟨C, f, C', f', rfl, _, hf⟩ := h3
  exact ⟨⟨C, f, C', f', rfl⟩, hf⟩
theorem aw8_each (B : Option Addr) (d : Nat) (B' : Option Addr) (d' : Nat) (W : World) (Z : Nat) (hZ : Z ≤ W.heap.size) (h : InV W (Lo Z) aw8 (vA aw8 B d B' d')) (hM : MxL W) :
    Calls Tryz.prog 30 #[.agg #[.int .i64 6, .int .i64 0, .string ⟨#[]⟩, .slice B 0 d, .slice B' 1 d'], .string ⟨#[47, 97, 47, 42, 47, 98]⟩] W fun e w' => (∃ C f C' f', e = .returned (.tuple #[.agg #[.int .i64 5, .int .i64 0, .string ⟨#[]⟩, .slice C 3 f, .slice C' 0 f'], .int .i64 0]) ∧ InV w' (Lo w'.heap.size) aw8y (vA aw8y C f C' f')) ∧ Fr W w' := by
  have := peach_is aw8 B d B' d' ⟨#[47, 97, 47, 42, 47, 98]⟩ W Z hZ h aw8_nv (by decide) hM
  refine this.mono ?_
  intro e w1 h1
  have h2 : LdP Z W (some [[97], [42], [98]]) true aw8 e w1 := by rw [← aw8_p2]; exact h1
  have h3 : FdP Z W (some aw8y) e w1 := by rw [← aw8_f2]; exact h2
  obtain ⟨C, f, C', f', rfl, hv, hf⟩ := h3
  exact ⟨⟨C, f, C', f', rfl, hv.more (fun b hb => by have := hf.size; rcases hb with hb | hb <;> (show b < _) <;> omega)⟩, hf⟩
theorem aw8_find3 (B : Option Addr) (d : Nat) (B' : Option Addr) (d' : Nat) (W : World) (Z : Nat) (hZ : Z ≤ W.heap.size) (h : InV W (Lo Z) aw8 (vA aw8 B d B' d')) (hM : MxL W) :
    Calls Tryz.prog 28 #[.agg #[.int .i64 6, .int .i64 0, .string ⟨#[]⟩, .slice B 0 d, .slice B' 1 d'], .string ⟨#[47, 97, 47, 50]⟩] W fun e w' => e = .returned (.tuple #[.agg #[.int .i64 0, .int .i64 0, .string ⟨#[]⟩, .slice none 0 0, .slice none 0 0], .int .i64 81]) ∧ Fr W w' := by
  have := pfind_is aw8 B d B' d' ⟨#[47, 97, 47, 50]⟩ W Z hZ h aw8_nv (by decide) hM
  refine this.mono ?_
  intro e w1 h1
  have h2 : LdP Z W (some [[97], [50]]) false aw8 e w1 := by rw [← aw8_p3]; exact h1
  have h3 : FdP Z W none e w1 := by rw [← aw8_f3]; exact h2
  exact h3
theorem aw8_find4 (B : Option Addr) (d : Nat) (B' : Option Addr) (d' : Nat) (W : World) (Z : Nat) (hZ : Z ≤ W.heap.size) (h : InV W (Lo Z) aw8 (vA aw8 B d B' d')) (hM : MxL W) :
    Calls Tryz.prog 28 #[.agg #[.int .i64 6, .int .i64 0, .string ⟨#[]⟩, .slice B 0 d, .slice B' 1 d'], .string ⟨#[97]⟩] W fun e w' => e = .returned (.tuple #[.agg #[.int .i64 0, .int .i64 0, .string ⟨#[]⟩, .slice none 0 0, .slice none 0 0], .int .i64 80]) ∧ Fr W w' := by
  have := pfind_is aw8 B d B' d' ⟨#[97]⟩ W Z hZ h aw8_nv (by decide) hM
  refine this.mono ?_
  intro e w1 h1
  have h2 : LdP Z W none false aw8 e w1 := by rw [← aw8_p4]; exact h1
  exact h2
theorem aw8_text (C : Option Addr) (f : Nat) (C' : Option Addr) (f' : Nat) (W : World) (h : InV W (Lo W.heap.size) aw8y (vA aw8y C f C' f')) :
    Calls Tryz.prog 20 #[.agg #[.int .i64 5, .int .i64 0, .string ⟨#[]⟩, .slice C 3 f, .slice C' 0 f']] W fun e w' => e = .returned (.tuple #[.string ⟨#[91, 49, 44, 50, 44, 51, 93]⟩, .int .i64 0]) ∧ Fr W w' := by
  obtain ⟨q, hq⟩ := aw8_chk
  exact text_is aw8y C f C' f' W 0 q [91, 49, 44, 50, 44, 51, 93] h hq (by rw [aw8_w]; rfl) (by simp)
theorem aw8_ptext (b : Nat) (W : World) (hb : b < W.heap.size) (h : W.cell? ⟨b, 0, none⟩ = some (.string ⟨#[120, 47, 121]⟩)) :
    Calls Tryz.prog 53 #[.slice (some ⟨b, 0, none⟩) 1 1] W fun e w' => e = .returned (.string ⟨#[47, 120, 126, 49, 121]⟩) ∧ Fr W w' := by
  have := ptext_is [[120, 47, 121]] (some ⟨b, 0, none⟩) 1 W (fun _ => ⟨b, 0, rfl, hb, fun i hi => by simp at hi; subst hi; exact h⟩) (by rw [aw8_t]; simp) (by simp) (by simp)
  rw [aw8_t] at this
  exact this

set_option maxHeartbeats 4000000 in
set_option maxRecDepth 100000 in
theorem awake08 (w : World) (hT : LowTabs w) (hM : MxL w) : Calls Tryz.prog 26 #[] w fun e w' => e = .returned (.bool true) ∧ Fr w w' := by
  have HT := Lib.hid hT
  have HM := Lib.hid hM
  clear hT hM
  go_enter Tryz.func26, Tryz.ntmps26
  go_wp2_with (first
    | (go_at_call 53; have hg := HG6.out; refine (aw8_ptext w6.heap.size _ (by simp) (by simp)).mono ?_; rintro e w7 ⟨rfl, hf⟩; have HG7 := Lib.hid (hg.trans (((Fr.refl w6).alloc _).trans hf)); clear hf hg)
    | (go_at_call 20; have hk := (Fr.refl w5).alloc (.cells #[.int .i64 0, .int .i64 0, .string ⟨#[]⟩, .slice none 0 0, .slice none 0 0] 29); have hg := HG5.out.trans hk; have hv := (HV3.out.keep (Nat.le_refl _) ((HH5.out).trans hk)).lo ((HH5.out).trans hk).size; refine (aw8_text _ _ _ _ _ hv).mono ?_; rintro e w6 ⟨rfl, hf⟩; have hb4 := (HB4.out.keep hk).keep hf; obtain ⟨⟨p0, p1, p2, p3, p4⟩, p5, p6, p7, p8, p9⟩ := box5 hb4; have HG6 := Lib.hid (hg.trans hf); clear hf hg hk hv hb4)
    | (go_at_call 28; have hk := (Fr.refl w4).alloc (.cells #[.int .i64 0, .int .i64 0, .string ⟨#[]⟩, .slice none 0 0, .slice none 0 0] 29); have hg := HG4.out.trans hk; refine (aw8_find4 B d B' d' _ w1.heap.size hg.size (HV1.out.keep (Nat.le_refl _) hg) (HM.out.keep (HF1.out.trans hg))).mono ?_; rintro e w5 ⟨rfl, hf⟩; have hf2 := hk.trans hf; have HB4 := Lib.hid (HB44.out.keep hf2); have hb6 := (HB64.out.keep hf2).keep ((Fr.refl w5).alloc (.cells #[.int .i64 0, .int .i64 0, .string ⟨#[]⟩, .slice none 0 0, .slice none 0 0] 29)); obtain ⟨⟨r0, r1, r2, r3, r4⟩, r5, r6, r7, r8, r9⟩ := box5 hb6; have HH5 := Lib.hid (HH4.out.trans hf2); have HG5 := Lib.hid (hg.trans hf); clear hf hg hk hf2 hb6)
    | (go_at_call 28; have hk := (Fr.refl w3).alloc (.cells #[.int .i64 5, .int .i64 0, .string ⟨#[]⟩, .slice D 3 g, .slice D' 0 g'] 29); have hg := HG3.out.trans hk; refine (aw8_find3 B d B' d' _ w1.heap.size hg.size (HV1.out.keep (Nat.le_refl _) hg) (HM.out.keep (HF1.out.trans hg))).mono ?_; rintro e w4 ⟨rfl, hf⟩; have hf2 := hk.trans hf; have HB44 := Lib.hid (HB43.out.keep hf2); have HB64 := Lib.hid ((Blk.made w3 #[.int .i64 5, .int .i64 0, .string ⟨#[]⟩, .slice D 3 g, .slice D' 0 g'] 29).keep hf); have hb1 := (HB13.out.keep hf2).keep ((Fr.refl w4).alloc (.cells #[.int .i64 0, .int .i64 0, .string ⟨#[]⟩, .slice none 0 0, .slice none 0 0] 29)); obtain ⟨⟨x0, x1, x2, x3, x4⟩, x5, x6, x7, x8, x9⟩ := box5 hb1; have HH4 := Lib.hid hf2; have HG4 := Lib.hid (hg.trans hf); clear hf hg hk hf2 hb1)
    | (go_at_call 30; have hk := (Fr.refl w2).alloc (.cells #[.int .i64 3, .int .i64 1, .string ⟨#[]⟩, .slice C 0 f, .slice C' 0 f'] 29); have hg := HG2.out.trans hk; refine (aw8_each B d B' d' _ w1.heap.size hg.size (HV1.out.keep (Nat.le_refl _) hg) (HM.out.keep (HF1.out.trans hg))).mono ?_; rintro e w3 ⟨⟨D, g, D', g', rfl, hv⟩, hf⟩; have hf2 := hk.trans hf; have HV3 := Lib.hid hv; have HB43 := Lib.hid ((Blk.made w2 #[.int .i64 3, .int .i64 1, .string ⟨#[]⟩, .slice C 0 f, .slice C' 0 f'] 29).keep hf); have hb := HB12.out.keep hf2; have HB13 := Lib.hid hb; have hb1 := hb.keep ((Fr.refl w3).alloc (.cells #[.int .i64 5, .int .i64 0, .string ⟨#[]⟩, .slice D 3 g, .slice D' 0 g'] 29)); obtain ⟨⟨y0, y1, y2, y3, y4⟩, y5, y6, y7, y8, y9⟩ := box5 hb1; have HG3 := Lib.hid (hg.trans hf); clear hf hg hk hf2 hb1 hb hv)
    | (go_at_call 28; have hg := (Fr.refl w1).alloc (.cells #[.int .i64 6, .int .i64 0, .string ⟨#[]⟩, .slice B 0 d, .slice B' 1 d'] 29); refine (aw8_find1 B d B' d' _ w1.heap.size hg.size (HV1.out.keep (Nat.le_refl _) hg) (HM.out.keep (HF1.out.trans hg))).mono ?_; rintro e w2 ⟨⟨C, f, C', f', rfl⟩, hf⟩; have hb := (Blk.made w1 #[.int .i64 6, .int .i64 0, .string ⟨#[]⟩, .slice B 0 d, .slice B' 1 d'] 29).keep hf; have HB12 := Lib.hid hb; have hb1 := hb.keep ((Fr.refl w2).alloc (.cells #[.int .i64 3, .int .i64 1, .string ⟨#[]⟩, .slice C 0 f, .slice C' 0 f'] 29)); obtain ⟨⟨z0, z1, z2, z3, z4⟩, z5, z6, z7, z8, z9⟩ := box5 hb1; have HG2 := Lib.hid (hg.trans hf); clear hf hg hb1 hb)
    | (go_at_call 36; refine (rvalue_v _ aw8 [] 8 6 0 [] 0 1 ⟨rfl, rfl, rfl, rfl, rfl⟩ _ ?hs1 HT.out ?he1).mono ?_; (case hs1 => (show (27 : Nat) ≤ _; omega)); (case he1 => exact aw8_1); rintro e w1 ⟨B, d, B', d', rfl, hv, hf⟩; have HV1 := Lib.hid hv.low; have HF1 := Lib.hid hf; clear hv hf))
  go_ret
  exact ⟨rfl, HF1.out.trans HG7.out⟩
end Go.Proofs.YtfjcgbbphkfkgaaGreatDoor
/- The walk of chapter 08's law of the parts. -/
namespace Go.Proofs.YtfjcgbbphkfkgaaGreatDoor
set_option linter.unusedVariables false
set_option linter.unusedSimpArgs false
open Go.RowKit

end Go.Proofs.YtfjcgbbphkfkgaaGreatDoor
/- The walk of chapter 08's law of the texts. -/
namespace Go.Proofs.YtfjcgbbphkfkgaaGreatDoor
set_option linter.unusedVariables false
set_option linter.unusedSimpArgs false
open Go.RowKit

end Go.Proofs.YtfjcgbbphkfkgaaGreatDoor
/- The walk of chapter 08's hasStar. -/
namespace Go.Proofs.YtfjcgbbphkfkgaaGreatDoor
set_option linter.unusedVariables false
set_option linter.unusedSimpArgs false
open Go.RowKit

set_option maxHeartbeats 1000000 in
set_option maxRecDepth 100000 in
theorem star_is (s : ByteArray) (w : World) (hs : s.size ≤ 140737488355328) :
    Calls Tryz.prog 34 #[.string s] w fun e w' => (e = .returned (.bool true) ∨ (e = .returned (.bool false) ∧ (42 : UInt8) ∉ s.data.toList)) ∧ Fr w w' := by
  have hs63 : (s.size : Int) ≤ 140737488355328 := by omega
  have HS := Lib.hid hs63
  go_enter Tryz.func34, Tryz.ntmps34
  go_wp2
  go_loop [3] (fun j => ∃ (i : Nat), i ≤ s.size ∧ j = .int .i64 i ∧ Hid ((42 : UInt8) ∉ s.data.toList.take i)) (fun j => s.size - (intOf j).toNat)
  case atStart => exact ⟨0, by omega, rfl, Lib.hid (by simp)⟩
  case round =>
    obtain ⟨k, hk, rfl, he⟩ := hrel
    by_cases hlt : k < s.size
    · obtain ⟨c, hc⟩ : ∃ c, s[k] = c := ⟨_, rfl⟩
      by_cases h42 : c = 42
      · subst h42
        go_wp2
        go_ret
        exact ⟨.inl rfl, Fr.refl w⟩
      · have hn : Hid ((42 : UInt8) ∉ s.data.toList.take (k + 1)) := by
          have hl : k < s.data.toList.length := by simpa using hlt
          refine Lib.hid ?_
          rw [List.take_succ_eq_append_getElem hl]
          intro hh
          rcases List.mem_append.1 hh with hh | hh
          · exact he.out hh
          · exact h42 ((List.mem_singleton.1 hh).trans hc).symm
        have e42 : ((c.toNat : Int) == 42) = false := by
          rw [beq_eq_false_iff_ne]
          intro hh
          exact h42 (UInt8.toNat_inj.1 (by show c.toNat = 42; omega))
        clear he h42
        go_wp2
        exact ⟨⟨k + 1, by omega, by go_num, hn⟩, by simp [intOf]; omega⟩
    · have hkk : s.size = k := by omega
      have hfin : Hid ((42 : UInt8) ∉ s.data.toList) := by
        refine Lib.hid ?_
        have := he.out
        rwa [List.take_of_length_le (by simp; omega)] at this
      subst hkk
      go_wp2
      go_ret
      exact ⟨.inr ⟨rfl, by have := hfin.out; simpa using this⟩, Fr.refl w⟩
end Go.Proofs.YtfjcgbbphkfkgaaGreatDoor
