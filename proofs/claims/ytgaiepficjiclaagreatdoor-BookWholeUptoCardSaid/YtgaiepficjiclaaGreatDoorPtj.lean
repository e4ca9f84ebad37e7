/- The walks of point.lead, Find, Each. -/
import Derived.Test.YtgaiepficjiclaaGreatDoorPtI
import Derived.Test.YtgaiepficjiclaaGreatDoorRdd
import Derived.Test.YtgaiepficjiclaaGreatDoorEe
namespace Go.Proofs.YtgaiepficjiclaaGreatDoor
set_option maxRecDepth 100000
set_option linter.unusedVariables false
set_option linter.unusedSimpArgs false
open Go.RowKit

namespace Pt
theorem plain_len : ∀ (n : Nat) (l t : List UInt8), l.length ≤ n → plain l = some t → t.length ≤ l.length := by
 intro n
 induction n with
 | zero =>
  intro l t hl h
  have : l = [] := List.eq_nil_of_length_eq_zero (by omega)
  subst this
  obtain rfl := Option.some.inj h; simp
 | succ n ih =>
  intro l t hl h
  match l, hl with
  | [], _ => obtain rfl := Option.some.inj h; simp
  | c :: r, hl =>
   have hr : r.length ≤ n := by simp at hl; omega
   by_cases hc : c = 126
   ·subst hc
    match r, hr with
    | [], _ => simp [plain] at h
    | d :: r, hr =>
     have hr2 : r.length ≤ n := by simp at hr; omega
     rw [plain_two, if_pos rfl] at h
     cases hp : plain r with
     | none => rw [hp] at h; split at h <;> (try split at h) <;> cases h
     | some q =>
      have := ih r q hr2 hp
      rw [hp] at h
      split at h
      ·obtain rfl := Option.some.inj h; simp; omega
      ·split at h
       ·obtain rfl := Option.some.inj h; simp; omega
       ·cases h
   ·rw [plain_ne _ hc] at h
    cases hp : plain r with
    | none => rw [hp] at h; cases h
    | some q =>
     have := ih r q hr hp
     rw [hp] at h
     obtain rfl := Option.some.inj h; simp; omega
theorem allP_each : ∀ (qs ps : List (List UInt8)), allP qs = some ps → ps.length = qs.length ∧ ∀ p ∈ ps, ∃ q ∈ qs, p.length ≤ q.length
 | [], ps, h => by obtain rfl := Option.some.inj h; exact ⟨rfl, by simp⟩
 | q :: qs, ps, h => by
  rw [allP_def] at h
  cases hp : plain q with
  | none => rw [hp] at h; cases h
  | some t =>
   rw [hp] at h
   cases hq : allP qs with
   | none => rw [hq] at h; cases h
   | some r =>
    rw [hq] at h
    obtain rfl := Option.some.inj h
    obtain ⟨h1, h2⟩ := allP_each qs r hq
    refine ⟨by simp [h1], fun p hp2 => ?_⟩
    rcases List.mem_cons.1 hp2 with rfl | hp2
    ·exact ⟨q, by simp, plain_len _ q p (Nat.le_refl _) hp⟩
    ·obtain ⟨q', hq', hl⟩ := h2 p hp2
     exact ⟨q', by simp [hq'], hl⟩
theorem parts_len {s : List UInt8} {ps : List (List UInt8)} (h : parts s = some ps) : ps.length ≤ s.length + 1 ∧ ∀ p ∈ ps, p.length ≤ s.length := by
 cases s with
 | nil => obtain rfl := Option.some.inj h; simp
 | cons c r =>
  rw [show parts (c :: r) = if c = 47 then allP (cut r) else none from rfl] at h
  by_cases hc : c = 47
  ·rw [if_pos hc] at h
   obtain ⟨h1, h2⟩ := allP_each _ _ h
   have := cut_len r
   refine ⟨by rw [h1]; simp; omega, fun p hp => ?_⟩
   obtain ⟨q, hq, hl⟩ := h2 p hp
   have := cut_each r q hq
   simp; omega
  ·rw [if_neg hc] at h; cases h
end Pt
theorem Ssl.caps {w : World} {base : Nat} {A : Option Addr} {n c : Nat} {l : List (List UInt8)} (h : Ssl w base (.slice A n c) l) : l.length ≤ c ∧ c ≤ 9223372036854775807 := by
 rcases h.2 with ⟨hv, hn⟩ | ⟨g, cap, cur, hv, hb, hg, hc, hm, hs, ht⟩
 ·injection hv with _ _ h3
  rw [svs_len] at hn
  omega
 ·injection hv with _ _ h3
  rw [svs_len] at hc
  unfold maxLen at hm
  omega
def LdP (Z : Nat) (w : World) (ps : Option (List (List UInt8))) (st : Bool) (v : JV) : Ending → World → Prop := match ps with
 | none => fun e w' => e = .returned (.tuple #[.agg #[.int .i64 0, .int .i64 0, .string ⟨#[]⟩, .slice none 0 0, .slice none 0 0], .int .i64 80]) ∧ Fr w w'
 | some ps => FdP Z w (Pt.find st ps v)
theorem LdP.form {Z : Nat} {w w' : World} {ps : Option (List (List UInt8))} {st : Bool} {v : JV} {x : Ending} (h : LdP Z w ps st v x w') : ∃ (k n : Int) (s : ByteArray) (A : Option Addr) (a1 b : Nat) (A' : Option Addr) (a' b' : Nat) (c : Int), x = .returned (.tuple #[.agg #[.int .i64 k, .int .i64 n, .string s, .slice A a1 b, .slice A' a' b'], .int .i64 c]) := by
 cases ps with
 | none => obtain ⟨hx, _⟩ := h; exact ⟨_, _, _, _, _, _, _, _, _, _, hx⟩
 | some ps => exact FdP.form h
theorem LdP.fr {Z : Nat} {w w' : World} {ps : Option (List (List UInt8))} {st : Bool} {v : JV} {x : Ending} (h : LdP Z w ps st v x w') : Fr w w' := by
 cases ps with
 | none => exact h.2
 | some ps => exact FdP.fr h
theorem LdP.lift {Z : Nat} {w W0 w' : World} {ps : Option (List (List UInt8))} {st : Bool} {v : JV} {x : Ending} (h : LdP Z W0 ps st v x w') (hF : Fr w W0) (hZ : Z ≤ w.heap.size) {X : Nat} (hX : w.heap.size ≤ X) (hX2 : X < W0.heap.size) (u0 u1 u2 u3 u4 : Value) :
  LdP Z w ps st v x (((((w'.setCell ⟨X, 0, none⟩ u0).setCell ⟨X, 1, none⟩ u1).setCell ⟨X, 2, none⟩ u2).setCell ⟨X, 3, none⟩ u3).setCell ⟨X, 4, none⟩ u4) := by
 cases ps with
 | none => exact ⟨h.1, (hF.trans h.2).put5 hX _ _ _ _ _⟩
 | some ps => exact FdP.lift h hF hZ hX hX2 _ _ _ _ _

/- The walks of point.Find and point.Each. -/

/- What chapter 08's awake sees. -/

def aw8y : JV := JV.listV [JV.intV 1, JV.intV 2, JV.intV 3]
def aw8 : JV := JV.mapV [([97], JV.listV [JV.mapV [([98], JV.intV 1)], JV.mapV [([98], JV.listV [JV.intV 2, JV.intV 3])]])]
theorem aw8_1 : Rd.rdS [123, 34, 97, 34, 58, 91, 123, 34, 98, 34, 58, 49, 125, 44, 123, 34, 98, 34, 58, 91, 50, 44, 51, 93, 125, 93, 125] = .ok aw8 [] 8 := by kernel_rfl
theorem aw8_p1 : Pt.parts [47, 97, 47, 48, 47, 98] = some [[97], [48], [98]] := by kernel_rfl
theorem aw8_p2 : Pt.parts [47, 97, 47, 42, 47, 98] = some [[97], [42], [98]] := by kernel_rfl
theorem aw8_p3 : Pt.parts [47, 97, 47, 50] = some [[97], [50]] := by kernel_rfl
theorem aw8_p4 : Pt.parts [97] = none := by kernel_rfl
theorem aw8_f1 : Pt.find false [[97], [48], [98]] aw8 = some (JV.intV 1) := by kernel_rfl
theorem aw8_f2 : Pt.find true [[97], [42], [98]] aw8 = some aw8y := by kernel_rfl
theorem aw8_f3 : Pt.find false [[97], [50]] aw8 = none := by kernel_rfl
theorem aw8_nv : Rd.nv aw8 ≤ 1048576 := by decide
theorem aw8_chk : ∃ q, JV.chk aw8y 1 0 = (0, q) := ⟨4, by kernel_rfl⟩
theorem aw8_w : JV.wrt aw8y = [91, 49, 44, 50, 44, 51, 93] := by kernel_rfl
theorem aw8_t : Pt.text [[120, 47, 121]] = [47, 120, 126, 49, 121] := by kernel_rfl
theorem aw8_text (C : Option Addr) (f : Nat) (C' : Option Addr) (f' : Nat) (W : World) (h : InV W (Lo W.heap.size) aw8y (vA aw8y C f C' f')) :
  Calls Tryz.prog 18 #[.agg #[.int .i64 5, .int .i64 0, .string ⟨#[]⟩, .slice C 3 f, .slice C' 0 f']] W fun e w' => e = .returned (.tuple #[.string ⟨#[91, 49, 44, 50, 44, 51, 93]⟩, .int .i64 0]) ∧ Fr W w' := by
 obtain ⟨q, hq⟩ := aw8_chk
 exact text_is aw8y C f C' f' W 0 q [91, 49, 44, 50, 44, 51, 93] h hq (by rw [aw8_w]; rfl) (by simp)
/- The walk of chapter 08's law of the parts. -/

/- The walk of chapter 08's law of the texts. -/

/- The walk of chapter 08's hasStar. -/

end Go.Proofs.YtgaiepficjiclaaGreatDoor
