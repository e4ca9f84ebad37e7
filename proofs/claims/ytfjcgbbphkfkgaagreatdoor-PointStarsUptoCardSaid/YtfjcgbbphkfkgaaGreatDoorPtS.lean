/- The walk of chapter 08's law of what stays. -/
import Derived.Test.YtfjcgbbphkfkgaaGreatDoorPtj
import Derived.Test.YtfjcgbbphkfkgaaGreatDoorPta
import Derived.Test.YtfjcgbbphkfkgaaGreatDoorReadM
namespace Go.Proofs.YtfjcgbbphkfkgaaGreatDoor
set_option linter.unusedVariables false
set_option linter.unusedSimpArgs false
open Go.RowKit

namespace Pt
/-- What leading answers: the value, and the number. -/
def ans (st : Bool) (ps : Option (List (List UInt8))) (v : JV) : JV × Int := match ps with
  | none => (JV.zeroV, 80)
  | some ps => match find st ps v with
    | none => (JV.zeroV, 81)
    | some y => (y, 0)
theorem ans_same {s : List UInt8} (v : JV) (h : (42 : UInt8) ∉ s) : ans true (parts s) v = ans false (parts s) v := by
  cases hp : parts s with
  | none => rfl
  | some ps => unfold ans; simp only [find_nostar ps v (parts_star hp h)]
end Pt
theorem LdP.ans {Z : Nat} {w w' : World} {ps : Option (List (List UInt8))} {st : Bool} {v : JV} {e : Ending} (h : LdP Z w ps st v e w') (hZ : Z ≤ w.heap.size) {y : JV} {c : Int} (hy : Pt.ans st ps v = (y, c)) :
    ∃ (C : Option Addr) (f : Nat) (C' : Option Addr) (f' : Nat), e = .returned (.tuple #[.agg #[.int .i64 y.kd, .int .i64 y.nm, .string ⟨y.tx.toArray⟩, .slice C y.ls.length f, .slice C' y.ms.length f'], .int .i64 c]) ∧ InV w' (Ne Z w w') y (vA y C f C' f') ∧ Fr w w' := by
  cases ps with
  | none =>
    obtain ⟨rfl, rfl⟩ : JV.zeroV = y ∧ (80 : Int) = c := by simpa [Pt.ans] using hy
    exact ⟨none, 0, none, 0, h.1, zeroV_in w' _, h.2⟩
  | some ps =>
    have h : FdP Z w (Pt.find st ps v) e w' := h
    cases hf : Pt.find st ps v with
    | none =>
      rw [hf] at h
      obtain ⟨rfl, rfl⟩ : JV.zeroV = y ∧ (81 : Int) = c := by simpa [Pt.ans, hf] using hy
      exact ⟨none, 0, none, 0, h.1, zeroV_in w' _, h.2⟩
    | some x =>
      rw [hf] at h
      obtain ⟨rfl, rfl⟩ : x = y ∧ (0 : Int) = c := by simpa [Pt.ans, hf] using hy
      exact h
theorem Ne.low {Z : Nat} {w w' : World} {y : JV} {x : Value} (h : InV w' (Ne Z w w') y x) (hZ : Z ≤ w.heap.size) (hs : w.heap.size ≤ w'.heap.size) : InV w' (Lo w'.heap.size) y x :=
  h.more (fun b hb => by rcases hb with hb | hb <;> (show b < _) <;> omega)
theorem nv_bulk (v : JV) : Rd.nv v ≤ JV.bulk v := by
  induction v using JV.ind with
  | h k n s l m ihl ihm =>
    have hL : ∀ l : List JV, (∀ v ∈ l, Rd.nv v ≤ JV.bulk v) → Rd.nvL l ≤ JV.bulkL l := by
      intro l
      induction l with
      | nil => intro _; rw [Rd.nvL_nil]; exact Nat.zero_le _
      | cons v l ih =>
        intro h
        rw [Rd.nvL_cons, JV.bulkL_cons]
        have := h v List.mem_cons_self
        have := ih (fun u hu => h u (List.mem_cons_of_mem _ hu))
        omega
    have hM : ∀ m : List (List UInt8 × JV), (∀ p ∈ m, Rd.nv p.2 ≤ JV.bulk p.2) → Rd.nvM m ≤ JV.bulkM m := by
      intro l
      induction l with
      | nil => intro _; rw [Rd.nvM_nil]; exact Nat.zero_le _
      | cons v l ih =>
        intro h
        rw [Rd.nvM_cons, JV.bulkM_cons]
        have := h v List.mem_cons_self
        have := ih (fun u hu => h u (List.mem_cons_of_mem _ hu))
        omega
    have h1 := hL l ihl
    have h2 := hM m ihm
    rw [Rd.nv_mk, JV.bulk_mk]
    omega

set_option maxHeartbeats 1000000 in
set_option maxRecDepth 100000 in
theorem star_b (s : ByteArray) (w : World) (hs : s.size ≤ 140737488355328) (b : Bool) (hb : b = decide ((42 : UInt8) ∈ s.data.toList)) :
    Calls Tryz.prog 34 #[.string s] w fun e w' => e = .returned (.bool b) ∧ Fr w w' := by
  have hs63 : (s.size : Int) ≤ 140737488355328 := by omega
  have HS := Lib.hid hs63
  have HB := Lib.hid hb
  clear hb
  go_enter Tryz.func34, Tryz.ntmps34
  go_wp2
  go_loop [3] (fun j => ∃ (i : Nat), i ≤ s.size ∧ j = .int .i64 i ∧ Hid ((42 : UInt8) ∉ s.data.toList.take i)) (fun j => s.size - (intOf j).toNat)
  case atStart => exact ⟨0, by omega, rfl, Lib.hid (by simp)⟩
  case round =>
    obtain ⟨k, hk, rfl, he⟩ := hrel
    by_cases hlt : k < s.size
    · obtain ⟨c, hc⟩ : ∃ c, s[k] = c := ⟨_, rfl⟩
      have hl : k < s.data.toList.length := by simpa using hlt
      by_cases h42 : c = 42
      · subst h42
        have hin : Hid ((42 : UInt8) ∈ s.data.toList) := by
          show _ ∈ _
          have e : s.data.toList[k] = 42 := hc
          rw [← e]; exact List.getElem_mem hl
        clear hl
        go_wp2
        go_ret
        exact ⟨by rw [HB.out, decide_eq_true hin.out]; rfl, Fr.refl w⟩
      · have hn : Hid ((42 : UInt8) ∉ s.data.toList.take (k + 1)) := by
          refine Lib.hid ?_
          rw [List.take_succ_eq_append_getElem hl]
          intro hh
          rcases List.mem_append.1 hh with hh | hh
          · exact he.out hh
          · exact h42 ((List.mem_singleton.1 hh).trans hc).symm
        have e42 : ((c.toNat : Int) == 42) = false := by
          rw [beq_eq_false_iff_ne]
          intro hh
          exact h42 (UInt8.toNat_inj.1 (by show c.toNat = 42; omega))
        clear he h42 hl
        go_wp2
        exact ⟨⟨k + 1, by omega, by go_num, hn⟩, by simp [intOf]; omega⟩
    · have hkk : s.size = k := by omega
      have hfin : Hid ((42 : UInt8) ∉ s.data.toList) := by
        refine Lib.hid ?_
        have := he.out
        rwa [List.take_of_length_le (by simp; omega)] at this
      subst hkk
      go_wp2
      go_ret
      exact ⟨by rw [HB.out, decide_eq_false hfin.out]; rfl, Fr.refl w⟩

end Go.Proofs.YtfjcgbbphkfkgaaGreatDoor
