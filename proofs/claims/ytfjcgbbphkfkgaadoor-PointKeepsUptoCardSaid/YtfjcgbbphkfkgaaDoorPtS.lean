/- The walk of chapter 08's law of what stays. -/
import Derived.Test.YtfjcgbbphkfkgaaDoorPtj
import Derived.Test.YtfjcgbbphkfkgaaDoorPta
import Derived.Test.YtfjcgbbphkfkgaaDoorReadM
namespace Go.Proofs.YtfjcgbbphkfkgaaDoor
set_option linter.unusedVariables false
set_option linter.unusedSimpArgs false
open Go.RowKit

namespace Pt
/-- What leading answers: the value, and the number. -/
def ans (st : Bool) (ps : Option (List (List UInt8))) (v : JV) : JV × Int := match ps with
  | none => (JV.zeroV, 80)
  | some ps => match find st ps v with
    | none => (JV.zeroV, 81)
    | some y => (y, 0)
theorem ans_same {s : List UInt8} (v : JV) (h : (42 : UInt8) ∉ s) : ans true (parts s) v = ans false (parts s) v := by
  cases hp : parts s with
  | none => rfl
  | some ps => unfold ans; simp only [find_nostar ps v (parts_star hp h)]
end Pt
theorem LdP.ans {Z : Nat} {w w' : World} {ps : Option (List (List UInt8))} {st : Bool} {v : JV} {e : Ending} (h : LdP Z w ps st v e w') (hZ : Z ≤ w.heap.size) {y : JV} {c : Int} (hy : Pt.ans st ps v = (y, c)) :
    ∃ (C : Option Addr) (f : Nat) (C' : Option Addr) (f' : Nat), e = .returned (.tuple #[.agg #[.int .i64 y.kd, .int .i64 y.nm, .string ⟨y.tx.toArray⟩, .slice C y.ls.length f, .slice C' y.ms.length f'], .int .i64 c]) ∧ InV w' (Ne Z w w') y (vA y C f C' f') ∧ Fr w w' := by
  cases ps with
  | none =>
    obtain ⟨rfl, rfl⟩ : JV.zeroV = y ∧ (80 : Int) = c := by simpa [Pt.ans] using hy
    exact ⟨none, 0, none, 0, h.1, zeroV_in w' _, h.2⟩
  | some ps =>
    have h : FdP Z w (Pt.find st ps v) e w' := h
    cases hf : Pt.find st ps v with
    | none =>
      rw [hf] at h
      obtain ⟨rfl, rfl⟩ : JV.zeroV = y ∧ (81 : Int) = c := by simpa [Pt.ans, hf] using hy
      exact ⟨none, 0, none, 0, h.1, zeroV_in w' _, h.2⟩
    | some x =>
      rw [hf] at h
      obtain ⟨rfl, rfl⟩ : x = y ∧ (0 : Int) = c := by simpa [Pt.ans, hf] using hy
      exact h
theorem Ne.low {Z : Nat} {w w' : World} {y : JV} {x : Value} (h : InV w' (Ne Z w w') y x) (hZ : Z ≤ w.heap.size) (hs : w.heap.size ≤ w'.heap.size) : InV w' (Lo w'.heap.size) y x :=
  h.more (fun b hb => by rcases hb with hb | hb <;> (show b < _) <;> omega)
theorem nv_bulk (v : JV) : Rd.nv v ≤ JV.bulk v := by
  induction v using JV.ind with
  | h k n s l m ihl ihm =>
    have hL : ∀ l : List JV, (∀ v ∈ l, Rd.nv v ≤ JV.bulk v) → Rd.nvL l ≤ JV.bulkL l := by
      intro l
      induction l with
      | nil => intro _; rw [Rd.nvL_nil]; exact Nat.zero_le _
      | cons v l ih =>
        intro h
        rw [Rd.nvL_cons, JV.bulkL_cons]
        have := h v List.mem_cons_self
        have := ih (fun u hu => h u (List.mem_cons_of_mem _ hu))
        omega
    have hM : ∀ m : List (List UInt8 × JV), (∀ p ∈ m, Rd.nv p.2 ≤ JV.bulk p.2) → Rd.nvM m ≤ JV.bulkM m := by
      intro l
      induction l with
      | nil => intro _; rw [Rd.nvM_nil]; exact Nat.zero_le _
      | cons v l ih =>
        intro h
        rw [Rd.nvM_cons, JV.bulkM_cons]
        have := h v List.mem_cons_self
        have := ih (fun u hu => h u (List.mem_cons_of_mem _ hu))
        omega
    have h1 := hL l ihl
    have h2 := hM m ihm
    rw [Rd.nv_mk, JV.bulk_mk]
    omega

set_option maxHeartbeats 1000000 in
set_option maxRecDepth 100000 in
theorem star_b (s : ByteArray) (w : World) (hs : s.size ≤ 140737488355328) (b : Bool) (hb : b = decide ((42 : UInt8) ∈ s.data.toList)) :
    Calls Tryd.prog 22 #[.string s] w fun e w' => e = .returned (.bool b) ∧ Fr w w' := by
  have hs63 : (s.size : Int) ≤ 140737488355328 := by omega
  have HS := Lib.hid hs63
  have HB := Lib.hid hb
  clear hb
  go_enter Tryd.func22, Tryd.ntmps22
  go_wp2
  go_loop [3] (fun j => ∃ (i : Nat), i ≤ s.size ∧ j = .int .i64 i ∧ Hid ((42 : UInt8) ∉ s.data.toList.take i)) (fun j => s.size - (intOf j).toNat)
  case atStart => exact ⟨0, by omega, rfl, Lib.hid (by simp)⟩
  case round =>
    obtain ⟨k, hk, rfl, he⟩ := hrel
    by_cases hlt : k < s.size
    · obtain ⟨c, hc⟩ : ∃ c, s[k] = c := ⟨_, rfl⟩
      have hl : k < s.data.toList.length := by simpa using hlt
      by_cases h42 : c = 42
      · subst h42
        have hin : Hid ((42 : UInt8) ∈ s.data.toList) := by
          show _ ∈ _
          have e : s.data.toList[k] = 42 := hc
          rw [← e]; exact List.getElem_mem hl
        clear hl
        go_wp2
        go_ret
        exact ⟨by rw [HB.out, decide_eq_true hin.out]; rfl, Fr.refl w⟩
      · have hn : Hid ((42 : UInt8) ∉ s.data.toList.take (k + 1)) := by
          refine Lib.hid ?_
          rw [List.take_succ_eq_append_getElem hl]
          intro hh
          rcases List.mem_append.1 hh with hh | hh
          · exact he.out hh
          · exact h42 ((List.mem_singleton.1 hh).trans hc).symm
        have e42 : ((c.toNat : Int) == 42) = false := by
          rw [beq_eq_false_iff_ne]
          intro hh
          exact h42 (UInt8.toNat_inj.1 (by show c.toNat = 42; omega))
        clear he h42 hl
        go_wp2
        exact ⟨⟨k + 1, by omega, by go_num, hn⟩, by simp [intOf]; omega⟩
    · have hkk : s.size = k := by omega
      have hfin : Hid ((42 : UInt8) ∉ s.data.toList) := by
        refine Lib.hid ?_
        have := he.out
        rwa [List.take_of_length_le (by simp; omega)] at this
      subst hkk
      go_wp2
      go_ret
      exact ⟨by rw [HB.out, decide_eq_false hfin.out]; rfl, Fr.refl w⟩

set_option maxHeartbeats 2000000 in
set_option maxRecDepth 100000 in
theorem pkeeps_law (v : JV) (A : Option Addr) (c0 : Nat) (A' : Option Addr) (c0' : Nat) (s : ByteArray) (w : World) (hv : InV w (Lo w.heap.size) v (vA v A c0 A' c0')) (hbk : JV.bulk v ≤ 1048576) (hs : s.size ≤ 140737488351232) (hT : LowTabs w) (hM : MxL w) :
    Calls Tryd.prog 6 #[vA v A c0 A' c0', .string s] w fun e w' => e = .returned (.bool true) ∧ Fr w w' := by
  have hs' : (s.size : Int) ≤ 140737488351232 := by omega
  have HT := Lib.hid hT
  have HM := Lib.hid hM
  have HBX : Hid (∀ W, Fr (w.alloc (.cells #[.int .i64 v.kd, .int .i64 v.nm, .string ⟨v.tx.toArray⟩, .slice A v.ls.length c0, .slice A' v.ms.length c0'] 29)) W → Blk W w.heap.size #[.int .i64 v.kd, .int .i64 v.nm, .string ⟨v.tx.toArray⟩, .slice A v.ls.length c0, .slice A' v.ms.length c0'] 29) := Lib.hid (fun W hW => (Blk.made w _ _).keep hW)
  have HF0 : Hid (Fr w (w.alloc (.cells #[.int .i64 v.kd, .int .i64 v.nm, .string ⟨v.tx.toArray⟩, .slice A v.ls.length c0, .slice A' v.ms.length c0'] 29))) := (Fr.refl w).alloc _
  have HKV : Hid (∀ W, Fr w W → InV W (Lo W.heap.size) v (vA v A c0 A' c0')) := Lib.hid (fun W hW => (hv.keep (Nat.le_refl _) hW).lo hW.size)
  have HA : Hid (vA v A c0 A' c0' = .agg #[.int .i64 v.kd, .int .i64 v.nm, .string ⟨v.tx.toArray⟩, .slice A v.ls.length c0, .slice A' v.ms.length c0']) := rfl
  rcases hc : JV.chk v 1 0 with ⟨c, q⟩
  have HC : Hid (∀ W, Fr w W → Calls Tryd.prog 13 #[.agg #[.int .i64 v.kd, .int .i64 v.nm, .string ⟨v.tx.toArray⟩, .slice A v.ls.length c0, .slice A' v.ms.length c0']] W fun e w' => e = .returned (.int .i64 (c : Nat)) ∧ Fr W w') := Lib.hid (fun W hW => ccheck_is v A c0 A' c0' W c q (HKV.out W hW) hc)
  rw [HA.out]
  by_cases h0 : c = 0
  · subst h0
    by_cases h200 : s.size ≤ 200
    · have h2 : ¬ ((s.size : Int) > 200) := by omega
      have h3 : decide ((200 : Int) < (s.size : Int)) = false := decide_eq_false (by omega)
      have hl := JV.wrt_len v (JV.ok_all (JV.chk_ok v 1 0 (by rw [hc])).1)
      obtain ⟨T, hTT⟩ : ∃ T, JV.wrt v = T := ⟨_, rfl⟩
      have HX : Hid (∀ W, Fr w W → Calls Tryd.prog 9 #[.agg #[.int .i64 v.kd, .int .i64 v.nm, .string ⟨v.tx.toArray⟩, .slice A v.ls.length c0, .slice A' v.ms.length c0']] W fun e w' => e = .returned (.tuple #[.string ⟨T.toArray⟩, .int .i64 0]) ∧ Fr W w') := Lib.hid (fun W hW => text_is v A c0 A' c0' W 0 q T (HKV.out W hW) hc (by rw [if_pos rfl]; exact hTT.symm) (by rw [← hTT]; omega))
      have hnv := nv_bulk v
      obtain ⟨y1, c1, hy1⟩ : ∃ y c, Pt.ans false (Pt.parts s.data.toList) v = (y, c) := ⟨_, _, rfl⟩
      obtain ⟨y2, c2, hy2⟩ : ∃ y c, Pt.ans true (Pt.parts s.data.toList) v = (y, c) := ⟨_, _, rfl⟩
      have HD1 : Hid (∀ W, Fr w W → Calls Tryd.prog 20 #[.agg #[.int .i64 v.kd, .int .i64 v.nm, .string ⟨v.tx.toArray⟩, .slice A v.ls.length c0, .slice A' v.ms.length c0'], .string s] W fun e w' => ∃ (C : Option Addr) (f : Nat) (C' : Option Addr) (f' : Nat), e = .returned (.tuple #[.agg #[.int .i64 y1.kd, .int .i64 y1.nm, .string ⟨y1.tx.toArray⟩, .slice C y1.ls.length f, .slice C' y1.ms.length f'], .int .i64 c1]) ∧ InV w' (Lo w'.heap.size) y1 (vA y1 C f C' f') ∧ Fr W w') :=
        Lib.hid (fun W hW => (pfind_is v A c0 A' c0' s W w.heap.size hW.size (hv.keep (Nat.le_refl _) hW) (by omega) (by omega) (HM.out.keep hW)).mono fun e w' h => by obtain ⟨C, f, C', f', he, hin, hf⟩ := h.ans hW.size hy1; exact ⟨C, f, C', f', he, Ne.low hin hW.size hf.size, hf⟩)
      have HD2 : Hid (∀ W, Fr w W → Calls Tryd.prog 21 #[.agg #[.int .i64 v.kd, .int .i64 v.nm, .string ⟨v.tx.toArray⟩, .slice A v.ls.length c0, .slice A' v.ms.length c0'], .string s] W fun e w' => ∃ (C : Option Addr) (f : Nat) (C' : Option Addr) (f' : Nat), e = .returned (.tuple #[.agg #[.int .i64 y2.kd, .int .i64 y2.nm, .string ⟨y2.tx.toArray⟩, .slice C y2.ls.length f, .slice C' y2.ms.length f'], .int .i64 c2]) ∧ InV w' (Lo w'.heap.size) y2 (vA y2 C f C' f') ∧ Fr W w') :=
        Lib.hid (fun W hW => (peach_is v A c0 A' c0' s W w.heap.size hW.size (hv.keep (Nat.le_refl _) hW) (by omega) (by omega) (HM.out.keep hW)).mono fun e w' h => by obtain ⟨C, f, C', f', he, hin, hf⟩ := h.ans hW.size hy2; exact ⟨C, f, C', f', he, Ne.low hin hW.size hf.size, hf⟩)
      have HST : Hid (∀ b, b = decide ((42 : UInt8) ∈ s.data.toList) → ∀ W, Calls Tryd.prog 22 #[.string s] W fun e w' => e = .returned (.bool b) ∧ Fr W w') := Lib.hid (fun b hb W => star_b s W (by omega) b hb)
      by_cases h42 : (42 : UInt8) ∈ s.data.toList
      · have h42' := Lib.hid (decide_eq_true h42).symm
        clear hv hbk hs hT hM hc hl hTT hnv hy1 hy2 h42
        go_enter Tryd.func6, Tryd.ntmps6
        go_wp2_with (first
          | (go_at_call 22; have hg := HG6.out; refine (HST.out true h42'.out _).mono ?_; rintro e w7 ⟨rfl, hf⟩; have HG7 := Lib.hid (hg.trans hf); clear hf hg)
          | (go_at_call 9; have hg := HG5.out; refine (HX.out _ hg).mono ?_; rintro e w6 ⟨rfl, hf⟩; have HB64 := Lib.hid (HB54.out.keep hf); have HB65 := Lib.hid (HB5.out.keep hf); have HV64 := Lib.hid ((HV54.out.keep (Nat.le_refl _) hf).lo hf.size); have HV65 := Lib.hid ((HV5.out.keep (Nat.le_refl _) hf).lo hf.size); have HG6 := Lib.hid (hg.trans hf); clear hf hg)
          | (go_at_call 21; have hm := HF4.out; have hg := HG4.out; refine (HD2.out _ hg).mono ?_; rintro e w5 ⟨C2, f2, C2', f2', rfl, hin, hf⟩; have hk := (Fr.refl w5).alloc (.cells #[.int .i64 y2.kd, .int .i64 y2.nm, .string ⟨y2.tx.toArray⟩, .slice C2 y2.ls.length f2, .slice C2' y2.ms.length f2'] 29); have hmk := (hm.trans hf).trans hk; have hbx := HBX.out (w5.alloc (.cells #[.int .i64 y2.kd, .int .i64 y2.nm, .string ⟨y2.tx.toArray⟩, .slice C2 y2.ls.length f2, .slice C2' y2.ms.length f2'] 29)) hmk; have ke0 : (w5.alloc (.cells #[.int .i64 y2.kd, .int .i64 y2.nm, .string ⟨y2.tx.toArray⟩, .slice C2 y2.ls.length f2, .slice C2' y2.ms.length f2'] 29)).cell? ⟨w.heap.size, 0, none⟩ = some ((.int .i64 v.kd)) := hbx.cell 0; have ke1 : (w5.alloc (.cells #[.int .i64 y2.kd, .int .i64 y2.nm, .string ⟨y2.tx.toArray⟩, .slice C2 y2.ls.length f2, .slice C2' y2.ms.length f2'] 29)).cell? ⟨w.heap.size, 1, none⟩ = some ((.int .i64 v.nm)) := hbx.cell 1; have ke2 : (w5.alloc (.cells #[.int .i64 y2.kd, .int .i64 y2.nm, .string ⟨y2.tx.toArray⟩, .slice C2 y2.ls.length f2, .slice C2' y2.ms.length f2'] 29)).cell? ⟨w.heap.size, 2, none⟩ = some ((.string ⟨v.tx.toArray⟩)) := hbx.cell 2; have ke3 : (w5.alloc (.cells #[.int .i64 y2.kd, .int .i64 y2.nm, .string ⟨y2.tx.toArray⟩, .slice C2 y2.ls.length f2, .slice C2' y2.ms.length f2'] 29)).cell? ⟨w.heap.size, 3, none⟩ = some ((.slice A v.ls.length c0)) := hbx.cell 3; have ke4 : (w5.alloc (.cells #[.int .i64 y2.kd, .int .i64 y2.nm, .string ⟨y2.tx.toArray⟩, .slice C2 y2.ls.length f2, .slice C2' y2.ms.length f2'] 29)).cell? ⟨w.heap.size, 4, none⟩ = some ((.slice A' v.ms.length c0')) := hbx.cell 4; clear hbx; have HF5 := Lib.hid hmk; have HG5 := Lib.hid ((hg.trans hf).trans hk); have HV5 := Lib.hid ((hin.keep (Nat.le_refl _) hk).lo hk.size); have HB5 := Lib.hid (Blk.made w5 #[.int .i64 y2.kd, .int .i64 y2.nm, .string ⟨y2.tx.toArray⟩, .slice C2 y2.ls.length f2, .slice C2' y2.ms.length f2'] 29); have hfk := hf.trans hk; have HB54 := Lib.hid (HB4.out.keep hfk); have HV54 := Lib.hid ((HV4.out.keep (Nat.le_refl _) hfk).lo hfk.size); clear hf hm hg hin hk hmk hfk)
          | (go_at_call 20; have hm := HF3.out; have hg := HG3.out; refine (HD1.out _ hg).mono ?_; rintro e w4 ⟨C1, f1, C1', f1', rfl, hin, hf⟩; have hk := (Fr.refl w4).alloc (.cells #[.int .i64 y1.kd, .int .i64 y1.nm, .string ⟨y1.tx.toArray⟩, .slice C1 y1.ls.length f1, .slice C1' y1.ms.length f1'] 29); have hmk := (hm.trans hf).trans hk; have hbx := HBX.out (w4.alloc (.cells #[.int .i64 y1.kd, .int .i64 y1.nm, .string ⟨y1.tx.toArray⟩, .slice C1 y1.ls.length f1, .slice C1' y1.ms.length f1'] 29)) hmk; have kd0 : (w4.alloc (.cells #[.int .i64 y1.kd, .int .i64 y1.nm, .string ⟨y1.tx.toArray⟩, .slice C1 y1.ls.length f1, .slice C1' y1.ms.length f1'] 29)).cell? ⟨w.heap.size, 0, none⟩ = some ((.int .i64 v.kd)) := hbx.cell 0; have kd1 : (w4.alloc (.cells #[.int .i64 y1.kd, .int .i64 y1.nm, .string ⟨y1.tx.toArray⟩, .slice C1 y1.ls.length f1, .slice C1' y1.ms.length f1'] 29)).cell? ⟨w.heap.size, 1, none⟩ = some ((.int .i64 v.nm)) := hbx.cell 1; have kd2 : (w4.alloc (.cells #[.int .i64 y1.kd, .int .i64 y1.nm, .string ⟨y1.tx.toArray⟩, .slice C1 y1.ls.length f1, .slice C1' y1.ms.length f1'] 29)).cell? ⟨w.heap.size, 2, none⟩ = some ((.string ⟨v.tx.toArray⟩)) := hbx.cell 2; have kd3 : (w4.alloc (.cells #[.int .i64 y1.kd, .int .i64 y1.nm, .string ⟨y1.tx.toArray⟩, .slice C1 y1.ls.length f1, .slice C1' y1.ms.length f1'] 29)).cell? ⟨w.heap.size, 3, none⟩ = some ((.slice A v.ls.length c0)) := hbx.cell 3; have kd4 : (w4.alloc (.cells #[.int .i64 y1.kd, .int .i64 y1.nm, .string ⟨y1.tx.toArray⟩, .slice C1 y1.ls.length f1, .slice C1' y1.ms.length f1'] 29)).cell? ⟨w.heap.size, 4, none⟩ = some ((.slice A' v.ms.length c0')) := hbx.cell 4; clear hbx; have HF4 := Lib.hid hmk; have HG4 := Lib.hid ((hg.trans hf).trans hk); have HV4 := Lib.hid ((hin.keep (Nat.le_refl _) hk).lo hk.size); have HB4 := Lib.hid (Blk.made w4 #[.int .i64 y1.kd, .int .i64 y1.nm, .string ⟨y1.tx.toArray⟩, .slice C1 y1.ls.length f1, .slice C1' y1.ms.length f1'] 29); clear hf hm hg hin hk hmk)
          | (go_at_call 9; have hm := HF2.out; have hg := HG2.out; refine (HX.out _ hg).mono ?_; rintro e w3 ⟨rfl, hf⟩; have hbx := HBX.out w3 (hm.trans hf); have kc0 : w3.cell? ⟨w.heap.size, 0, none⟩ = some ((.int .i64 v.kd)) := hbx.cell 0; have kc1 : w3.cell? ⟨w.heap.size, 1, none⟩ = some ((.int .i64 v.nm)) := hbx.cell 1; have kc2 : w3.cell? ⟨w.heap.size, 2, none⟩ = some ((.string ⟨v.tx.toArray⟩)) := hbx.cell 2; have kc3 : w3.cell? ⟨w.heap.size, 3, none⟩ = some ((.slice A v.ls.length c0)) := hbx.cell 3; have kc4 : w3.cell? ⟨w.heap.size, 4, none⟩ = some ((.slice A' v.ms.length c0')) := hbx.cell 4; clear hbx; have HF3 := Lib.hid (hm.trans hf); have HG3 := Lib.hid (hg.trans hf); clear hf hm hg)
          | (go_at_call 13; have hm := HF1.out; have hg := HG1.out; refine (HC.out _ hg).mono ?_; rintro e w2 ⟨rfl, hf⟩; have hbx := HBX.out w2 (hm.trans hf); have kb0 : w2.cell? ⟨w.heap.size, 0, none⟩ = some ((.int .i64 v.kd)) := hbx.cell 0; have kb1 : w2.cell? ⟨w.heap.size, 1, none⟩ = some ((.int .i64 v.nm)) := hbx.cell 1; have kb2 : w2.cell? ⟨w.heap.size, 2, none⟩ = some ((.string ⟨v.tx.toArray⟩)) := hbx.cell 2; have kb3 : w2.cell? ⟨w.heap.size, 3, none⟩ = some ((.slice A v.ls.length c0)) := hbx.cell 3; have kb4 : w2.cell? ⟨w.heap.size, 4, none⟩ = some ((.slice A' v.ms.length c0')) := hbx.cell 4; clear hbx; have HF2 := Lib.hid (hm.trans hf); have HG2 := Lib.hid (hg.trans hf); clear hf hm hg)
          | (go_at_call 16; refine (awake08 _ (HT.out.keep HF0.out) (HM.out.keep HF0.out)).mono ?_; rintro e w1 ⟨rfl, hf⟩; have hbx := HBX.out w1 hf; have ka0 : w1.cell? ⟨w.heap.size, 0, none⟩ = some ((.int .i64 v.kd)) := hbx.cell 0; have ka1 : w1.cell? ⟨w.heap.size, 1, none⟩ = some ((.int .i64 v.nm)) := hbx.cell 1; have ka2 : w1.cell? ⟨w.heap.size, 2, none⟩ = some ((.string ⟨v.tx.toArray⟩)) := hbx.cell 2; have ka3 : w1.cell? ⟨w.heap.size, 3, none⟩ = some ((.slice A v.ls.length c0)) := hbx.cell 3; have ka4 : w1.cell? ⟨w.heap.size, 4, none⟩ = some ((.slice A' v.ms.length c0')) := hbx.cell 4; clear hbx; have HF1 := Lib.hid hf; have HG1 := Lib.hid (HF0.out.trans hf); clear hf))
        go_ret
        exact ⟨rfl, HG7.out⟩
      · have h42' := Lib.hid (decide_eq_false h42).symm
        have he := Pt.ans_same v h42
        rw [hy1, hy2] at he
        obtain ⟨rfl, rfl⟩ : y2 = y1 ∧ c2 = c1 := by simpa using he
        have hcc : (c2 == c2) = true := beq_self_eq_true _
        clear hv hbk hs hT hM hc hl hTT hnv hy1 hy2 h42 he
        go_enter Tryd.func6, Tryd.ntmps6
        go_wp2_with (first
          | (go_at_call 23; have hg := HG7.out; refine ((same_is y2 y2 _ _).call true (by simp) rfl rfl HV74.out HV75.out).mono ?_; rintro e w8 ⟨rfl, hf⟩; have HG8 := Lib.hid (hg.trans hf); clear hf hg)
          | (go_at_call 22; have hg := HG6.out; refine (HST.out false h42'.out _).mono ?_; rintro e w7 ⟨rfl, hf⟩; have hb1 := HB64.out.keep hf; obtain ⟨⟨p0, p1, p2, p3, p4⟩, _⟩ := box5 hb1; have hb2 := HB65.out.keep hf; obtain ⟨⟨q0, q1, q2, q3, q4⟩, _⟩ := box5 hb2; have HV74 := Lib.hid ((HV64.out.keep (Nat.le_refl _) hf).lo hf.size); have HV75 := Lib.hid ((HV65.out.keep (Nat.le_refl _) hf).lo hf.size); clear hb1 hb2; have HG7 := Lib.hid (hg.trans hf); clear hf hg)
          | (go_at_call 9; have hg := HG5.out; refine (HX.out _ hg).mono ?_; rintro e w6 ⟨rfl, hf⟩; have HB64 := Lib.hid (HB54.out.keep hf); have HB65 := Lib.hid (HB5.out.keep hf); have HV64 := Lib.hid ((HV54.out.keep (Nat.le_refl _) hf).lo hf.size); have HV65 := Lib.hid ((HV5.out.keep (Nat.le_refl _) hf).lo hf.size); have HG6 := Lib.hid (hg.trans hf); clear hf hg)
          | (go_at_call 21; have hm := HF4.out; have hg := HG4.out; refine (HD2.out _ hg).mono ?_; rintro e w5 ⟨C2, f2, C2', f2', rfl, hin, hf⟩; have hk := (Fr.refl w5).alloc (.cells #[.int .i64 y2.kd, .int .i64 y2.nm, .string ⟨y2.tx.toArray⟩, .slice C2 y2.ls.length f2, .slice C2' y2.ms.length f2'] 29); have hmk := (hm.trans hf).trans hk; have hbx := HBX.out (w5.alloc (.cells #[.int .i64 y2.kd, .int .i64 y2.nm, .string ⟨y2.tx.toArray⟩, .slice C2 y2.ls.length f2, .slice C2' y2.ms.length f2'] 29)) hmk; have ke0 : (w5.alloc (.cells #[.int .i64 y2.kd, .int .i64 y2.nm, .string ⟨y2.tx.toArray⟩, .slice C2 y2.ls.length f2, .slice C2' y2.ms.length f2'] 29)).cell? ⟨w.heap.size, 0, none⟩ = some ((.int .i64 v.kd)) := hbx.cell 0; have ke1 : (w5.alloc (.cells #[.int .i64 y2.kd, .int .i64 y2.nm, .string ⟨y2.tx.toArray⟩, .slice C2 y2.ls.length f2, .slice C2' y2.ms.length f2'] 29)).cell? ⟨w.heap.size, 1, none⟩ = some ((.int .i64 v.nm)) := hbx.cell 1; have ke2 : (w5.alloc (.cells #[.int .i64 y2.kd, .int .i64 y2.nm, .string ⟨y2.tx.toArray⟩, .slice C2 y2.ls.length f2, .slice C2' y2.ms.length f2'] 29)).cell? ⟨w.heap.size, 2, none⟩ = some ((.string ⟨v.tx.toArray⟩)) := hbx.cell 2; have ke3 : (w5.alloc (.cells #[.int .i64 y2.kd, .int .i64 y2.nm, .string ⟨y2.tx.toArray⟩, .slice C2 y2.ls.length f2, .slice C2' y2.ms.length f2'] 29)).cell? ⟨w.heap.size, 3, none⟩ = some ((.slice A v.ls.length c0)) := hbx.cell 3; have ke4 : (w5.alloc (.cells #[.int .i64 y2.kd, .int .i64 y2.nm, .string ⟨y2.tx.toArray⟩, .slice C2 y2.ls.length f2, .slice C2' y2.ms.length f2'] 29)).cell? ⟨w.heap.size, 4, none⟩ = some ((.slice A' v.ms.length c0')) := hbx.cell 4; clear hbx; have HF5 := Lib.hid hmk; have HG5 := Lib.hid ((hg.trans hf).trans hk); have HV5 := Lib.hid ((hin.keep (Nat.le_refl _) hk).lo hk.size); have HB5 := Lib.hid (Blk.made w5 #[.int .i64 y2.kd, .int .i64 y2.nm, .string ⟨y2.tx.toArray⟩, .slice C2 y2.ls.length f2, .slice C2' y2.ms.length f2'] 29); have hfk := hf.trans hk; have HB54 := Lib.hid (HB4.out.keep hfk); have HV54 := Lib.hid ((HV4.out.keep (Nat.le_refl _) hfk).lo hfk.size); clear hf hm hg hin hk hmk hfk)
          | (go_at_call 20; have hm := HF3.out; have hg := HG3.out; refine (HD1.out _ hg).mono ?_; rintro e w4 ⟨C1, f1, C1', f1', rfl, hin, hf⟩; have hk := (Fr.refl w4).alloc (.cells #[.int .i64 y2.kd, .int .i64 y2.nm, .string ⟨y2.tx.toArray⟩, .slice C1 y2.ls.length f1, .slice C1' y2.ms.length f1'] 29); have hmk := (hm.trans hf).trans hk; have hbx := HBX.out (w4.alloc (.cells #[.int .i64 y2.kd, .int .i64 y2.nm, .string ⟨y2.tx.toArray⟩, .slice C1 y2.ls.length f1, .slice C1' y2.ms.length f1'] 29)) hmk; have kd0 : (w4.alloc (.cells #[.int .i64 y2.kd, .int .i64 y2.nm, .string ⟨y2.tx.toArray⟩, .slice C1 y2.ls.length f1, .slice C1' y2.ms.length f1'] 29)).cell? ⟨w.heap.size, 0, none⟩ = some ((.int .i64 v.kd)) := hbx.cell 0; have kd1 : (w4.alloc (.cells #[.int .i64 y2.kd, .int .i64 y2.nm, .string ⟨y2.tx.toArray⟩, .slice C1 y2.ls.length f1, .slice C1' y2.ms.length f1'] 29)).cell? ⟨w.heap.size, 1, none⟩ = some ((.int .i64 v.nm)) := hbx.cell 1; have kd2 : (w4.alloc (.cells #[.int .i64 y2.kd, .int .i64 y2.nm, .string ⟨y2.tx.toArray⟩, .slice C1 y2.ls.length f1, .slice C1' y2.ms.length f1'] 29)).cell? ⟨w.heap.size, 2, none⟩ = some ((.string ⟨v.tx.toArray⟩)) := hbx.cell 2; have kd3 : (w4.alloc (.cells #[.int .i64 y2.kd, .int .i64 y2.nm, .string ⟨y2.tx.toArray⟩, .slice C1 y2.ls.length f1, .slice C1' y2.ms.length f1'] 29)).cell? ⟨w.heap.size, 3, none⟩ = some ((.slice A v.ls.length c0)) := hbx.cell 3; have kd4 : (w4.alloc (.cells #[.int .i64 y2.kd, .int .i64 y2.nm, .string ⟨y2.tx.toArray⟩, .slice C1 y2.ls.length f1, .slice C1' y2.ms.length f1'] 29)).cell? ⟨w.heap.size, 4, none⟩ = some ((.slice A' v.ms.length c0')) := hbx.cell 4; clear hbx; have HF4 := Lib.hid hmk; have HG4 := Lib.hid ((hg.trans hf).trans hk); have HV4 := Lib.hid ((hin.keep (Nat.le_refl _) hk).lo hk.size); have HB4 := Lib.hid (Blk.made w4 #[.int .i64 y2.kd, .int .i64 y2.nm, .string ⟨y2.tx.toArray⟩, .slice C1 y2.ls.length f1, .slice C1' y2.ms.length f1'] 29); clear hf hm hg hin hk hmk)
          | (go_at_call 9; have hm := HF2.out; have hg := HG2.out; refine (HX.out _ hg).mono ?_; rintro e w3 ⟨rfl, hf⟩; have hbx := HBX.out w3 (hm.trans hf); have kc0 : w3.cell? ⟨w.heap.size, 0, none⟩ = some ((.int .i64 v.kd)) := hbx.cell 0; have kc1 : w3.cell? ⟨w.heap.size, 1, none⟩ = some ((.int .i64 v.nm)) := hbx.cell 1; have kc2 : w3.cell? ⟨w.heap.size, 2, none⟩ = some ((.string ⟨v.tx.toArray⟩)) := hbx.cell 2; have kc3 : w3.cell? ⟨w.heap.size, 3, none⟩ = some ((.slice A v.ls.length c0)) := hbx.cell 3; have kc4 : w3.cell? ⟨w.heap.size, 4, none⟩ = some ((.slice A' v.ms.length c0')) := hbx.cell 4; clear hbx; have HF3 := Lib.hid (hm.trans hf); have HG3 := Lib.hid (hg.trans hf); clear hf hm hg)
          | (go_at_call 13; have hm := HF1.out; have hg := HG1.out; refine (HC.out _ hg).mono ?_; rintro e w2 ⟨rfl, hf⟩; have hbx := HBX.out w2 (hm.trans hf); have kb0 : w2.cell? ⟨w.heap.size, 0, none⟩ = some ((.int .i64 v.kd)) := hbx.cell 0; have kb1 : w2.cell? ⟨w.heap.size, 1, none⟩ = some ((.int .i64 v.nm)) := hbx.cell 1; have kb2 : w2.cell? ⟨w.heap.size, 2, none⟩ = some ((.string ⟨v.tx.toArray⟩)) := hbx.cell 2; have kb3 : w2.cell? ⟨w.heap.size, 3, none⟩ = some ((.slice A v.ls.length c0)) := hbx.cell 3; have kb4 : w2.cell? ⟨w.heap.size, 4, none⟩ = some ((.slice A' v.ms.length c0')) := hbx.cell 4; clear hbx; have HF2 := Lib.hid (hm.trans hf); have HG2 := Lib.hid (hg.trans hf); clear hf hm hg)
          | (go_at_call 16; refine (awake08 _ (HT.out.keep HF0.out) (HM.out.keep HF0.out)).mono ?_; rintro e w1 ⟨rfl, hf⟩; have hbx := HBX.out w1 hf; have ka0 : w1.cell? ⟨w.heap.size, 0, none⟩ = some ((.int .i64 v.kd)) := hbx.cell 0; have ka1 : w1.cell? ⟨w.heap.size, 1, none⟩ = some ((.int .i64 v.nm)) := hbx.cell 1; have ka2 : w1.cell? ⟨w.heap.size, 2, none⟩ = some ((.string ⟨v.tx.toArray⟩)) := hbx.cell 2; have ka3 : w1.cell? ⟨w.heap.size, 3, none⟩ = some ((.slice A v.ls.length c0)) := hbx.cell 3; have ka4 : w1.cell? ⟨w.heap.size, 4, none⟩ = some ((.slice A' v.ms.length c0')) := hbx.cell 4; clear hbx; have HF1 := Lib.hid hf; have HG1 := Lib.hid (HF0.out.trans hf); clear hf))
        go_ret
        exact ⟨rfl, HG8.out⟩
    · have h2 : (s.size : Int) > 200 := by omega
      have h3 : decide ((200 : Int) < (s.size : Int)) = true := decide_eq_true (by omega)
      clear hv hbk hs hT hM hc
      go_enter Tryd.func6, Tryd.ntmps6
      go_wp2_with (first
        | (go_at_call 16; have hg := HG2.out; refine (awake08 _ (HT.out.keep hg) (HM.out.keep hg)).mono ?_; rintro e w3 ⟨rfl, hf⟩; have HG3 := Lib.hid (hg.trans hf); clear hf hg)
        | (go_at_call 13; have hm := HF1.out; have hg := HG1.out; refine (HC.out _ hg).mono ?_; rintro e w2 ⟨rfl, hf⟩; have hbx := HBX.out w2 (hm.trans hf); have kb0 : w2.cell? ⟨w.heap.size, 0, none⟩ = some ((.int .i64 v.kd)) := hbx.cell 0; have kb1 : w2.cell? ⟨w.heap.size, 1, none⟩ = some ((.int .i64 v.nm)) := hbx.cell 1; have kb2 : w2.cell? ⟨w.heap.size, 2, none⟩ = some ((.string ⟨v.tx.toArray⟩)) := hbx.cell 2; have kb3 : w2.cell? ⟨w.heap.size, 3, none⟩ = some ((.slice A v.ls.length c0)) := hbx.cell 3; have kb4 : w2.cell? ⟨w.heap.size, 4, none⟩ = some ((.slice A' v.ms.length c0')) := hbx.cell 4; clear hbx; have HF2 := Lib.hid (hm.trans hf); have HG2 := Lib.hid (hg.trans hf); clear hf hm hg)
        | (go_at_call 16; refine (awake08 _ (HT.out.keep HF0.out) (HM.out.keep HF0.out)).mono ?_; rintro e w1 ⟨rfl, hf⟩; have hbx := HBX.out w1 hf; have ka0 : w1.cell? ⟨w.heap.size, 0, none⟩ = some ((.int .i64 v.kd)) := hbx.cell 0; have ka1 : w1.cell? ⟨w.heap.size, 1, none⟩ = some ((.int .i64 v.nm)) := hbx.cell 1; have ka2 : w1.cell? ⟨w.heap.size, 2, none⟩ = some ((.string ⟨v.tx.toArray⟩)) := hbx.cell 2; have ka3 : w1.cell? ⟨w.heap.size, 3, none⟩ = some ((.slice A v.ls.length c0)) := hbx.cell 3; have ka4 : w1.cell? ⟨w.heap.size, 4, none⟩ = some ((.slice A' v.ms.length c0')) := hbx.cell 4; clear hbx; have HF1 := Lib.hid hf; have HG1 := Lib.hid (HF0.out.trans hf); clear hf))
      go_ret
      exact ⟨rfl, HG3.out⟩
  · have hne : ((c : Int) != 0) = true := by rw [bne_iff_ne]; omega
    clear hv hbk hs hT hM hc
    go_enter Tryd.func6, Tryd.ntmps6
    go_wp2_with (first
      | (go_at_call 16; have hg := HG2.out; refine (awake08 _ (HT.out.keep hg) (HM.out.keep hg)).mono ?_; rintro e w3 ⟨rfl, hf⟩; have HG3 := Lib.hid (hg.trans hf); clear hf hg)
      | (go_at_call 13; have hm := HF1.out; have hg := HG1.out; refine (HC.out _ hg).mono ?_; rintro e w2 ⟨rfl, hf⟩; have hbx := HBX.out w2 (hm.trans hf); have kb0 : w2.cell? ⟨w.heap.size, 0, none⟩ = some ((.int .i64 v.kd)) := hbx.cell 0; have kb1 : w2.cell? ⟨w.heap.size, 1, none⟩ = some ((.int .i64 v.nm)) := hbx.cell 1; have kb2 : w2.cell? ⟨w.heap.size, 2, none⟩ = some ((.string ⟨v.tx.toArray⟩)) := hbx.cell 2; have kb3 : w2.cell? ⟨w.heap.size, 3, none⟩ = some ((.slice A v.ls.length c0)) := hbx.cell 3; have kb4 : w2.cell? ⟨w.heap.size, 4, none⟩ = some ((.slice A' v.ms.length c0')) := hbx.cell 4; clear hbx; have HF2 := Lib.hid (hm.trans hf); have HG2 := Lib.hid (hg.trans hf); clear hf hm hg)
      | (go_at_call 16; refine (awake08 _ (HT.out.keep HF0.out) (HM.out.keep HF0.out)).mono ?_; rintro e w1 ⟨rfl, hf⟩; have hbx := HBX.out w1 hf; have ka0 : w1.cell? ⟨w.heap.size, 0, none⟩ = some ((.int .i64 v.kd)) := hbx.cell 0; have ka1 : w1.cell? ⟨w.heap.size, 1, none⟩ = some ((.int .i64 v.nm)) := hbx.cell 1; have ka2 : w1.cell? ⟨w.heap.size, 2, none⟩ = some ((.string ⟨v.tx.toArray⟩)) := hbx.cell 2; have ka3 : w1.cell? ⟨w.heap.size, 3, none⟩ = some ((.slice A v.ls.length c0)) := hbx.cell 3; have ka4 : w1.cell? ⟨w.heap.size, 4, none⟩ = some ((.slice A' v.ms.length c0')) := hbx.cell 4; clear hbx; have HF1 := Lib.hid hf; have HG1 := Lib.hid (HF0.out.trans hf); clear hf))
    go_ret
    exact ⟨rfl, HG3.out⟩
end Go.Proofs.YtfjcgbbphkfkgaaDoor
