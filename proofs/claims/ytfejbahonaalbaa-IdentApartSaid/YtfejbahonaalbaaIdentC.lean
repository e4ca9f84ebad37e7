/- Walks of the two Makes. -/
import Derived.Test.YtfejbahonaalbaaIdentB
namespace Go.Proofs.Ytfejbahonaalbaa
set_option linter.unusedVariables false
set_option linter.unusedSimpArgs false
open Go.RowKit

def idCells (L : UInt8) (m : Nat) (t : List UInt8) : Array Value := ((L :: (List.replicate m 0 ++ t)).map (fun c : UInt8 => Value.int .u8 c.toNat)).toArray
theorem idCells_zero : idCells 0 11 [] = #[.int .u8 0, .int .u8 0, .int .u8 0, .int .u8 0, .int .u8 0, .int .u8 0, .int .u8 0, .int .u8 0, .int .u8 0, .int .u8 0, .int .u8 0, .int .u8 0] := by rfl
theorem idCells_get (L : UInt8) (m : Nat) (t : List UInt8) : (idCells L (m + 1) t)[m + 1]? = some (.int .u8 0) := by
  simp [idCells, List.getElem?_append, List.getElem?_replicate]
theorem idCells_set (L : UInt8) (m : Nat) (t : List UInt8) (c : UInt8) : (idCells L (m + 1) t).setIfInBounds (m + 1) (.int .u8 c.toNat) = idCells L m (c :: t) := by
  simp [idCells, List.set_append, List.replicate_succ', List.set_append_right]

theorem i64_and31 (r : Nat) (h : r < 9223372036854775808) : bits BinOp.and IntKind.i64 (r : Int) 31 = ((r % 32 : Nat) : Int) := by
  have h31 : (BitVec.ofInt 64 31).toNat = 2 ^ 5 - 1 := by decide
  have key : (BitVec.ofInt 64 (r : Int) &&& BitVec.ofInt 64 31).toNat = ((r : Int) % ((2 ^ 64 : Nat) : Int)).toNat % 2 ^ 5 := by
    rw [BitVec.toNat_and, BitVec.toNat_ofInt, h31, Nat.and_two_pow_sub_one_eq_mod]
  show IntKind.i64.wrap ((BitVec.ofInt 64 (r : Int) &&& BitVec.ofInt 64 31).toNat : Nat) = ((r % 32 : Nat) : Int)
  rw [key, IntKind.wrap_i64]
  omega

theorem digits_at : ∀ j : Nat, (h : j < 32) → (⟨#[48, 49, 50, 51, 52, 53, 54, 55, 56, 57, 97, 98, 99, 100, 101, 102, 103, 104, 105, 106, 107, 108, 109, 110, 111, 112, 113, 114, 115, 116, 117, 118]⟩ : ByteArray)[j]'h = Idn.d32 j := by
  have h : ∀ j : Fin 32, (⟨#[48, 49, 50, 51, 52, 53, 54, 55, 56, 57, 97, 98, 99, 100, 101, 102, 103, 104, 105, 106, 107, 108, 109, 110, 111, 112, 113, 114, 115, 116, 117, 118]⟩ : ByteArray)[j.val]'j.isLt = Idn.d32 j.val := by decide +kernel
  intro j hj
  exact h ⟨j, hj⟩

set_option maxHeartbeats 400000 in
theorem make_no (kind n : Int) (w : World) (h : Idn.may kind n = false) :
    Calls Try.prog 9 #[.int .i64 kind, .int .i64 n] w fun e w' => e = .returned (.string ⟨(Idn.makeId kind n).toArray⟩) ∧ Fr w w' := by
  have hm : Hid (Idn.makeId kind n = []) := by show _ = _; unfold Idn.makeId; rw [h]; rfl
  have H := Lib.hid h
  clear h
  go_enter Try.func9, Try.ntmps9
  go_wp2_with (go_at_call 19; refine (may_is kind n false _ H.out).mono ?_; rintro e w' ⟨rfl, rfl⟩)
  go_ret
  exact ⟨by rw [hm.out]; rfl, Fr.refl _⟩

set_option maxHeartbeats 400000 in
theorem make_yes (kind n : Int) (w : World) (h : Idn.may kind n = true) :
    Calls Try.prog 9 #[.int .i64 kind, .int .i64 n] w fun e w' => e = .returned (.string ⟨(Idn.makeId kind n).toArray⟩) ∧ Fr w w' := by
  have hm : Hid (Idn.makeId kind n = Idn.letter kind :: Idn.dig 11 n.toNat) := by show _ = _; unfold Idn.makeId; rw [h]; rfl
  obtain ⟨hk, hn0, hn1⟩ := Idn.may_true h
  obtain ⟨x, hx⟩ : ∃ x : UInt8, Idn.letter kind = x := ⟨_, rfl⟩
  have hxl : Hid (lett kind = (x.toNat : Int)) := by
    show _ = _
    rcases hk with rfl | rfl <;> (rw [← hx]; rfl)
  obtain ⟨y, hy⟩ : ∃ y, smal kind = y := ⟨_, rfl⟩
  have HY := Lib.hid hy
  have HX := Lib.hid hx
  have H := Lib.hid h
  clear h hx hy hk
  obtain ⟨m, rfl⟩ : ∃ m : Nat, n = m := ⟨n.toNat, by omega⟩
  have hz := idCells_zero.symm
  have hs0 : (idCells 0 11 []).setIfInBounds 0 (.int .u8 x.toNat) = idCells x 11 [] := by simp [idCells]
  have hc0 : (idCells 0 11 [])[0]? = some (.int .u8 0) := by rfl
  go_enter Try.func9, Try.ntmps9
  go_wp2_with (first | (go_at_call 19; refine (may_is kind m true _ H.out).mono ?_; rintro e w' ⟨rfl, rfl⟩) | (go_at_call 20; refine (letter_is kind (x.toNat : Int) y _ hxl.out HY.out).mono ?_; rintro e w' ⟨rfl, rfl⟩))
  go_loopw [1, 6] (fun v i wr => ∃ (j r : Nat) (t : List UInt8), i = .int .i64 j ∧ v = .int .i64 r ∧ j ≤ 11 ∧ r ≤ 9007199254740991 ∧ wr = w.alloc (.cells (idCells x j t) 35) ∧ Hid (t.length + j = 11) ∧ Hid (Idn.dig 11 m = Idn.dig j r ++ t)) (fun _ i _ => (intOf i).toNat)
  case atStart => exact ⟨11, m, [], rfl, rfl, by omega, by omega, rfl, rfl, by show _ = _; rw [List.append_nil]⟩
  case round =>
    obtain ⟨j, r, t, rfl, rfl, hj, hr, rfl, hlen, hd⟩ := hrel
    by_cases h0 : 0 < j
    · obtain ⟨j, rfl⟩ : ∃ i, j = i + 1 := ⟨j - 1, by omega⟩
      have hc := idCells_get x j t
      have hand := i64_and31 r (by omega)
      have hdig := digits_at (r % 32) (by omega)
      have hset := idCells_set x j t (Idn.d32 (r % 32))
      have hlt : r % 32 < 32 := by omega
      have hj32 : j < 11 := by omega
      clear hs0 hc0 hz
      go_wp2_with fail
      refine ⟨⟨j, r / 32, Idn.d32 (r % 32) :: t, rfl, by go_num, by omega, by omega, rfl, ?_, ?_⟩, by simp [intOf]⟩
      · have := hlen.out; show _ = _; simp; omega
      · show _ = _
        rw [hd.out, Idn.dig]; simp
    · obtain rfl : j = 0 := by omega
      have hfin : Hid (Idn.dig 11 m = t) := by show _ = _; rw [hd.out]; rfl
      have htl : Hid (t.length = 11) := hlen.out
      clear hs0 hc0 hz h0
      have hcv : (convert 39 9 (.slice (some ⟨w.heap.size, 0, none⟩) 12 12)).run Try.prog (w.alloc (.cells (idCells x 0 t) 35)) = .ok (.string ⟨(x :: t).toArray⟩) (w.alloc (.cells (idCells x 0 t) 35)) := by
        have h := run_convert_row (P := Try.prog) (w.alloc (.cells (idCells x 0 t) 35)) 39 9 5 w.heap.size 0 12 (x :: t) Try.underlying39 Try.underlying5 Try.underlying9 (by
          intro k hk
          rw [World.cell?_alloc_new]
          simp only [idCells, List.replicate_zero, List.nil_append, Nat.zero_add, List.getElem?_toArray, List.getElem?_map, List.getElem?_eq_getElem hk, List.getD, Option.map_some, Option.getD_some])
        rw [show (x :: t).length = 12 by simp [htl.out]] at h
        exact h
      go_wp2_with fail
      go_ret
      exact ⟨ret_bs (by rw [hm.out, HX.out, ← hfin.out]; simp), (Fr.refl w).alloc _⟩

end Go.Proofs.Ytfejbahonaalbaa
