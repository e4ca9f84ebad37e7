/- The walk of ident.Number. -/
import Derived.Test.YtfejbahonaalbaaIdentE
import Derived.Test.YtfejbahonaalbaaShelf
namespace Go.Proofs.Ytfejbahonaalbaa
set_option linter.unusedVariables false
set_option linter.unusedSimpArgs false
open Go.RowKit

theorem indexByte_v32 (c : UInt8) : Lib.indexByte [48, 49, 50, 51, 52, 53, 54, 55, 56, 57, 97, 98, 99, 100, 101, 102, 103, 104, 105, 106, 107, 108, 109, 110, 111, 112, 113, 114, 115, 116, 117, 118] c = match Idn.v32 c with | some d => (d : Int) | none => -1 := by
  have h : ∀ n : Fin 256, Lib.indexByte [48, 49, 50, 51, 52, 53, 54, 55, 56, 57, 97, 98, 99, 100, 101, 102, 103, 104, 105, 106, 107, 108, 109, 110, 111, 112, 113, 114, 115, 116, 117, 118] (UInt8.ofNat n) = match Idn.v32 (UInt8.ofNat n) with | some d => (d : Int) | none => -1 := by decide +kernel
  have h1 := h ⟨c.toNat, c.toNat_lt⟩
  simpa using h1

/-- strings.IndexByte in the digits. -/
theorem index_is (c : UInt8) (r : Int) (w : World) (h : (match Idn.v32 c with | some d => (d : Int) | none => -1) = r) :
    Calls Try.prog 26 #[.string ⟨#[48, 49, 50, 51, 52, 53, 54, 55, 56, 57, 97, 98, 99, 100, 101, 102, 103, 104, 105, 106, 107, 108, 109, 110, 111, 112, 113, 114, 115, 116, 117, 118]⟩, .int .u8 c.toNat] w fun e w' => e = .returned (.int .i64 r) ∧ w = w' := by
  refine (Try.strings_IndexByte _ _ w).mono ?_
  rintro e w' ⟨rfl, rfl⟩
  refine ⟨ret_int ?_, rfl⟩
  rw [← h, ← indexByte_v32]
  congr 1
  simp

/-- A kind and a number, and whether there are. -/
def numV3 (x : Option (Int × Int)) : Value := match x with | some (k, n) => .tuple #[.int .i64 k, .int .i64 n, .bool true] | none => .tuple #[.int .i64 0, .int .i64 0, .bool false]

theorem shl_or (n d : Nat) (hn : n < 1125899906842624) (hd : d < 32) : bits BinOp.or IntKind.i64 ((n : Int) * 32) (d : Int) = ((n * 32 + d : Nat) : Int) := by
  have h := bits_join .i64 63 (by decide) (fun x h0 h1 => by rw [IntKind.wrap_i64]; omega) 5 ((n : Int) * 32) (d : Int) (by omega) (by omega) (by omega) (by omega) (by omega) (by omega)
  rw [h]; omega

set_option maxHeartbeats 1000000 in
theorem number_any (s : ByteArray) (w : World) (hs : s.size ≤ maxLen) :
    Calls Try.prog 15 #[.string s] w fun e w' => e = .returned (numV3 (Idn.numberOf s.data.toList)) ∧ Fr w w' := by
  unfold maxLen at hs
  by_cases h12 : s.size = 12
  · have hl12 : ((s.size : Int) != 12) = false := by rw [bne_eq_false_iff_eq]; omega
    have hlen : 12 ≤ s.size := by omega
    have hlen2 : s.size ≤ 12 := by omega
    have H12 := Lib.hid h12
    clear h12
    go_enter Try.func15, Try.ntmps15
    go_wp2_with fail
    go_loop [5, 6] (fun v i => ∃ (j n : Nat), i = .int .i64 j ∧ v = .int .i64 n ∧ 1 ≤ j ∧ j ≤ 12 ∧ n ≤ 36028797018963967 ∧ Hid (n < 32 ^ (j - 1)) ∧ Hid (Idn.valD 0 (s.data.toList.drop 1) = Idn.valD n (s.data.toList.drop j))) (fun _ i => 12 - (intOf i).toNat)
    case atStart => exact ⟨1, 0, rfl, rfl, by omega, by omega, by omega, by show _ < _; decide, rfl⟩
    case round =>
      obtain ⟨j, n, rfl, rfl, hj1, hj, hn, hpw, hv⟩ := hrel
      by_cases h0 : j ≤ 11
      · obtain ⟨c, hc⟩ : ∃ c, s[j] = c := ⟨_, rfl⟩
        have hvj : Hid (Idn.valD 0 (s.data.toList.drop 1) = match Idn.v32 c with | none => none | some d => Idn.valD (n * 32 + d) (s.data.toList.drop (j + 1))) := by
          show _ = _
          rw [hv.out, Nm.drop_cons _ j (by simp; omega), Idn.valD, ← hc]; rfl
        cases hd : Idn.v32 c with
        | none =>
          have HD := Lib.hid hd
          clear hd
          have hr : Hid (Idn.numberOf s.data.toList = none) := Idn.numberOf_bad (by rw [hvj.out, HD.out])
          go_wp2_with (go_at_call 26; refine (index_is c (-1) _ (by rw [HD.out])).mono ?_; rintro e w1 ⟨rfl, rfl⟩)
          go_ret3
          exact ⟨by rw [hr.out]; rfl, Fr.refl _⟩
        | some d =>
          have HD := Lib.hid hd
          clear hd
          have hd32 : d < 32 := (Idn.v32_lt HD.out).1
          have hnb : n < 1125899906842624 := by
            have h1 := hpw.out
            have h2 : 32 ^ (j - 1) ≤ 32 ^ 10 := Nat.pow_le_pow_right (by omega) (by omega)
            omega
          have hor := shl_or n d hnb hd32
          have hnv : Hid (Idn.valD 0 (s.data.toList.drop 1) = Idn.valD (n * 32 + d) (s.data.toList.drop (j + 1))) := by show _ = _; rw [hvj.out, HD.out]
          go_wp2_with (go_at_call 26; refine (index_is c (d : Int) _ (by rw [HD.out])).mono ?_; rintro e w1 ⟨rfl, rfl⟩)
          refine ⟨⟨j + 1, n * 32 + d, by go_num, rfl, by omega, by omega, by omega, ?_, hnv⟩, by simp [intOf]; omega⟩
          show _ < _
          have h1 := hpw.out
          rw [show j + 1 - 1 = (j - 1) + 1 by omega, Nat.pow_succ]; omega
      · obtain rfl : j = 12 := by omega
        have hv2 : Hid (Idn.valD 0 (s.data.toList.drop 1) = some n) := by show _ = _; rw [hv.out, List.drop_of_length_le (by have h := H12.out; rw [show s.data.toList.length = s.size by simp, h]; exact Nat.le_refl _)]; rfl
        have hne : s.data.toList ≠ [] := fun h => by have h1 := congrArg List.length h; have h2 := H12.out; rw [show s.data.toList.length = s.size by simp, h2] at h1; cases h1
        have n1 : Hid (Idn.makeId 1 (n : Int) = s.data.toList → Idn.numberOf s.data.toList = some (1, (n : Int))) := fun h => Idn.make_eq h hne
        have n2 : Hid (Idn.makeId 2 (n : Int) = s.data.toList → Idn.numberOf s.data.toList = some (2, (n : Int))) := fun h => Idn.make_eq h hne
        have hcs := Idn.numberOf_at hv2.out
        have hstl : s.toList = s.data.toList := ByteArray.toList_eq s
        have make_ : ∀ (b : Bool), True := fun _ => trivial
        clear make_ hne
        rcases hcs with hr | hr | hr
        · have E1 : (Idn.makeId 1 (n : Int) == s.toList) = false := by rw [hstl, beq_eq_false_iff_ne]; intro h; rw [n1.out h] at hr; cases hr
          have E2 : (Idn.makeId 2 (n : Int) == s.toList) = false := by rw [hstl, beq_eq_false_iff_ne]; intro h; rw [n2.out h] at hr; cases hr
          have HR := Lib.hid hr
          clear hr hstl
          go_wp2_with fail
          refine wp_loop_rounds 3 ?_
          rw [rounds_succ]
          go_wp2_with fail
          refine (make_any 1 n _).mono ?_
          rintro e w1 ⟨rfl, hw1⟩
          have hc1 := hw1.cells
          go_wp2_with fail
          rw [rounds_succ]
          go_wp2_with fail
          refine (make_any 2 n _).mono ?_
          rintro e w2 ⟨rfl, hw2⟩
          go_wp2_with fail
          rw [rounds_succ]
          go_wp2_with fail
          go_ret3
          exact ⟨by rw [HR.out]; rfl, ((Fr.refl w).alloc _).trans (hw1.trans hw2)⟩
        · have E1 : (Idn.makeId 1 (n : Int) == s.toList) = true := by rw [hstl, beq_iff_eq]; exact (Idn.make_numberOf hr).1
          have HR := Lib.hid hr
          clear hr hstl
          go_wp2_with fail
          refine wp_loop_rounds 3 ?_
          rw [rounds_succ]
          go_wp2_with fail
          refine (make_any 1 n _).mono ?_
          rintro e w1 ⟨rfl, hw1⟩
          go_wp2_with fail
          go_ret3
          exact ⟨by rw [HR.out]; rfl, ((Fr.refl w).alloc _).trans hw1⟩
        · have E1 : (Idn.makeId 1 (n : Int) == s.toList) = false := by rw [hstl, beq_eq_false_iff_ne]; intro h; rw [n1.out h] at hr; cases hr
          have E2 : (Idn.makeId 2 (n : Int) == s.toList) = true := by rw [hstl, beq_iff_eq]; exact (Idn.make_numberOf hr).1
          have HR := Lib.hid hr
          clear hr hstl
          go_wp2_with fail
          refine wp_loop_rounds 3 ?_
          rw [rounds_succ]
          go_wp2_with fail
          refine (make_any 1 n _).mono ?_
          rintro e w1 ⟨rfl, hw1⟩
          have hc1 := hw1.cells
          go_wp2_with fail
          rw [rounds_succ]
          go_wp2_with fail
          refine (make_any 2 n _).mono ?_
          rintro e w2 ⟨rfl, hw2⟩
          go_wp2_with fail
          go_ret3
          exact ⟨by rw [HR.out]; rfl, ((Fr.refl w).alloc _).trans (hw1.trans hw2)⟩
  · have hl12 : ((s.size : Int) != 12) = true := by rw [bne_iff_ne]; omega
    have hr : Hid (Idn.numberOf s.data.toList = none) := Idn.numberOf_len (by simpa using h12)
    clear h12
    go_enter Try.func15, Try.ntmps15
    go_wp2_with fail
    go_ret3
    exact ⟨by rw [hr.out]; rfl, Fr.refl _⟩

end Go.Proofs.Ytfejbahonaalbaa
