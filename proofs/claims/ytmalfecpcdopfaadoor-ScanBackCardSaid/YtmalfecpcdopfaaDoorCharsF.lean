/- The walk of chars.Read. -/
import Derived.Test.YtmalfecpcdopfaaDoorCharsE
import Derived.Test.YtmalfecpcdopfaaDoorCharsV
namespace Go.Proofs.YtmalfecpcdopfaaDoor
set_option linter.unusedVariables false
set_option linter.unusedSimpArgs false
open Go.RowKit

theorem escaped_none (s : ByteArray) (k : Nat) (w : World) (hs : s.size ≤ 9223372036854770000) (hk : k < s.size) (hT : LowTabs w) (h : Chr.escd (s.data.toList.drop k) = none) :
    Calls Tryd.prog 34 #[.string s, .int .i64 k] w fun e w' => e = .returned (.tuple #[.string ⟨#[]⟩, .int .i64 0]) ∧ Fr w w' := escaped_is s k none w hs hk hT h
theorem escaped_some (s : ByteArray) (k p n : Nat) (w : World) (hs : s.size ≤ 9223372036854770000) (hk : k < s.size) (hT : LowTabs w) (h : Chr.escd (s.data.toList.drop k) = some (p, n)) :
    Calls Tryd.prog 34 #[.string s, .int .i64 k] w fun e w' => e = .returned (.tuple #[.string ⟨(Utf.bytes p).toArray⟩, .int .i64 n]) ∧ Fr w w' := escaped_is s k (some (p, n)) w hs hk hT h

set_option maxHeartbeats 1000000 in
set_option maxRecDepth 100000 in
theorem cread_out (s : ByteArray) (a : Int) (w : World) (hs : s.size ≤ maxLen) (h1 : -9223372036854775808 ≤ a) (h2 : a ≤ 9223372036854775807) (h : a < 0 ∨ (s.size : Int) ≤ a) :
    Calls Tryd.prog 22 #[.string s, .int .i64 a] w fun e w' => e = .returned (readV (Chr.read s.data.toList a)) ∧ w = w' := by
  have hr := Lib.hid (Chr.read_out (l := s.data.toList) (a := a) (by
    rcases h with h | h
    · exact .inl h
    · exact .inr (.inl (by simpa using h))))
  unfold maxLen at hs
  by_cases hn : a < 0
  · have d1 : decide (a < 0) = true := decide_eq_true hn
    go_enter Tryd.func22, Tryd.ntmps22
    go_wp2_with fail
    go_ret3
    exact ⟨by rw [hr.out]; rfl, rfl⟩
  · have hn2 : (s.size : Int) ≤ a := by omega
    have d1 : decide (a < 0) = false := decide_eq_false hn
    have d2 : decide ((s.size : Int) ≤ a) = true := decide_eq_true hn2
    clear h
    go_enter Tryd.func22, Tryd.ntmps22
    go_wp2_with fail
    go_ret3
    exact ⟨by rw [hr.out]; rfl, rfl⟩

set_option maxHeartbeats 1000000 in
set_option maxRecDepth 100000 in
theorem cread_not (s : ByteArray) (k : Nat) (w : World) (hs : s.size ≤ maxLen) (hk : k < s.size) (hc : s[k] ≠ 34) :
    Calls Tryd.prog 22 #[.string s, .int .i64 k] w fun e w' => e = .returned (readV (Chr.read s.data.toList k)) ∧ w = w' := by
  have hr := Lib.hid (Chr.read_out (l := s.data.toList) (a := (k : Int)) (.inr (.inr (by rw [Int.toNat_natCast, getD_at hk]; exact hc))))
  unfold maxLen at hs
  obtain ⟨c, hcc⟩ : ∃ c, s[k] = c := ⟨_, rfl⟩
  rw [hcc] at hc
  have d1 : decide ((k : Int) < 0) = false := decide_eq_false (by omega)
  have d2 : decide ((s.size : Int) ≤ (k : Int)) = false := decide_eq_false (by omega)
  have e1 : ((c.toNat : Int) != 34) = true := u8bne (d := 34) (by omega) hc
  clear hc
  go_enter Tryd.func22, Tryd.ntmps22
  go_wp2_with fail
  go_ret3
  exact ⟨by rw [hr.out]; rfl, rfl⟩

set_option maxHeartbeats 4000000 in
set_option maxRecDepth 100000 in
theorem cread_in (s : ByteArray) (k : Nat) (w : World) (hs : s.size ≤ 140737488355328) (hk : k < s.size) (hc : s[k] = 34) (hT : LowTabs w) :
    Calls Tryd.prog 22 #[.string s, .int .i64 k] w fun e w' => e = .returned (readV (Chr.read s.data.toList k)) ∧ Fr w w' := by
  have hsm : Hid (s.size ≤ maxLen) := by show _ ≤ _; unfold maxLen; omega
  have hsn : Hid (s.size ≤ 9223372036854770000) := by show _ ≤ _; omega
  have h34 : Hid (s.data.toList.getD k 0 = 34) := by show _ = _; rw [getD_at hk, hc]
  have HT := Lib.hid hT
  clear hT
  have d1 : decide ((k : Int) < 0) = false := decide_eq_false (by omega)
  have d2 : decide ((s.size : Int) ≤ (k : Int)) = false := decide_eq_false (by omega)
  have d2n : decide (s.size ≤ k) = false := decide_eq_false (by omega)
  go_enter Tryd.func22, Tryd.ntmps22
  go_wp2_with fail
  go_loopw [7, 8] (fun v j wr => ∃ (i : Nat) (ps : List Nat), j = .int .i64 i ∧ Hid (RdInv s k i ps) ∧ Hid (Bs wr w.heap.size v (ps.flatMap Utf.bytes)) ∧ Hid (Fr w wr)) (fun _ j _ => s.size - (intOf j).toNat)
  case atStart => exact ⟨k + 1, [], by go_num, Lib.hid (RdInv.start hk), Lib.hid (Bs.none_ _ _), Lib.hid (Fr.refl _)⟩
  case round =>
    obtain ⟨i, ps, rfl, hi, hbs, hfr⟩ := hrel
    have hlo := hi.out.lo
    have hhi := hi.out.hi
    by_cases hlt : i < s.size
    · obtain ⟨c, hcc⟩ : ∃ c, s[i] = c := ⟨_, rfl⟩
      have hc256 := c.toNat_lt
      by_cases q34 : c = 34
      · subst q34
        have hr := Lib.hid (hi.out.fin hk h34.out (tok_fin_at hlt hcc))
        have hcv := hbs.out.conv
        clear hi
        go_wp2_with fail
        go_ret3
        exact ⟨by rw [hr.out]; rfl, hfr.out⟩
      have e34 : ((c.toNat : Int) == 34) = false := u8neq (d := 34) (by omega) q34
      by_cases q32 : c.toNat < 32
      · have hr := Lib.hid (hi.out.bad hk h34.out (tok_low_at hlt hcc q34 q32))
        have d32 : decide ((c.toNat : Int) < 32) = true := decide_eq_true (by omega)
        clear hi q34
        go_wp2_with fail
        go_ret3
        exact ⟨by rw [hr.out]; rfl, hfr.out⟩
      have d32 : decide ((c.toNat : Int) < 32) = false := decide_eq_false (by omega)
      by_cases q92 : c = 92
      · subst q92
        rcases ho : Chr.escd (s.data.toList.drop i) with _ | ⟨p, n⟩
        · have hr := Lib.hid (hi.out.bad hk h34.out (tok_esc_none hlt hcc ho))
          have HO := Lib.hid ho
          clear hi ho q34 q32
          go_wp2_with (go_at_call 34; refine (escaped_none s i _ hsn.out hlt (HT.out.keep hfr.out) HO.out).mono ?_; rintro e w1 ⟨rfl, hf1⟩; have HF1 := Lib.hid hf1; clear hf1)
          go_ret3
          exact ⟨by rw [hr.out]; rfl, hfr.out.trans HF1.out⟩
        · have ht := tok_esc_some hlt hcc ho
          have hnx := Lib.hid (hi.out.step ht)
          have hroom := Lib.hid (hi.out.room ht)
          have hpc := Chr.tok_pc ht
          have hn0 : 1 ≤ n := hpc.2.1
          have hin := (hi.out.step ht).hi
          have HO := Lib.hid ho
          have e0 : ((n : Int) == 0) = false := by rw [beq_eq_false_iff_ne]; omega
          clear hi ho ht hpc q34 q32
          go_wp2_with (first
            | (go_at_call 34; refine (escaped_some s i p n _ hsn.out hlt (HT.out.keep hfr.out) HO.out).mono ?_; rintro e w1 ⟨rfl, hf1⟩; have HF1 := Lib.hid hf1; clear hf1)
            | (at_builtin; refine wpl_bs_str rfl (.tmp 81) (.tmp 82) rfl w (hfr.out.trans HF1.out) _ _ rfl (hbs.out.keep HF1.out) ⟨(Utf.bytes p).toArray⟩ rfl (Nat.le_trans hroom.out hs) ?_; intro v' w2 hps2 hfr2; have HP2 := Lib.hid hps2; have HF2 := Lib.hid hfr2; clear hps2 hfr2))
          exact ⟨⟨i + n, ps ++ [p], by go_num, hnx, by show Bs _ _ _ _; rw [flat_snoc]; exact HP2.out, HF2⟩, by simp [intOf]; omega⟩
      have e92 : ((c.toNat : Int) == 92) = false := u8neq (d := 92) (by omega) q92
      obtain ⟨p, n, ho, hle, hpp⟩ := one_at hlt
      by_cases hn : n = 0
      · subst hn
        have hr := Lib.hid (hi.out.bad hk h34.out (tok_one_none hlt hcc q34 q32 q92 ho))
        have HO := Lib.hid ho
        clear hi ho q34 q32 q92
        go_wp2_with (go_at_call 35; refine (one_is s i p 0 _ hsm.out hlt HO.out).mono ?_; rintro e w1 ⟨rfl, rfl⟩)
        go_ret3
        exact ⟨by rw [hr.out]; rfl, hfr.out⟩
      · have ht := tok_one_some hlt hcc q34 q32 q92 ho hn
        have hnx := Lib.hid (hi.out.step ht)
        have hroom := Lib.hid (hi.out.room ht)
        have hb := one_bytes_at ho hn
        have hx : Hid ((s.extract i (i + n)).data.toList = Utf.bytes p) := by show _ = _; rw [extract_list, show i + n - i = n by omega, hb.1]
        have hroom2 : Hid ((ps.flatMap Utf.bytes).length + (s.extract i (i + n)).size ≤ 140737488355328) := by
          show _ ≤ _
          have h1 : (s.extract i (i + n)).size = (Utf.bytes p).length := by rw [← hx.out, Array.length_toList]; rfl
          have h2 := hroom.out
          omega
        have HO := Lib.hid ho
        have e0 : ((n : Int) == 0) = false := by rw [beq_eq_false_iff_ne]; omega
        clear hi ho ht hb q34 q32 q92
        go_wp2_with (first
          | (go_at_call 35; refine (one_is s i p n _ hsm.out hlt HO.out).mono ?_; rintro e w1 ⟨rfl, rfl⟩)
          | (at_builtin; refine wpl_bs_str rfl (.tmp 47) (.tmp 53) rfl w hfr.out _ _ rfl hbs.out (s.extract i (i + n)) rfl hroom2.out ?_; intro v' w2 hps2 hfr2; have HP2 := Lib.hid hps2; have HF2 := Lib.hid hfr2; clear hps2 hfr2))
        exact ⟨⟨i + n, ps ++ [p], by go_num, hnx, by show Bs _ _ _ _; rw [flat_snoc, ← hx.out]; exact HP2.out, HF2⟩, by simp [intOf]; omega⟩
    · have hr := Lib.hid (hi.out.bad hk h34.out (tok_end hlt))
      obtain rfl : i = s.size := by omega
      clear hi
      go_wp2_with fail
      go_ret3
      exact ⟨by rw [hr.out]; rfl, hfr.out⟩

/-- chars.Read, whatever text and place. -/
theorem cread_is (s : ByteArray) (a : Int) (w : World) (hs : s.size ≤ 140737488355328) (h1 : -9223372036854775808 ≤ a) (h2 : a ≤ 9223372036854775807) (hT : LowTabs w) :
    Calls Tryd.prog 22 #[.string s, .int .i64 a] w fun e w' => e = .returned (readV (Chr.read s.data.toList a)) ∧ Fr w w' := by
  have hsm : s.size ≤ maxLen := by unfold maxLen; omega
  by_cases ho : a < 0 ∨ (s.size : Int) ≤ a
  · refine (cread_out s a w hsm h1 h2 ho).mono ?_
    rintro e w' ⟨rfl, rfl⟩
    exact ⟨rfl, Fr.refl _⟩
  · obtain ⟨k, rfl⟩ : ∃ k : Nat, a = k := ⟨a.toNat, by omega⟩
    have hk : k < s.size := by omega
    by_cases hc : s[k] = 34
    · exact cread_in s k w hs hk hc hT
    · refine (cread_not s k w hsm hk hc).mono ?_
      rintro e w' ⟨rfl, rfl⟩
      exact ⟨rfl, Fr.refl _⟩

end Go.Proofs.YtmalfecpcdopfaaDoor
