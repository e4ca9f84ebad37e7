/- The walk of utf.One. -/
import Derived.Test.YtgncdjcbphobmaaUtfA
namespace Go.Proofs.Ytgncdjcbphobmaa
set_option linter.unusedVariables false
set_option linter.unusedSimpArgs false
open Go.RowKit

theorem toList_drop (s : ByteArray) (k : Nat) (h : k < s.size) : s.data.toList.drop k = s[k] :: s.data.toList.drop (k + 1) := Nm.drop_cons s.data.toList k (by simpa using h)

structure OneInv (s : ByteArray) (k n0 p0 i q : Nat) : Prop where
  lo : 1 ≤ i
  hi : i ≤ n0
  eq : Utf.tailv p0 (s.data.toList.drop (k + 1)) (n0 - 1) = Utf.tailv q (s.data.toList.drop (k + i)) (n0 - i)
  b0 : n0 - i = 0 → q < 2097152
  b1 : n0 - i = 1 → q < 32768
  b2 : n0 - i = 2 → q < 512
  b3 : n0 - i = 3 → q < 8
theorem OneInv.step {s : ByteArray} {k n0 p0 i q : Nat} (h : OneInv s k n0 p0 i q) (hn : n0 ≤ 4) (hi : i < n0) (hk : k + i < s.size) (hc : Utf.cont s[k + i] = true) :
    OneInv s k n0 p0 (i + 1) (q * 64 + s[k + i].toNat % 64) := by
  have hl := h.lo; have h0 := h.b0; have h1 := h.b1; have h2 := h.b2; have h3 := h.b3
  refine ⟨by omega, by omega, ?_, by omega, by omega, by omega, by omega⟩
  rw [h.eq, show n0 - i = (n0 - (i + 1)) + 1 by omega, toList_drop s (k + i) hk, Utf.tailv, if_pos hc]
  rfl
theorem OneInv.non {s : ByteArray} {k n0 p0 i q : Nat} (h : OneInv s k n0 p0 i q) (hi : i < n0) (hk : k + i < s.size) (hc : Utf.cont s[k + i] = false) :
    Utf.tailv p0 (s.data.toList.drop (k + 1)) (n0 - 1) = none := by
  rw [h.eq, show n0 - i = (n0 - (i + 1)) + 1 by omega, toList_drop s (k + i) hk, Utf.tailv, if_neg (by rw [hc]; simp)]
theorem OneInv.done {s : ByteArray} {k n0 p0 q : Nat} (h : OneInv s k n0 p0 n0 q) : Utf.tailv p0 (s.data.toList.drop (k + 1)) (n0 - 1) = some q := by
  rw [h.eq, Nat.sub_self, Utf.tailv_zero]
theorem OneInv.bound {s : ByteArray} {k n0 p0 i q : Nat} (h : OneInv s k n0 p0 i q) (hn : n0 ≤ 4) (hi : i < n0) : q < 32768 := by
  have := h.lo; have h1 := h.b1; have h2 := h.b2; have h3 := h.b3; omega

theorem or_join6 (q r : Nat) (hq : q < 32768) (hr : r < 64) : bits BinOp.or IntKind.i32 ((q : Int) * 64) (r : Int) = ((q * 64 + r : Nat) : Int) := by
  rw [i32_or6 _ _ (by omega) (by omega) (by omega) (by omega) (by omega)]; omega

set_option maxHeartbeats 2000000 in
set_option maxRecDepth 100000 in
theorem one_is (s : ByteArray) (k p n : Nat) (w : World) (hs : s.size ≤ maxLen) (hk : k < s.size) (h : Utf.one (s.data.toList.drop k) = (p, n)) :
    Calls Try.prog 22 #[.string s, .int .i64 k] w fun e w' => e = .returned (.tuple #[.int .i32 p, .int .i64 n]) ∧ w = w' := by
  unfold maxLen at hs
  obtain ⟨a, ha⟩ : ∃ a, s[k] = a := ⟨_, rfl⟩
  rcases hz : Utf.sz a with ⟨n0, p0⟩
  have hsb := Utf.sz_bound a
  rw [hz] at hsb
  simp only at hsb
  rw [toList_drop s k hk, ha, Utf.one_cons, hz] at h
  have hl : (s.data.toList.drop (k + 1)).length + 1 = s.size - k := by simp; omega
  rw [hl] at h
  simp only at h
  have HZ := Lib.hid hz
  clear hz hl
  have d1 : decide ((k : Int) < 0) = false := decide_eq_false (by omega)
  have d2 : decide ((s.size : Int) ≤ (k : Int)) = false := decide_eq_false (by omega)
  by_cases h0 : n0 = 0
  · rw [if_pos (.inl h0)] at h
    obtain ⟨rfl, rfl⟩ : 0 = p ∧ 0 = n := by simpa using h
    clear h hsb
    subst h0
    go_enter Try.func22, Try.ntmps22
    go_wp2_with (go_at_call 23; refine (size_is a 0 p0 _ HZ.out).mono ?_; rintro e w' ⟨rfl, rfl⟩)
    go_ret2
    exact ⟨rfl, rfl⟩
  · have e0 : ((n0 : Int) == 0) = false := by rw [beq_eq_false_iff_ne]; omega
    by_cases hlen : s.size - k < n0
    · rw [if_pos (.inr hlen)] at h
      obtain ⟨rfl, rfl⟩ : 0 = p ∧ 0 = n := by simpa using h
      have d3 : decide ((s.size : Int) - (k : Int) < (n0 : Int)) = true := decide_eq_true (by omega)
      clear h hsb hlen h0
      go_enter Try.func22, Try.ntmps22
      go_wp2_with (go_at_call 23; refine (size_is a n0 p0 _ HZ.out).mono ?_; rintro e w' ⟨rfl, rfl⟩)
      go_ret2
      exact ⟨rfl, rfl⟩
    · rw [if_neg (by omega)] at h
      have d3 : decide ((s.size : Int) - (k : Int) < (n0 : Int)) = false := decide_eq_false (by omega)
      have hn4 : n0 ≤ 4 := hsb.1
      have hst : OneInv s k n0 p0 1 p0 := ⟨by omega, by omega, rfl, by omega, by omega, by omega, by omega⟩
      have H := Lib.hid h
      clear h hsb
      go_enter Try.func22, Try.ntmps22
      go_wp2_with (go_at_call 23; refine (size_is a n0 p0 _ HZ.out).mono ?_; rintro e w' ⟨rfl, rfl⟩)
      go_loop [7, 8] (fun v j => ∃ i q : Nat, v = .int .i32 q ∧ j = .int .i64 i ∧ OneInv s k n0 p0 i q) (fun _ j => n0 - (intOf j).toNat)
      case atStart => exact ⟨1, p0, rfl, rfl, hst⟩
      case round =>
        obtain ⟨i, q, rfl, rfl, hi⟩ := hrel
        have h1 := hi.lo
        have h2 := hi.hi
        by_cases hlt : i < n0
        · have hb := hi.bound hn4 hlt
          have hx : k + i < s.size := by omega
          obtain ⟨b, hbb⟩ : ∃ b, s[k + i] = b := ⟨_, rfl⟩
          have hb256 := b.toNat_lt
          by_cases hc : Utf.cont b = true
          · have hc' := Utf.cont_iff.1 hc
            have hnx := Lib.hid (hi.step hn4 hlt hx (by rw [hbb]; exact hc))
            rw [hbb] at hnx
            have e1 : decide ((b.toNat : Int) < 128) = false := decide_eq_false (by omega)
            have e2 : decide ((191 : Int) < (b.toNat : Int)) = false := decide_eq_false (by omega)
            have hm : bits BinOp.and IntKind.u8 (b.toNat : Int) 63 = ((b.toNat % 64 : Nat) : Int) := by rw [u8_and63 _ (by omega) (by omega)]; omega
            have hj := or_join6 q (b.toNat % 64) hb (by omega)
            clear hi hc hc'
            go_wp2_with fail
            exact ⟨⟨i + 1, q * 64 + b.toNat % 64, rfl, by go_num, hnx.out⟩, by simp [intOf]; omega⟩
          · have hnn := hi.non hlt hx (by rw [hbb]; simpa using hc)
            have H' := H.out
            rw [hnn] at H'
            obtain ⟨rfl, rfl⟩ : 0 = p ∧ 0 = n := by simpa using H'
            clear hi H'
            by_cases hlo : b.toNat < 128
            · have e1 : decide ((b.toNat : Int) < 128) = true := decide_eq_true (by omega)
              go_wp2_with fail
              go_ret2
              exact ⟨rfl, rfl⟩
            · have e1 : decide ((b.toNat : Int) < 128) = false := decide_eq_false (by omega)
              have e2 : decide ((191 : Int) < (b.toNat : Int)) = true := decide_eq_true (by
                rw [Utf.cont_iff] at hc; omega)
              go_wp2_with fail
              go_ret2
              exact ⟨rfl, rfl⟩
        · obtain rfl : i = n0 := by omega
          have hd := hi.done
          have hq := hi.b0 (by omega)
          have H' := H.out
          rw [hd] at H'
          simp only at H'
          clear hi
          by_cases hf : Utf.fits q i = true
          · rw [if_pos hf] at H'
            obtain ⟨rfl, rfl⟩ : q = p ∧ i = n := by simpa using H'
            clear H'
            go_wp2_with (go_at_call 24; refine (fits_is q i true _ hn4 hq hf).mono ?_; rintro e w' ⟨rfl, rfl⟩)
            go_ret2
            exact ⟨rfl, rfl⟩
          · rw [if_neg hf] at H'
            obtain ⟨rfl, rfl⟩ : 0 = p ∧ 0 = n := by simpa using H'
            clear H'
            go_wp2_with (go_at_call 24; refine (fits_is q i false _ hn4 hq (by simpa using hf)).mono ?_; rintro e w' ⟨rfl, rfl⟩)
            go_ret2
            exact ⟨rfl, rfl⟩

end Go.Proofs.Ytgncdjcbphobmaa
