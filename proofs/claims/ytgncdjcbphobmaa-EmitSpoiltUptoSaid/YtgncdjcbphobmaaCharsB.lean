/- The walk of chars.Quote. -/
import Derived.Test.YtgncdjcbphobmaaCharsAe
import Derived.Test.YtgncdjcbphobmaaUtfG
import Derived.Test.YtgncdjcbphobmaaSl
import Derived.Deep.RegionLaw
namespace Go.Proofs.Ytgncdjcbphobmaa
set_option linter.unusedVariables false
set_option linter.unusedSimpArgs false
open Go.RowKit

theorem escape_at (c e : UInt8) (w : World) (h : Chr.letter c = e) :
    Calls Try.prog 21 #[.int .u8 c.toNat] w fun r w' => r = .returned (.int .u8 e.toNat) ∧ w = w' := by
  subst h; exact escape_is c w

theorem dig_all : ∀ i : Fin 16, (⟨#[48, 49, 50, 51, 52, 53, 54, 55, 56, 57, 97, 98, 99, 100, 101, 102]⟩ : ByteArray)[i.val]'(by show _ < 16; exact i.isLt) = Chr.hexd i.val := by decide
theorem dig_at (z : Int) (n : Nat) (hz : z.toNat = n) (hn : n < 16) (h : z.toNat < (⟨#[48, 49, 50, 51, 52, 53, 54, 55, 56, 57, 97, 98, 99, 100, 101, 102]⟩ : ByteArray).size) :
    (⟨#[48, 49, 50, 51, 52, 53, 54, 55, 56, 57, 97, 98, 99, 100, 101, 102]⟩ : ByteArray)[z.toNat]'h = Chr.hexd n := by
  subst hz; exact dig_all ⟨z.toNat, hn⟩
theorem hex_cs (c : UInt8) (hc : c.toNat < 32) (h1 : ((c.toNat : Int) / 16).toNat < (⟨#[48, 49, 50, 51, 52, 53, 54, 55, 56, 57, 97, 98, 99, 100, 101, 102]⟩ : ByteArray).size) (h2 : ((c.toNat : Int) % 16).toNat < (⟨#[48, 49, 50, 51, 52, 53, 54, 55, 56, 57, 97, 98, 99, 100, 101, 102]⟩ : ByteArray).size) :
    #[Value.int .u8 92, .int .u8 117, .int .u8 48, .int .u8 48, .int .u8 ((⟨#[48, 49, 50, 51, 52, 53, 54, 55, 56, 57, 97, 98, 99, 100, 101, 102]⟩ : ByteArray)[((c.toNat : Int) / 16).toNat]'h1).toNat, .int .u8 ((⟨#[48, 49, 50, 51, 52, 53, 54, 55, 56, 57, 97, 98, 99, 100, 101, 102]⟩ : ByteArray)[((c.toNat : Int) % 16).toNat]'h2).toNat] =
      (bvs [92, 117, 48, 48, Chr.hexd (c.toNat / 16), Chr.hexd (c.toNat % 16)]).toArray := by
  rw [dig_at _ (c.toNat / 16) (by omega) (by omega), dig_at _ (c.toNat % 16) (by omega) (by omega)]
  rfl

set_option maxHeartbeats 400000 in
set_option maxRecDepth 100000 in
theorem quote_no (s : ByteArray) (w : World) (hs : s.size ≤ maxLen) (hb : Utf.bad s.data.toList ≠ s.size) :
    Calls Try.prog 17 #[.string s] w fun e w' => e = .returned (.tuple #[.string ⟨#[]⟩, .bool false]) ∧ w = w' := by
  have hsm := Lib.hid hs
  unfold maxLen at hs
  have hl := Utf.bad_le s.data.toList
  have hl2 : s.data.toList.length = s.size := by simp
  obtain ⟨b, hbb⟩ : ∃ b, Utf.bad s.data.toList = b := ⟨_, rfl⟩
  rw [hbb] at hb hl
  have HB := Lib.hid hbb
  clear hbb
  have hne : ((b : Int) != (s.size : Int)) = true := by rw [bne_iff_ne]; omega
  clear hl hl2 hb
  go_enter Try.func17, Try.ntmps17
  go_wp2_with (go_at_call 19; refine (bad_is s _ hsm.out).mono ?_; rw [HB.out]; rintro e w' ⟨rfl, rfl⟩)
  go_ret2
  exact ⟨rfl, rfl⟩

structure QInv (s : ByteArray) (k : Nat) (l : List UInt8) : Prop where
  eq : Chr.quote s.data.toList = l ++ (s.data.toList.drop k).flatMap Chr.esc ++ [34]
theorem QInv.start (s : ByteArray) : QInv s 0 [34] := ⟨by simp [Chr.quote]⟩
theorem QInv.step {s : ByteArray} {k : Nat} {l : List UInt8} {c : UInt8} (h : QInv s k l) (hk : k < s.size) (hc : s[k] = c) : QInv s (k + 1) (l ++ Chr.esc c) := by
  refine ⟨?_⟩
  rw [h.eq, toList_drop s k hk, hc, List.flatMap_cons]
  simp
theorem QInv.stop {s : ByteArray} {k : Nat} {l : List UInt8} (h : QInv s k l) (hk : ¬ k < s.size) : Chr.quote s.data.toList = l ++ [34] := by
  rw [h.eq, drop_end hk]; simp
theorem QInv.len {s : ByteArray} {k : Nat} {l : List UInt8} (h : QInv s k l) : l.length + 1 ≤ (Chr.quote s.data.toList).length := by
  rw [h.eq]; simp
theorem QInv.len2 {s : ByteArray} {k : Nat} {l : List UInt8} {c : UInt8} (h : QInv s k l) (hk : k < s.size) (hc : s[k] = c) : l.length + (Chr.esc c).length ≤ (Chr.quote s.data.toList).length := by
  have := (h.step hk hc).len
  simp at this
  omega
theorem esc_letter {c e : UInt8} (h : Chr.letter c = e) (he : e ≠ 0) : Chr.esc c = [92, e] := by subst h; unfold Chr.esc; rw [if_pos he]
theorem esc_low {c : UInt8} (h : Chr.letter c = 0) (hc : c.toNat < 32) : Chr.esc c = [92, 117, 48, 48, Chr.hexd (c.toNat / 16), Chr.hexd (c.toNat % 16)] := by unfold Chr.esc; rw [h, if_neg (by simp), if_pos hc]
theorem esc_self {c : UInt8} (h : Chr.letter c = 0) (hc : ¬ c.toNat < 32) : Chr.esc c = [c] := by unfold Chr.esc; rw [h, if_neg (by simp), if_neg hc]

set_option maxHeartbeats 2000000 in
set_option maxRecDepth 100000 in
theorem quote_yes (s : ByteArray) (w : World) (hs : s.size ≤ maxLen) (hb : Utf.bad s.data.toList = s.size) (hq : (Chr.quote s.data.toList).length ≤ 140737488355328) :
    Calls Try.prog 17 #[.string s] w fun e w' => e = .returned (.tuple #[.string ⟨(Chr.quote s.data.toList).toArray⟩, .bool true]) ∧ Fr w w' := by
  have hsm := Lib.hid hs
  unfold maxLen at hs
  have HB := Lib.hid hb
  clear hb
  obtain ⟨Q, hQ⟩ : ∃ Q, Q = (Chr.quote s.data.toList).length := ⟨_, rfl⟩
  rw [← hQ] at hq
  have HQ := Lib.hid hQ
  clear hQ
  go_enter Try.func17, Try.ntmps17
  go_wp2_with (go_at_call 19; refine (bad_is s _ hsm.out).mono ?_; rw [HB.out]; rintro e w' ⟨rfl, rfl⟩)
  go_loopw [4, 16] (fun v j wr => ∃ (k : Nat) (l : List UInt8), k ≤ s.size ∧ j = .int .i64 k ∧ Hid (QInv s k l) ∧ Hid (Bs wr w.heap.size v l) ∧ Hid (Fr w wr)) (fun _ j _ => s.size - (intOf j).toNat)
  case atStart => exact ⟨0, [34], by omega, rfl, Lib.hid (QInv.start s), Lib.hid (Bs.made w [34] (by unfold maxLen; simp)), Lib.hid (Fr.alloc (Fr.refl _) _)⟩
  case round =>
    obtain ⟨k, l, hk, rfl, hq', hbs, hfr⟩ := hrel
    by_cases hlt : k < s.size
    · obtain ⟨c, hc⟩ : ∃ c, s[k] = c := ⟨_, rfl⟩
      have hc256 := c.toNat_lt
      obtain ⟨e, he⟩ : ∃ e, Chr.letter c = e := ⟨_, rfl⟩
      have HE := Lib.hid he
      clear he
      have hlen := hq'.out.len2 hlt hc
      rw [← HQ.out] at hlen
      have hnx := Lib.hid (hq'.out.step hlt hc)
      by_cases h0 : e = 0
      · subst h0
        by_cases h32 : c.toNat < 32
        · rw [esc_low HE.out h32] at hlen hnx
          simp only [List.length_cons, List.length_nil] at hlen
          have d32 : decide ((c.toNat : Int) < 32) = true := decide_eq_true (by omega)
          have hdiv : c.toNat / 16 < 16 := by omega
          have hand : bits BinOp.and IntKind.u8 (c.toNat : Int) 15 = ((c.toNat % 16 : Nat) : Int) := by rw [u8_and15 _ (by omega) (by omega)]; omega
          go_wp2_with (go_at_call 21; refine (escape_at c 0 _ HE.out).mono ?_; rintro e w1 ⟨rfl, rfl⟩)
          have hb0 : (0 : Int) ≤ (c.toNat : Int) / 16 := by omega
          have hb1 : (c.toNat : Int) / 16 < 16 := by omega
          have hb2 : (0 : Int) ≤ (c.toNat : Int) % 16 := by omega
          have hb3 : (c.toNat : Int) % 16 < 16 := by omega
          go_region_law (first | (refine step_bs_lit (by rfl) (.tmp 38) (.tmp 45) (by rfl) w (Fr.drew hfr.out) _ l (by rfl) (Row.drew hbs.out) [92, 117, 48, 48, Chr.hexd (c.toNat / 16), Chr.hexd (c.toNat % 16)] (by rfl) (hex_cs c (by omega) _ _) (by simp; omega) ?_; intro v' w2 hps2 hfr2; have HP2 := Lib.hid hps2; have HF2 := Lib.hid hfr2; clear hps2 hfr2))
          all_goals (try go_wp2_with fail)
          all_goals exact ⟨⟨k + 1, l ++ [92, 117, 48, 48, Chr.hexd (c.toNat / 16), Chr.hexd (c.toNat % 16)], by omega, by go_num, hnx, HP2, HF2⟩, by simp [intOf]; omega⟩
        · rw [esc_self HE.out h32] at hlen hnx
          simp only [List.length_cons, List.length_nil] at hlen
          have d32 : decide ((c.toNat : Int) < 32) = false := decide_eq_false (by omega)
          go_wp2_with (first
            | (go_at_call 21; refine (escape_at c 0 _ HE.out).mono ?_; rintro e w1 ⟨rfl, rfl⟩)
            | (at_builtin; refine wpl_bs_lit rfl (.tmp 24) (.tmp 26) rfl w hfr.out _ l rfl hbs.out [c] rfl rfl rfl rfl rfl (by simp; omega) ?_; intro v' w2 hps2 hfr2; have HP2 := Lib.hid hps2; have HF2 := Lib.hid hfr2; clear hps2 hfr2))
          exact ⟨⟨k + 1, l ++ [c], by omega, by go_num, hnx, HP2, HF2⟩, by simp [intOf]; omega⟩
      · rw [esc_letter HE.out h0] at hlen hnx
        simp only [List.length_cons, List.length_nil] at hlen
        have hne : ((e.toNat : Int) != 0) = true := by
          rw [bne_iff_ne]; intro x; apply h0; exact UInt8.toNat_inj.1 (by simpa using x)
        go_wp2_with (first
          | (go_at_call 21; refine (escape_at c e _ HE.out).mono ?_; rintro e1 w1 ⟨rfl, rfl⟩)
          | (at_builtin; refine wpl_bs_lit rfl (.tmp 31) (.tmp 33) rfl w hfr.out _ l rfl hbs.out [92, e] rfl rfl rfl rfl rfl (by simp; omega) ?_; intro v' w2 hps2 hfr2; have HP2 := Lib.hid hps2; have HF2 := Lib.hid hfr2; clear hps2 hfr2))
        exact ⟨⟨k + 1, l ++ [92, e], by omega, by go_num, hnx, HP2, HF2⟩, by simp [intOf]; omega⟩
    · have hst := Lib.hid (hq'.out.stop hlt)
      have hlen := hq'.out.len
      rw [← HQ.out] at hlen
      go_wp2_with (at_builtin; refine wpl_bs_lit rfl (.tmp 48) (.tmp 49) rfl w hfr.out _ l rfl hbs.out [34] rfl rfl rfl rfl rfl (by simp; omega) ?_; intro v' w2 hps2 hfr2; have hcv := hps2.conv; have HF2 := Lib.hid hfr2; clear hps2 hfr2)
      go_ret2
      exact ⟨by rw [hst.out]; rfl, HF2.out⟩

end Go.Proofs.Ytgncdjcbphobmaa
