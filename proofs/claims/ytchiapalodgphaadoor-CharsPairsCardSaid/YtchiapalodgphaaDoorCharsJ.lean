/- The walk of the law CharsPairs: two numbers escaped one behind the other. -/
import Derived.Test.YtchiapalodgphaaDoorCharsG
namespace Go.Proofs.YtchiapalodgphaaDoor
set_option linter.unusedVariables false
set_option linter.unusedSimpArgs false
open Go.RowKit

def uhex (d : Nat) : UInt8 := if d < 10 then UInt8.ofNat (48 + d) else UInt8.ofNat (55 + d)
def unitL (n : Nat) : List UInt8 := [92, 117, uhex (n / 4096 % 16), uhex (n / 256 % 16), uhex (n / 16 % 16), uhex (n % 16)]
theorem uhex_v : ∀ d : Fin 16, Chr.hexv (uhex d.val) = some d.val := by decide +kernel
theorem unit_v {n : Nat} (h : n < 65536) (t : List UInt8) : Chr.unitv (unitL n ++ t) = some n := by
  have h3 := uhex_v ⟨n / 4096 % 16, by omega⟩
  have h2 := uhex_v ⟨n / 256 % 16, by omega⟩
  have h1 := uhex_v ⟨n / 16 % 16, by omega⟩
  have h0 := uhex_v ⟨n % 16, by omega⟩
  simp only at h3 h2 h1 h0
  have e : Chr.unitv (unitL n ++ t) = Chr.hexs 0 [uhex (n / 4096 % 16), uhex (n / 256 % 16), uhex (n / 16 % 16), uhex (n % 16)] := rfl
  rw [e]
  simp only [Chr.hexs, h3, h2, h1, h0]
  congr 1
  omega
theorem unit_tok {n : Nat} (h : n < 65536) (t : List UInt8) : Chr.tok (unitL n ++ t) = match Chr.escu (unitL n ++ t) with | none => .bad 20 | some (p, k) => .pc p k := by
  have e : unitL n ++ t = 92 :: 117 :: ([uhex (n / 4096 % 16), uhex (n / 256 % 16), uhex (n / 16 % 16), uhex (n % 16)] ++ t) := rfl
  rw [e, Chr.tok_cons, if_neg (by decide), if_neg (by decide), if_pos rfl]
  have e2 : Chr.escd (92 :: 117 :: ([uhex (n / 4096 % 16), uhex (n / 256 % 16), uhex (n / 16 % 16), uhex (n % 16)] ++ t)) = Chr.escu (92 :: 117 :: ([uhex (n / 4096 % 16), uhex (n / 256 % 16), uhex (n / 16 % 16), uhex (n % 16)] ++ t)) := rfl
  rw [e2]
  rcases Chr.escu (92 :: 117 :: ([uhex (n / 4096 % 16), uhex (n / 256 % 16), uhex (n / 16 % 16), uhex (n % 16)] ++ t)) with _ | ⟨p, k⟩ <;> rfl
def sur (n : Nat) : Prop := 55296 ≤ n ∧ n ≤ 57343
theorem rd_end : Chr.rd [34] = ([], 1, 0) := Chr.rd_fin rfl
theorem unit_drop (n : Nat) (t : List UInt8) : (unitL n ++ t).drop 6 = t := rfl
theorem escu_plain {n : Nat} (h : n < 65536) (hs : ¬ (55296 ≤ n ∧ n ≤ 57343)) (t : List UInt8) : Chr.escu (unitL n ++ t) = some (n, 6) := by
  unfold Chr.escu
  rw [unit_v h]
  simp only
  rw [if_pos (by omega)]
theorem escu_pair {a b : Nat} (h : a < 65536) (hb : b < 65536) (h1 : 55296 ≤ a ∧ a ≤ 56319) (h2 : 56320 ≤ b ∧ b ≤ 57343) (t : List UInt8) : Chr.escu (unitL a ++ (unitL b ++ t)) = some (65536 + (a - 55296) * 1024 + (b - 56320), 12) := by
  unfold Chr.escu
  rw [unit_v h]
  simp only
  rw [if_neg (by omega), unit_drop, unit_v hb]
  simp only
  rw [if_pos (by omega)]
theorem escu_lone {a b : Nat} (h : a < 65536) (hb : b < 65536) (h1 : 55296 ≤ a ∧ a ≤ 57343) (h2 : ¬ (a ≤ 56319 ∧ 56320 ≤ b ∧ b ≤ 57343)) (t : List UInt8) : Chr.escu (unitL a ++ (unitL b ++ t)) = none := by
  unfold Chr.escu
  rw [unit_v h]
  simp only
  rw [if_neg (by omega), unit_drop, unit_v hb]
  simp only
  rw [if_neg h2]
theorem escu_last {b : Nat} (hb : b < 65536) (h1 : 55296 ≤ b ∧ b ≤ 57343) : Chr.escu (unitL b ++ [34]) = none := by
  unfold Chr.escu
  rw [unit_v hb]
  simp only
  rw [if_neg (by omega), unit_drop]
  rfl
/-- The text of two numbers. -/
def pairL (a b : Nat) : List UInt8 := 34 :: (unitL a ++ (unitL b ++ [34]))
theorem pair_read (a b : Nat) : Chr.read (pairL a b) 0 = (if (Chr.rd (unitL a ++ (unitL b ++ [34]))).2.2 = 0 then (Chr.rd (unitL a ++ (unitL b ++ [34]))).1.flatMap Utf.bytes else [], 1 + ((Chr.rd (unitL a ++ (unitL b ++ [34]))).2.1 : Int), (((Chr.rd (unitL a ++ (unitL b ++ [34]))).2.2 : Nat) : Int)) := by
  have h := Chr.read_in (l := pairL a b) (k := 0) (by simp [pairL]) rfl
  simp only [pairL, List.drop_succ_cons, List.drop_zero, Int.natCast_zero, Int.zero_add, Nat.zero_add] at h
  exact h
theorem pair_1 {a b : Nat} (ha : a < 65536) (hb : b < 65536) (h1 : 55296 ≤ a ∧ a ≤ 56319) (h2 : 56320 ≤ b ∧ b ≤ 57343) : Chr.read (pairL a b) 0 = (Utf.bytes (65536 + (a - 55296) * 1024 + (b - 56320)), 14, 0) := by
  have ht : Chr.tok (unitL a ++ (unitL b ++ [34])) = .pc (65536 + (a - 55296) * 1024 + (b - 56320)) 12 := by rw [unit_tok ha, escu_pair ha hb h1 h2]
  have e12 : (unitL a ++ (unitL b ++ [34])).drop 12 = [(34 : UInt8)] := rfl
  rw [pair_read, Chr.rd_pc ht, e12, rd_end]
  simp
theorem pair_2 {a b : Nat} (ha : a < 65536) (hb : b < 65536) (h1 : 55296 ≤ a ∧ a ≤ 57343) (h2 : ¬ (a ≤ 56319 ∧ 56320 ≤ b ∧ b ≤ 57343)) : Chr.read (pairL a b) 0 = ([], 1, 20) := by
  have ht : Chr.tok (unitL a ++ (unitL b ++ [34])) = .bad 20 := by rw [unit_tok ha, escu_lone ha hb h1 h2]
  rw [pair_read, Chr.rd_bad ht]
  simp
theorem pair_3 {a b : Nat} (ha : a < 65536) (hb : b < 65536) (h1 : ¬ (55296 ≤ a ∧ a ≤ 57343)) (h2 : 55296 ≤ b ∧ b ≤ 57343) : Chr.read (pairL a b) 0 = ([], 7, 20) := by
  have ht : Chr.tok (unitL a ++ (unitL b ++ [34])) = .pc a 6 := by rw [unit_tok ha, escu_plain ha h1]
  have ht2 : Chr.tok (unitL b ++ [34]) = .bad 20 := by rw [unit_tok hb, escu_last hb h2]
  rw [pair_read, Chr.rd_pc ht, unit_drop, Chr.rd_bad ht2]
  simp
theorem pair_4 {a b : Nat} (ha : a < 65536) (hb : b < 65536) (h1 : ¬ (55296 ≤ a ∧ a ≤ 57343)) (h2 : ¬ (55296 ≤ b ∧ b ≤ 57343)) : Chr.read (pairL a b) 0 = (Utf.bytes a ++ Utf.bytes b, 14, 0) := by
  have ht : Chr.tok (unitL a ++ (unitL b ++ [34])) = .pc a 6 := by rw [unit_tok ha, escu_plain ha h1]
  have ht2 : Chr.tok (unitL b ++ [34]) = .pc b 6 := by rw [unit_tok hb, escu_plain hb h2]
  rw [pair_read, Chr.rd_pc ht, unit_drop, Chr.rd_pc ht2, unit_drop, rd_end]
  simp

theorem u16_and15 (x : Nat) (h : x < 65536) : bits BinOp.and IntKind.u16 (x : Int) 15 = ((x % 16 : Nat) : Int) := by
  have := bits_mask .u16 16 (by decide) (fun n h0 h1 => by simp [IntKind.wrap, IntKind.bits, IntKind.signed]; omega) 4 (by decide) (x : Int) (by omega) (by omega)
  have e : bits BinOp.and IntKind.u16 (x : Int) 15 = (x : Int) % 2 ^ 4 := this
  rw [e]; omega
theorem cs_lo {d : Nat} (h : d < 10) : #[Value.int .u8 (48 + (d : Int))] = (bvs [uhex d]).toArray := by
  simp [bvs, uhex, h, Utf.toNat_ofNat (n := 48 + d) (by omega)]; omega
theorem cs_hi {d : Nat} (h : ¬ d < 10) (h' : d < 16) : #[Value.int .u8 (65 + (d : Int) - 10)] = (bvs [uhex d]).toArray := by
  simp [bvs, uhex, h, Utf.toNat_ofNat (n := 55 + d) (by omega)]; omega

set_option maxHeartbeats 2000000 in
set_option maxRecDepth 100000 in
theorem lunit_is (n : Nat) (w : World) (hn : n < 65536) :
    Calls Tryd.prog 24 #[.int .u16 n] w fun e w' => e = .returned (.string ⟨(unitL n).toArray⟩) ∧ Fr w w' := by
  go_enter Tryd.func24, Tryd.ntmps24
  go_wp2_with fail
  go_loopw [3, 4] (fun v i wr => ∃ k : Nat, k ≤ 4 ∧ i = .int .i64 (3 - (k : Int)) ∧ Hid (Bs wr w.heap.size v ((unitL n).take (2 + k))) ∧ Hid (Fr w wr)) (fun _ i _ => (intOf i + 1).toNat)
  case atStart => exact ⟨0, by omega, rfl, Lib.hid (Bs.made w [92, 117] (by unfold maxLen; simp)), Lib.hid (Fr.alloc (Fr.refl _) _)⟩
  case round =>
    obtain ⟨k, hk, rfl, hbs, hfr⟩ := hrel
    have hk5 : k = 0 ∨ k = 1 ∨ k = 2 ∨ k = 3 ∨ k = 4 := by omega
    rcases hk5 with rfl | rfl | rfl | rfl | rfl
    · obtain ⟨d, hd⟩ : ∃ d, n / 4096 % 16 = d := ⟨_, rfl⟩
      have hd16 : d < 16 := by omega
      have ha : bits BinOp.and IntKind.u16 ((n : Int) / 4096) 15 = (d : Int) := by rw [show (n : Int) / 4096 = ((n / 4096 : Nat) : Int) by omega, u16_and15 _ (by omega), hd]
      have hnx : Hid ((unitL n).take (2 + (0 + 1)) = (unitL n).take (2 + 0) ++ [uhex d]) := by show _ = _; rw [← hd]; rfl
      clear hd
      by_cases h10 : d < 10
      · have d1 : decide ((d : Int) < 10) = true := decide_eq_true (by omega)
        go_wp2_with (at_builtin; refine wpl_bs_lit rfl (.tmp 19) (.tmp 22) rfl w hfr.out _ _ rfl hbs.out [uhex d] rfl rfl rfl rfl (cs_lo h10) (by simp [unitL]) ?_; intro v' w2 hps2 hfr2; have HP2 := Lib.hid hps2; have HF2 := Lib.hid hfr2; clear hps2 hfr2)
        exact ⟨⟨0 + 1, by omega, rfl, by rw [hnx.out]; exact HP2, HF2⟩, by simp [intOf]⟩
      · have d1 : decide ((d : Int) < 10) = false := decide_eq_false (by omega)
        go_wp2_with (at_builtin; refine wpl_bs_lit rfl (.tmp 24) (.tmp 28) rfl w hfr.out _ _ rfl hbs.out [uhex d] rfl rfl rfl rfl (cs_hi h10 hd16) (by simp [unitL]) ?_; intro v' w2 hps2 hfr2; have HP2 := Lib.hid hps2; have HF2 := Lib.hid hfr2; clear hps2 hfr2)
        exact ⟨⟨0 + 1, by omega, rfl, by rw [hnx.out]; exact HP2, HF2⟩, by simp [intOf]⟩
    · obtain ⟨d, hd⟩ : ∃ d, n / 256 % 16 = d := ⟨_, rfl⟩
      have hd16 : d < 16 := by omega
      have ha : bits BinOp.and IntKind.u16 ((n : Int) / 256) 15 = (d : Int) := by rw [show (n : Int) / 256 = ((n / 256 : Nat) : Int) by omega, u16_and15 _ (by omega), hd]
      have hnx : Hid ((unitL n).take (2 + (1 + 1)) = (unitL n).take (2 + 1) ++ [uhex d]) := by show _ = _; rw [← hd]; rfl
      clear hd
      by_cases h10 : d < 10
      · have d1 : decide ((d : Int) < 10) = true := decide_eq_true (by omega)
        go_wp2_with (at_builtin; refine wpl_bs_lit rfl (.tmp 19) (.tmp 22) rfl w hfr.out _ _ rfl hbs.out [uhex d] rfl rfl rfl rfl (cs_lo h10) (by simp [unitL]) ?_; intro v' w2 hps2 hfr2; have HP2 := Lib.hid hps2; have HF2 := Lib.hid hfr2; clear hps2 hfr2)
        exact ⟨⟨1 + 1, by omega, rfl, by rw [hnx.out]; exact HP2, HF2⟩, by simp [intOf]⟩
      · have d1 : decide ((d : Int) < 10) = false := decide_eq_false (by omega)
        go_wp2_with (at_builtin; refine wpl_bs_lit rfl (.tmp 24) (.tmp 28) rfl w hfr.out _ _ rfl hbs.out [uhex d] rfl rfl rfl rfl (cs_hi h10 hd16) (by simp [unitL]) ?_; intro v' w2 hps2 hfr2; have HP2 := Lib.hid hps2; have HF2 := Lib.hid hfr2; clear hps2 hfr2)
        exact ⟨⟨1 + 1, by omega, rfl, by rw [hnx.out]; exact HP2, HF2⟩, by simp [intOf]⟩
    · obtain ⟨d, hd⟩ : ∃ d, n / 16 % 16 = d := ⟨_, rfl⟩
      have hd16 : d < 16 := by omega
      have ha : bits BinOp.and IntKind.u16 ((n : Int) / 16) 15 = (d : Int) := by rw [show (n : Int) / 16 = ((n / 16 : Nat) : Int) by omega, u16_and15 _ (by omega), hd]
      have hnx : Hid ((unitL n).take (2 + (2 + 1)) = (unitL n).take (2 + 2) ++ [uhex d]) := by show _ = _; rw [← hd]; rfl
      clear hd
      by_cases h10 : d < 10
      · have d1 : decide ((d : Int) < 10) = true := decide_eq_true (by omega)
        go_wp2_with (at_builtin; refine wpl_bs_lit rfl (.tmp 19) (.tmp 22) rfl w hfr.out _ _ rfl hbs.out [uhex d] rfl rfl rfl rfl (cs_lo h10) (by simp [unitL]) ?_; intro v' w2 hps2 hfr2; have HP2 := Lib.hid hps2; have HF2 := Lib.hid hfr2; clear hps2 hfr2)
        exact ⟨⟨2 + 1, by omega, rfl, by rw [hnx.out]; exact HP2, HF2⟩, by simp [intOf]⟩
      · have d1 : decide ((d : Int) < 10) = false := decide_eq_false (by omega)
        go_wp2_with (at_builtin; refine wpl_bs_lit rfl (.tmp 24) (.tmp 28) rfl w hfr.out _ _ rfl hbs.out [uhex d] rfl rfl rfl rfl (cs_hi h10 hd16) (by simp [unitL]) ?_; intro v' w2 hps2 hfr2; have HP2 := Lib.hid hps2; have HF2 := Lib.hid hfr2; clear hps2 hfr2)
        exact ⟨⟨2 + 1, by omega, rfl, by rw [hnx.out]; exact HP2, HF2⟩, by simp [intOf]⟩
    · obtain ⟨d, hd⟩ : ∃ d, n % 16 = d := ⟨_, rfl⟩
      have hd16 : d < 16 := by omega
      have ha : bits BinOp.and IntKind.u16 (n : Int) 15 = (d : Int) := by rw [u16_and15 _ (by omega), hd]
      have hnx : Hid ((unitL n).take (2 + (3 + 1)) = (unitL n).take (2 + 3) ++ [uhex d]) := by show _ = _; rw [← hd]; rfl
      clear hd
      by_cases h10 : d < 10
      · have d1 : decide ((d : Int) < 10) = true := decide_eq_true (by omega)
        go_wp2_with (at_builtin; refine wpl_bs_lit rfl (.tmp 19) (.tmp 22) rfl w hfr.out _ _ rfl hbs.out [uhex d] rfl rfl rfl rfl (cs_lo h10) (by simp [unitL]) ?_; intro v' w2 hps2 hfr2; have HP2 := Lib.hid hps2; have HF2 := Lib.hid hfr2; clear hps2 hfr2)
        exact ⟨⟨3 + 1, by omega, rfl, by rw [hnx.out]; exact HP2, HF2⟩, by simp [intOf]⟩
      · have d1 : decide ((d : Int) < 10) = false := decide_eq_false (by omega)
        go_wp2_with (at_builtin; refine wpl_bs_lit rfl (.tmp 24) (.tmp 28) rfl w hfr.out _ _ rfl hbs.out [uhex d] rfl rfl rfl rfl (cs_hi h10 hd16) (by simp [unitL]) ?_; intro v' w2 hps2 hfr2; have HP2 := Lib.hid hps2; have HF2 := Lib.hid hfr2; clear hps2 hfr2)
        exact ⟨⟨3 + 1, by omega, rfl, by rw [hnx.out]; exact HP2, HF2⟩, by simp [intOf]⟩
    · have he : Hid ((unitL n).take (2 + 4) = unitL n) := rfl
      have hcv := hbs.out.conv
      rw [he.out] at hcv
      go_wp2_with fail
      go_ret
      exact ⟨rfl, hfr.out⟩

end Go.Proofs.YtchiapalodgphaaDoor
