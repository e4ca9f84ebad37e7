/- The walks of the document's own (whole) and Walk. -/
import Derived.Test.YtgncdjcbphobmaaDoorEmitOb
namespace Go.Proofs.YtgncdjcbphobmaaDoor
set_option linter.unusedVariables false
set_option linter.unusedSimpArgs false
open Go.RowKit

theorem ret_b {W : World} {b b' : Bool} {f : Nat} {args : Array Value} (h : Calls Tryd.prog f args W fun e w' => e = .returned (.bool b) ∧ Fr W w') (e : b = b') : Calls Tryd.prog f args W fun e w' => e = .returned (.bool b') ∧ Fr W w' := by
  subst e; exact h
theorem own_is (u : JV) (B : Option Addr) (d : Nat) (B' : Option Addr) (d' : Nat) (w : World) (h : InV w (Lo w.heap.size) u (vA u B d B' d')) (hbk : JV.bulk u ≤ 1100000) (b : Bool) (hr : JV.rightB u = b) :
    Calls Tryd.prog 50 #[vA u B d B' d'] w fun e w' => e = .returned (.bool b) ∧ Fr w w' := by
  subst hr
  obtain ⟨A, c, A', c', hx, _, hms⟩ := h.open_
  obtain ⟨_, _, _, _, x4⟩ := five hx
  simp only [Value.slice.injEq] at x4
  obtain ⟨rfl, _, rfl⟩ := x4
  obtain ⟨_, _, hs, hl63, hm63⟩ := h.facts
  clear hx h
  have HR := right_eq u
  obtain ⟨k, n, s, l, m⟩ := u
  rw [JV.bulk_mk] at hbk
  have hmn : ∀ x ∈ m, x.1.length ≤ 1100000 := fun x hx => by have := JV.bulkM_mem hx; omega
  show Calls Tryd.prog _ #[.agg #[.int .i64 k, .int .i64 n, .string ⟨s.toArray⟩, .slice B l.length d, .slice B' m.length d']] _ _
  by_cases hk : ¬ (1 ≤ k ∧ k ≤ 6)
  · refine ret_b (own_low k n _ B B' _ _ d d' w hk) ?_
    rw [HR]
    have : (decide (1 ≤ k) && decide (k ≤ 6)) = false := by
      simp only [Bool.and_eq_false_iff, decide_eq_false_iff_not]; omega
    show false = (decide (1 ≤ k) && decide (k ≤ 6) && _ && _ && _)
    rw [this]; rfl
  have hk' : 1 ≤ k ∧ k ≤ 6 := by omega
  cases hb : JV.bareB (.mk k n s l m) with
  | false =>
    refine ret_b (own_bare k n _ B B' _ _ d d' w hk'.1 hk'.2 ?_) ?_
    · have hb' : ((n == 0 || k == 2 || k == 3) && (s.length == 0 || k == 4) && (l.length == 0 || k == 5) && (m.length == 0 || k == 6)) = false := hb
      have e1 : ((l.length : Int) == 0) = (l.length == 0) := by rw [Bool.eq_iff_iff, beq_iff_eq, beq_iff_eq]; omega
      have e2 : ((m.length : Int) == 0) = (m.length == 0) := by rw [Bool.eq_iff_iff, beq_iff_eq, beq_iff_eq]; omega
      show _ = _
      rw [toList_mk, e1, e2]; exact hb'
    · rw [HR, hb, Bool.and_false]; rfl
  | true =>
    have hb' : ((n == 0 || k == 2 || k == 3) && (s.length == 0 || k == 4) && (l.length == 0 || k == 5) && (m.length == 0 || k == 6)) = true := hb
    simp only [Bool.and_eq_true, Bool.or_eq_true, beq_iff_eq, List.length_eq_zero_iff] at hb'
    obtain ⟨⟨⟨b1, b2⟩, b3⟩, b4⟩ := hb'
    have hb0 : Utf.bad [] = 0 := rfl
    obtain ⟨k1, k6⟩ := hk'
    rcases (by omega : k = 1 ∨ k = 2 ∨ k = 3 ∨ k = 4 ∨ k = 5 ∨ k = 6) with rfl | rfl | rfl | rfl | rfl | rfl
    · obtain rfl : n = 0 := by omega
      obtain rfl : s = [] := by simpa using b2
      obtain rfl : l = [] := by simpa using b3
      obtain rfl : m = [] := by simpa using b4
      exact ret_b (own_null B B' d d' w) rfl
    · obtain rfl : s = [] := by simpa using b2
      obtain rfl : l = [] := by simpa using b3
      obtain rfl : m = [] := by simpa using b4
      by_cases h0 : n = 0
      · subst h0; exact ret_b (own_b0 B B' d d' w) rfl
      by_cases h1 : n = 1
      · subst h1; exact ret_b (own_b1 B B' d d' w) rfl
      refine ret_b (own_bx n (by rw [bne_iff_ne]; exact h0) (by rw [bne_iff_ne]; exact h1) B B' d d' w) ?_
      rw [HR, hb]
      show false = (_ && _ && _ && _ && ((n == 0) || (n == 1)))
      rw [beq_eq_false_iff_ne.2 h0, beq_eq_false_iff_ne.2 h1, Bool.or_false, Bool.and_false]
    · obtain rfl : s = [] := by simpa using b2
      obtain rfl : l = [] := by simpa using b3
      obtain rfl : m = [] := by simpa using b4
      by_cases h0 : n < -9007199254740991
      · refine ret_b (own_ilo n (decide_eq_true h0) B B' d d' w) ?_
        rw [HR, hb]
        show false = (_ && _ && _ && _ && (decide (-9007199254740991 ≤ n) && decide (n ≤ 9007199254740991)))
        rw [decide_eq_false (show ¬ (-9007199254740991 ≤ n) by omega), Bool.false_and, Bool.and_false]
      by_cases h1 : 9007199254740991 < n
      · refine ret_b (own_ihi n (decide_eq_false h0) (decide_eq_true h1) B B' d d' w) ?_
        rw [HR, hb]
        show false = (_ && _ && _ && _ && (decide (-9007199254740991 ≤ n) && decide (n ≤ 9007199254740991)))
        rw [decide_eq_false (show ¬ (n ≤ 9007199254740991) by omega), Bool.and_false, Bool.and_false]
      · refine ret_b (own_i n (decide_eq_false h0) (decide_eq_false h1) B B' d d' w) ?_
        rw [HR, hb]
        show true = (true && true && true && true && (decide (-9007199254740991 ≤ n) && decide (n ≤ 9007199254740991)))
        rw [decide_eq_true (show (-9007199254740991 ≤ n) by omega), decide_eq_true (show (n ≤ 9007199254740991) by omega)]; rfl
    · obtain rfl : n = 0 := by omega
      obtain rfl : l = [] := by simpa using b3
      obtain rfl : m = [] := by simpa using b4
      have hz : (⟨s.toArray⟩ : ByteArray).size = s.length := by show s.toArray.size = _; simp
      have hbd : Hid (Utf.bad (⟨s.toArray⟩ : ByteArray).data.toList = Utf.bad s) := rfl
      by_cases hq : Utf.bad s = s.length
      · refine ret_b (own_t ⟨s.toArray⟩ (Utf.bad s) (by rw [hz]; omega) hbd (by rw [hz, hq, bne_eq_false_iff_eq]) B B' d d' w) ?_
        rw [HR, hb]
        show true = (true && true && true && (Utf.bad s == s.length) && true)
        rw [beq_iff_eq.2 hq]; rfl
      · refine ret_b (own_tx ⟨s.toArray⟩ (Utf.bad s) (by rw [hz]; omega) hbd (by rw [hz, bne_iff_ne]; omega) B B' d d' w) ?_
        rw [HR, hb]
        show false = (true && true && true && (Utf.bad s == s.length) && true)
        rw [beq_eq_false_iff_ne.2 hq]; rfl
    · obtain rfl : n = 0 := by omega
      obtain rfl : s = [] := by simpa using b2
      obtain rfl : m = [] := by simpa using b4
      refine ret_b (own_l l.length B B' d d' w) ?_
      rw [HR, hb]; rfl
    · obtain rfl : n = 0 := by omega
      obtain rfl : s = [] := by simpa using b2
      obtain rfl : l = [] := by simpa using b3
      refine ret_b (own_map m B B' d d' w hms hmn hm63) ?_
      rw [HR, hb]; rfl

/-- What Walk does. -/
def RWk (v : JV) (x : Value) (d p : Nat) (w : World) : Prop := ∀ c q, JV.chk v d p = (c, q) → Calls Tryd.prog 44 #[x, .int .i64 (d : Nat), .int .i64 (p : Nat)] w fun e w' => e = .returned (.tuple #[.int .i64 (q : Nat), .int .i64 (c : Nat)]) ∧ Fr w w'
theorem RWk.call {v : JV} {x x' : Value} {d p : Nat} {w : World} (h : RWk v x d p w) {c q : Nat} {z y : Int} (hx : x' = x) (hz : z = ((d : Nat) : Int)) (hy : y = ((p : Nat) : Int)) (hc : JV.chk v d p = (c, q)) :
    Calls Tryd.prog 44 #[x', .int .i64 z, .int .i64 y] w fun e w' => e = .returned (.tuple #[.int .i64 (q : Nat), .int .i64 (c : Nat)]) ∧ Fr w w' := by
  subst hx; subst hz; subst hy; exact h c q hc

set_option maxHeartbeats 4000000 in
set_option maxRecDepth 100000 in
theorem rwalk_out (v : JV) (A : Option Addr) (c0 : Nat) (A' : Option Addr) (c0' : Nat) (d p : Nat) (w : World) (hv : InV w (Lo w.heap.size) v (vA v A c0 A' c0')) (hbk : JV.bulk v ≤ 1100000) (hp : p ≤ 8192) (hd : d ≤ 17)
    (ho : 16 < d ∨ 8192 ≤ p ∨ JV.rightB v = false) : RWk v (vA v A c0 A' c0') d p w := by
  intro c q hch
  have HV := Lib.hid hv
  have HBK := Lib.hid hbk
  have hch' : (if 16 < d then (51, p) else if 8192 ≤ p then (53, p) else (1, p)) = (c, q) := by
    rw [← hch]
    obtain ⟨k, n, s, l, m⟩ := v
    rw [JV.chk_mk]
    by_cases h1 : 16 < d
    · rw [if_pos h1, if_pos h1]
    by_cases h2 : 8192 ≤ p
    · rw [if_neg h1, if_neg h1, if_pos h2, if_pos h2]
    rw [if_neg h1, if_neg h1, if_neg h2, if_neg h2, if_pos (by rcases ho with h | h | h <;> first | omega | exact h)]
  have hrr : ¬ 16 < d → ¬ 8192 ≤ p → JV.rightB v = false := fun h1 h2 => by rcases ho with h | h | h <;> first | omega | exact h
  clear hch ho hv hbk
  obtain ⟨K, hK⟩ : ∃ K, v.kd = K := ⟨_, rfl⟩
  obtain ⟨N, hN⟩ : ∃ N, v.nm = N := ⟨_, rfl⟩
  obtain ⟨S, hS⟩ : ∃ S, (⟨v.tx.toArray⟩ : ByteArray) = S := ⟨_, rfl⟩
  obtain ⟨L, hL⟩ : ∃ L, v.ls.length = L := ⟨_, rfl⟩
  obtain ⟨M, hM⟩ : ∃ M, v.ms.length = M := ⟨_, rfl⟩
  have hva : vA v A c0 A' c0' = .agg #[.int .i64 K, .int .i64 N, .string S, .slice A L c0, .slice A' M c0'] := by rw [← hK, ← hN, ← hS, ← hL, ← hM]; rfl
  have HVA := Lib.hid hva
  rw [hva]
  clear hva hK hN hS hL hM
  by_cases h1 : 16 < d
  · have d1 : decide ((16 : Int) < (d : Int)) = true := decide_eq_true (by omega)
    rw [if_pos h1, Prod.mk.injEq] at hch'
    obtain ⟨rfl, rfl⟩ := hch'
    clear hrr
    go_enter Tryd.func44, Tryd.ntmps44
    go_wp2_with fail
    go_ret2
    exact ⟨rfl, (Fr.refl _).alloc _⟩
  have d1 : decide ((16 : Int) < (d : Int)) = false := decide_eq_false (by omega)
  rw [if_neg h1] at hch'
  by_cases h2 : 8192 ≤ p
  · obtain rfl : p = 8192 := by omega
    rw [if_pos h2, Prod.mk.injEq] at hch'
    obtain ⟨rfl, rfl⟩ := hch'
    clear hrr
    go_enter Tryd.func44, Tryd.ntmps44
    go_wp2_with fail
    go_ret2
    exact ⟨rfl, (Fr.refl _).alloc _⟩
  have d2 : ((p : Int) == 8192) = false := by rw [beq_eq_false_iff_ne]; omega
  rw [if_neg h2, Prod.mk.injEq] at hch'
  obtain ⟨rfl, rfl⟩ := hch'
  have HR := Lib.hid (hrr h1 h2)
  clear hrr
  go_enter Tryd.func44, Tryd.ntmps44
  go_wp2_with (go_at_call 50; rw [← HVA.out]; refine (own_is v A c0 A' c0' _ ((HV.out.keep (Nat.le_refl _) ((Fr.refl w).alloc _)).lo (by simp)) HBK.out false HR.out).mono ?_; rintro e w1 ⟨rfl, hw1⟩; have HW1 := Lib.hid (((Fr.refl w).alloc _).trans hw1); clear hw1)
  go_ret2
  exact ⟨rfl, HW1.out⟩

set_option maxHeartbeats 4000000 in
set_option maxRecDepth 100000 in
theorem rwalk_is (v : JV) : ∀ (x : Value) (d p : Nat) (w : World), InV w (Lo w.heap.size) v x → JV.bulk v ≤ 1100000 → p ≤ 8192 → d ≤ 17 → RWk v x d p w := by
  induction v using JV.ind with
  | h k n s l m ihl ihm =>
    intro x d p w hv hbk hp hd
    obtain ⟨A, c0, A', c0', rfl, hls, hms⟩ := hv.open_
    by_cases ho : 16 < d ∨ 8192 ≤ p ∨ JV.rightB (.mk k n s l m) = false
    · exact rwalk_out (.mk k n s l m) A c0 A' c0' d p w hv hbk hp hd ho
    intro c q hch
    rw [JV.chk_mk, if_neg (by omega), if_neg (by omega), if_neg (fun h => ho (.inr (.inr h)))] at hch
    obtain ⟨_, _, _, hl63, hm63⟩ := hv.facts
    have hl63 : l.length ≤ 140737488355328 := hl63
    have hm63 : m.length ≤ 140737488355328 := hm63
    have HV := Lib.hid hv
    have HBK := Lib.hid hbk
    rw [JV.bulk_mk] at hbk
    have HBL : Hid (∀ u ∈ l, JV.bulk u ≤ 1100000) := by intro u hu; have := JV.bulkL_mem hu; have : l.length ≠ 0 := fun e => by simp [List.length_eq_zero_iff.1 e] at hu
                                                        omega
    have HBM : Hid (∀ u ∈ m, JV.bulk u.2 ≤ 1100000) := by intro u hu; have := JV.bulkM_mem hu; omega
    clear hv hbk
    have d1 : decide ((16 : Int) < (d : Int)) = false := decide_eq_false (by omega)
    have d2 : ((p : Int) == 8192) = false := by rw [beq_eq_false_iff_ne]; omega
    have hr : JV.rightB (.mk k n s l m) = true := by
      cases h : JV.rightB (.mk k n s l m) with
      | true => rfl
      | false => exact absurd (.inr (.inr h)) ho
    have HR := Lib.hid hr
    have hp2 : (p : Int) ≤ 8191 := by omega
    have hd2 : (d : Int) ≤ 16 := by omega
    have HCH := Lib.hid hch
    have HLS : Hid (LsC w (Lo w.heap.size) A l) := hls
    have HMS : Hid (MsC w (Lo w.heap.size) A' m) := hms
    have hl63' : (l.length : Int) ≤ 140737488355328 := by omega
    have hm63' : (m.length : Int) ≤ 140737488355328 := by omega
    obtain ⟨S, hS⟩ : ∃ S, (⟨s.toArray⟩ : ByteArray) = S := ⟨_, rfl⟩
    obtain ⟨L, hL⟩ : ∃ L, l.length = L := ⟨_, rfl⟩
    obtain ⟨M, hM⟩ : ∃ M, m.length = M := ⟨_, rfl⟩
    rw [hL] at hl63'
    rw [hM] at hm63'
    have HL := Lib.hid hL
    have HM := Lib.hid hM
    have hva : vA (.mk k n s l m) A c0 A' c0' = .agg #[.int .i64 k, .int .i64 n, .string S, .slice A L c0, .slice A' M c0'] := by rw [← hS, ← hL, ← hM]; rfl
    have HVA := Lib.hid hva
    rw [hva]
    clear ho hr hch hls hms hl63 hm63 hL hM hva hS
    have HIHL := Lib.hid ihl
    have HIHM := Lib.hid ihm
    clear ihl ihm
    go_enter Tryd.func44, Tryd.ntmps44
    go_wp2_with (go_at_call 50; rw [← HVA.out]; refine (own_is (.mk k n s l m) A c0 A' c0' _ ((HV.out.keep (Nat.le_refl _) ((Fr.refl w).alloc _)).lo (by simp)) HBK.out true HR.out).mono ?_; rw [HVA.out]; rintro e w1 ⟨rfl, hw1⟩; have HB1 := Lib.hid ((Blk.made w #[.int .i64 k, .int .i64 n, .string S, .slice A L c0, .slice A' M c0'] 25).keep hw1); have HW1 := Lib.hid (((Fr.refl w).alloc _).trans hw1); clear hw1)
    go_loopw [8, 9, 10] (fun n1 y1 j wr => ∃ (i q1 : Nat), i ≤ L ∧ n1 = .int .i64 q1 ∧ y1 = .int .i64 0 ∧ j = .int .i64 i ∧ q1 ≤ 8192 ∧ Hid (JV.chkL l (d + 1) (p + 1) = JV.chkL (l.drop i) (d + 1) q1) ∧ Hid (Fr w1 wr)) (fun _ _ j _ => L - (intOf j).toNat)
    case atStart => exact ⟨0, p + 1, by omega, by go_num, rfl, rfl, by omega, Lib.hid rfl, Lib.hid (Fr.refl _)⟩
    case round =>
      obtain ⟨i, q1, hi, rfl, rfl, rfl, hq1, hC, hR⟩ := hrel
      have u3 := (HB1.out.keep hR.out).cell 3
      have HWR : Hid (Fr w wr) := Lib.hid (HW1.out.trans hR.out)
      by_cases h : i < L
      · have hil : i < l.length := by have := HL.out; omega
        obtain ⟨b, o, B, dd, B', dd', rfl, hb, ⟨e1, e2, e3, e4, e5⟩, hiv⟩ := (HLS.out.keep (Nat.le_refl _) HWR.out) i hil
        have hcl := chkL_at (d := d + 1) (q := q1) hil
        have hih := HIHL.out l[i] (List.getElem_mem hil)
        have hbu := HBL.out l[i] (List.getElem_mem hil)
        obtain ⟨u, hu⟩ : ∃ u, l[i] = u := ⟨_, rfl⟩
        rw [hu] at e1 e2 e3 e4 e5 hiv hcl hih hbu
        clear hu
        have HIV : Hid (InV wr (Lo wr.heap.size) u (vA u B dd B' dd')) := Lib.hid (hiv.lo HWR.out.size)
        have HIH := Lib.hid hih
        have HBU := Lib.hid hbu
        rcases hck : JV.chk u (d + 1) q1 with ⟨cc, q2⟩
        rw [hck] at hcl
        have HCK := Lib.hid hck
        have HCLL := Lib.hid hcl
        have h' : (i : Int) < (L : Int) := by omega
        clear hck hcl hih hiv hbu
        by_cases h0 : cc = 0
        · subst h0
          go_wp2_with (go_at_call 44; refine ((HIH.out _ (d + 1) q1 _ HIV.out HBU.out hq1 (by omega)).call rfl (by omega) rfl HCK.out).mono ?_; rintro e w2 ⟨rfl, hf⟩; have HF2 := Lib.hid (hR.out.trans hf); clear hf)
          refine ⟨⟨i + 1, q2, by omega, rfl, rfl, by go_num, chk_le HCK.out rfl, Lib.hid ?_, HF2⟩, by simp [intOf]; omega⟩
          rw [hC.out, HCLL.out]; simp
        · have hne : ((cc : Int) != 0) = true := by rw [bne_iff_ne]; omega
          have HR2 : Hid (JV.chkL l (d + 1) (p + 1) = (cc, q2)) := by show _ = _; rw [hC.out, HCLL.out, if_pos h0]
          have HCC : Hid (cc = c ∧ q2 = q) := by have := HCH.out; rw [HR2.out, if_pos h0] at this; exact Prod.mk.inj this
          go_wp2_with (go_at_call 44; refine ((HIH.out _ (d + 1) q1 _ HIV.out HBU.out hq1 (by omega)).call rfl (by omega) rfl HCK.out).mono ?_; rintro e w2 ⟨rfl, hf⟩; have HF2 := Lib.hid (hR.out.trans hf); clear hf)
          go_ret2
          exact ⟨by obtain ⟨rfl, rfl⟩ := HCC.out; rfl, HW1.out.trans HF2.out⟩
      · obtain rfl : L = i := by omega
        have HQ : Hid (JV.chkL l (d + 1) (p + 1) = (0, q1)) := by
          show _ = _
          rw [hC.out, ← HL.out, List.drop_length, JV.chkL_nil]
        have HCH2 : Hid (JV.chkM m (d + 1) q1 = (c, q)) := by
          show _ = _
          have := HCH.out
          rw [HQ.out] at this
          simpa using this
        go_wp2_with fail
        obtain ⟨w3, rfl⟩ : ∃ w3 : World, w3 = wr := ⟨_, rfl⟩
        go_loopw [8, 9, 11] (fun n1 y1 j wr => ∃ (i q1 : Nat), i ≤ M ∧ n1 = .int .i64 q1 ∧ j = .int .i64 i ∧ q1 ≤ 8192 ∧ Hid ((c, q) = JV.chkM (m.drop i) (d + 1) q1) ∧ Hid (Fr w1 wr)) (fun _ _ j _ => M - (intOf j).toNat)
        case atStart => exact ⟨0, q1, by omega, rfl, rfl, hq1, Lib.hid HCH2.out.symm, hR⟩
        case round =>
          obtain ⟨i, q1, hi, rfl, rfl, hq1, hC, hR⟩ := hrel
          have u4 := (HB1.out.keep hR.out).cell 4
          have HWR : Hid (Fr w wr) := Lib.hid (HW1.out.trans hR.out)
          by_cases h : i < M
          · have hil : i < m.length := by have := HM.out; omega
            obtain ⟨b, o, B, dd, B', dd', rfl, hb, hnl, e0, ⟨e1, e2, e3, e4, e5⟩, hiv⟩ := (HMS.out.keep (Nat.le_refl _) HWR.out) i hil
            have hcl := chkM_at (d := d + 1) (q := q1) hil
            have hih := HIHM.out m[i] (List.getElem_mem hil)
            have hbu := HBM.out m[i] (List.getElem_mem hil)
            obtain ⟨u, hu⟩ : ∃ u, m[i] = u := ⟨_, rfl⟩
            rw [hu] at e0 e1 e2 e3 e4 e5 hiv hcl hih hbu
            obtain ⟨nm, u⟩ := u
            simp only at e0 e1 e2 e3 e4 e5 hiv hcl hih hbu
            clear hu
            have HIV : Hid (InV wr (Lo wr.heap.size) u (vA u B dd B' dd')) := Lib.hid (hiv.lo HWR.out.size)
            have HIH := Lib.hid hih
            have HBU := Lib.hid hbu
            rcases hck : JV.chk u (d + 1) q1 with ⟨cc, q2⟩
            rw [hck] at hcl
            have HCK := Lib.hid hck
            have HCLL := Lib.hid hcl
            have h' : (i : Int) < (M : Int) := by omega
            clear hck hcl hih hiv hbu hnl
            by_cases h0 : cc = 0
            · subst h0
              go_wp2_with (go_at_call 44; refine ((HIH.out _ (d + 1) q1 _ HIV.out HBU.out hq1 (by omega)).call rfl (by omega) rfl HCK.out).mono ?_; rintro e w2 ⟨rfl, hf⟩; have HF2 := Lib.hid (hR.out.trans hf); clear hf)
              refine ⟨⟨i + 1, q2, by omega, rfl, by go_num, chk_le HCK.out rfl, Lib.hid ?_, HF2⟩, by simp [intOf]; omega⟩
              rw [hC.out, HCLL.out]; simp
            · have hne : ((cc : Int) != 0) = true := by rw [bne_iff_ne]; omega
              have HCC : Hid (cc = c ∧ q2 = q) := by have := hC.out; rw [HCLL.out, if_pos h0] at this; exact Prod.mk.inj this.symm
              go_wp2_with (go_at_call 44; refine ((HIH.out _ (d + 1) q1 _ HIV.out HBU.out hq1 (by omega)).call rfl (by omega) rfl HCK.out).mono ?_; rintro e w2 ⟨rfl, hf⟩; have HF2 := Lib.hid (hR.out.trans hf); clear hf)
              go_ret2
              exact ⟨by obtain ⟨rfl, rfl⟩ := HCC.out; rfl, HW1.out.trans HF2.out⟩
          · obtain rfl : M = i := by omega
            have HE : Hid ((c, q) = (0, q1)) := by
              show _ = _
              rw [hC.out, ← HM.out, List.drop_length, JV.chkM_nil]
            obtain ⟨rfl, rfl⟩ := Prod.mk.inj HE.out
            go_wp2_with fail
            go_ret2
            exact ⟨rfl, HWR.out⟩
end Go.Proofs.YtgncdjcbphobmaaDoor
