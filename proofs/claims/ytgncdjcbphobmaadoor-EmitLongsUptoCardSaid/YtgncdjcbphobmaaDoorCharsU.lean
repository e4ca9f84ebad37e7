/- The walk of the document's Quote. -/
import Derived.Test.YtgncdjcbphobmaaDoorRa
namespace Go.Proofs.YtgncdjcbphobmaaDoor
set_option linter.unusedVariables false
set_option linter.unusedSimpArgs false
open Go.RowKit

/-- The letter that the table gives for a point, among its first j. -/
def rl : Nat → Nat → UInt8
  | 0, _ => 0
  | j + 1, p => if ptAt j = p ∧ p ≠ 47 then ltAt j else rl j p
theorem rl_low : ∀ p : Fin 128, rl 8 p.val = Chr.letter (UInt8.ofNat p.val) := by decide +kernel
theorem pt_low : ∀ j : Fin 8, ptAt j.val < 128 := by decide +kernel
theorem rl_high {p : Nat} (h : 128 ≤ p) : ∀ j, j ≤ 8 → rl j p = 0
  | 0, _ => rfl
  | j + 1, hj => by
    have := pt_low ⟨j, by omega⟩
    simp only at this
    unfold rl
    rw [if_neg (by omega), rl_high h j (by omega)]
theorem escP_letter {p : Nat} (h : rl 8 p ≠ 0) : Chr.escP p = [92, rl 8 p] := by
  by_cases hp : p < 128
  · have e := rl_low ⟨p, hp⟩
    simp only at e
    unfold Chr.escP
    rw [e] at h ⊢
    rw [if_pos ⟨h, hp⟩]
  · exact absurd (rl_high (by omega) 8 (by omega)) h
theorem escP_none {p : Nat} (h : rl 8 p = 0) : Chr.escP p = if p < 32 then [92, 117, 48, 48, Chr.hexd (p / 16), Chr.hexd (p % 16)] else Utf.bytes p := by
  unfold Chr.escP
  rw [if_neg]
  intro hx
  have e := rl_low ⟨p, hx.2⟩
  simp only at e
  rw [h] at e
  exact hx.1 e.symm

theorem pts_len : ∀ (n : Nat) (l : List UInt8), l.length ≤ n → (Utf.pts l).length ≤ l.length
  | 0, l, h => by obtain rfl : l = [] := List.eq_nil_of_length_eq_zero (by omega); simp [Utf.pts_nil]
  | n + 1, l, h => by
    by_cases h0 : (Utf.one l).2 = 0
    · rw [Utf.pts_stop h0]; simp
    · have h1 := Utf.one_len (l := l)
      have h2 := pts_len n (l.drop (Utf.one l).2) (by simp; omega)
      rw [Utf.pts_step h0]
      simp only [List.length_cons, List.length_drop] at *
      omega
theorem hex_div (p : Nat) (w : World) (h : p < 256) : Calls Tryd.prog 67 #[.int .i64 ((p : Int) / 16)] w fun e w' => e = .returned (.int .u8 (Chr.hexd (p / 16)).toNat) ∧ w = w' := by
  rw [show (p : Int) / 16 = ((p / 16 : Nat) : Int) by omega]; exact hex_is (p / 16) w (by omega)
theorem hex_mod (p : Nat) (w : World) (h : p < 256) : Calls Tryd.prog 67 #[.int .i64 ((p : Int) % 16)] w fun e w' => e = .returned (.int .u8 (Chr.hexd (p % 16)).toNat) ∧ w = w' := by
  rw [show (p : Int) % 16 = ((p % 16 : Nat) : Int) by omega]; exact hex_is (p % 16) w (by omega)

structure QPInv (s : ByteArray) (i : Nat) (l : List UInt8) : Prop where
  eq : Chr.quote s.data.toList = l ++ ((Utf.pts s.data.toList).drop i).flatMap Chr.escP ++ [34]
theorem QPInv.start {s : ByteArray} (h : Utf.bad s.data.toList = s.size) : QPInv s 0 [34] := by
  refine ⟨?_⟩
  rw [List.drop_zero, ← Chr.quote_pts (by rw [h]; simp)]
  simp [Chr.quote]
theorem QPInv.step {s : ByteArray} {i p : Nat} {l : List UInt8} (h : QPInv s i l) (hi : i < (Utf.pts s.data.toList).length) (hp : (Utf.pts s.data.toList)[i] = p) : QPInv s (i + 1) (l ++ Chr.escP p) := by
  refine ⟨?_⟩
  rw [h.eq, List.drop_eq_getElem_cons hi, hp, List.flatMap_cons]
  simp
theorem QPInv.stop {s : ByteArray} {i : Nat} {l : List UInt8} (h : QPInv s i l) (hi : ¬ i < (Utf.pts s.data.toList).length) : Chr.quote s.data.toList = l ++ [34] := by
  rw [h.eq, List.drop_of_length_le (by omega)]; simp
theorem QPInv.len {s : ByteArray} {i : Nat} {l : List UInt8} (h : QPInv s i l) : l.length + 1 ≤ (Chr.quote s.data.toList).length := by
  rw [h.eq]; simp only [List.length_append, List.length_cons, List.length_nil]; omega
theorem QPInv.len2 {s : ByteArray} {i p : Nat} {l : List UInt8} (h : QPInv s i l) (hi : i < (Utf.pts s.data.toList).length) (hp : (Utf.pts s.data.toList)[i] = p) : l.length + (Chr.escP p).length ≤ (Chr.quote s.data.toList).length := by
  have := (h.step hi hp).len
  simp only [List.length_append] at this
  omega

set_option maxHeartbeats 400000 in
set_option maxRecDepth 100000 in
theorem rquote_no (s : ByteArray) (w : World) (hs : s.size ≤ 17592186044415) (hb : Utf.bad s.data.toList ≠ s.size) :
    Calls Tryd.prog 46 #[.string s] w fun e w' => e = .returned (.tuple #[.string ⟨#[]⟩, .bool false]) ∧ Fr w w' := by
  have hl := Utf.bad_le s.data.toList
  have hl2 : s.data.toList.length = s.size := by simp
  have hS := Lib.hid hs
  obtain ⟨b, hbb⟩ : ∃ b, Utf.bad s.data.toList = b := ⟨_, rfl⟩
  rw [hbb] at hb hl
  have HB := Lib.hid hbb
  clear hbb
  have hne : ((b : Int) != (s.size : Int)) = true := by rw [bne_iff_ne]; omega
  clear hl hl2 hb
  go_enter Tryd.func46, Tryd.ntmps46
  go_wp2_with (go_at_call 66; refine (points_is s _ hS.out).mono ?_; rw [HB.out]; rintro e w' ⟨v, rfl, hps, hf⟩)
  go_ret2
  exact ⟨rfl, hf⟩

set_option maxHeartbeats 4000000 in
set_option maxRecDepth 100000 in
theorem rquote_yes (s : ByteArray) (w : World) (hs : s.size ≤ 17592186044415) (hb : Utf.bad s.data.toList = s.size) (hq : (Chr.quote s.data.toList).length ≤ 140737488355328) (hT : PtTab w) :
    Calls Tryd.prog 46 #[.string s] w fun e w' => e = .returned (.tuple #[.string ⟨(Chr.quote s.data.toList).toArray⟩, .bool true]) ∧ Fr w w' := by
  have hS := Lib.hid hs
  have HI0 := Lib.hid (QPInv.start hb)
  have hok := (Utf.pts_sound _ s.data.toList (Nat.le_refl _) (by rw [hb]; simp)).2
  have HB := Lib.hid hb
  have HT := Lib.hid hT
  have HOK := Lib.hid hok
  clear hb hT hok
  obtain ⟨Q, hQ⟩ : ∃ Q, Q = (Chr.quote s.data.toList).length := ⟨_, rfl⟩
  rw [← hQ] at hq
  have HQ := Lib.hid hQ
  clear hQ
  obtain ⟨ps, hps0⟩ : ∃ ps, Utf.pts s.data.toList = ps := ⟨_, rfl⟩
  have hpsl : ps.length ≤ s.size := by
    have := pts_len _ s.data.toList (Nat.le_refl _)
    rw [hps0] at this
    simpa using this
  have HPS := Lib.hid hps0
  clear hps0
  go_enter Tryd.func46, Tryd.ntmps46
  go_wp2_with (go_at_call 66; refine (points_is s _ hS.out).mono ?_; rw [HB.out, HPS.out]; rintro e w1 ⟨v, rfl, hps, hf⟩; have HF1 := Lib.hid hf; have HP1 := Lib.hid hps; clear hf hps)
  rcases Row.form HP1.out with ⟨rfl, he⟩ | ⟨g, cap, rfl, hbg, hlt, hc, _, hcells⟩
  · have hpn : ps = [] := by cases ps with
      | nil => rfl
      | cons c l => simp [pvs] at he
    have hst : Hid (Chr.quote s.data.toList = [34] ++ [34]) := by
      show _ = _
      exact HI0.out.stop (by rw [HPS.out, hpn]; simp)
    clear he
    refine wp_loop_rounds 1 ?_
    rw [rounds_succ]
    go_wp2_with (at_builtin; refine wpl_bs_lit rfl (.tmp 67) (.tmp 68) rfl w (HF1.out.alloc _) _ [34] rfl (Bs.mono (Bs.made w1 [34] (by unfold maxLen; simp)) HF1.out.size) [34] rfl (by simp) rfl rfl rfl (by simp) ?_; intro v' w2 hps2 hfr2; have hcv := hps2.conv; have HF2 := Lib.hid hfr2; clear hps2 hfr2)
    go_ret2
    exact ⟨by rw [hst.out]; rfl, HF2.out⟩
  · rw [pvs_len] at hc
    have hcells' : Hid (∀ i (hi : i < ps.length), w1.cell? ⟨g, i, none⟩ = some (.int .i64 (ps[i] : Nat))) := by
      show ∀ i (hi : i < ps.length), _
      intro i hi
      exact hcells i _ (by simp [pvs, List.getElem?_eq_getElem hi])
    have hpl : (pvs ps).length = ps.length := pvs_len ps
    rw [hpl]
    clear hcells hpl hbg
    go_loopw [6, 7] (fun v j wr => ∃ (i : Nat) (l : List UInt8), i ≤ ps.length ∧ j = .int .i64 i ∧ Hid (QPInv s i l) ∧ Hid (Bs wr w1.heap.size v l) ∧ Hid (Fr w1 wr)) (fun _ j _ => ps.length - (intOf j).toNat)
    case atStart => exact ⟨0, [34], by omega, rfl, HI0, Lib.hid (Bs.made w1 [34] (by unfold maxLen; simp)), Lib.hid (Fr.alloc (Fr.refl _) _)⟩
    case round =>
      obtain ⟨i, l, hi, rfl, hq', hbs, hfr⟩ := hrel
      by_cases hil : i < ps.length
      · have hiz : (i : Int) < (ps.length : Int) := by omega
        obtain ⟨p, hp⟩ : ∃ p, ps[i] = p := ⟨_, rfl⟩
        have hcell : wr.cell? ⟨g, i, none⟩ = some (.int .i64 (p : Nat)) := by rw [hfr.out.cell hlt, hcells'.out i hil, hp]
        have hil' : i < (Utf.pts s.data.toList).length := by rw [HPS.out]; exact hil
        have hp' : (Utf.pts s.data.toList)[i] = p := by rw [← hp]; simp only [HPS.out]
        have hpt : Utf.isPt p = true := HOK.out p (by rw [← hp']; exact List.getElem_mem _)
        have hpb : p ≤ 1114111 := (Utf.isPt_iff.1 hpt).1
        have HPt := Lib.hid hpt
        have hlen := hq'.out.len2 hil' hp'
        rw [← HQ.out] at hlen
        have hnx := Lib.hid (hq'.out.step hil' hp')
        have HTR := Lib.hid ((HT.out.keep HF1.out).keep hfr.out)
        clear hpt hil' hp'
        go_wp2_with fail
        go_loop [9, 10] (fun v j => ∃ m : Nat, m ≤ 8 ∧ j = .int .i64 m ∧ v = .int .u8 (rl m p).toNat) (fun _ j => 8 - (intOf j).toNat)
        case atStart => exact ⟨0, by omega, rfl, rfl⟩
        case round =>
          obtain ⟨m, hm, rfl, rfl⟩ := hrel
          by_cases hml : m < 8
          · have hmz : (m : Int) < 8 := by omega
            have hcm := HTR.out m hml
            obtain ⟨x, hx⟩ : ∃ x, (⟨#[34, 92, 47, 98, 102, 110, 114, 116]⟩ : ByteArray)[m]'(by show m < 8; exact hml) = x := ⟨_, rfl⟩
            have hxl : ltAt m = x := (lt_idx ⟨m, hml⟩).symm.trans hx
            obtain ⟨q, hq2⟩ : ∃ q, ptAt m = q := ⟨_, rfl⟩
            rw [hq2] at hcm
            by_cases hpq : q = p
            · subst hpq
              by_cases h47 : q = 47
              · have e1 : ((q : Int) != 47) = false := by rw [bne_eq_false_iff_eq]; omega
                have hrl : Hid ((rl m q).toNat = (rl (m + 1) q).toNat) := by show _ = _; conv => rhs; unfold rl; rw [if_neg (by omega)]
                go_wp2_with fail
                exact ⟨⟨m + 1, by omega, by go_num, by rw [hrl.out]⟩, by simp [intOf]; omega⟩
              · have e1 : ((q : Int) != 47) = true := by rw [bne_iff_ne]; omega
                have hrl : Hid (x.toNat = (rl (m + 1) q).toNat) := by show _ = _; unfold rl; rw [if_pos ⟨hq2, h47⟩, hxl]
                go_wp2_with fail
                exact ⟨⟨m + 1, by omega, by go_num, by rw [hrl.out]⟩, by simp [intOf]; omega⟩
            · have e1 : ((q : Int) == (p : Int)) = false := by rw [beq_eq_false_iff_ne]; omega
              have hrl : Hid ((rl m p).toNat = (rl (m + 1) p).toNat) := by show _ = _; conv => rhs; unfold rl; rw [if_neg (by omega)]
              go_wp2_with fail
              exact ⟨⟨m + 1, by omega, by go_num, by rw [hrl.out]⟩, by simp [intOf]; omega⟩
          · obtain rfl : m = 8 := by omega
            obtain ⟨e, he⟩ : ∃ e, rl 8 p = e := ⟨_, rfl⟩
            rw [he]
            by_cases h0 : e = 0
            · subst h0
              have hes := escP_none he
              by_cases h32 : p < 32
              · rw [if_pos h32] at hes
                rw [hes] at hlen hnx
                simp only [List.length_cons, List.length_nil] at hlen
                have d32 : decide ((p : Int) < 32) = true := decide_eq_true (by omega)
                clear hes he
                go_wp2_with (first
                  | (go_at_call 67; have hm := MK.out; refine (hex_mod p _ (by omega)).mono ?_; rintro e w2 ⟨rfl, rfl⟩)
                  | (go_at_call 67; refine (hex_div p _ (by omega)).mono ?_; rintro e w2 ⟨rfl, rfl⟩; have MK := Lib.hid trivial)
                  | (at_builtin; refine wpl_bs_lit rfl (.tmp 54) (.tmp 61) rfl w1 hfr.out _ l rfl hbs.out [92, 117, 48, 48, Chr.hexd (p / 16), Chr.hexd (p % 16)] rfl rfl rfl rfl rfl (by simp; omega) ?_; intro v' w2 hps2 hfr2; have HP2 := Lib.hid hps2; have HF2 := Lib.hid hfr2; clear hps2 hfr2))
                exact ⟨⟨i + 1, l ++ [92, 117, 48, 48, Chr.hexd (p / 16), Chr.hexd (p % 16)], by omega, by go_num, hnx, HP2, HF2⟩, by simp [intOf]; omega⟩
              · rw [if_neg h32] at hes
                rw [hes] at hlen hnx
                have d32 : decide ((p : Int) < 32) = false := decide_eq_false (by omega)
                clear hes he
                go_wp2_with (first
                  | (go_at_call 61; refine (rbytes_is p _ HPt.out).mono ?_; rintro e w2 ⟨vb, rfl, hb2, hf2⟩; have HF2 := Lib.hid (hfr.out.trans hf2); have HK2 := Lib.hid hf2; have HB2 := Lib.hid hb2; clear hf2 hb2)
                  | (at_builtin; refine wpl_bs rfl (.tmp 63) (.tmp 65) rfl w1 HF2.out _ _ rfl (hbs.out.keep HK2.out) _ _ (Utf.bytes p) rfl HB2.out (by omega) ?_; intro v' w3 hps3 hfr3 _; have HP3 := Lib.hid hps3; have HF3 := Lib.hid hfr3; clear hps3 hfr3))
                exact ⟨⟨i + 1, l ++ Utf.bytes p, by omega, by go_num, hnx, HP3, HF3⟩, by simp [intOf]; omega⟩
            · have hes := escP_letter (p := p) (by rw [he]; exact h0)
              rw [he] at hes
              rw [hes] at hlen hnx
              simp only [List.length_cons, List.length_nil] at hlen
              have hne : ((e.toNat : Int) != 0) = true := by
                rw [bne_iff_ne]; intro x; apply h0; exact UInt8.toNat_inj.1 (by simpa using x)
              clear hes he h0
              go_wp2_with (at_builtin; refine wpl_bs_lit rfl (.tmp 48) (.tmp 50) rfl w1 hfr.out _ l rfl hbs.out [92, e] rfl rfl rfl rfl rfl (by simp; omega) ?_; intro v' w2 hps2 hfr2; have HP2 := Lib.hid hps2; have HF2 := Lib.hid hfr2; clear hps2 hfr2)
              exact ⟨⟨i + 1, l ++ [92, e], by omega, by go_num, hnx, HP2, HF2⟩, by simp [intOf]; omega⟩
      · have hst := Lib.hid (hq'.out.stop (by rw [HPS.out]; exact hil))
        have hlen := hq'.out.len
        rw [← HQ.out] at hlen
        have hiz : ¬ (i : Int) < (ps.length : Int) := by omega
        go_wp2_with (at_builtin; refine wpl_bs_lit rfl (.tmp 67) (.tmp 68) rfl w1 hfr.out _ l rfl hbs.out [34] rfl rfl rfl rfl rfl (by simp; omega) ?_; intro v' w2 hps2 hfr2; have hcv := hps2.conv; have HF2 := Lib.hid hfr2; clear hps2 hfr2)
        go_ret2
        exact ⟨by rw [hst.out]; rfl, HF1.out.trans HF2.out⟩

end Go.Proofs.YtgncdjcbphobmaaDoor
