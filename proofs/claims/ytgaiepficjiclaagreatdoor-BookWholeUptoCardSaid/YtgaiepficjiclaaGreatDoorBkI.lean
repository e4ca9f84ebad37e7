/- What chapter 15's awake sees. -/
import Derived.Test.YtgaiepficjiclaaGreatDoorBkD
import Derived.Test.YtgaiepficjiclaaGreatDoorRdd
import Derived.Test.YtgaiepficjiclaaGreatDoorEe
namespace Go.Proofs.YtgaiepficjiclaaGreatDoor
set_option maxRecDepth 100000
set_option maxHeartbeats 4000000
set_option linter.unusedVariables false
set_option linter.unusedSimpArgs false
open Go.RowKit

def aw15v : JV := JV.mapV [(Bk.nName, JV.textV [97])]
def aw15w : JV := JV.mapV [(Bk.nSort, JV.intV (-1)), ([120], JV.intV 1)]
theorem aw15_1 : Rd.rdS [123, 34, 110, 97, 109, 101, 34, 58, 34, 97, 34, 125] = .ok aw15v [] 2 := by kernel_rfl
theorem aw15_2 : Rd.rdS [123, 34, 115, 111, 114, 116, 79, 114, 100, 101, 114, 34, 58, 45, 49, 44, 34, 120, 34, 58, 49, 125] = .ok aw15w [] 3 := by kernel_rfl
theorem aw15_v : Bk.wrong aw15v = [] := by kernel_rfl
theorem aw15_w : Bk.wrong aw15w = [Bk.nName, Bk.nSort, [120]] := by kernel_rfl
theorem aw15_t : JV.wrt (JV.mapV (Bk.wholeM aw15v)) = [123, 34, 100, 101, 115, 99, 114, 105, 112, 116, 105, 111, 110, 34, 58, 110, 117, 108, 108, 44, 34, 105, 115, 83, 117, 98, 115, 99, 114, 105, 98, 101, 100, 34, 58, 116, 114, 117, 101, 44, 34, 110, 97, 109, 101, 34, 58, 34, 97, 34, 44, 34, 115, 111, 114, 116, 79, 114, 100, 101, 114, 34, 58, 48, 125] := by kernel_rfl
theorem aw15_c : ∃ q, JV.chk (JV.mapV (Bk.wholeM aw15v)) 1 0 = (0, q) := ⟨5, by kernel_rfl⟩
theorem awake15 (w : World) (hT : LowTabs w) : Calls Tryz.prog 8 #[] w fun e w' => e = .returned (.bool true) ∧ Fr w w' := by
 have HT := Lib.hid hT
 clear hT
 go_enter Tryz.func8, Tryz.ntmps8
 go_upto_region 2 with (go_at_call 22; refine (rvalue_v _ aw15v [] 2 6 0 [] 0 1 ⟨rfl, rfl, rfl, rfl, rfl⟩ _ ?hs1 HT.out ?he1).mono ?_; (case hs1 => (show (12 : Nat) ≤ _; omega)); (case he1 => exact aw15_1); rintro e w1 ⟨B, d, B', d', rfl, hv, hf⟩; have HV1 := Lib.hid hv.low; have HF1 := Lib.hid hf; clear hv hf)
 have hb1 := Blk.made w1 #[.int .i64 6, .int .i64 0, .string ⟨#[]⟩, .slice B 0 d, .slice B' 1 d'] 25
 have hf1 : Fr w (w1.alloc (.cells #[.int .i64 6, .int .i64 0, .string ⟨#[]⟩, .slice B 0 d, .slice B' 1 d'] 25)) := HF1.out.alloc _
 have hv1 : InV (w1.alloc (.cells #[.int .i64 6, .int .i64 0, .string ⟨#[]⟩, .slice B 0 d, .slice B' 1 d'] 25)) (Lo (w1.alloc (.cells #[.int .i64 6, .int .i64 0, .string ⟨#[]⟩, .slice B 0 d, .slice B' 1 d'] 25)).heap.size) aw15v (vA aw15v B d B' d') := (HV1.out.keep (Nat.le_refl _) ((Fr.refl w1).alloc _)).lo ((Fr.refl w1).alloc _).size
 generalize (w1.alloc (.cells #[.int .i64 6, .int .i64 0, .string ⟨#[]⟩, .slice B 0 d, .slice B' 1 d'] 25)) = W1 at hb1 hf1 hv1 ⊢
 generalize w1.heap.size = X1 at hb1 ⊢
 have HB1 := Lib.hid hb1
 have HG1 := Lib.hid hf1
 have HVV := Lib.hid hv1
 clear hb1 hf1 hv1 HV1 HF1
 go_upto_region 3 with (go_at_call 22; refine (rvalue_v _ aw15w [] 3 6 0 [] 0 2 ⟨rfl, rfl, rfl, rfl, rfl⟩ _ ?hs1 (HT.out.keep HG1.out) ?he1).mono ?_; (case hs1 => (show (22 : Nat) ≤ _; omega)); (case he1 => exact aw15_2); rintro e w2 ⟨C, f, C', f', rfl, hv, hf⟩; have HV2 := Lib.hid hv.low; have HF2 := Lib.hid hf; clear hv hf)
 have hb2 := Blk.made w2 #[.int .i64 6, .int .i64 0, .string ⟨#[]⟩, .slice C 0 f, .slice C' 2 f'] 25
 have hk2 : Fr W1 (w2.alloc (.cells #[.int .i64 6, .int .i64 0, .string ⟨#[]⟩, .slice C 0 f, .slice C' 2 f'] 25)) := HF2.out.alloc _
 have hv2 : InV (w2.alloc (.cells #[.int .i64 6, .int .i64 0, .string ⟨#[]⟩, .slice C 0 f, .slice C' 2 f'] 25)) (Lo (w2.alloc (.cells #[.int .i64 6, .int .i64 0, .string ⟨#[]⟩, .slice C 0 f, .slice C' 2 f'] 25)).heap.size) aw15w (vA aw15w C f C' f') := (HV2.out.keep (Nat.le_refl _) ((Fr.refl w2).alloc _)).lo ((Fr.refl w2).alloc _).size
 generalize (w2.alloc (.cells #[.int .i64 6, .int .i64 0, .string ⟨#[]⟩, .slice C 0 f, .slice C' 2 f'] 25)) = W2 at hb2 hk2 hv2 ⊢
 generalize w2.heap.size = X2 at hb2 ⊢
 have hb1 := HB1.out.keep hk2
 obtain ⟨⟨y0, y1, y2, y3, y4⟩, _⟩ := box5 hb1
 have HX1 := Lib.hid hb1
 have HX2 := Lib.hid hb2
 have HG2 := Lib.hid (HG1.out.trans hk2)
 have hvv := (HVV.out.keep (Nat.le_refl _) hk2).lo hk2.size
 have HCV : Hid (∀ W, Fr W2 W → Calls Tryz.prog 11 #[.agg #[.int .i64 6, .int .i64 0, .string ⟨#[]⟩, .slice B 0 d, .slice B' 1 d']] W fun e w' => (∃ A c, e = .returned (.slice A 0 c)) ∧ Fr W w') := Lib.hid (fun W hW => by
  have h := bkcheck_is aw15v B d B' d' W W2.heap.size hW.size (hvv.keep (Nat.le_refl _) hW) (by decide)
  rw [aw15_v] at h
  exact h.mono (by rintro e w' ⟨⟨A, c, rfl, _⟩, hf⟩; exact ⟨⟨A, c, rfl⟩, hf⟩))
 have HCW : Hid (∀ W, Fr W2 W → Calls Tryz.prog 11 #[.agg #[.int .i64 6, .int .i64 0, .string ⟨#[]⟩, .slice C 0 f, .slice C' 2 f']] W fun e w' => (∃ A c, e = .returned (.slice A 3 c) ∧ PsC w' A [Bk.nName, Bk.nSort, [120]]) ∧ Fr W w') := Lib.hid (fun W hW => by
  have h := bkcheck_is aw15w C f C' f' W W2.heap.size hW.size (hv2.keep (Nat.le_refl _) hW) (by decide)
  rw [aw15_w] at h
  exact h)
 have HWV : Hid (∀ W, Fr W2 W → Calls Tryz.prog 14 #[.agg #[.int .i64 6, .int .i64 0, .string ⟨#[]⟩, .slice B 0 d, .slice B' 1 d']] W fun e w' => (∃ A c, e = .returned (.agg #[.int .i64 6, .int .i64 0, .string ⟨#[]⟩, .slice none 0 0, (.slice A 4 c)]) ∧ InV w' (Lo w'.heap.size) (JV.mapV (Bk.wholeM aw15v)) (.agg #[.int .i64 6, .int .i64 0, .string ⟨#[]⟩, .slice none 0 0, (.slice A 4 c)])) ∧ Fr W w') := Lib.hid (fun W hW =>
  (bkwhole_yes aw15v B d B' d' W W2.heap.size hW.size (hvv.keep (Nat.le_refl _) hW) (by decide) aw15_v).mono (by rintro e w' ⟨⟨A, c, rfl, hi, _⟩, hf⟩; exact ⟨⟨A, c, rfl, hi.more (fun b hb => hb.2)⟩, hf⟩))
 have HTX : Hid (∀ (W : World) (A : Option Addr) (c : Nat), InV W (Lo W.heap.size) (JV.mapV (Bk.wholeM aw15v)) (.agg #[.int .i64 6, .int .i64 0, .string ⟨#[]⟩, .slice none 0 0, (.slice A 4 c)]) → Calls Tryz.prog 18 #[.agg #[.int .i64 6, .int .i64 0, .string ⟨#[]⟩, .slice none 0 0, (.slice A 4 c)]] W fun e w' => e = .returned (.tuple #[.string ⟨#[123, 34, 100, 101, 115, 99, 114, 105, 112, 116, 105, 111, 110, 34, 58, 110, 117, 108, 108, 44, 34, 105, 115, 83, 117, 98, 115, 99, 114, 105, 98, 101, 100, 34, 58, 116, 114, 117, 101, 44, 34, 110, 97, 109, 101, 34, 58, 34, 97, 34, 44, 34, 115, 111, 114, 116, 79, 114, 100, 101, 114, 34, 58, 48, 125]⟩, .int .i64 0]) ∧ Fr W w') := Lib.hid (fun W A c h => by
  obtain ⟨q, hq⟩ := aw15_c
  exact text_is (JV.mapV (Bk.wholeM aw15v)) none 0 A c W 0 q [123, 34, 100, 101, 115, 99, 114, 105, 112, 116, 105, 111, 110, 34, 58, 110, 117, 108, 108, 44, 34, 105, 115, 83, 117, 98, 115, 99, 114, 105, 98, 101, 100, 34, 58, 116, 114, 117, 101, 44, 34, 110, 97, 109, 101, 34, 58, 34, 97, 34, 44, 34, 115, 111, 114, 116, 79, 114, 100, 101, 114, 34, 58, 48, 125] h hq (by rw [aw15_t]; rfl) (by simp))
 have HSP : Hid (∀ (W : World) (A : Option Addr) (c b : Nat), PsC W A [Bk.nName, Bk.nSort, [120]] → PsC W (some ⟨b, 0, none⟩) [Bk.nName, Bk.nSort, [120]] → Calls Tryz.prog 10 #[.slice A 3 c, .slice (some ⟨b, 0, none⟩) 3 3] W fun e w' => e = .returned (.bool true) ∧ Fr W w') := Lib.hid (fun W A c b h1 h2 => sameparts_is [Bk.nName, Bk.nSort, [120]] A (some ⟨b, 0, none⟩) c 3 W h1 h2 (by simp))
 clear hb1 hb2 hk2 hv2 hvv HB1 HG1 HVV HV2 HF2
 go_upto_region 4 with (first
  | (go_at_call 18; refine (HTX.out _ _ _ HIW.out).mono ?_; rintro e w4 ⟨rfl, hf⟩; have HF4 := Lib.hid (HF3.out.trans hf); obtain ⟨⟨p0, p1, p2, p3, p4⟩, _⟩ := box5 (HX1.out.keep HF4.out); obtain ⟨⟨r0, r1, r2, r3, r4⟩, _⟩ := box5 (HX2.out.keep HF4.out); clear hf)
  | (go_at_call 14; refine (HWV.out _ (Fr.refl W2)).mono ?_; rintro e w3 ⟨⟨A, c, rfl, hi⟩, hf⟩; have HIW := Lib.hid hi; have HF3 := Lib.hid hf; clear hf hi))
 go_wp2_with (first
  | (go_at_call 11; have hq := HF6.out; refine (HCV.out _ hq).mono ?_; rintro e w7 ⟨⟨A7, c7, rfl⟩, hf⟩; have HF7 := Lib.hid (hq.trans hf); clear hq hf)
  | (go_at_call 10; have hq := HF5.out; refine (HSP.out _ _ _ _ (HP5.out.keep ((Fr.refl _).alloc _)) ?hlit).mono ?_; (case hlit => exact fun _ => ⟨_, 0, rfl, by simp, fun i hi => by rw [(Blk.made _ _ _).cell]; rcases (by simp at hi; omega : i = 0 ∨ i = 1 ∨ i = 2) with rfl | rfl | rfl <;> rfl⟩); rintro e w6 ⟨rfl, hf⟩; have HF6 := Lib.hid ((hq.alloc _).trans hf); obtain ⟨⟨s0, s1, s2, s3, s4⟩, _⟩ := box5 (HX1.out.keep HF6.out); clear hq hf)
  | (go_at_call 11; have hq := HF4.out; refine (HCW.out _ hq).mono ?_; rintro e w5 ⟨⟨A5, c5, rfl, hp⟩, hf⟩; have HP5 := Lib.hid hp; have HF5 := Lib.hid (hq.trans hf); clear hq hf hp))
 go_ret
 exact ⟨rfl, HG2.out.trans HF7.out⟩
end Go.Proofs.YtgaiepficjiclaaGreatDoor
