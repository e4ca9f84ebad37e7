/- The walk of the law CharsPairs. -/
import Derived.Test.YtchiapalodgphaaDoorCharsJ
import Derived.Deep.RegionHeld3
namespace Go.Proofs.YtchiapalodgphaaDoor
set_option linter.unusedVariables false
set_option linter.unusedSimpArgs false
open Go.RowKit

theorem cread_str (s : ByteArray) (a : Int) (X : ByteArray) (n c : Int) (w : World) (hs : s.size ≤ 140737488355328) (h1 : -9223372036854775808 ≤ a) (h2 : a ≤ 9223372036854775807) (hT : LowTabs w) (h : Chr.read s.data.toList a = (X.data.toList, n, c)) :
    Calls Tryd.prog 21 #[.string s, .int .i64 a] w fun e w' => e = .returned (.tuple #[.string X, .int .i64 n, .int .i64 c]) ∧ Fr w w' := by
  have := cread_at s a _ n c w hs h1 h2 hT h
  have e : ByteArray.mk X.data.toList.toArray = X := by cases X; simp
  rwa [e] at this
theorem pair_data (a b : Nat) : (ByteArray.mk #[34] ++ ⟨(unitL a).toArray⟩ ++ ⟨(unitL b).toArray⟩ ++ ⟨#[34]⟩).data.toList = pairL a b := by
  rw [data_app, data_app, data_app]
  simp [pairL]
theorem pair_size (a b : Nat) : (ByteArray.mk #[34] ++ ⟨(unitL a).toArray⟩ ++ ⟨(unitL b).toArray⟩ ++ ⟨#[34]⟩).size ≤ 140737488355328 := by
  rw [ByteArray.size_append, ByteArray.size_append, ByteArray.size_append]
  simp [ByteArray.size, unitL]

set_option maxHeartbeats 2000000 in
set_option maxRecDepth 100000 in
theorem pairs_00 (a b : Nat) (w : World) (ha : a < 65536) (hb : b < 65536) (hahi : a ≤ 55295) (hbhi : b ≤ 55295) (hT : LowTabs w) :
    Calls Tryd.prog 9 #[.int .u16 a, .int .u16 b] w fun e w' => e = .returned (.bool true) ∧ Fr w w' := by
  have H := pair_4 ha hb (by omega) (by omega)
  rw [← pair_data] at H
  have HR := Lib.hid H
  have HT := Lib.hid hT
  clear H hT
  have ag55296 : decide ((55296 : Int) ≤ (a : Int)) = false := decide_eq_false (by omega)
  have ag56320 : decide ((56320 : Int) ≤ (a : Int)) = false := decide_eq_false (by omega)
  have al56319 : decide ((a : Int) ≤ 56319) = true := decide_eq_true (by omega)
  have al57343 : decide ((a : Int) ≤ 57343) = true := decide_eq_true (by omega)
  have bg55296 : decide ((55296 : Int) ≤ (b : Int)) = false := decide_eq_false (by omega)
  have bg56320 : decide ((56320 : Int) ≤ (b : Int)) = false := decide_eq_false (by omega)
  have bl56319 : decide ((b : Int) ≤ 56319) = true := decide_eq_true (by omega)
  have bl57343 : decide ((b : Int) ≤ 57343) = true := decide_eq_true (by omega)
  obtain ⟨SA, hSA⟩ : ∃ SA, ByteArray.mk (Utf.bytes a).toArray = SA := ⟨_, rfl⟩
  obtain ⟨SB, hSB⟩ : ∃ SB, ByteArray.mk (Utf.bytes b).toArray = SB := ⟨_, rfl⟩
  have HSA := Lib.hid hSA
  have HSB := Lib.hid hSB
  have eT : Utf.bytes a ++ Utf.bytes b = (SA ++ SB).data.toList := by rw [data_app, ← hSA, ← hSB]
  rw [eT] at HR
  have hsa : SA.size ≤ 4 := by rw [← hSA]; have := Utf.bytes_le a; simpa [ByteArray.size] using this
  have hsb : SB.size ≤ 4 := by rw [← hSB]; have := Utf.bytes_le b; simpa [ByteArray.size] using this
  have hno : ¬ (9223372036854775807 < SA.size + SB.size) := by omega
  clear eT hSA hSB
  have wa : IntKind.i64.wrap (a : Int) = (a : Int) := by rw [IntKind.wrap_i64]; omega
  have wb : IntKind.i64.wrap (b : Int) = (b : Int) := by rw [IntKind.wrap_i64]; omega
  have HPa := Lib.hid (Utf.isPt_iff.2 (⟨by omega, by omega⟩ : a ≤ 1114111 ∧ (a < 55296 ∨ 57343 < a)))
  have HPb := Lib.hid (Utf.isPt_iff.2 (⟨by omega, by omega⟩ : b ≤ 1114111 ∧ (b < 55296 ∨ 57343 < b)))
  go_enter Tryd.func9, Tryd.ntmps9
  go_wp2_with (first
    | (go_at_call 24; have hm := HF1.out; refine (lunit_is b _ hb).mono ?_; rintro e w2 ⟨rfl, hf⟩; have HF2 := Lib.hid (hm.trans hf); clear hf hm)
    | (go_at_call 24; refine (lunit_is a _ ha).mono ?_; rintro e w1 ⟨rfl, hf⟩; have HF1 := Lib.hid hf; clear hf))
  have hz := Lib.hid (pair_size a b)
  generalize h1 : (ByteArray.mk #[34] ++ ⟨(unitL a).toArray⟩) = P1 at hz HR ⊢
  generalize h2 : (P1 ++ ⟨(unitL b).toArray⟩) = P2 at hz HR ⊢
  generalize h3 : (P2 ++ ⟨#[34]⟩) = P3 at hz HR ⊢
  clear h1 h2 h3
  refine (cread_str P3 0 (SA ++ SB) 14 0 _ hz.out (by omega) (by omega) (HT.out.keep HF2.out) HR.out).mono ?_
  rintro e w3 ⟨rfl, hf⟩
  have HF3 := Lib.hid (HF2.out.trans hf)
  clear hf HR
  go_wp2_with (first
    | (go_at_call 20; refine (awake02 _ (HT.out.keep HF3.out)).mono ?_; rintro e w4 ⟨rfl, hf⟩; have HF4 := Lib.hid (HF3.out.trans hf); clear hf))
  refine wp_region_any (by kernel_rfl) ?_
  try (change wpAny _ _ _ _ _ _ _ (World.drew _))
  refine wpAny_take (i := 0) (v := ?_) rfl (by kernel_rfl) (by kernel_rfl) (by kernel_rfl) (fun _ _ _ h => h) (Or.inl ⟨by rfl, ?_⟩) ?_
  rotate_left
  · (intro w'; go_simp; try with_reducible rfl)
  try simp only [Act.put, List.getElem_toArray, List.getElem_cons_succ, List.getElem_cons_zero, List.setIfInBounds_toArray, List.set_cons_zero, List.set_cons_succ]
  refine wpAny_take (i := 1) (v := ?_) rfl (by kernel_rfl) (by kernel_rfl) (by kernel_rfl) (fun _ _ _ h => h) (Or.inl ⟨by rfl, ?_⟩) ?_
  rotate_left
  · (intro w'; go_simp; try with_reducible rfl)
  try simp only [Act.put, List.getElem_toArray, List.getElem_cons_succ, List.getElem_cons_zero, List.setIfInBounds_toArray, List.set_cons_zero, List.set_cons_succ]
  refine wpAny_take (i := 2) (v := ?_) rfl (by kernel_rfl) (by kernel_rfl) (by kernel_rfl) (fun _ _ _ h => h) (Or.inl ⟨by rfl, ?_⟩) ?_
  rotate_left
  · (intro w'; go_simp; try with_reducible rfl)
  try simp only [Act.put, List.getElem_toArray, List.getElem_cons_succ, List.getElem_cons_zero, List.setIfInBounds_toArray, List.set_cons_zero, List.set_cons_succ]
  refine wpAny_take (i := 3) (v := ?_) rfl (by kernel_rfl) (by kernel_rfl) (by kernel_rfl) (fun _ _ _ h => h) (Or.inl ⟨by rfl, ?_⟩) ?_
  rotate_left
  · (intro w'; go_simp; try with_reducible rfl)
  try simp only [Act.put, List.getElem_toArray, List.getElem_cons_succ, List.getElem_cons_zero, List.setIfInBounds_toArray, List.set_cons_zero, List.set_cons_succ]
  refine wpAny_take (i := 4) (v := ?_) rfl (by kernel_rfl) (by kernel_rfl) (by kernel_rfl) (fun _ _ _ h => h) (Or.inl ⟨by rfl, ?_⟩) ?_
  rotate_left
  · (intro w'; go_simp; try with_reducible rfl)
  try simp only [Act.put, List.getElem_toArray, List.getElem_cons_succ, List.getElem_cons_zero, List.setIfInBounds_toArray, List.set_cons_zero, List.set_cons_succ]
  refine wpAny_take (i := 5) (v := ?_) rfl (by kernel_rfl) (by kernel_rfl) (by kernel_rfl) (fun _ _ _ h => h) (Or.inl ⟨by rfl, ?_⟩) ?_
  rotate_left
  · (intro w'; go_simp; try with_reducible rfl)
  try simp only [Act.put, List.getElem_toArray, List.getElem_cons_succ, List.getElem_cons_zero, List.setIfInBounds_toArray, List.set_cons_zero, List.set_cons_succ]
  refine wpAny_take (i := 8) (v := ?_) rfl (by kernel_rfl) (by kernel_rfl) (by kernel_rfl) (fun _ _ _ h => h) (Or.inl ⟨by rfl, ?_⟩) ?_
  rotate_left
  · (intro w'; go_simp; try with_reducible rfl)
  try simp only [Act.put, List.getElem_toArray, List.getElem_cons_succ, List.getElem_cons_zero, List.setIfInBounds_toArray, List.set_cons_zero, List.set_cons_succ]
  refine wpAny_take (i := 9) (v := ?_) rfl (by kernel_rfl) (by kernel_rfl) (by kernel_rfl) (fun _ _ _ h => h) (Or.inl ⟨by rfl, ?_⟩) ?_
  rotate_left
  · (intro w'; go_simp; try with_reducible rfl)
  try simp only [Act.put, List.getElem_toArray, List.getElem_cons_succ, List.getElem_cons_zero, List.setIfInBounds_toArray, List.set_cons_zero, List.set_cons_succ]
  refine wpAny_ready (rs := [6]) (by kernel_rfl) (by simp) ?_
  refine AllReady.cons rfl (fun K hK => ?_) AllReady.nil
  go_simp
  go_wp2_with (go_at_call 25; refine (rbytes_is a _ HPa.out).mono ?_; rintro e w5 ⟨va, rfl, hb5, hf⟩; have HF5 := Lib.hid ((Fr.drew HF4.out).trans hf); have hcv := hb5.conv; rw [HSA.out] at hcv; have HB5 := Lib.hid hb5; clear hf hb5)
  try (refine hK _ _ ?_; clear hK K)
  try simp only [Act.put, List.getElem_toArray, List.getElem_cons_succ, List.getElem_cons_zero, List.setIfInBounds_toArray, List.set_cons_zero, List.set_cons_succ]
  refine wpAny_ready (rs := [7, 10]) (by kernel_rfl) (by simp) ?_
  refine AllReady.cons rfl (fun K hK => ?_) (AllReady.cons rfl (fun K hK => ?_) AllReady.nil)
  · go_simp
    refine hK _ _ ?_
    clear hK K
    try simp only [Act.put, List.getElem_toArray, List.getElem_cons_succ, List.getElem_cons_zero, List.setIfInBounds_toArray, List.set_cons_zero, List.set_cons_succ]
    refine wpAny_ready (rs := [10]) (by kernel_rfl) (by simp) ?_
    refine AllReady.cons rfl (fun K hK => ?_) AllReady.nil
    go_simp
    go_wp2_with (go_at_call 25; refine (rbytes_is b _ HPb.out).mono ?_; rintro e w6 ⟨vb, rfl, hb6, hf⟩; have HF6 := Lib.hid (HF5.out.trans hf); have hcv2 := hb6.conv; have hcv1 := (HB5.out.keep hf).conv; rw [HSB.out] at hcv2; rw [HSA.out] at hcv1; clear hf hb6)
    try (refine hK _ _ ?_; clear hK K)
    try simp only [Act.put, List.getElem_toArray, List.getElem_cons_succ, List.getElem_cons_zero, List.setIfInBounds_toArray, List.set_cons_zero, List.set_cons_succ]
    refine wpAny_ready (rs := [11]) (by kernel_rfl) (by simp) ?_
    refine AllReady.cons rfl (fun K hK => ?_) AllReady.nil
    go_simp
    refine hK _ _ ?_
    clear hK K
    try simp only [Act.put, List.getElem_toArray, List.getElem_cons_succ, List.getElem_cons_zero, List.setIfInBounds_toArray, List.set_cons_zero, List.set_cons_succ]
    refine wpAny_ready (rs := [12]) (by kernel_rfl) (by simp) ?_
    refine AllReady.cons rfl (fun K hK => ?_) AllReady.nil
    go_simp
    try simp only [if_neg hno]
    try go_simp
    refine hK _ _ ?_
    clear hK K
    try simp only [Act.put, List.getElem_toArray, List.getElem_cons_succ, List.getElem_cons_zero, List.setIfInBounds_toArray, List.set_cons_zero, List.set_cons_succ]
    refine wpAny_take (i := 13) (v := ?_) rfl (by kernel_rfl) (by kernel_rfl) (by kernel_rfl) (fun _ _ _ h => h) (Or.inl ⟨by rfl, ?_⟩) ?_
    rotate_left
    · (intro w'; go_simp; try with_reducible rfl)
    try simp only [Act.put, List.getElem_toArray, List.getElem_cons_succ, List.getElem_cons_zero, List.setIfInBounds_toArray, List.set_cons_zero, List.set_cons_succ]
    refine wpAny_take (i := 14) (v := ?_) rfl (by kernel_rfl) (by kernel_rfl) (by kernel_rfl) (fun _ _ _ h => h) (Or.inl ⟨by rfl, ?_⟩) ?_
    rotate_left
    · (intro w'; go_simp; try with_reducible rfl)
    try simp only [Act.put, List.getElem_toArray, List.getElem_cons_succ, List.getElem_cons_zero, List.setIfInBounds_toArray, List.set_cons_zero, List.set_cons_succ]
    refine wpAny_take (i := 15) (v := ?_) rfl (by kernel_rfl) (by kernel_rfl) (by kernel_rfl) (fun _ _ _ h => h) (Or.inl ⟨by rfl, ?_⟩) ?_
    rotate_left
    · (intro w'; go_simp; try with_reducible rfl)
    try simp only [Act.put, List.getElem_toArray, List.getElem_cons_succ, List.getElem_cons_zero, List.setIfInBounds_toArray, List.set_cons_zero, List.set_cons_succ]
    refine wpAny_done (by kernel_rfl) ?_ _
    (try go_wp2_with fail)
    go_ret
    exact ⟨rfl, HF6.out⟩
  · go_simp
    go_wp2_with (go_at_call 25; refine (rbytes_is b _ HPb.out).mono ?_; rintro e w6 ⟨vb, rfl, hb6, hf⟩; have HF6 := Lib.hid (HF5.out.trans hf); have hcv2 := hb6.conv; have hcv1 := (HB5.out.keep hf).conv; rw [HSB.out] at hcv2; rw [HSA.out] at hcv1; clear hf hb6)
    try (refine hK _ _ ?_; clear hK K)
    try simp only [Act.put, List.getElem_toArray, List.getElem_cons_succ, List.getElem_cons_zero, List.setIfInBounds_toArray, List.set_cons_zero, List.set_cons_succ]
    refine wpAny_ready (rs := [7, 11]) (by kernel_rfl) (by simp) ?_
    refine AllReady.cons rfl (fun K hK => ?_) (AllReady.cons rfl (fun K hK => ?_) AllReady.nil)
    · go_simp
      refine hK _ _ ?_
      clear hK K
      try simp only [Act.put, List.getElem_toArray, List.getElem_cons_succ, List.getElem_cons_zero, List.setIfInBounds_toArray, List.set_cons_zero, List.set_cons_succ]
      refine wpAny_ready (rs := [11]) (by kernel_rfl) (by simp) ?_
      refine AllReady.cons rfl (fun K hK => ?_) AllReady.nil
      go_simp
      refine hK _ _ ?_
      clear hK K
      try simp only [Act.put, List.getElem_toArray, List.getElem_cons_succ, List.getElem_cons_zero, List.setIfInBounds_toArray, List.set_cons_zero, List.set_cons_succ]
      refine wpAny_ready (rs := [12]) (by kernel_rfl) (by simp) ?_
      refine AllReady.cons rfl (fun K hK => ?_) AllReady.nil
      go_simp
      try simp only [if_neg hno]
      try go_simp
      refine hK _ _ ?_
      clear hK K
      try simp only [Act.put, List.getElem_toArray, List.getElem_cons_succ, List.getElem_cons_zero, List.setIfInBounds_toArray, List.set_cons_zero, List.set_cons_succ]
      refine wpAny_take (i := 13) (v := ?_) rfl (by kernel_rfl) (by kernel_rfl) (by kernel_rfl) (fun _ _ _ h => h) (Or.inl ⟨by rfl, ?_⟩) ?_
      rotate_left
      · (intro w'; go_simp; try with_reducible rfl)
      try simp only [Act.put, List.getElem_toArray, List.getElem_cons_succ, List.getElem_cons_zero, List.setIfInBounds_toArray, List.set_cons_zero, List.set_cons_succ]
      refine wpAny_take (i := 14) (v := ?_) rfl (by kernel_rfl) (by kernel_rfl) (by kernel_rfl) (fun _ _ _ h => h) (Or.inl ⟨by rfl, ?_⟩) ?_
      rotate_left
      · (intro w'; go_simp; try with_reducible rfl)
      try simp only [Act.put, List.getElem_toArray, List.getElem_cons_succ, List.getElem_cons_zero, List.setIfInBounds_toArray, List.set_cons_zero, List.set_cons_succ]
      refine wpAny_take (i := 15) (v := ?_) rfl (by kernel_rfl) (by kernel_rfl) (by kernel_rfl) (fun _ _ _ h => h) (Or.inl ⟨by rfl, ?_⟩) ?_
      rotate_left
      · (intro w'; go_simp; try with_reducible rfl)
      try simp only [Act.put, List.getElem_toArray, List.getElem_cons_succ, List.getElem_cons_zero, List.setIfInBounds_toArray, List.set_cons_zero, List.set_cons_succ]
      refine wpAny_done (by kernel_rfl) ?_ _
      (try go_wp2_with fail)
      go_ret
      exact ⟨rfl, HF6.out⟩
    · go_simp
      refine hK _ _ ?_
      clear hK K
      try simp only [Act.put, List.getElem_toArray, List.getElem_cons_succ, List.getElem_cons_zero, List.setIfInBounds_toArray, List.set_cons_zero, List.set_cons_succ]
      refine wpAny_ready (rs := [7]) (by kernel_rfl) (by simp) ?_
      refine AllReady.cons rfl (fun K hK => ?_) AllReady.nil
      go_simp
      refine hK _ _ ?_
      clear hK K
      try simp only [Act.put, List.getElem_toArray, List.getElem_cons_succ, List.getElem_cons_zero, List.setIfInBounds_toArray, List.set_cons_zero, List.set_cons_succ]
      refine wpAny_ready (rs := [12]) (by kernel_rfl) (by simp) ?_
      refine AllReady.cons rfl (fun K hK => ?_) AllReady.nil
      go_simp
      try simp only [if_neg hno]
      try go_simp
      refine hK _ _ ?_
      clear hK K
      try simp only [Act.put, List.getElem_toArray, List.getElem_cons_succ, List.getElem_cons_zero, List.setIfInBounds_toArray, List.set_cons_zero, List.set_cons_succ]
      refine wpAny_take (i := 13) (v := ?_) rfl (by kernel_rfl) (by kernel_rfl) (by kernel_rfl) (fun _ _ _ h => h) (Or.inl ⟨by rfl, ?_⟩) ?_
      rotate_left
      · (intro w'; go_simp; try with_reducible rfl)
      try simp only [Act.put, List.getElem_toArray, List.getElem_cons_succ, List.getElem_cons_zero, List.setIfInBounds_toArray, List.set_cons_zero, List.set_cons_succ]
      refine wpAny_take (i := 14) (v := ?_) rfl (by kernel_rfl) (by kernel_rfl) (by kernel_rfl) (fun _ _ _ h => h) (Or.inl ⟨by rfl, ?_⟩) ?_
      rotate_left
      · (intro w'; go_simp; try with_reducible rfl)
      try simp only [Act.put, List.getElem_toArray, List.getElem_cons_succ, List.getElem_cons_zero, List.setIfInBounds_toArray, List.set_cons_zero, List.set_cons_succ]
      refine wpAny_take (i := 15) (v := ?_) rfl (by kernel_rfl) (by kernel_rfl) (by kernel_rfl) (fun _ _ _ h => h) (Or.inl ⟨by rfl, ?_⟩) ?_
      rotate_left
      · (intro w'; go_simp; try with_reducible rfl)
      try simp only [Act.put, List.getElem_toArray, List.getElem_cons_succ, List.getElem_cons_zero, List.setIfInBounds_toArray, List.set_cons_zero, List.set_cons_succ]
      refine wpAny_done (by kernel_rfl) ?_ _
      (try go_wp2_with fail)
      go_ret
      exact ⟨rfl, HF6.out⟩

set_option maxHeartbeats 2000000 in
set_option maxRecDepth 100000 in
theorem pairs_01 (a b : Nat) (w : World) (ha : a < 65536) (hb : b < 65536) (hahi : a ≤ 55295) (hblo : 55296 ≤ b) (hbhi : b ≤ 56319) (hT : LowTabs w) :
    Calls Tryd.prog 9 #[.int .u16 a, .int .u16 b] w fun e w' => e = .returned (.bool true) ∧ Fr w w' := by
  have H := pair_3 ha hb (by omega) (by omega)
  rw [← pair_data] at H
  have HR := Lib.hid H
  have HT := Lib.hid hT
  clear H hT
  have ag55296 : decide ((55296 : Int) ≤ (a : Int)) = false := decide_eq_false (by omega)
  have ag56320 : decide ((56320 : Int) ≤ (a : Int)) = false := decide_eq_false (by omega)
  have al56319 : decide ((a : Int) ≤ 56319) = true := decide_eq_true (by omega)
  have al57343 : decide ((a : Int) ≤ 57343) = true := decide_eq_true (by omega)
  have bg55296 : decide ((55296 : Int) ≤ (b : Int)) = true := decide_eq_true (by omega)
  have bg56320 : decide ((56320 : Int) ≤ (b : Int)) = false := decide_eq_false (by omega)
  have bl56319 : decide ((b : Int) ≤ 56319) = true := decide_eq_true (by omega)
  have bl57343 : decide ((b : Int) ≤ 57343) = true := decide_eq_true (by omega)
  go_enter Tryd.func9, Tryd.ntmps9
  go_wp2_with (first
    | (go_at_call 24; have hm := HF1.out; refine (lunit_is b _ hb).mono ?_; rintro e w2 ⟨rfl, hf⟩; have HF2 := Lib.hid (hm.trans hf); clear hf hm)
    | (go_at_call 24; refine (lunit_is a _ ha).mono ?_; rintro e w1 ⟨rfl, hf⟩; have HF1 := Lib.hid hf; clear hf))
  have hz := Lib.hid (pair_size a b)
  generalize h1 : (ByteArray.mk #[34] ++ ⟨(unitL a).toArray⟩) = P1 at hz HR ⊢
  generalize h2 : (P1 ++ ⟨(unitL b).toArray⟩) = P2 at hz HR ⊢
  generalize h3 : (P2 ++ ⟨#[34]⟩) = P3 at hz HR ⊢
  clear h1 h2 h3
  refine (cread_at P3 0 [] 7 20 _ hz.out (by omega) (by omega) (HT.out.keep HF2.out) HR.out).mono ?_
  rintro e w3 ⟨rfl, hf⟩
  have HF3 := Lib.hid (HF2.out.trans hf)
  clear hf HR
  go_wp2_with (first
    | (go_at_call 20; refine (awake02 _ (HT.out.keep HF3.out)).mono ?_; rintro e w4 ⟨rfl, hf⟩; have HF4 := Lib.hid (HF3.out.trans hf); clear hf))
  go_ret
  exact ⟨rfl, HF4.out⟩

set_option maxHeartbeats 2000000 in
set_option maxRecDepth 100000 in
theorem pairs_02 (a b : Nat) (w : World) (ha : a < 65536) (hb : b < 65536) (hahi : a ≤ 55295) (hblo : 56320 ≤ b) (hbhi : b ≤ 57343) (hT : LowTabs w) :
    Calls Tryd.prog 9 #[.int .u16 a, .int .u16 b] w fun e w' => e = .returned (.bool true) ∧ Fr w w' := by
  have H := pair_3 ha hb (by omega) (by omega)
  rw [← pair_data] at H
  have HR := Lib.hid H
  have HT := Lib.hid hT
  clear H hT
  have ag55296 : decide ((55296 : Int) ≤ (a : Int)) = false := decide_eq_false (by omega)
  have ag56320 : decide ((56320 : Int) ≤ (a : Int)) = false := decide_eq_false (by omega)
  have al56319 : decide ((a : Int) ≤ 56319) = true := decide_eq_true (by omega)
  have al57343 : decide ((a : Int) ≤ 57343) = true := decide_eq_true (by omega)
  have bg55296 : decide ((55296 : Int) ≤ (b : Int)) = true := decide_eq_true (by omega)
  have bg56320 : decide ((56320 : Int) ≤ (b : Int)) = true := decide_eq_true (by omega)
  have bl56319 : decide ((b : Int) ≤ 56319) = false := decide_eq_false (by omega)
  have bl57343 : decide ((b : Int) ≤ 57343) = true := decide_eq_true (by omega)
  go_enter Tryd.func9, Tryd.ntmps9
  go_wp2_with (first
    | (go_at_call 24; have hm := HF1.out; refine (lunit_is b _ hb).mono ?_; rintro e w2 ⟨rfl, hf⟩; have HF2 := Lib.hid (hm.trans hf); clear hf hm)
    | (go_at_call 24; refine (lunit_is a _ ha).mono ?_; rintro e w1 ⟨rfl, hf⟩; have HF1 := Lib.hid hf; clear hf))
  have hz := Lib.hid (pair_size a b)
  generalize h1 : (ByteArray.mk #[34] ++ ⟨(unitL a).toArray⟩) = P1 at hz HR ⊢
  generalize h2 : (P1 ++ ⟨(unitL b).toArray⟩) = P2 at hz HR ⊢
  generalize h3 : (P2 ++ ⟨#[34]⟩) = P3 at hz HR ⊢
  clear h1 h2 h3
  refine (cread_at P3 0 [] 7 20 _ hz.out (by omega) (by omega) (HT.out.keep HF2.out) HR.out).mono ?_
  rintro e w3 ⟨rfl, hf⟩
  have HF3 := Lib.hid (HF2.out.trans hf)
  clear hf HR
  go_wp2_with (first
    | (go_at_call 20; refine (awake02 _ (HT.out.keep HF3.out)).mono ?_; rintro e w4 ⟨rfl, hf⟩; have HF4 := Lib.hid (HF3.out.trans hf); clear hf))
  go_ret
  exact ⟨rfl, HF4.out⟩

set_option maxHeartbeats 2000000 in
set_option maxRecDepth 100000 in
theorem pairs_03 (a b : Nat) (w : World) (ha : a < 65536) (hb : b < 65536) (hahi : a ≤ 55295) (hblo : 57344 ≤ b) (hT : LowTabs w) :
    Calls Tryd.prog 9 #[.int .u16 a, .int .u16 b] w fun e w' => e = .returned (.bool true) ∧ Fr w w' := by
  have H := pair_4 ha hb (by omega) (by omega)
  rw [← pair_data] at H
  have HR := Lib.hid H
  have HT := Lib.hid hT
  clear H hT
  have ag55296 : decide ((55296 : Int) ≤ (a : Int)) = false := decide_eq_false (by omega)
  have ag56320 : decide ((56320 : Int) ≤ (a : Int)) = false := decide_eq_false (by omega)
  have al56319 : decide ((a : Int) ≤ 56319) = true := decide_eq_true (by omega)
  have al57343 : decide ((a : Int) ≤ 57343) = true := decide_eq_true (by omega)
  have bg55296 : decide ((55296 : Int) ≤ (b : Int)) = true := decide_eq_true (by omega)
  have bg56320 : decide ((56320 : Int) ≤ (b : Int)) = true := decide_eq_true (by omega)
  have bl56319 : decide ((b : Int) ≤ 56319) = false := decide_eq_false (by omega)
  have bl57343 : decide ((b : Int) ≤ 57343) = false := decide_eq_false (by omega)
  obtain ⟨SA, hSA⟩ : ∃ SA, ByteArray.mk (Utf.bytes a).toArray = SA := ⟨_, rfl⟩
  obtain ⟨SB, hSB⟩ : ∃ SB, ByteArray.mk (Utf.bytes b).toArray = SB := ⟨_, rfl⟩
  have HSA := Lib.hid hSA
  have HSB := Lib.hid hSB
  have eT : Utf.bytes a ++ Utf.bytes b = (SA ++ SB).data.toList := by rw [data_app, ← hSA, ← hSB]
  rw [eT] at HR
  have hsa : SA.size ≤ 4 := by rw [← hSA]; have := Utf.bytes_le a; simpa [ByteArray.size] using this
  have hsb : SB.size ≤ 4 := by rw [← hSB]; have := Utf.bytes_le b; simpa [ByteArray.size] using this
  have hno : ¬ (9223372036854775807 < SA.size + SB.size) := by omega
  clear eT hSA hSB
  have wa : IntKind.i64.wrap (a : Int) = (a : Int) := by rw [IntKind.wrap_i64]; omega
  have wb : IntKind.i64.wrap (b : Int) = (b : Int) := by rw [IntKind.wrap_i64]; omega
  have HPa := Lib.hid (Utf.isPt_iff.2 (⟨by omega, by omega⟩ : a ≤ 1114111 ∧ (a < 55296 ∨ 57343 < a)))
  have HPb := Lib.hid (Utf.isPt_iff.2 (⟨by omega, by omega⟩ : b ≤ 1114111 ∧ (b < 55296 ∨ 57343 < b)))
  go_enter Tryd.func9, Tryd.ntmps9
  go_wp2_with (first
    | (go_at_call 24; have hm := HF1.out; refine (lunit_is b _ hb).mono ?_; rintro e w2 ⟨rfl, hf⟩; have HF2 := Lib.hid (hm.trans hf); clear hf hm)
    | (go_at_call 24; refine (lunit_is a _ ha).mono ?_; rintro e w1 ⟨rfl, hf⟩; have HF1 := Lib.hid hf; clear hf))
  have hz := Lib.hid (pair_size a b)
  generalize h1 : (ByteArray.mk #[34] ++ ⟨(unitL a).toArray⟩) = P1 at hz HR ⊢
  generalize h2 : (P1 ++ ⟨(unitL b).toArray⟩) = P2 at hz HR ⊢
  generalize h3 : (P2 ++ ⟨#[34]⟩) = P3 at hz HR ⊢
  clear h1 h2 h3
  refine (cread_str P3 0 (SA ++ SB) 14 0 _ hz.out (by omega) (by omega) (HT.out.keep HF2.out) HR.out).mono ?_
  rintro e w3 ⟨rfl, hf⟩
  have HF3 := Lib.hid (HF2.out.trans hf)
  clear hf HR
  go_wp2_with (first
    | (go_at_call 20; refine (awake02 _ (HT.out.keep HF3.out)).mono ?_; rintro e w4 ⟨rfl, hf⟩; have HF4 := Lib.hid (HF3.out.trans hf); clear hf))
  refine wp_region_any (by kernel_rfl) ?_
  try (change wpAny _ _ _ _ _ _ _ (World.drew _))
  refine wpAny_take (i := 0) (v := ?_) rfl (by kernel_rfl) (by kernel_rfl) (by kernel_rfl) (fun _ _ _ h => h) (Or.inl ⟨by rfl, ?_⟩) ?_
  rotate_left
  · (intro w'; go_simp; try with_reducible rfl)
  try simp only [Act.put, List.getElem_toArray, List.getElem_cons_succ, List.getElem_cons_zero, List.setIfInBounds_toArray, List.set_cons_zero, List.set_cons_succ]
  refine wpAny_take (i := 1) (v := ?_) rfl (by kernel_rfl) (by kernel_rfl) (by kernel_rfl) (fun _ _ _ h => h) (Or.inl ⟨by rfl, ?_⟩) ?_
  rotate_left
  · (intro w'; go_simp; try with_reducible rfl)
  try simp only [Act.put, List.getElem_toArray, List.getElem_cons_succ, List.getElem_cons_zero, List.setIfInBounds_toArray, List.set_cons_zero, List.set_cons_succ]
  refine wpAny_take (i := 2) (v := ?_) rfl (by kernel_rfl) (by kernel_rfl) (by kernel_rfl) (fun _ _ _ h => h) (Or.inl ⟨by rfl, ?_⟩) ?_
  rotate_left
  · (intro w'; go_simp; try with_reducible rfl)
  try simp only [Act.put, List.getElem_toArray, List.getElem_cons_succ, List.getElem_cons_zero, List.setIfInBounds_toArray, List.set_cons_zero, List.set_cons_succ]
  refine wpAny_take (i := 3) (v := ?_) rfl (by kernel_rfl) (by kernel_rfl) (by kernel_rfl) (fun _ _ _ h => h) (Or.inl ⟨by rfl, ?_⟩) ?_
  rotate_left
  · (intro w'; go_simp; try with_reducible rfl)
  try simp only [Act.put, List.getElem_toArray, List.getElem_cons_succ, List.getElem_cons_zero, List.setIfInBounds_toArray, List.set_cons_zero, List.set_cons_succ]
  refine wpAny_take (i := 4) (v := ?_) rfl (by kernel_rfl) (by kernel_rfl) (by kernel_rfl) (fun _ _ _ h => h) (Or.inl ⟨by rfl, ?_⟩) ?_
  rotate_left
  · (intro w'; go_simp; try with_reducible rfl)
  try simp only [Act.put, List.getElem_toArray, List.getElem_cons_succ, List.getElem_cons_zero, List.setIfInBounds_toArray, List.set_cons_zero, List.set_cons_succ]
  refine wpAny_take (i := 5) (v := ?_) rfl (by kernel_rfl) (by kernel_rfl) (by kernel_rfl) (fun _ _ _ h => h) (Or.inl ⟨by rfl, ?_⟩) ?_
  rotate_left
  · (intro w'; go_simp; try with_reducible rfl)
  try simp only [Act.put, List.getElem_toArray, List.getElem_cons_succ, List.getElem_cons_zero, List.setIfInBounds_toArray, List.set_cons_zero, List.set_cons_succ]
  refine wpAny_take (i := 8) (v := ?_) rfl (by kernel_rfl) (by kernel_rfl) (by kernel_rfl) (fun _ _ _ h => h) (Or.inl ⟨by rfl, ?_⟩) ?_
  rotate_left
  · (intro w'; go_simp; try with_reducible rfl)
  try simp only [Act.put, List.getElem_toArray, List.getElem_cons_succ, List.getElem_cons_zero, List.setIfInBounds_toArray, List.set_cons_zero, List.set_cons_succ]
  refine wpAny_take (i := 9) (v := ?_) rfl (by kernel_rfl) (by kernel_rfl) (by kernel_rfl) (fun _ _ _ h => h) (Or.inl ⟨by rfl, ?_⟩) ?_
  rotate_left
  · (intro w'; go_simp; try with_reducible rfl)
  try simp only [Act.put, List.getElem_toArray, List.getElem_cons_succ, List.getElem_cons_zero, List.setIfInBounds_toArray, List.set_cons_zero, List.set_cons_succ]
  refine wpAny_ready (rs := [6]) (by kernel_rfl) (by simp) ?_
  refine AllReady.cons rfl (fun K hK => ?_) AllReady.nil
  go_simp
  go_wp2_with (go_at_call 25; refine (rbytes_is a _ HPa.out).mono ?_; rintro e w5 ⟨va, rfl, hb5, hf⟩; have HF5 := Lib.hid ((Fr.drew HF4.out).trans hf); have hcv := hb5.conv; rw [HSA.out] at hcv; have HB5 := Lib.hid hb5; clear hf hb5)
  try (refine hK _ _ ?_; clear hK K)
  try simp only [Act.put, List.getElem_toArray, List.getElem_cons_succ, List.getElem_cons_zero, List.setIfInBounds_toArray, List.set_cons_zero, List.set_cons_succ]
  refine wpAny_ready (rs := [7, 10]) (by kernel_rfl) (by simp) ?_
  refine AllReady.cons rfl (fun K hK => ?_) (AllReady.cons rfl (fun K hK => ?_) AllReady.nil)
  · go_simp
    refine hK _ _ ?_
    clear hK K
    try simp only [Act.put, List.getElem_toArray, List.getElem_cons_succ, List.getElem_cons_zero, List.setIfInBounds_toArray, List.set_cons_zero, List.set_cons_succ]
    refine wpAny_ready (rs := [10]) (by kernel_rfl) (by simp) ?_
    refine AllReady.cons rfl (fun K hK => ?_) AllReady.nil
    go_simp
    go_wp2_with (go_at_call 25; refine (rbytes_is b _ HPb.out).mono ?_; rintro e w6 ⟨vb, rfl, hb6, hf⟩; have HF6 := Lib.hid (HF5.out.trans hf); have hcv2 := hb6.conv; have hcv1 := (HB5.out.keep hf).conv; rw [HSB.out] at hcv2; rw [HSA.out] at hcv1; clear hf hb6)
    try (refine hK _ _ ?_; clear hK K)
    try simp only [Act.put, List.getElem_toArray, List.getElem_cons_succ, List.getElem_cons_zero, List.setIfInBounds_toArray, List.set_cons_zero, List.set_cons_succ]
    refine wpAny_ready (rs := [11]) (by kernel_rfl) (by simp) ?_
    refine AllReady.cons rfl (fun K hK => ?_) AllReady.nil
    go_simp
    refine hK _ _ ?_
    clear hK K
    try simp only [Act.put, List.getElem_toArray, List.getElem_cons_succ, List.getElem_cons_zero, List.setIfInBounds_toArray, List.set_cons_zero, List.set_cons_succ]
    refine wpAny_ready (rs := [12]) (by kernel_rfl) (by simp) ?_
    refine AllReady.cons rfl (fun K hK => ?_) AllReady.nil
    go_simp
    try simp only [if_neg hno]
    try go_simp
    refine hK _ _ ?_
    clear hK K
    try simp only [Act.put, List.getElem_toArray, List.getElem_cons_succ, List.getElem_cons_zero, List.setIfInBounds_toArray, List.set_cons_zero, List.set_cons_succ]
    refine wpAny_take (i := 13) (v := ?_) rfl (by kernel_rfl) (by kernel_rfl) (by kernel_rfl) (fun _ _ _ h => h) (Or.inl ⟨by rfl, ?_⟩) ?_
    rotate_left
    · (intro w'; go_simp; try with_reducible rfl)
    try simp only [Act.put, List.getElem_toArray, List.getElem_cons_succ, List.getElem_cons_zero, List.setIfInBounds_toArray, List.set_cons_zero, List.set_cons_succ]
    refine wpAny_take (i := 14) (v := ?_) rfl (by kernel_rfl) (by kernel_rfl) (by kernel_rfl) (fun _ _ _ h => h) (Or.inl ⟨by rfl, ?_⟩) ?_
    rotate_left
    · (intro w'; go_simp; try with_reducible rfl)
    try simp only [Act.put, List.getElem_toArray, List.getElem_cons_succ, List.getElem_cons_zero, List.setIfInBounds_toArray, List.set_cons_zero, List.set_cons_succ]
    refine wpAny_take (i := 15) (v := ?_) rfl (by kernel_rfl) (by kernel_rfl) (by kernel_rfl) (fun _ _ _ h => h) (Or.inl ⟨by rfl, ?_⟩) ?_
    rotate_left
    · (intro w'; go_simp; try with_reducible rfl)
    try simp only [Act.put, List.getElem_toArray, List.getElem_cons_succ, List.getElem_cons_zero, List.setIfInBounds_toArray, List.set_cons_zero, List.set_cons_succ]
    refine wpAny_done (by kernel_rfl) ?_ _
    (try go_wp2_with fail)
    go_ret
    exact ⟨rfl, HF6.out⟩
  · go_simp
    go_wp2_with (go_at_call 25; refine (rbytes_is b _ HPb.out).mono ?_; rintro e w6 ⟨vb, rfl, hb6, hf⟩; have HF6 := Lib.hid (HF5.out.trans hf); have hcv2 := hb6.conv; have hcv1 := (HB5.out.keep hf).conv; rw [HSB.out] at hcv2; rw [HSA.out] at hcv1; clear hf hb6)
    try (refine hK _ _ ?_; clear hK K)
    try simp only [Act.put, List.getElem_toArray, List.getElem_cons_succ, List.getElem_cons_zero, List.setIfInBounds_toArray, List.set_cons_zero, List.set_cons_succ]
    refine wpAny_ready (rs := [7, 11]) (by kernel_rfl) (by simp) ?_
    refine AllReady.cons rfl (fun K hK => ?_) (AllReady.cons rfl (fun K hK => ?_) AllReady.nil)
    · go_simp
      refine hK _ _ ?_
      clear hK K
      try simp only [Act.put, List.getElem_toArray, List.getElem_cons_succ, List.getElem_cons_zero, List.setIfInBounds_toArray, List.set_cons_zero, List.set_cons_succ]
      refine wpAny_ready (rs := [11]) (by kernel_rfl) (by simp) ?_
      refine AllReady.cons rfl (fun K hK => ?_) AllReady.nil
      go_simp
      refine hK _ _ ?_
      clear hK K
      try simp only [Act.put, List.getElem_toArray, List.getElem_cons_succ, List.getElem_cons_zero, List.setIfInBounds_toArray, List.set_cons_zero, List.set_cons_succ]
      refine wpAny_ready (rs := [12]) (by kernel_rfl) (by simp) ?_
      refine AllReady.cons rfl (fun K hK => ?_) AllReady.nil
      go_simp
      try simp only [if_neg hno]
      try go_simp
      refine hK _ _ ?_
      clear hK K
      try simp only [Act.put, List.getElem_toArray, List.getElem_cons_succ, List.getElem_cons_zero, List.setIfInBounds_toArray, List.set_cons_zero, List.set_cons_succ]
      refine wpAny_take (i := 13) (v := ?_) rfl (by kernel_rfl) (by kernel_rfl) (by kernel_rfl) (fun _ _ _ h => h) (Or.inl ⟨by rfl, ?_⟩) ?_
      rotate_left
      · (intro w'; go_simp; try with_reducible rfl)
      try simp only [Act.put, List.getElem_toArray, List.getElem_cons_succ, List.getElem_cons_zero, List.setIfInBounds_toArray, List.set_cons_zero, List.set_cons_succ]
      refine wpAny_take (i := 14) (v := ?_) rfl (by kernel_rfl) (by kernel_rfl) (by kernel_rfl) (fun _ _ _ h => h) (Or.inl ⟨by rfl, ?_⟩) ?_
      rotate_left
      · (intro w'; go_simp; try with_reducible rfl)
      try simp only [Act.put, List.getElem_toArray, List.getElem_cons_succ, List.getElem_cons_zero, List.setIfInBounds_toArray, List.set_cons_zero, List.set_cons_succ]
      refine wpAny_take (i := 15) (v := ?_) rfl (by kernel_rfl) (by kernel_rfl) (by kernel_rfl) (fun _ _ _ h => h) (Or.inl ⟨by rfl, ?_⟩) ?_
      rotate_left
      · (intro w'; go_simp; try with_reducible rfl)
      try simp only [Act.put, List.getElem_toArray, List.getElem_cons_succ, List.getElem_cons_zero, List.setIfInBounds_toArray, List.set_cons_zero, List.set_cons_succ]
      refine wpAny_done (by kernel_rfl) ?_ _
      (try go_wp2_with fail)
      go_ret
      exact ⟨rfl, HF6.out⟩
    · go_simp
      refine hK _ _ ?_
      clear hK K
      try simp only [Act.put, List.getElem_toArray, List.getElem_cons_succ, List.getElem_cons_zero, List.setIfInBounds_toArray, List.set_cons_zero, List.set_cons_succ]
      refine wpAny_ready (rs := [7]) (by kernel_rfl) (by simp) ?_
      refine AllReady.cons rfl (fun K hK => ?_) AllReady.nil
      go_simp
      refine hK _ _ ?_
      clear hK K
      try simp only [Act.put, List.getElem_toArray, List.getElem_cons_succ, List.getElem_cons_zero, List.setIfInBounds_toArray, List.set_cons_zero, List.set_cons_succ]
      refine wpAny_ready (rs := [12]) (by kernel_rfl) (by simp) ?_
      refine AllReady.cons rfl (fun K hK => ?_) AllReady.nil
      go_simp
      try simp only [if_neg hno]
      try go_simp
      refine hK _ _ ?_
      clear hK K
      try simp only [Act.put, List.getElem_toArray, List.getElem_cons_succ, List.getElem_cons_zero, List.setIfInBounds_toArray, List.set_cons_zero, List.set_cons_succ]
      refine wpAny_take (i := 13) (v := ?_) rfl (by kernel_rfl) (by kernel_rfl) (by kernel_rfl) (fun _ _ _ h => h) (Or.inl ⟨by rfl, ?_⟩) ?_
      rotate_left
      · (intro w'; go_simp; try with_reducible rfl)
      try simp only [Act.put, List.getElem_toArray, List.getElem_cons_succ, List.getElem_cons_zero, List.setIfInBounds_toArray, List.set_cons_zero, List.set_cons_succ]
      refine wpAny_take (i := 14) (v := ?_) rfl (by kernel_rfl) (by kernel_rfl) (by kernel_rfl) (fun _ _ _ h => h) (Or.inl ⟨by rfl, ?_⟩) ?_
      rotate_left
      · (intro w'; go_simp; try with_reducible rfl)
      try simp only [Act.put, List.getElem_toArray, List.getElem_cons_succ, List.getElem_cons_zero, List.setIfInBounds_toArray, List.set_cons_zero, List.set_cons_succ]
      refine wpAny_take (i := 15) (v := ?_) rfl (by kernel_rfl) (by kernel_rfl) (by kernel_rfl) (fun _ _ _ h => h) (Or.inl ⟨by rfl, ?_⟩) ?_
      rotate_left
      · (intro w'; go_simp; try with_reducible rfl)
      try simp only [Act.put, List.getElem_toArray, List.getElem_cons_succ, List.getElem_cons_zero, List.setIfInBounds_toArray, List.set_cons_zero, List.set_cons_succ]
      refine wpAny_done (by kernel_rfl) ?_ _
      (try go_wp2_with fail)
      go_ret
      exact ⟨rfl, HF6.out⟩

set_option maxHeartbeats 2000000 in
set_option maxRecDepth 100000 in
theorem pairs_10 (a b : Nat) (w : World) (ha : a < 65536) (hb : b < 65536) (halo : 55296 ≤ a) (hahi : a ≤ 56319) (hbhi : b ≤ 55295) (hT : LowTabs w) :
    Calls Tryd.prog 9 #[.int .u16 a, .int .u16 b] w fun e w' => e = .returned (.bool true) ∧ Fr w w' := by
  have H := pair_2 ha hb (by omega) (by omega)
  rw [← pair_data] at H
  have HR := Lib.hid H
  have HT := Lib.hid hT
  clear H hT
  have ag55296 : decide ((55296 : Int) ≤ (a : Int)) = true := decide_eq_true (by omega)
  have ag56320 : decide ((56320 : Int) ≤ (a : Int)) = false := decide_eq_false (by omega)
  have al56319 : decide ((a : Int) ≤ 56319) = true := decide_eq_true (by omega)
  have al57343 : decide ((a : Int) ≤ 57343) = true := decide_eq_true (by omega)
  have bg55296 : decide ((55296 : Int) ≤ (b : Int)) = false := decide_eq_false (by omega)
  have bg56320 : decide ((56320 : Int) ≤ (b : Int)) = false := decide_eq_false (by omega)
  have bl56319 : decide ((b : Int) ≤ 56319) = true := decide_eq_true (by omega)
  have bl57343 : decide ((b : Int) ≤ 57343) = true := decide_eq_true (by omega)
  go_enter Tryd.func9, Tryd.ntmps9
  go_wp2_with (first
    | (go_at_call 24; have hm := HF1.out; refine (lunit_is b _ hb).mono ?_; rintro e w2 ⟨rfl, hf⟩; have HF2 := Lib.hid (hm.trans hf); clear hf hm)
    | (go_at_call 24; refine (lunit_is a _ ha).mono ?_; rintro e w1 ⟨rfl, hf⟩; have HF1 := Lib.hid hf; clear hf))
  have hz := Lib.hid (pair_size a b)
  generalize h1 : (ByteArray.mk #[34] ++ ⟨(unitL a).toArray⟩) = P1 at hz HR ⊢
  generalize h2 : (P1 ++ ⟨(unitL b).toArray⟩) = P2 at hz HR ⊢
  generalize h3 : (P2 ++ ⟨#[34]⟩) = P3 at hz HR ⊢
  clear h1 h2 h3
  refine (cread_at P3 0 [] 1 20 _ hz.out (by omega) (by omega) (HT.out.keep HF2.out) HR.out).mono ?_
  rintro e w3 ⟨rfl, hf⟩
  have HF3 := Lib.hid (HF2.out.trans hf)
  clear hf HR
  go_wp2_with (first
    | (go_at_call 20; refine (awake02 _ (HT.out.keep HF3.out)).mono ?_; rintro e w4 ⟨rfl, hf⟩; have HF4 := Lib.hid (HF3.out.trans hf); clear hf))
  go_ret
  exact ⟨rfl, HF4.out⟩

set_option maxHeartbeats 2000000 in
set_option maxRecDepth 100000 in
theorem pairs_11 (a b : Nat) (w : World) (ha : a < 65536) (hb : b < 65536) (halo : 55296 ≤ a) (hahi : a ≤ 56319) (hblo : 55296 ≤ b) (hbhi : b ≤ 56319) (hT : LowTabs w) :
    Calls Tryd.prog 9 #[.int .u16 a, .int .u16 b] w fun e w' => e = .returned (.bool true) ∧ Fr w w' := by
  have H := pair_2 ha hb (by omega) (by omega)
  rw [← pair_data] at H
  have HR := Lib.hid H
  have HT := Lib.hid hT
  clear H hT
  have ag55296 : decide ((55296 : Int) ≤ (a : Int)) = true := decide_eq_true (by omega)
  have ag56320 : decide ((56320 : Int) ≤ (a : Int)) = false := decide_eq_false (by omega)
  have al56319 : decide ((a : Int) ≤ 56319) = true := decide_eq_true (by omega)
  have al57343 : decide ((a : Int) ≤ 57343) = true := decide_eq_true (by omega)
  have bg55296 : decide ((55296 : Int) ≤ (b : Int)) = true := decide_eq_true (by omega)
  have bg56320 : decide ((56320 : Int) ≤ (b : Int)) = false := decide_eq_false (by omega)
  have bl56319 : decide ((b : Int) ≤ 56319) = true := decide_eq_true (by omega)
  have bl57343 : decide ((b : Int) ≤ 57343) = true := decide_eq_true (by omega)
  go_enter Tryd.func9, Tryd.ntmps9
  go_wp2_with (first
    | (go_at_call 24; have hm := HF1.out; refine (lunit_is b _ hb).mono ?_; rintro e w2 ⟨rfl, hf⟩; have HF2 := Lib.hid (hm.trans hf); clear hf hm)
    | (go_at_call 24; refine (lunit_is a _ ha).mono ?_; rintro e w1 ⟨rfl, hf⟩; have HF1 := Lib.hid hf; clear hf))
  have hz := Lib.hid (pair_size a b)
  generalize h1 : (ByteArray.mk #[34] ++ ⟨(unitL a).toArray⟩) = P1 at hz HR ⊢
  generalize h2 : (P1 ++ ⟨(unitL b).toArray⟩) = P2 at hz HR ⊢
  generalize h3 : (P2 ++ ⟨#[34]⟩) = P3 at hz HR ⊢
  clear h1 h2 h3
  refine (cread_at P3 0 [] 1 20 _ hz.out (by omega) (by omega) (HT.out.keep HF2.out) HR.out).mono ?_
  rintro e w3 ⟨rfl, hf⟩
  have HF3 := Lib.hid (HF2.out.trans hf)
  clear hf HR
  go_wp2_with (first
    | (go_at_call 20; refine (awake02 _ (HT.out.keep HF3.out)).mono ?_; rintro e w4 ⟨rfl, hf⟩; have HF4 := Lib.hid (HF3.out.trans hf); clear hf))
  go_ret
  exact ⟨rfl, HF4.out⟩

set_option maxHeartbeats 2000000 in
set_option maxRecDepth 100000 in
theorem pairs_12 (a b : Nat) (w : World) (ha : a < 65536) (hb : b < 65536) (halo : 55296 ≤ a) (hahi : a ≤ 56319) (hblo : 56320 ≤ b) (hbhi : b ≤ 57343) (hT : LowTabs w) :
    Calls Tryd.prog 9 #[.int .u16 a, .int .u16 b] w fun e w' => e = .returned (.bool true) ∧ Fr w w' := by
  have H := pair_1 ha hb (by omega) (by omega)
  rw [← pair_data] at H
  have HR := Lib.hid H
  have HT := Lib.hid hT
  clear H hT
  have ag55296 : decide ((55296 : Int) ≤ (a : Int)) = true := decide_eq_true (by omega)
  have ag56320 : decide ((56320 : Int) ≤ (a : Int)) = false := decide_eq_false (by omega)
  have al56319 : decide ((a : Int) ≤ 56319) = true := decide_eq_true (by omega)
  have al57343 : decide ((a : Int) ≤ 57343) = true := decide_eq_true (by omega)
  have bg55296 : decide ((55296 : Int) ≤ (b : Int)) = true := decide_eq_true (by omega)
  have bg56320 : decide ((56320 : Int) ≤ (b : Int)) = true := decide_eq_true (by omega)
  have bl56319 : decide ((b : Int) ≤ 56319) = false := decide_eq_false (by omega)
  have bl57343 : decide ((b : Int) ≤ 57343) = true := decide_eq_true (by omega)
  obtain ⟨q, hq⟩ : ∃ q, 65536 + (a - 55296) * 1024 + (b - 56320) = q := ⟨_, rfl⟩
  have hqz : (65536 : Int) + ((a : Int) - 55296) * 1024 + (b : Int) - 56320 = (q : Int) := by omega
  have HPt := Lib.hid (Utf.isPt_iff.2 (⟨by omega, .inr (by omega)⟩ : q ≤ 1114111 ∧ (q < 55296 ∨ 57343 < q)))
  rw [hq] at HR
  clear hq
  go_enter Tryd.func9, Tryd.ntmps9
  go_wp2_with (first
    | (go_at_call 24; have hm := HF1.out; refine (lunit_is b _ hb).mono ?_; rintro e w2 ⟨rfl, hf⟩; have HF2 := Lib.hid (hm.trans hf); clear hf hm)
    | (go_at_call 24; refine (lunit_is a _ ha).mono ?_; rintro e w1 ⟨rfl, hf⟩; have HF1 := Lib.hid hf; clear hf))
  have hz := Lib.hid (pair_size a b)
  generalize h1 : (ByteArray.mk #[34] ++ ⟨(unitL a).toArray⟩) = P1 at hz HR ⊢
  generalize h2 : (P1 ++ ⟨(unitL b).toArray⟩) = P2 at hz HR ⊢
  generalize h3 : (P2 ++ ⟨#[34]⟩) = P3 at hz HR ⊢
  clear h1 h2 h3
  refine (cread_at P3 0 (Utf.bytes q) 14 0 _ hz.out (by omega) (by omega) (HT.out.keep HF2.out) HR.out).mono ?_
  rintro e w3 ⟨rfl, hf⟩
  have HF3 := Lib.hid (HF2.out.trans hf)
  clear hf HR
  go_wp2_with (first
    | (go_at_call 20; refine (awake02 _ (HT.out.keep HF3.out)).mono ?_; rintro e w4 ⟨rfl, hf⟩; have HF4 := Lib.hid (HF3.out.trans hf); clear hf)
    | (go_at_call 25; refine (rbytes_is q _ HPt.out).mono ?_; rintro e w5 ⟨vb, rfl, hb5, hf⟩; have HF5 := Lib.hid (HF4.out.trans hf); have hcv := hb5.conv; clear hf hb5))
  go_ret
  exact ⟨rfl, HF5.out⟩

set_option maxHeartbeats 2000000 in
set_option maxRecDepth 100000 in
theorem pairs_13 (a b : Nat) (w : World) (ha : a < 65536) (hb : b < 65536) (halo : 55296 ≤ a) (hahi : a ≤ 56319) (hblo : 57344 ≤ b) (hT : LowTabs w) :
    Calls Tryd.prog 9 #[.int .u16 a, .int .u16 b] w fun e w' => e = .returned (.bool true) ∧ Fr w w' := by
  have H := pair_2 ha hb (by omega) (by omega)
  rw [← pair_data] at H
  have HR := Lib.hid H
  have HT := Lib.hid hT
  clear H hT
  have ag55296 : decide ((55296 : Int) ≤ (a : Int)) = true := decide_eq_true (by omega)
  have ag56320 : decide ((56320 : Int) ≤ (a : Int)) = false := decide_eq_false (by omega)
  have al56319 : decide ((a : Int) ≤ 56319) = true := decide_eq_true (by omega)
  have al57343 : decide ((a : Int) ≤ 57343) = true := decide_eq_true (by omega)
  have bg55296 : decide ((55296 : Int) ≤ (b : Int)) = true := decide_eq_true (by omega)
  have bg56320 : decide ((56320 : Int) ≤ (b : Int)) = true := decide_eq_true (by omega)
  have bl56319 : decide ((b : Int) ≤ 56319) = false := decide_eq_false (by omega)
  have bl57343 : decide ((b : Int) ≤ 57343) = false := decide_eq_false (by omega)
  go_enter Tryd.func9, Tryd.ntmps9
  go_wp2_with (first
    | (go_at_call 24; have hm := HF1.out; refine (lunit_is b _ hb).mono ?_; rintro e w2 ⟨rfl, hf⟩; have HF2 := Lib.hid (hm.trans hf); clear hf hm)
    | (go_at_call 24; refine (lunit_is a _ ha).mono ?_; rintro e w1 ⟨rfl, hf⟩; have HF1 := Lib.hid hf; clear hf))
  have hz := Lib.hid (pair_size a b)
  generalize h1 : (ByteArray.mk #[34] ++ ⟨(unitL a).toArray⟩) = P1 at hz HR ⊢
  generalize h2 : (P1 ++ ⟨(unitL b).toArray⟩) = P2 at hz HR ⊢
  generalize h3 : (P2 ++ ⟨#[34]⟩) = P3 at hz HR ⊢
  clear h1 h2 h3
  refine (cread_at P3 0 [] 1 20 _ hz.out (by omega) (by omega) (HT.out.keep HF2.out) HR.out).mono ?_
  rintro e w3 ⟨rfl, hf⟩
  have HF3 := Lib.hid (HF2.out.trans hf)
  clear hf HR
  go_wp2_with (first
    | (go_at_call 20; refine (awake02 _ (HT.out.keep HF3.out)).mono ?_; rintro e w4 ⟨rfl, hf⟩; have HF4 := Lib.hid (HF3.out.trans hf); clear hf))
  go_ret
  exact ⟨rfl, HF4.out⟩

set_option maxHeartbeats 2000000 in
set_option maxRecDepth 100000 in
theorem pairs_20 (a b : Nat) (w : World) (ha : a < 65536) (hb : b < 65536) (halo : 56320 ≤ a) (hahi : a ≤ 57343) (hbhi : b ≤ 55295) (hT : LowTabs w) :
    Calls Tryd.prog 9 #[.int .u16 a, .int .u16 b] w fun e w' => e = .returned (.bool true) ∧ Fr w w' := by
  have H := pair_2 ha hb (by omega) (by omega)
  rw [← pair_data] at H
  have HR := Lib.hid H
  have HT := Lib.hid hT
  clear H hT
  have ag55296 : decide ((55296 : Int) ≤ (a : Int)) = true := decide_eq_true (by omega)
  have ag56320 : decide ((56320 : Int) ≤ (a : Int)) = true := decide_eq_true (by omega)
  have al56319 : decide ((a : Int) ≤ 56319) = false := decide_eq_false (by omega)
  have al57343 : decide ((a : Int) ≤ 57343) = true := decide_eq_true (by omega)
  have bg55296 : decide ((55296 : Int) ≤ (b : Int)) = false := decide_eq_false (by omega)
  have bg56320 : decide ((56320 : Int) ≤ (b : Int)) = false := decide_eq_false (by omega)
  have bl56319 : decide ((b : Int) ≤ 56319) = true := decide_eq_true (by omega)
  have bl57343 : decide ((b : Int) ≤ 57343) = true := decide_eq_true (by omega)
  go_enter Tryd.func9, Tryd.ntmps9
  go_wp2_with (first
    | (go_at_call 24; have hm := HF1.out; refine (lunit_is b _ hb).mono ?_; rintro e w2 ⟨rfl, hf⟩; have HF2 := Lib.hid (hm.trans hf); clear hf hm)
    | (go_at_call 24; refine (lunit_is a _ ha).mono ?_; rintro e w1 ⟨rfl, hf⟩; have HF1 := Lib.hid hf; clear hf))
  have hz := Lib.hid (pair_size a b)
  generalize h1 : (ByteArray.mk #[34] ++ ⟨(unitL a).toArray⟩) = P1 at hz HR ⊢
  generalize h2 : (P1 ++ ⟨(unitL b).toArray⟩) = P2 at hz HR ⊢
  generalize h3 : (P2 ++ ⟨#[34]⟩) = P3 at hz HR ⊢
  clear h1 h2 h3
  refine (cread_at P3 0 [] 1 20 _ hz.out (by omega) (by omega) (HT.out.keep HF2.out) HR.out).mono ?_
  rintro e w3 ⟨rfl, hf⟩
  have HF3 := Lib.hid (HF2.out.trans hf)
  clear hf HR
  go_wp2_with (first
    | (go_at_call 20; refine (awake02 _ (HT.out.keep HF3.out)).mono ?_; rintro e w4 ⟨rfl, hf⟩; have HF4 := Lib.hid (HF3.out.trans hf); clear hf))
  go_ret
  exact ⟨rfl, HF4.out⟩

set_option maxHeartbeats 2000000 in
set_option maxRecDepth 100000 in
theorem pairs_21 (a b : Nat) (w : World) (ha : a < 65536) (hb : b < 65536) (halo : 56320 ≤ a) (hahi : a ≤ 57343) (hblo : 55296 ≤ b) (hbhi : b ≤ 56319) (hT : LowTabs w) :
    Calls Tryd.prog 9 #[.int .u16 a, .int .u16 b] w fun e w' => e = .returned (.bool true) ∧ Fr w w' := by
  have H := pair_2 ha hb (by omega) (by omega)
  rw [← pair_data] at H
  have HR := Lib.hid H
  have HT := Lib.hid hT
  clear H hT
  have ag55296 : decide ((55296 : Int) ≤ (a : Int)) = true := decide_eq_true (by omega)
  have ag56320 : decide ((56320 : Int) ≤ (a : Int)) = true := decide_eq_true (by omega)
  have al56319 : decide ((a : Int) ≤ 56319) = false := decide_eq_false (by omega)
  have al57343 : decide ((a : Int) ≤ 57343) = true := decide_eq_true (by omega)
  have bg55296 : decide ((55296 : Int) ≤ (b : Int)) = true := decide_eq_true (by omega)
  have bg56320 : decide ((56320 : Int) ≤ (b : Int)) = false := decide_eq_false (by omega)
  have bl56319 : decide ((b : Int) ≤ 56319) = true := decide_eq_true (by omega)
  have bl57343 : decide ((b : Int) ≤ 57343) = true := decide_eq_true (by omega)
  go_enter Tryd.func9, Tryd.ntmps9
  go_wp2_with (first
    | (go_at_call 24; have hm := HF1.out; refine (lunit_is b _ hb).mono ?_; rintro e w2 ⟨rfl, hf⟩; have HF2 := Lib.hid (hm.trans hf); clear hf hm)
    | (go_at_call 24; refine (lunit_is a _ ha).mono ?_; rintro e w1 ⟨rfl, hf⟩; have HF1 := Lib.hid hf; clear hf))
  have hz := Lib.hid (pair_size a b)
  generalize h1 : (ByteArray.mk #[34] ++ ⟨(unitL a).toArray⟩) = P1 at hz HR ⊢
  generalize h2 : (P1 ++ ⟨(unitL b).toArray⟩) = P2 at hz HR ⊢
  generalize h3 : (P2 ++ ⟨#[34]⟩) = P3 at hz HR ⊢
  clear h1 h2 h3
  refine (cread_at P3 0 [] 1 20 _ hz.out (by omega) (by omega) (HT.out.keep HF2.out) HR.out).mono ?_
  rintro e w3 ⟨rfl, hf⟩
  have HF3 := Lib.hid (HF2.out.trans hf)
  clear hf HR
  go_wp2_with (first
    | (go_at_call 20; refine (awake02 _ (HT.out.keep HF3.out)).mono ?_; rintro e w4 ⟨rfl, hf⟩; have HF4 := Lib.hid (HF3.out.trans hf); clear hf))
  go_ret
  exact ⟨rfl, HF4.out⟩

set_option maxHeartbeats 2000000 in
set_option maxRecDepth 100000 in
theorem pairs_22 (a b : Nat) (w : World) (ha : a < 65536) (hb : b < 65536) (halo : 56320 ≤ a) (hahi : a ≤ 57343) (hblo : 56320 ≤ b) (hbhi : b ≤ 57343) (hT : LowTabs w) :
    Calls Tryd.prog 9 #[.int .u16 a, .int .u16 b] w fun e w' => e = .returned (.bool true) ∧ Fr w w' := by
  have H := pair_2 ha hb (by omega) (by omega)
  rw [← pair_data] at H
  have HR := Lib.hid H
  have HT := Lib.hid hT
  clear H hT
  have ag55296 : decide ((55296 : Int) ≤ (a : Int)) = true := decide_eq_true (by omega)
  have ag56320 : decide ((56320 : Int) ≤ (a : Int)) = true := decide_eq_true (by omega)
  have al56319 : decide ((a : Int) ≤ 56319) = false := decide_eq_false (by omega)
  have al57343 : decide ((a : Int) ≤ 57343) = true := decide_eq_true (by omega)
  have bg55296 : decide ((55296 : Int) ≤ (b : Int)) = true := decide_eq_true (by omega)
  have bg56320 : decide ((56320 : Int) ≤ (b : Int)) = true := decide_eq_true (by omega)
  have bl56319 : decide ((b : Int) ≤ 56319) = false := decide_eq_false (by omega)
  have bl57343 : decide ((b : Int) ≤ 57343) = true := decide_eq_true (by omega)
  go_enter Tryd.func9, Tryd.ntmps9
  go_wp2_with (first
    | (go_at_call 24; have hm := HF1.out; refine (lunit_is b _ hb).mono ?_; rintro e w2 ⟨rfl, hf⟩; have HF2 := Lib.hid (hm.trans hf); clear hf hm)
    | (go_at_call 24; refine (lunit_is a _ ha).mono ?_; rintro e w1 ⟨rfl, hf⟩; have HF1 := Lib.hid hf; clear hf))
  have hz := Lib.hid (pair_size a b)
  generalize h1 : (ByteArray.mk #[34] ++ ⟨(unitL a).toArray⟩) = P1 at hz HR ⊢
  generalize h2 : (P1 ++ ⟨(unitL b).toArray⟩) = P2 at hz HR ⊢
  generalize h3 : (P2 ++ ⟨#[34]⟩) = P3 at hz HR ⊢
  clear h1 h2 h3
  refine (cread_at P3 0 [] 1 20 _ hz.out (by omega) (by omega) (HT.out.keep HF2.out) HR.out).mono ?_
  rintro e w3 ⟨rfl, hf⟩
  have HF3 := Lib.hid (HF2.out.trans hf)
  clear hf HR
  go_wp2_with (first
    | (go_at_call 20; refine (awake02 _ (HT.out.keep HF3.out)).mono ?_; rintro e w4 ⟨rfl, hf⟩; have HF4 := Lib.hid (HF3.out.trans hf); clear hf))
  go_ret
  exact ⟨rfl, HF4.out⟩

set_option maxHeartbeats 2000000 in
set_option maxRecDepth 100000 in
theorem pairs_23 (a b : Nat) (w : World) (ha : a < 65536) (hb : b < 65536) (halo : 56320 ≤ a) (hahi : a ≤ 57343) (hblo : 57344 ≤ b) (hT : LowTabs w) :
    Calls Tryd.prog 9 #[.int .u16 a, .int .u16 b] w fun e w' => e = .returned (.bool true) ∧ Fr w w' := by
  have H := pair_2 ha hb (by omega) (by omega)
  rw [← pair_data] at H
  have HR := Lib.hid H
  have HT := Lib.hid hT
  clear H hT
  have ag55296 : decide ((55296 : Int) ≤ (a : Int)) = true := decide_eq_true (by omega)
  have ag56320 : decide ((56320 : Int) ≤ (a : Int)) = true := decide_eq_true (by omega)
  have al56319 : decide ((a : Int) ≤ 56319) = false := decide_eq_false (by omega)
  have al57343 : decide ((a : Int) ≤ 57343) = true := decide_eq_true (by omega)
  have bg55296 : decide ((55296 : Int) ≤ (b : Int)) = true := decide_eq_true (by omega)
  have bg56320 : decide ((56320 : Int) ≤ (b : Int)) = true := decide_eq_true (by omega)
  have bl56319 : decide ((b : Int) ≤ 56319) = false := decide_eq_false (by omega)
  have bl57343 : decide ((b : Int) ≤ 57343) = false := decide_eq_false (by omega)
  go_enter Tryd.func9, Tryd.ntmps9
  go_wp2_with (first
    | (go_at_call 24; have hm := HF1.out; refine (lunit_is b _ hb).mono ?_; rintro e w2 ⟨rfl, hf⟩; have HF2 := Lib.hid (hm.trans hf); clear hf hm)
    | (go_at_call 24; refine (lunit_is a _ ha).mono ?_; rintro e w1 ⟨rfl, hf⟩; have HF1 := Lib.hid hf; clear hf))
  have hz := Lib.hid (pair_size a b)
  generalize h1 : (ByteArray.mk #[34] ++ ⟨(unitL a).toArray⟩) = P1 at hz HR ⊢
  generalize h2 : (P1 ++ ⟨(unitL b).toArray⟩) = P2 at hz HR ⊢
  generalize h3 : (P2 ++ ⟨#[34]⟩) = P3 at hz HR ⊢
  clear h1 h2 h3
  refine (cread_at P3 0 [] 1 20 _ hz.out (by omega) (by omega) (HT.out.keep HF2.out) HR.out).mono ?_
  rintro e w3 ⟨rfl, hf⟩
  have HF3 := Lib.hid (HF2.out.trans hf)
  clear hf HR
  go_wp2_with (first
    | (go_at_call 20; refine (awake02 _ (HT.out.keep HF3.out)).mono ?_; rintro e w4 ⟨rfl, hf⟩; have HF4 := Lib.hid (HF3.out.trans hf); clear hf))
  go_ret
  exact ⟨rfl, HF4.out⟩

set_option maxHeartbeats 2000000 in
set_option maxRecDepth 100000 in
theorem pairs_30 (a b : Nat) (w : World) (ha : a < 65536) (hb : b < 65536) (halo : 57344 ≤ a) (hbhi : b ≤ 55295) (hT : LowTabs w) :
    Calls Tryd.prog 9 #[.int .u16 a, .int .u16 b] w fun e w' => e = .returned (.bool true) ∧ Fr w w' := by
  have H := pair_4 ha hb (by omega) (by omega)
  rw [← pair_data] at H
  have HR := Lib.hid H
  have HT := Lib.hid hT
  clear H hT
  have ag55296 : decide ((55296 : Int) ≤ (a : Int)) = true := decide_eq_true (by omega)
  have ag56320 : decide ((56320 : Int) ≤ (a : Int)) = true := decide_eq_true (by omega)
  have al56319 : decide ((a : Int) ≤ 56319) = false := decide_eq_false (by omega)
  have al57343 : decide ((a : Int) ≤ 57343) = false := decide_eq_false (by omega)
  have bg55296 : decide ((55296 : Int) ≤ (b : Int)) = false := decide_eq_false (by omega)
  have bg56320 : decide ((56320 : Int) ≤ (b : Int)) = false := decide_eq_false (by omega)
  have bl56319 : decide ((b : Int) ≤ 56319) = true := decide_eq_true (by omega)
  have bl57343 : decide ((b : Int) ≤ 57343) = true := decide_eq_true (by omega)
  obtain ⟨SA, hSA⟩ : ∃ SA, ByteArray.mk (Utf.bytes a).toArray = SA := ⟨_, rfl⟩
  obtain ⟨SB, hSB⟩ : ∃ SB, ByteArray.mk (Utf.bytes b).toArray = SB := ⟨_, rfl⟩
  have HSA := Lib.hid hSA
  have HSB := Lib.hid hSB
  have eT : Utf.bytes a ++ Utf.bytes b = (SA ++ SB).data.toList := by rw [data_app, ← hSA, ← hSB]
  rw [eT] at HR
  have hsa : SA.size ≤ 4 := by rw [← hSA]; have := Utf.bytes_le a; simpa [ByteArray.size] using this
  have hsb : SB.size ≤ 4 := by rw [← hSB]; have := Utf.bytes_le b; simpa [ByteArray.size] using this
  have hno : ¬ (9223372036854775807 < SA.size + SB.size) := by omega
  clear eT hSA hSB
  have wa : IntKind.i64.wrap (a : Int) = (a : Int) := by rw [IntKind.wrap_i64]; omega
  have wb : IntKind.i64.wrap (b : Int) = (b : Int) := by rw [IntKind.wrap_i64]; omega
  have HPa := Lib.hid (Utf.isPt_iff.2 (⟨by omega, by omega⟩ : a ≤ 1114111 ∧ (a < 55296 ∨ 57343 < a)))
  have HPb := Lib.hid (Utf.isPt_iff.2 (⟨by omega, by omega⟩ : b ≤ 1114111 ∧ (b < 55296 ∨ 57343 < b)))
  go_enter Tryd.func9, Tryd.ntmps9
  go_wp2_with (first
    | (go_at_call 24; have hm := HF1.out; refine (lunit_is b _ hb).mono ?_; rintro e w2 ⟨rfl, hf⟩; have HF2 := Lib.hid (hm.trans hf); clear hf hm)
    | (go_at_call 24; refine (lunit_is a _ ha).mono ?_; rintro e w1 ⟨rfl, hf⟩; have HF1 := Lib.hid hf; clear hf))
  have hz := Lib.hid (pair_size a b)
  generalize h1 : (ByteArray.mk #[34] ++ ⟨(unitL a).toArray⟩) = P1 at hz HR ⊢
  generalize h2 : (P1 ++ ⟨(unitL b).toArray⟩) = P2 at hz HR ⊢
  generalize h3 : (P2 ++ ⟨#[34]⟩) = P3 at hz HR ⊢
  clear h1 h2 h3
  refine (cread_str P3 0 (SA ++ SB) 14 0 _ hz.out (by omega) (by omega) (HT.out.keep HF2.out) HR.out).mono ?_
  rintro e w3 ⟨rfl, hf⟩
  have HF3 := Lib.hid (HF2.out.trans hf)
  clear hf HR
  go_wp2_with (first
    | (go_at_call 20; refine (awake02 _ (HT.out.keep HF3.out)).mono ?_; rintro e w4 ⟨rfl, hf⟩; have HF4 := Lib.hid (HF3.out.trans hf); clear hf))
  refine wp_region_any (by kernel_rfl) ?_
  try (change wpAny _ _ _ _ _ _ _ (World.drew _))
  refine wpAny_take (i := 0) (v := ?_) rfl (by kernel_rfl) (by kernel_rfl) (by kernel_rfl) (fun _ _ _ h => h) (Or.inl ⟨by rfl, ?_⟩) ?_
  rotate_left
  · (intro w'; go_simp; try with_reducible rfl)
  try simp only [Act.put, List.getElem_toArray, List.getElem_cons_succ, List.getElem_cons_zero, List.setIfInBounds_toArray, List.set_cons_zero, List.set_cons_succ]
  refine wpAny_take (i := 1) (v := ?_) rfl (by kernel_rfl) (by kernel_rfl) (by kernel_rfl) (fun _ _ _ h => h) (Or.inl ⟨by rfl, ?_⟩) ?_
  rotate_left
  · (intro w'; go_simp; try with_reducible rfl)
  try simp only [Act.put, List.getElem_toArray, List.getElem_cons_succ, List.getElem_cons_zero, List.setIfInBounds_toArray, List.set_cons_zero, List.set_cons_succ]
  refine wpAny_take (i := 2) (v := ?_) rfl (by kernel_rfl) (by kernel_rfl) (by kernel_rfl) (fun _ _ _ h => h) (Or.inl ⟨by rfl, ?_⟩) ?_
  rotate_left
  · (intro w'; go_simp; try with_reducible rfl)
  try simp only [Act.put, List.getElem_toArray, List.getElem_cons_succ, List.getElem_cons_zero, List.setIfInBounds_toArray, List.set_cons_zero, List.set_cons_succ]
  refine wpAny_take (i := 3) (v := ?_) rfl (by kernel_rfl) (by kernel_rfl) (by kernel_rfl) (fun _ _ _ h => h) (Or.inl ⟨by rfl, ?_⟩) ?_
  rotate_left
  · (intro w'; go_simp; try with_reducible rfl)
  try simp only [Act.put, List.getElem_toArray, List.getElem_cons_succ, List.getElem_cons_zero, List.setIfInBounds_toArray, List.set_cons_zero, List.set_cons_succ]
  refine wpAny_take (i := 4) (v := ?_) rfl (by kernel_rfl) (by kernel_rfl) (by kernel_rfl) (fun _ _ _ h => h) (Or.inl ⟨by rfl, ?_⟩) ?_
  rotate_left
  · (intro w'; go_simp; try with_reducible rfl)
  try simp only [Act.put, List.getElem_toArray, List.getElem_cons_succ, List.getElem_cons_zero, List.setIfInBounds_toArray, List.set_cons_zero, List.set_cons_succ]
  refine wpAny_take (i := 5) (v := ?_) rfl (by kernel_rfl) (by kernel_rfl) (by kernel_rfl) (fun _ _ _ h => h) (Or.inl ⟨by rfl, ?_⟩) ?_
  rotate_left
  · (intro w'; go_simp; try with_reducible rfl)
  try simp only [Act.put, List.getElem_toArray, List.getElem_cons_succ, List.getElem_cons_zero, List.setIfInBounds_toArray, List.set_cons_zero, List.set_cons_succ]
  refine wpAny_take (i := 8) (v := ?_) rfl (by kernel_rfl) (by kernel_rfl) (by kernel_rfl) (fun _ _ _ h => h) (Or.inl ⟨by rfl, ?_⟩) ?_
  rotate_left
  · (intro w'; go_simp; try with_reducible rfl)
  try simp only [Act.put, List.getElem_toArray, List.getElem_cons_succ, List.getElem_cons_zero, List.setIfInBounds_toArray, List.set_cons_zero, List.set_cons_succ]
  refine wpAny_take (i := 9) (v := ?_) rfl (by kernel_rfl) (by kernel_rfl) (by kernel_rfl) (fun _ _ _ h => h) (Or.inl ⟨by rfl, ?_⟩) ?_
  rotate_left
  · (intro w'; go_simp; try with_reducible rfl)
  try simp only [Act.put, List.getElem_toArray, List.getElem_cons_succ, List.getElem_cons_zero, List.setIfInBounds_toArray, List.set_cons_zero, List.set_cons_succ]
  refine wpAny_ready (rs := [6]) (by kernel_rfl) (by simp) ?_
  refine AllReady.cons rfl (fun K hK => ?_) AllReady.nil
  go_simp
  go_wp2_with (go_at_call 25; refine (rbytes_is a _ HPa.out).mono ?_; rintro e w5 ⟨va, rfl, hb5, hf⟩; have HF5 := Lib.hid ((Fr.drew HF4.out).trans hf); have hcv := hb5.conv; rw [HSA.out] at hcv; have HB5 := Lib.hid hb5; clear hf hb5)
  try (refine hK _ _ ?_; clear hK K)
  try simp only [Act.put, List.getElem_toArray, List.getElem_cons_succ, List.getElem_cons_zero, List.setIfInBounds_toArray, List.set_cons_zero, List.set_cons_succ]
  refine wpAny_ready (rs := [7, 10]) (by kernel_rfl) (by simp) ?_
  refine AllReady.cons rfl (fun K hK => ?_) (AllReady.cons rfl (fun K hK => ?_) AllReady.nil)
  · go_simp
    refine hK _ _ ?_
    clear hK K
    try simp only [Act.put, List.getElem_toArray, List.getElem_cons_succ, List.getElem_cons_zero, List.setIfInBounds_toArray, List.set_cons_zero, List.set_cons_succ]
    refine wpAny_ready (rs := [10]) (by kernel_rfl) (by simp) ?_
    refine AllReady.cons rfl (fun K hK => ?_) AllReady.nil
    go_simp
    go_wp2_with (go_at_call 25; refine (rbytes_is b _ HPb.out).mono ?_; rintro e w6 ⟨vb, rfl, hb6, hf⟩; have HF6 := Lib.hid (HF5.out.trans hf); have hcv2 := hb6.conv; have hcv1 := (HB5.out.keep hf).conv; rw [HSB.out] at hcv2; rw [HSA.out] at hcv1; clear hf hb6)
    try (refine hK _ _ ?_; clear hK K)
    try simp only [Act.put, List.getElem_toArray, List.getElem_cons_succ, List.getElem_cons_zero, List.setIfInBounds_toArray, List.set_cons_zero, List.set_cons_succ]
    refine wpAny_ready (rs := [11]) (by kernel_rfl) (by simp) ?_
    refine AllReady.cons rfl (fun K hK => ?_) AllReady.nil
    go_simp
    refine hK _ _ ?_
    clear hK K
    try simp only [Act.put, List.getElem_toArray, List.getElem_cons_succ, List.getElem_cons_zero, List.setIfInBounds_toArray, List.set_cons_zero, List.set_cons_succ]
    refine wpAny_ready (rs := [12]) (by kernel_rfl) (by simp) ?_
    refine AllReady.cons rfl (fun K hK => ?_) AllReady.nil
    go_simp
    try simp only [if_neg hno]
    try go_simp
    refine hK _ _ ?_
    clear hK K
    try simp only [Act.put, List.getElem_toArray, List.getElem_cons_succ, List.getElem_cons_zero, List.setIfInBounds_toArray, List.set_cons_zero, List.set_cons_succ]
    refine wpAny_take (i := 13) (v := ?_) rfl (by kernel_rfl) (by kernel_rfl) (by kernel_rfl) (fun _ _ _ h => h) (Or.inl ⟨by rfl, ?_⟩) ?_
    rotate_left
    · (intro w'; go_simp; try with_reducible rfl)
    try simp only [Act.put, List.getElem_toArray, List.getElem_cons_succ, List.getElem_cons_zero, List.setIfInBounds_toArray, List.set_cons_zero, List.set_cons_succ]
    refine wpAny_take (i := 14) (v := ?_) rfl (by kernel_rfl) (by kernel_rfl) (by kernel_rfl) (fun _ _ _ h => h) (Or.inl ⟨by rfl, ?_⟩) ?_
    rotate_left
    · (intro w'; go_simp; try with_reducible rfl)
    try simp only [Act.put, List.getElem_toArray, List.getElem_cons_succ, List.getElem_cons_zero, List.setIfInBounds_toArray, List.set_cons_zero, List.set_cons_succ]
    refine wpAny_take (i := 15) (v := ?_) rfl (by kernel_rfl) (by kernel_rfl) (by kernel_rfl) (fun _ _ _ h => h) (Or.inl ⟨by rfl, ?_⟩) ?_
    rotate_left
    · (intro w'; go_simp; try with_reducible rfl)
    try simp only [Act.put, List.getElem_toArray, List.getElem_cons_succ, List.getElem_cons_zero, List.setIfInBounds_toArray, List.set_cons_zero, List.set_cons_succ]
    refine wpAny_done (by kernel_rfl) ?_ _
    (try go_wp2_with fail)
    go_ret
    exact ⟨rfl, HF6.out⟩
  · go_simp
    go_wp2_with (go_at_call 25; refine (rbytes_is b _ HPb.out).mono ?_; rintro e w6 ⟨vb, rfl, hb6, hf⟩; have HF6 := Lib.hid (HF5.out.trans hf); have hcv2 := hb6.conv; have hcv1 := (HB5.out.keep hf).conv; rw [HSB.out] at hcv2; rw [HSA.out] at hcv1; clear hf hb6)
    try (refine hK _ _ ?_; clear hK K)
    try simp only [Act.put, List.getElem_toArray, List.getElem_cons_succ, List.getElem_cons_zero, List.setIfInBounds_toArray, List.set_cons_zero, List.set_cons_succ]
    refine wpAny_ready (rs := [7, 11]) (by kernel_rfl) (by simp) ?_
    refine AllReady.cons rfl (fun K hK => ?_) (AllReady.cons rfl (fun K hK => ?_) AllReady.nil)
    · go_simp
      refine hK _ _ ?_
      clear hK K
      try simp only [Act.put, List.getElem_toArray, List.getElem_cons_succ, List.getElem_cons_zero, List.setIfInBounds_toArray, List.set_cons_zero, List.set_cons_succ]
      refine wpAny_ready (rs := [11]) (by kernel_rfl) (by simp) ?_
      refine AllReady.cons rfl (fun K hK => ?_) AllReady.nil
      go_simp
      refine hK _ _ ?_
      clear hK K
      try simp only [Act.put, List.getElem_toArray, List.getElem_cons_succ, List.getElem_cons_zero, List.setIfInBounds_toArray, List.set_cons_zero, List.set_cons_succ]
      refine wpAny_ready (rs := [12]) (by kernel_rfl) (by simp) ?_
      refine AllReady.cons rfl (fun K hK => ?_) AllReady.nil
      go_simp
      try simp only [if_neg hno]
      try go_simp
      refine hK _ _ ?_
      clear hK K
      try simp only [Act.put, List.getElem_toArray, List.getElem_cons_succ, List.getElem_cons_zero, List.setIfInBounds_toArray, List.set_cons_zero, List.set_cons_succ]
      refine wpAny_take (i := 13) (v := ?_) rfl (by kernel_rfl) (by kernel_rfl) (by kernel_rfl) (fun _ _ _ h => h) (Or.inl ⟨by rfl, ?_⟩) ?_
      rotate_left
      · (intro w'; go_simp; try with_reducible rfl)
      try simp only [Act.put, List.getElem_toArray, List.getElem_cons_succ, List.getElem_cons_zero, List.setIfInBounds_toArray, List.set_cons_zero, List.set_cons_succ]
      refine wpAny_take (i := 14) (v := ?_) rfl (by kernel_rfl) (by kernel_rfl) (by kernel_rfl) (fun _ _ _ h => h) (Or.inl ⟨by rfl, ?_⟩) ?_
      rotate_left
      · (intro w'; go_simp; try with_reducible rfl)
      try simp only [Act.put, List.getElem_toArray, List.getElem_cons_succ, List.getElem_cons_zero, List.setIfInBounds_toArray, List.set_cons_zero, List.set_cons_succ]
      refine wpAny_take (i := 15) (v := ?_) rfl (by kernel_rfl) (by kernel_rfl) (by kernel_rfl) (fun _ _ _ h => h) (Or.inl ⟨by rfl, ?_⟩) ?_
      rotate_left
      · (intro w'; go_simp; try with_reducible rfl)
      try simp only [Act.put, List.getElem_toArray, List.getElem_cons_succ, List.getElem_cons_zero, List.setIfInBounds_toArray, List.set_cons_zero, List.set_cons_succ]
      refine wpAny_done (by kernel_rfl) ?_ _
      (try go_wp2_with fail)
      go_ret
      exact ⟨rfl, HF6.out⟩
    · go_simp
      refine hK _ _ ?_
      clear hK K
      try simp only [Act.put, List.getElem_toArray, List.getElem_cons_succ, List.getElem_cons_zero, List.setIfInBounds_toArray, List.set_cons_zero, List.set_cons_succ]
      refine wpAny_ready (rs := [7]) (by kernel_rfl) (by simp) ?_
      refine AllReady.cons rfl (fun K hK => ?_) AllReady.nil
      go_simp
      refine hK _ _ ?_
      clear hK K
      try simp only [Act.put, List.getElem_toArray, List.getElem_cons_succ, List.getElem_cons_zero, List.setIfInBounds_toArray, List.set_cons_zero, List.set_cons_succ]
      refine wpAny_ready (rs := [12]) (by kernel_rfl) (by simp) ?_
      refine AllReady.cons rfl (fun K hK => ?_) AllReady.nil
      go_simp
      try simp only [if_neg hno]
      try go_simp
      refine hK _ _ ?_
      clear hK K
      try simp only [Act.put, List.getElem_toArray, List.getElem_cons_succ, List.getElem_cons_zero, List.setIfInBounds_toArray, List.set_cons_zero, List.set_cons_succ]
      refine wpAny_take (i := 13) (v := ?_) rfl (by kernel_rfl) (by kernel_rfl) (by kernel_rfl) (fun _ _ _ h => h) (Or.inl ⟨by rfl, ?_⟩) ?_
      rotate_left
      · (intro w'; go_simp; try with_reducible rfl)
      try simp only [Act.put, List.getElem_toArray, List.getElem_cons_succ, List.getElem_cons_zero, List.setIfInBounds_toArray, List.set_cons_zero, List.set_cons_succ]
      refine wpAny_take (i := 14) (v := ?_) rfl (by kernel_rfl) (by kernel_rfl) (by kernel_rfl) (fun _ _ _ h => h) (Or.inl ⟨by rfl, ?_⟩) ?_
      rotate_left
      · (intro w'; go_simp; try with_reducible rfl)
      try simp only [Act.put, List.getElem_toArray, List.getElem_cons_succ, List.getElem_cons_zero, List.setIfInBounds_toArray, List.set_cons_zero, List.set_cons_succ]
      refine wpAny_take (i := 15) (v := ?_) rfl (by kernel_rfl) (by kernel_rfl) (by kernel_rfl) (fun _ _ _ h => h) (Or.inl ⟨by rfl, ?_⟩) ?_
      rotate_left
      · (intro w'; go_simp; try with_reducible rfl)
      try simp only [Act.put, List.getElem_toArray, List.getElem_cons_succ, List.getElem_cons_zero, List.setIfInBounds_toArray, List.set_cons_zero, List.set_cons_succ]
      refine wpAny_done (by kernel_rfl) ?_ _
      (try go_wp2_with fail)
      go_ret
      exact ⟨rfl, HF6.out⟩

set_option maxHeartbeats 2000000 in
set_option maxRecDepth 100000 in
theorem pairs_31 (a b : Nat) (w : World) (ha : a < 65536) (hb : b < 65536) (halo : 57344 ≤ a) (hblo : 55296 ≤ b) (hbhi : b ≤ 56319) (hT : LowTabs w) :
    Calls Tryd.prog 9 #[.int .u16 a, .int .u16 b] w fun e w' => e = .returned (.bool true) ∧ Fr w w' := by
  have H := pair_3 ha hb (by omega) (by omega)
  rw [← pair_data] at H
  have HR := Lib.hid H
  have HT := Lib.hid hT
  clear H hT
  have ag55296 : decide ((55296 : Int) ≤ (a : Int)) = true := decide_eq_true (by omega)
  have ag56320 : decide ((56320 : Int) ≤ (a : Int)) = true := decide_eq_true (by omega)
  have al56319 : decide ((a : Int) ≤ 56319) = false := decide_eq_false (by omega)
  have al57343 : decide ((a : Int) ≤ 57343) = false := decide_eq_false (by omega)
  have bg55296 : decide ((55296 : Int) ≤ (b : Int)) = true := decide_eq_true (by omega)
  have bg56320 : decide ((56320 : Int) ≤ (b : Int)) = false := decide_eq_false (by omega)
  have bl56319 : decide ((b : Int) ≤ 56319) = true := decide_eq_true (by omega)
  have bl57343 : decide ((b : Int) ≤ 57343) = true := decide_eq_true (by omega)
  go_enter Tryd.func9, Tryd.ntmps9
  go_wp2_with (first
    | (go_at_call 24; have hm := HF1.out; refine (lunit_is b _ hb).mono ?_; rintro e w2 ⟨rfl, hf⟩; have HF2 := Lib.hid (hm.trans hf); clear hf hm)
    | (go_at_call 24; refine (lunit_is a _ ha).mono ?_; rintro e w1 ⟨rfl, hf⟩; have HF1 := Lib.hid hf; clear hf))
  have hz := Lib.hid (pair_size a b)
  generalize h1 : (ByteArray.mk #[34] ++ ⟨(unitL a).toArray⟩) = P1 at hz HR ⊢
  generalize h2 : (P1 ++ ⟨(unitL b).toArray⟩) = P2 at hz HR ⊢
  generalize h3 : (P2 ++ ⟨#[34]⟩) = P3 at hz HR ⊢
  clear h1 h2 h3
  refine (cread_at P3 0 [] 7 20 _ hz.out (by omega) (by omega) (HT.out.keep HF2.out) HR.out).mono ?_
  rintro e w3 ⟨rfl, hf⟩
  have HF3 := Lib.hid (HF2.out.trans hf)
  clear hf HR
  go_wp2_with (first
    | (go_at_call 20; refine (awake02 _ (HT.out.keep HF3.out)).mono ?_; rintro e w4 ⟨rfl, hf⟩; have HF4 := Lib.hid (HF3.out.trans hf); clear hf))
  go_ret
  exact ⟨rfl, HF4.out⟩

set_option maxHeartbeats 2000000 in
set_option maxRecDepth 100000 in
theorem pairs_32 (a b : Nat) (w : World) (ha : a < 65536) (hb : b < 65536) (halo : 57344 ≤ a) (hblo : 56320 ≤ b) (hbhi : b ≤ 57343) (hT : LowTabs w) :
    Calls Tryd.prog 9 #[.int .u16 a, .int .u16 b] w fun e w' => e = .returned (.bool true) ∧ Fr w w' := by
  have H := pair_3 ha hb (by omega) (by omega)
  rw [← pair_data] at H
  have HR := Lib.hid H
  have HT := Lib.hid hT
  clear H hT
  have ag55296 : decide ((55296 : Int) ≤ (a : Int)) = true := decide_eq_true (by omega)
  have ag56320 : decide ((56320 : Int) ≤ (a : Int)) = true := decide_eq_true (by omega)
  have al56319 : decide ((a : Int) ≤ 56319) = false := decide_eq_false (by omega)
  have al57343 : decide ((a : Int) ≤ 57343) = false := decide_eq_false (by omega)
  have bg55296 : decide ((55296 : Int) ≤ (b : Int)) = true := decide_eq_true (by omega)
  have bg56320 : decide ((56320 : Int) ≤ (b : Int)) = true := decide_eq_true (by omega)
  have bl56319 : decide ((b : Int) ≤ 56319) = false := decide_eq_false (by omega)
  have bl57343 : decide ((b : Int) ≤ 57343) = true := decide_eq_true (by omega)
  go_enter Tryd.func9, Tryd.ntmps9
  go_wp2_with (first
    | (go_at_call 24; have hm := HF1.out; refine (lunit_is b _ hb).mono ?_; rintro e w2 ⟨rfl, hf⟩; have HF2 := Lib.hid (hm.trans hf); clear hf hm)
    | (go_at_call 24; refine (lunit_is a _ ha).mono ?_; rintro e w1 ⟨rfl, hf⟩; have HF1 := Lib.hid hf; clear hf))
  have hz := Lib.hid (pair_size a b)
  generalize h1 : (ByteArray.mk #[34] ++ ⟨(unitL a).toArray⟩) = P1 at hz HR ⊢
  generalize h2 : (P1 ++ ⟨(unitL b).toArray⟩) = P2 at hz HR ⊢
  generalize h3 : (P2 ++ ⟨#[34]⟩) = P3 at hz HR ⊢
  clear h1 h2 h3
  refine (cread_at P3 0 [] 7 20 _ hz.out (by omega) (by omega) (HT.out.keep HF2.out) HR.out).mono ?_
  rintro e w3 ⟨rfl, hf⟩
  have HF3 := Lib.hid (HF2.out.trans hf)
  clear hf HR
  go_wp2_with (first
    | (go_at_call 20; refine (awake02 _ (HT.out.keep HF3.out)).mono ?_; rintro e w4 ⟨rfl, hf⟩; have HF4 := Lib.hid (HF3.out.trans hf); clear hf))
  go_ret
  exact ⟨rfl, HF4.out⟩

set_option maxHeartbeats 2000000 in
set_option maxRecDepth 100000 in
theorem pairs_33 (a b : Nat) (w : World) (ha : a < 65536) (hb : b < 65536) (halo : 57344 ≤ a) (hblo : 57344 ≤ b) (hT : LowTabs w) :
    Calls Tryd.prog 9 #[.int .u16 a, .int .u16 b] w fun e w' => e = .returned (.bool true) ∧ Fr w w' := by
  have H := pair_4 ha hb (by omega) (by omega)
  rw [← pair_data] at H
  have HR := Lib.hid H
  have HT := Lib.hid hT
  clear H hT
  have ag55296 : decide ((55296 : Int) ≤ (a : Int)) = true := decide_eq_true (by omega)
  have ag56320 : decide ((56320 : Int) ≤ (a : Int)) = true := decide_eq_true (by omega)
  have al56319 : decide ((a : Int) ≤ 56319) = false := decide_eq_false (by omega)
  have al57343 : decide ((a : Int) ≤ 57343) = false := decide_eq_false (by omega)
  have bg55296 : decide ((55296 : Int) ≤ (b : Int)) = true := decide_eq_true (by omega)
  have bg56320 : decide ((56320 : Int) ≤ (b : Int)) = true := decide_eq_true (by omega)
  have bl56319 : decide ((b : Int) ≤ 56319) = false := decide_eq_false (by omega)
  have bl57343 : decide ((b : Int) ≤ 57343) = false := decide_eq_false (by omega)
  obtain ⟨SA, hSA⟩ : ∃ SA, ByteArray.mk (Utf.bytes a).toArray = SA := ⟨_, rfl⟩
  obtain ⟨SB, hSB⟩ : ∃ SB, ByteArray.mk (Utf.bytes b).toArray = SB := ⟨_, rfl⟩
  have HSA := Lib.hid hSA
  have HSB := Lib.hid hSB
  have eT : Utf.bytes a ++ Utf.bytes b = (SA ++ SB).data.toList := by rw [data_app, ← hSA, ← hSB]
  rw [eT] at HR
  have hsa : SA.size ≤ 4 := by rw [← hSA]; have := Utf.bytes_le a; simpa [ByteArray.size] using this
  have hsb : SB.size ≤ 4 := by rw [← hSB]; have := Utf.bytes_le b; simpa [ByteArray.size] using this
  have hno : ¬ (9223372036854775807 < SA.size + SB.size) := by omega
  clear eT hSA hSB
  have wa : IntKind.i64.wrap (a : Int) = (a : Int) := by rw [IntKind.wrap_i64]; omega
  have wb : IntKind.i64.wrap (b : Int) = (b : Int) := by rw [IntKind.wrap_i64]; omega
  have HPa := Lib.hid (Utf.isPt_iff.2 (⟨by omega, by omega⟩ : a ≤ 1114111 ∧ (a < 55296 ∨ 57343 < a)))
  have HPb := Lib.hid (Utf.isPt_iff.2 (⟨by omega, by omega⟩ : b ≤ 1114111 ∧ (b < 55296 ∨ 57343 < b)))
  go_enter Tryd.func9, Tryd.ntmps9
  go_wp2_with (first
    | (go_at_call 24; have hm := HF1.out; refine (lunit_is b _ hb).mono ?_; rintro e w2 ⟨rfl, hf⟩; have HF2 := Lib.hid (hm.trans hf); clear hf hm)
    | (go_at_call 24; refine (lunit_is a _ ha).mono ?_; rintro e w1 ⟨rfl, hf⟩; have HF1 := Lib.hid hf; clear hf))
  have hz := Lib.hid (pair_size a b)
  generalize h1 : (ByteArray.mk #[34] ++ ⟨(unitL a).toArray⟩) = P1 at hz HR ⊢
  generalize h2 : (P1 ++ ⟨(unitL b).toArray⟩) = P2 at hz HR ⊢
  generalize h3 : (P2 ++ ⟨#[34]⟩) = P3 at hz HR ⊢
  clear h1 h2 h3
  refine (cread_str P3 0 (SA ++ SB) 14 0 _ hz.out (by omega) (by omega) (HT.out.keep HF2.out) HR.out).mono ?_
  rintro e w3 ⟨rfl, hf⟩
  have HF3 := Lib.hid (HF2.out.trans hf)
  clear hf HR
  go_wp2_with (first
    | (go_at_call 20; refine (awake02 _ (HT.out.keep HF3.out)).mono ?_; rintro e w4 ⟨rfl, hf⟩; have HF4 := Lib.hid (HF3.out.trans hf); clear hf))
  refine wp_region_any (by kernel_rfl) ?_
  try (change wpAny _ _ _ _ _ _ _ (World.drew _))
  refine wpAny_take (i := 0) (v := ?_) rfl (by kernel_rfl) (by kernel_rfl) (by kernel_rfl) (fun _ _ _ h => h) (Or.inl ⟨by rfl, ?_⟩) ?_
  rotate_left
  · (intro w'; go_simp; try with_reducible rfl)
  try simp only [Act.put, List.getElem_toArray, List.getElem_cons_succ, List.getElem_cons_zero, List.setIfInBounds_toArray, List.set_cons_zero, List.set_cons_succ]
  refine wpAny_take (i := 1) (v := ?_) rfl (by kernel_rfl) (by kernel_rfl) (by kernel_rfl) (fun _ _ _ h => h) (Or.inl ⟨by rfl, ?_⟩) ?_
  rotate_left
  · (intro w'; go_simp; try with_reducible rfl)
  try simp only [Act.put, List.getElem_toArray, List.getElem_cons_succ, List.getElem_cons_zero, List.setIfInBounds_toArray, List.set_cons_zero, List.set_cons_succ]
  refine wpAny_take (i := 2) (v := ?_) rfl (by kernel_rfl) (by kernel_rfl) (by kernel_rfl) (fun _ _ _ h => h) (Or.inl ⟨by rfl, ?_⟩) ?_
  rotate_left
  · (intro w'; go_simp; try with_reducible rfl)
  try simp only [Act.put, List.getElem_toArray, List.getElem_cons_succ, List.getElem_cons_zero, List.setIfInBounds_toArray, List.set_cons_zero, List.set_cons_succ]
  refine wpAny_take (i := 3) (v := ?_) rfl (by kernel_rfl) (by kernel_rfl) (by kernel_rfl) (fun _ _ _ h => h) (Or.inl ⟨by rfl, ?_⟩) ?_
  rotate_left
  · (intro w'; go_simp; try with_reducible rfl)
  try simp only [Act.put, List.getElem_toArray, List.getElem_cons_succ, List.getElem_cons_zero, List.setIfInBounds_toArray, List.set_cons_zero, List.set_cons_succ]
  refine wpAny_take (i := 4) (v := ?_) rfl (by kernel_rfl) (by kernel_rfl) (by kernel_rfl) (fun _ _ _ h => h) (Or.inl ⟨by rfl, ?_⟩) ?_
  rotate_left
  · (intro w'; go_simp; try with_reducible rfl)
  try simp only [Act.put, List.getElem_toArray, List.getElem_cons_succ, List.getElem_cons_zero, List.setIfInBounds_toArray, List.set_cons_zero, List.set_cons_succ]
  refine wpAny_take (i := 5) (v := ?_) rfl (by kernel_rfl) (by kernel_rfl) (by kernel_rfl) (fun _ _ _ h => h) (Or.inl ⟨by rfl, ?_⟩) ?_
  rotate_left
  · (intro w'; go_simp; try with_reducible rfl)
  try simp only [Act.put, List.getElem_toArray, List.getElem_cons_succ, List.getElem_cons_zero, List.setIfInBounds_toArray, List.set_cons_zero, List.set_cons_succ]
  refine wpAny_take (i := 8) (v := ?_) rfl (by kernel_rfl) (by kernel_rfl) (by kernel_rfl) (fun _ _ _ h => h) (Or.inl ⟨by rfl, ?_⟩) ?_
  rotate_left
  · (intro w'; go_simp; try with_reducible rfl)
  try simp only [Act.put, List.getElem_toArray, List.getElem_cons_succ, List.getElem_cons_zero, List.setIfInBounds_toArray, List.set_cons_zero, List.set_cons_succ]
  refine wpAny_take (i := 9) (v := ?_) rfl (by kernel_rfl) (by kernel_rfl) (by kernel_rfl) (fun _ _ _ h => h) (Or.inl ⟨by rfl, ?_⟩) ?_
  rotate_left
  · (intro w'; go_simp; try with_reducible rfl)
  try simp only [Act.put, List.getElem_toArray, List.getElem_cons_succ, List.getElem_cons_zero, List.setIfInBounds_toArray, List.set_cons_zero, List.set_cons_succ]
  refine wpAny_ready (rs := [6]) (by kernel_rfl) (by simp) ?_
  refine AllReady.cons rfl (fun K hK => ?_) AllReady.nil
  go_simp
  go_wp2_with (go_at_call 25; refine (rbytes_is a _ HPa.out).mono ?_; rintro e w5 ⟨va, rfl, hb5, hf⟩; have HF5 := Lib.hid ((Fr.drew HF4.out).trans hf); have hcv := hb5.conv; rw [HSA.out] at hcv; have HB5 := Lib.hid hb5; clear hf hb5)
  try (refine hK _ _ ?_; clear hK K)
  try simp only [Act.put, List.getElem_toArray, List.getElem_cons_succ, List.getElem_cons_zero, List.setIfInBounds_toArray, List.set_cons_zero, List.set_cons_succ]
  refine wpAny_ready (rs := [7, 10]) (by kernel_rfl) (by simp) ?_
  refine AllReady.cons rfl (fun K hK => ?_) (AllReady.cons rfl (fun K hK => ?_) AllReady.nil)
  · go_simp
    refine hK _ _ ?_
    clear hK K
    try simp only [Act.put, List.getElem_toArray, List.getElem_cons_succ, List.getElem_cons_zero, List.setIfInBounds_toArray, List.set_cons_zero, List.set_cons_succ]
    refine wpAny_ready (rs := [10]) (by kernel_rfl) (by simp) ?_
    refine AllReady.cons rfl (fun K hK => ?_) AllReady.nil
    go_simp
    go_wp2_with (go_at_call 25; refine (rbytes_is b _ HPb.out).mono ?_; rintro e w6 ⟨vb, rfl, hb6, hf⟩; have HF6 := Lib.hid (HF5.out.trans hf); have hcv2 := hb6.conv; have hcv1 := (HB5.out.keep hf).conv; rw [HSB.out] at hcv2; rw [HSA.out] at hcv1; clear hf hb6)
    try (refine hK _ _ ?_; clear hK K)
    try simp only [Act.put, List.getElem_toArray, List.getElem_cons_succ, List.getElem_cons_zero, List.setIfInBounds_toArray, List.set_cons_zero, List.set_cons_succ]
    refine wpAny_ready (rs := [11]) (by kernel_rfl) (by simp) ?_
    refine AllReady.cons rfl (fun K hK => ?_) AllReady.nil
    go_simp
    refine hK _ _ ?_
    clear hK K
    try simp only [Act.put, List.getElem_toArray, List.getElem_cons_succ, List.getElem_cons_zero, List.setIfInBounds_toArray, List.set_cons_zero, List.set_cons_succ]
    refine wpAny_ready (rs := [12]) (by kernel_rfl) (by simp) ?_
    refine AllReady.cons rfl (fun K hK => ?_) AllReady.nil
    go_simp
    try simp only [if_neg hno]
    try go_simp
    refine hK _ _ ?_
    clear hK K
    try simp only [Act.put, List.getElem_toArray, List.getElem_cons_succ, List.getElem_cons_zero, List.setIfInBounds_toArray, List.set_cons_zero, List.set_cons_succ]
    refine wpAny_take (i := 13) (v := ?_) rfl (by kernel_rfl) (by kernel_rfl) (by kernel_rfl) (fun _ _ _ h => h) (Or.inl ⟨by rfl, ?_⟩) ?_
    rotate_left
    · (intro w'; go_simp; try with_reducible rfl)
    try simp only [Act.put, List.getElem_toArray, List.getElem_cons_succ, List.getElem_cons_zero, List.setIfInBounds_toArray, List.set_cons_zero, List.set_cons_succ]
    refine wpAny_take (i := 14) (v := ?_) rfl (by kernel_rfl) (by kernel_rfl) (by kernel_rfl) (fun _ _ _ h => h) (Or.inl ⟨by rfl, ?_⟩) ?_
    rotate_left
    · (intro w'; go_simp; try with_reducible rfl)
    try simp only [Act.put, List.getElem_toArray, List.getElem_cons_succ, List.getElem_cons_zero, List.setIfInBounds_toArray, List.set_cons_zero, List.set_cons_succ]
    refine wpAny_take (i := 15) (v := ?_) rfl (by kernel_rfl) (by kernel_rfl) (by kernel_rfl) (fun _ _ _ h => h) (Or.inl ⟨by rfl, ?_⟩) ?_
    rotate_left
    · (intro w'; go_simp; try with_reducible rfl)
    try simp only [Act.put, List.getElem_toArray, List.getElem_cons_succ, List.getElem_cons_zero, List.setIfInBounds_toArray, List.set_cons_zero, List.set_cons_succ]
    refine wpAny_done (by kernel_rfl) ?_ _
    (try go_wp2_with fail)
    go_ret
    exact ⟨rfl, HF6.out⟩
  · go_simp
    go_wp2_with (go_at_call 25; refine (rbytes_is b _ HPb.out).mono ?_; rintro e w6 ⟨vb, rfl, hb6, hf⟩; have HF6 := Lib.hid (HF5.out.trans hf); have hcv2 := hb6.conv; have hcv1 := (HB5.out.keep hf).conv; rw [HSB.out] at hcv2; rw [HSA.out] at hcv1; clear hf hb6)
    try (refine hK _ _ ?_; clear hK K)
    try simp only [Act.put, List.getElem_toArray, List.getElem_cons_succ, List.getElem_cons_zero, List.setIfInBounds_toArray, List.set_cons_zero, List.set_cons_succ]
    refine wpAny_ready (rs := [7, 11]) (by kernel_rfl) (by simp) ?_
    refine AllReady.cons rfl (fun K hK => ?_) (AllReady.cons rfl (fun K hK => ?_) AllReady.nil)
    · go_simp
      refine hK _ _ ?_
      clear hK K
      try simp only [Act.put, List.getElem_toArray, List.getElem_cons_succ, List.getElem_cons_zero, List.setIfInBounds_toArray, List.set_cons_zero, List.set_cons_succ]
      refine wpAny_ready (rs := [11]) (by kernel_rfl) (by simp) ?_
      refine AllReady.cons rfl (fun K hK => ?_) AllReady.nil
      go_simp
      refine hK _ _ ?_
      clear hK K
      try simp only [Act.put, List.getElem_toArray, List.getElem_cons_succ, List.getElem_cons_zero, List.setIfInBounds_toArray, List.set_cons_zero, List.set_cons_succ]
      refine wpAny_ready (rs := [12]) (by kernel_rfl) (by simp) ?_
      refine AllReady.cons rfl (fun K hK => ?_) AllReady.nil
      go_simp
      try simp only [if_neg hno]
      try go_simp
      refine hK _ _ ?_
      clear hK K
      try simp only [Act.put, List.getElem_toArray, List.getElem_cons_succ, List.getElem_cons_zero, List.setIfInBounds_toArray, List.set_cons_zero, List.set_cons_succ]
      refine wpAny_take (i := 13) (v := ?_) rfl (by kernel_rfl) (by kernel_rfl) (by kernel_rfl) (fun _ _ _ h => h) (Or.inl ⟨by rfl, ?_⟩) ?_
      rotate_left
      · (intro w'; go_simp; try with_reducible rfl)
      try simp only [Act.put, List.getElem_toArray, List.getElem_cons_succ, List.getElem_cons_zero, List.setIfInBounds_toArray, List.set_cons_zero, List.set_cons_succ]
      refine wpAny_take (i := 14) (v := ?_) rfl (by kernel_rfl) (by kernel_rfl) (by kernel_rfl) (fun _ _ _ h => h) (Or.inl ⟨by rfl, ?_⟩) ?_
      rotate_left
      · (intro w'; go_simp; try with_reducible rfl)
      try simp only [Act.put, List.getElem_toArray, List.getElem_cons_succ, List.getElem_cons_zero, List.setIfInBounds_toArray, List.set_cons_zero, List.set_cons_succ]
      refine wpAny_take (i := 15) (v := ?_) rfl (by kernel_rfl) (by kernel_rfl) (by kernel_rfl) (fun _ _ _ h => h) (Or.inl ⟨by rfl, ?_⟩) ?_
      rotate_left
      · (intro w'; go_simp; try with_reducible rfl)
      try simp only [Act.put, List.getElem_toArray, List.getElem_cons_succ, List.getElem_cons_zero, List.setIfInBounds_toArray, List.set_cons_zero, List.set_cons_succ]
      refine wpAny_done (by kernel_rfl) ?_ _
      (try go_wp2_with fail)
      go_ret
      exact ⟨rfl, HF6.out⟩
    · go_simp
      refine hK _ _ ?_
      clear hK K
      try simp only [Act.put, List.getElem_toArray, List.getElem_cons_succ, List.getElem_cons_zero, List.setIfInBounds_toArray, List.set_cons_zero, List.set_cons_succ]
      refine wpAny_ready (rs := [7]) (by kernel_rfl) (by simp) ?_
      refine AllReady.cons rfl (fun K hK => ?_) AllReady.nil
      go_simp
      refine hK _ _ ?_
      clear hK K
      try simp only [Act.put, List.getElem_toArray, List.getElem_cons_succ, List.getElem_cons_zero, List.setIfInBounds_toArray, List.set_cons_zero, List.set_cons_succ]
      refine wpAny_ready (rs := [12]) (by kernel_rfl) (by simp) ?_
      refine AllReady.cons rfl (fun K hK => ?_) AllReady.nil
      go_simp
      try simp only [if_neg hno]
      try go_simp
      refine hK _ _ ?_
      clear hK K
      try simp only [Act.put, List.getElem_toArray, List.getElem_cons_succ, List.getElem_cons_zero, List.setIfInBounds_toArray, List.set_cons_zero, List.set_cons_succ]
      refine wpAny_take (i := 13) (v := ?_) rfl (by kernel_rfl) (by kernel_rfl) (by kernel_rfl) (fun _ _ _ h => h) (Or.inl ⟨by rfl, ?_⟩) ?_
      rotate_left
      · (intro w'; go_simp; try with_reducible rfl)
      try simp only [Act.put, List.getElem_toArray, List.getElem_cons_succ, List.getElem_cons_zero, List.setIfInBounds_toArray, List.set_cons_zero, List.set_cons_succ]
      refine wpAny_take (i := 14) (v := ?_) rfl (by kernel_rfl) (by kernel_rfl) (by kernel_rfl) (fun _ _ _ h => h) (Or.inl ⟨by rfl, ?_⟩) ?_
      rotate_left
      · (intro w'; go_simp; try with_reducible rfl)
      try simp only [Act.put, List.getElem_toArray, List.getElem_cons_succ, List.getElem_cons_zero, List.setIfInBounds_toArray, List.set_cons_zero, List.set_cons_succ]
      refine wpAny_take (i := 15) (v := ?_) rfl (by kernel_rfl) (by kernel_rfl) (by kernel_rfl) (fun _ _ _ h => h) (Or.inl ⟨by rfl, ?_⟩) ?_
      rotate_left
      · (intro w'; go_simp; try with_reducible rfl)
      try simp only [Act.put, List.getElem_toArray, List.getElem_cons_succ, List.getElem_cons_zero, List.setIfInBounds_toArray, List.set_cons_zero, List.set_cons_succ]
      refine wpAny_done (by kernel_rfl) ?_ _
      (try go_wp2_with fail)
      go_ret
      exact ⟨rfl, HF6.out⟩

/-- CharsPairs. -/
theorem pairs_law (a b : Int) (w : World) (ha : 0 ≤ a) (ha' : a ≤ 65535) (hb : 0 ≤ b) (hb' : b ≤ 65535) (hT : LowTabs w) :
    Calls Tryd.prog 9 #[.int .u16 a, .int .u16 b] w fun e w' => e = .returned (.bool true) ∧ Fr w w' := by
  obtain ⟨a, rfl⟩ : ∃ k : Nat, a = k := ⟨a.toNat, by omega⟩
  obtain ⟨b, rfl⟩ : ∃ k : Nat, b = k := ⟨b.toNat, by omega⟩
  have h1 : a < 65536 := by omega
  have h2 : b < 65536 := by omega
  have ca : a ≤ 55295 ∨ (55296 ≤ a ∧ a ≤ 56319) ∨ (56320 ≤ a ∧ a ≤ 57343) ∨ 57344 ≤ a := by omega
  have cb : b ≤ 55295 ∨ (55296 ≤ b ∧ b ≤ 56319) ∨ (56320 ≤ b ∧ b ≤ 57343) ∨ 57344 ≤ b := by omega
  clear ha ha' hb hb'
  rcases ca with x | ⟨x, x'⟩ | ⟨x, x'⟩ | x <;> rcases cb with y | ⟨y, y'⟩ | ⟨y, y'⟩ | y
  · exact pairs_00 a b w h1 h2 x y hT
  · exact pairs_01 a b w h1 h2 x y y' hT
  · exact pairs_02 a b w h1 h2 x y y' hT
  · exact pairs_03 a b w h1 h2 x y hT
  · exact pairs_10 a b w h1 h2 x x' y hT
  · exact pairs_11 a b w h1 h2 x x' y y' hT
  · exact pairs_12 a b w h1 h2 x x' y y' hT
  · exact pairs_13 a b w h1 h2 x x' y hT
  · exact pairs_20 a b w h1 h2 x x' y hT
  · exact pairs_21 a b w h1 h2 x x' y y' hT
  · exact pairs_22 a b w h1 h2 x x' y y' hT
  · exact pairs_23 a b w h1 h2 x x' y hT
  · exact pairs_30 a b w h1 h2 x y hT
  · exact pairs_31 a b w h1 h2 x y y' hT
  · exact pairs_32 a b w h1 h2 x y y' hT
  · exact pairs_33 a b w h1 h2 x y hT

end Go.Proofs.YtchiapalodgphaaDoor
