/- The law EmitBack. -/
import Derived.Test.YtgncdjcbphobmaaDoorReadM
import Derived.Test.YtgncdjcbphobmaaDoorVb
import Derived.Test.YtgncdjcbphobmaaDoorPb
namespace Go.Proofs.YtgncdjcbphobmaaDoor
set_option linter.unusedVariables false
set_option linter.unusedSimpArgs false
open Go.RowKit


set_option maxHeartbeats 4000000 in
set_option maxRecDepth 100000 in
theorem back_nb (u : JV) (B : Option Addr) (d : Nat) (B' : Option Addr) (d' : Nat) (s : ByteArray) (w : World) (hv : InV w (Lo w.heap.size) u (vA u B d B' d')) (hs : s.size ≤ 9223372036854775807) (hT : LowTabs w) (c q : Nat) (hc : JV.chk u 1 0 = (c, q)) (h0 : c ≠ 0) (a2 c2 : Nat) (h2 : Rd.rdS s.data.toList = .bad a2 c2) :
    Calls Tryd.prog 11 #[vA u B d B' d', .string s] w fun e w' => e = .returned (.bool true) ∧ Fr w w' := by
  have HT := Lib.hid hT
  have HV := Lib.hid hv
  have HS := Lib.hid hs
  have HC := Lib.hid hc
  have H2 := Lib.hid h2
  obtain ⟨T0, hT0⟩ : ∃ T0, T0 = [] := ⟨_, rfl⟩
  obtain ⟨S0, hS0⟩ : ∃ S0 : ByteArray, S0 = ⟨T0.toArray⟩ := ⟨_, rfl⟩
  have hz0 : S0.size = T0.length := by rw [hS0]; exact List.size_toArray
  have HT0 : Hid (T0 = if c = 0 then JV.wrt u else []) := by show _ = _; rw [if_neg h0]; exact hT0
  have HS0 := Lib.hid hS0
  have HL0 : Hid (T0.length ≤ 140737488355328) := by show _ ≤ _; rw [hT0]; simp
  have i0 : (S0.size : Int) ≤ 140737488355328 := by have := HL0.out; omega
  have e0 : (((c : Nat) : Int) == 0) = false := by rw [beq_eq_false_iff_ne]; omega
  clear h0
  have e2 : (((c2 : Nat) : Int) != 0) = true := by have := (Rd.rdS_place h2).2; rw [bne_iff_ne]; omega
  clear hv hs hT hc h2 hT0 hS0 hz0
  show Calls Tryd.prog _ #[.agg #[.int .i64 u.kd, .int .i64 u.nm, .string ⟨u.tx.toArray⟩, .slice B u.ls.length d, .slice B' u.ms.length d'], .string s] _ _
  go_enter Tryd.func11, Tryd.ntmps11
  go_wp2_with (first
    | (go_at_call 19; have hm := HF2.out; refine (rvalue_b s a2 c2 _ HS.out (HT.out.keep hm) H2.out).mono ?_; rintro e w5 ⟨rfl, hf⟩; have HF5 := Lib.hid (hm.trans hf); clear hf hm)
    | (go_at_call 12; have hm := HF1.out; refine (awake06 _).mono ?_; rintro e w2 ⟨rfl, hf⟩; have hx := HX1.out.keep hf; have HX2 := Lib.hid hx; obtain ⟨_, y0, y1, y2, y3, y4⟩ := hx; have HF2 := Lib.hid (hm.trans hf); clear hf hm)
    | (go_at_call 15; refine (text_bs u B d B' d' _ c q T0 HS0.out ((HV.out.keep (Nat.le_refl _) ((Fr.refl w).alloc _)).lo (by simp)) HC.out HT0.out HL0.out).mono ?_; rintro e w1 ⟨rfl, hf⟩; have hx := (VB.made w u B d B' d').keep hf; have HX1 := Lib.hid hx; obtain ⟨_, x0, x1, x2, x3, x4⟩ := hx; have HF1 := Lib.hid (((Fr.refl w).alloc _).trans hf); clear hf))
  go_ret
  exact ⟨rfl, HF5.out.alloc _⟩

set_option maxHeartbeats 4000000 in
set_option maxRecDepth 100000 in
theorem back_nL (u : JV) (B : Option Addr) (d : Nat) (B' : Option Addr) (d' : Nat) (s : ByteArray) (w : World) (hv : InV w (Lo w.heap.size) u (vA u B d B' d')) (hs : s.size ≤ 9223372036854775807) (hT : LowTabs w) (c q : Nat) (hc : JV.chk u 1 0 = (c, q)) (h0 : c ≠ 0) (x : JV) (l2 : List Scn.Tok) (q2 : Nat) (h2 : Rd.rdS s.data.toList = .ok x l2 q2) (hy : 65536 < (JV.wrt x).length) (hl1 : (JV.wrt x).length ≤ 140737488355328) :
    Calls Tryd.prog 11 #[vA u B d B' d', .string s] w fun e w' => e = .returned (.bool true) ∧ Fr w w' := by
  have HT := Lib.hid hT
  have HV := Lib.hid hv
  have HS := Lib.hid hs
  have HC := Lib.hid hc
  have H2 := Lib.hid h2
  obtain ⟨T0, hT0⟩ : ∃ T0, T0 = [] := ⟨_, rfl⟩
  obtain ⟨S0, hS0⟩ : ∃ S0 : ByteArray, S0 = ⟨T0.toArray⟩ := ⟨_, rfl⟩
  have hz0 : S0.size = T0.length := by rw [hS0]; exact List.size_toArray
  have HT0 : Hid (T0 = if c = 0 then JV.wrt u else []) := by show _ = _; rw [if_neg h0]; exact hT0
  have HS0 := Lib.hid hS0
  have HL0 : Hid (T0.length ≤ 140737488355328) := by show _ ≤ _; rw [hT0]; simp
  have i0 : (S0.size : Int) ≤ 140737488355328 := by have := HL0.out; omega
  have e0 : (((c : Nat) : Int) == 0) = false := by rw [beq_eq_false_iff_ne]; omega
  clear h0
  obtain ⟨hok, hch, _, _, _, _, _⟩ := Rd.rdS_right h2
  have HCX := Lib.hid hch
  obtain ⟨T1, hT1⟩ : ∃ T1, T1 = JV.wrt x := ⟨_, rfl⟩
  obtain ⟨S1, hS1⟩ : ∃ S1 : ByteArray, S1 = ⟨T1.toArray⟩ := ⟨_, rfl⟩
  have hz1 : S1.size = T1.length := by rw [hS1]; exact List.size_toArray
  have HT1 : Hid (T1 = if 0 = 0 then JV.wrt x else []) := by show _ = _; rw [if_pos rfl]; exact hT1
  have HS1 := Lib.hid hS1
  have HL1 : Hid (T1.length ≤ 140737488355328) := by show _ ≤ _; rw [hT1]; exact hl1
  have i1 : (S1.size : Int) ≤ 140737488355328 := by have := HL1.out; omega
  have e3 : decide ((65536 : Int) < (S1.size : Int)) = true := decide_eq_true (by rw [hz1, hT1]; omega)
  clear hok hch hT1 hS1 hz1 hy hl1
  clear hv hs hT hc h2 hT0 hS0 hz0
  show Calls Tryd.prog _ #[.agg #[.int .i64 u.kd, .int .i64 u.nm, .string ⟨u.tx.toArray⟩, .slice B u.ls.length d, .slice B' u.ms.length d'], .string s] _ _
  go_enter Tryd.func11, Tryd.ntmps11
  go_wp2_with (first
    | (go_at_call 15; have hm := HF5.out; refine (text_bs x D m D' m' _ 0 (Rd.nv x) T1 HS1.out ((HV5.out.keep (Nat.le_refl _) ((Fr.refl w5).alloc _)).lo (by simp)) HCX.out HT1.out HL1.out).mono ?_; rintro e w6 ⟨rfl, hf⟩; have hx := (VB.made w5 x D m D' m').keep hf; have HX6 := Lib.hid hx; have HF6 := Lib.hid ((hm.alloc (.cells #[.int .i64 x.kd, .int .i64 x.nm, .string ⟨x.tx.toArray⟩, .slice D x.ls.length m, .slice D' x.ms.length m'] 25)).trans hf); have HG6 := Lib.hid (((Fr.refl w5).alloc (.cells #[.int .i64 x.kd, .int .i64 x.nm, .string ⟨x.tx.toArray⟩, .slice D x.ls.length m, .slice D' x.ms.length m'] 25)).trans hf); clear hf hm hx)
    | (go_at_call 19; have hm := HF2.out; refine (rvalue_v s x l2 q2 x.kd x.nm x.tx x.ls.length x.ms.length ⟨rfl, rfl, rfl, rfl, rfl⟩ _ HS.out (HT.out.keep hm) H2.out).mono ?_; rintro e w5 ⟨D, m, D', m', rfl, hw, hf⟩; have HV5 := Lib.hid hw.low; have HF5 := Lib.hid (hm.trans hf); clear hf hm hw)
    | (go_at_call 12; have hm := HF1.out; refine (awake06 _).mono ?_; rintro e w2 ⟨rfl, hf⟩; have hx := HX1.out.keep hf; have HX2 := Lib.hid hx; obtain ⟨_, y0, y1, y2, y3, y4⟩ := hx; have HF2 := Lib.hid (hm.trans hf); clear hf hm)
    | (go_at_call 15; refine (text_bs u B d B' d' _ c q T0 HS0.out ((HV.out.keep (Nat.le_refl _) ((Fr.refl w).alloc _)).lo (by simp)) HC.out HT0.out HL0.out).mono ?_; rintro e w1 ⟨rfl, hf⟩; have hx := (VB.made w u B d B' d').keep hf; have HX1 := Lib.hid hx; obtain ⟨_, x0, x1, x2, x3, x4⟩ := hx; have HF1 := Lib.hid (((Fr.refl w).alloc _).trans hf); clear hf))
  go_ret
  exact ⟨rfl, HF6.out⟩

set_option maxHeartbeats 4000000 in
set_option maxRecDepth 100000 in
theorem back_nR (u : JV) (B : Option Addr) (d : Nat) (B' : Option Addr) (d' : Nat) (s : ByteArray) (w : World) (hv : InV w (Lo w.heap.size) u (vA u B d B' d')) (hs : s.size ≤ 9223372036854775807) (hT : LowTabs w) (c q : Nat) (hc : JV.chk u 1 0 = (c, q)) (h0 : c ≠ 0) (x : JV) (l2 : List Scn.Tok) (q2 : Nat) (h2 : Rd.rdS s.data.toList = .ok x l2 q2) (hy : (JV.wrt x).length ≤ 65536) (hl1 : (JV.wrt x).length ≤ 140737488355328) :
    Calls Tryd.prog 11 #[vA u B d B' d', .string s] w fun e w' => e = .returned (.bool true) ∧ Fr w w' := by
  have HT := Lib.hid hT
  have HV := Lib.hid hv
  have HS := Lib.hid hs
  have HC := Lib.hid hc
  have H2 := Lib.hid h2
  obtain ⟨T0, hT0⟩ : ∃ T0, T0 = [] := ⟨_, rfl⟩
  obtain ⟨S0, hS0⟩ : ∃ S0 : ByteArray, S0 = ⟨T0.toArray⟩ := ⟨_, rfl⟩
  have hz0 : S0.size = T0.length := by rw [hS0]; exact List.size_toArray
  have HT0 : Hid (T0 = if c = 0 then JV.wrt u else []) := by show _ = _; rw [if_neg h0]; exact hT0
  have HS0 := Lib.hid hS0
  have HL0 : Hid (T0.length ≤ 140737488355328) := by show _ ≤ _; rw [hT0]; simp
  have i0 : (S0.size : Int) ≤ 140737488355328 := by have := HL0.out; omega
  have e0 : (((c : Nat) : Int) == 0) = false := by rw [beq_eq_false_iff_ne]; omega
  clear h0
  obtain ⟨hok, hch, _, _, _, _, _⟩ := Rd.rdS_right h2
  have HCX := Lib.hid hch
  obtain ⟨T1, hT1⟩ : ∃ T1, T1 = JV.wrt x := ⟨_, rfl⟩
  obtain ⟨S1, hS1⟩ : ∃ S1 : ByteArray, S1 = ⟨T1.toArray⟩ := ⟨_, rfl⟩
  have hz1 : S1.size = T1.length := by rw [hS1]; exact List.size_toArray
  have HT1 : Hid (T1 = if 0 = 0 then JV.wrt x else []) := by show _ = _; rw [if_pos rfl]; exact hT1
  have HS1 := Lib.hid hS1
  have HL1 : Hid (T1.length ≤ 140737488355328) := by show _ ≤ _; rw [hT1]; exact hl1
  have i1 : (S1.size : Int) ≤ 140737488355328 := by have := HL1.out; omega
  have e3 : decide ((65536 : Int) < (S1.size : Int)) = false := decide_eq_false (by rw [hz1, hT1]; omega)
  have HR1 : Hid (Rd.rdS S1.data.toList = .ok x [] (Rd.nv x)) := by
    show _ = _
    have := Rd.rdS_back (v := x) (by rw [hch]) hy
    rw [hch] at this
    rw [hS1, hT1]; exact this
  have HZ1 : Hid (S1.size ≤ 9223372036854775807) := by show _ ≤ _; rw [hz1]; have := HL1.out; omega
  clear hok hch hT1 hS1 hz1 hy hl1
  clear hv hs hT hc h2 hT0 hS0 hz0
  show Calls Tryd.prog _ #[.agg #[.int .i64 u.kd, .int .i64 u.nm, .string ⟨u.tx.toArray⟩, .slice B u.ls.length d, .slice B' u.ms.length d'], .string s] _ _
  go_enter Tryd.func11, Tryd.ntmps11
  go_wp2_with (first
    | (go_at_call 22; have hm := HF8.out; refine ((same_is x x _ _).call true (by simp) rfl rfl HW8.out HV8.out).mono ?_; rintro e w9 ⟨rfl, hf⟩; have HF9 := Lib.hid (hm.trans hf); clear hf hm)
    | (go_at_call 15; have hm := HF7.out; refine (text_bs x E n E' n' _ 0 (Rd.nv x) T1 HS1.out ((HV7.out.keep (Nat.le_refl _) ((Fr.refl w7).alloc _)).lo (by simp)) HCX.out HT1.out HL1.out).mono ?_; rintro e w8 ⟨rfl, hf⟩; have hg := ((Fr.refl w7).alloc (.cells #[.int .i64 x.kd, .int .i64 x.nm, .string ⟨x.tx.toArray⟩, .slice E x.ls.length n, .slice E' x.ms.length n'] 25)).trans hf; have hx := HX7.out.keep hg; obtain ⟨_, a0, a1, a2', a3, a4⟩ := hx; have hy := (VB.made w7 x E n E' n').keep hf; obtain ⟨_, b0, b1, b2, b3, b4⟩ := hy; have HV8 := Lib.hid ((HV7.out.keep (Nat.le_refl _) hg).lo hg.size); have HW8 := Lib.hid ((HV5.out.keep (Nat.le_refl _) (HG7.out.trans hg)).lo (HG7.out.trans hg).size); have HF8 := Lib.hid (hm.trans hg); clear hf hm hg)
    | (go_at_call 19; have hm := HF6.out; refine (rvalue_v S1 x [] (Rd.nv x) x.kd x.nm x.tx x.ls.length x.ms.length ⟨rfl, rfl, rfl, rfl, rfl⟩ _ HZ1.out (HT.out.keep hm) HR1.out).mono ?_; rintro e w7 ⟨E, n, E', n', rfl, hw, hf⟩; have HV7 := Lib.hid hw.low; have HF7 := Lib.hid (hm.trans hf); have HG7 := Lib.hid (HG6.out.trans hf); have HX7 := Lib.hid (HX6.out.keep hf); clear hf hm hw)
    | (go_at_call 15; have hm := HF5.out; refine (text_bs x D m D' m' _ 0 (Rd.nv x) T1 HS1.out ((HV5.out.keep (Nat.le_refl _) ((Fr.refl w5).alloc _)).lo (by simp)) HCX.out HT1.out HL1.out).mono ?_; rintro e w6 ⟨rfl, hf⟩; have hx := (VB.made w5 x D m D' m').keep hf; have HX6 := Lib.hid hx; have HF6 := Lib.hid ((hm.alloc (.cells #[.int .i64 x.kd, .int .i64 x.nm, .string ⟨x.tx.toArray⟩, .slice D x.ls.length m, .slice D' x.ms.length m'] 25)).trans hf); have HG6 := Lib.hid (((Fr.refl w5).alloc (.cells #[.int .i64 x.kd, .int .i64 x.nm, .string ⟨x.tx.toArray⟩, .slice D x.ls.length m, .slice D' x.ms.length m'] 25)).trans hf); clear hf hm hx)
    | (go_at_call 19; have hm := HF2.out; refine (rvalue_v s x l2 q2 x.kd x.nm x.tx x.ls.length x.ms.length ⟨rfl, rfl, rfl, rfl, rfl⟩ _ HS.out (HT.out.keep hm) H2.out).mono ?_; rintro e w5 ⟨D, m, D', m', rfl, hw, hf⟩; have HV5 := Lib.hid hw.low; have HF5 := Lib.hid (hm.trans hf); clear hf hm hw)
    | (go_at_call 12; have hm := HF1.out; refine (awake06 _).mono ?_; rintro e w2 ⟨rfl, hf⟩; have hx := HX1.out.keep hf; have HX2 := Lib.hid hx; obtain ⟨_, y0, y1, y2, y3, y4⟩ := hx; have HF2 := Lib.hid (hm.trans hf); clear hf hm)
    | (go_at_call 15; refine (text_bs u B d B' d' _ c q T0 HS0.out ((HV.out.keep (Nat.le_refl _) ((Fr.refl w).alloc _)).lo (by simp)) HC.out HT0.out HL0.out).mono ?_; rintro e w1 ⟨rfl, hf⟩; have hx := (VB.made w u B d B' d').keep hf; have HX1 := Lib.hid hx; obtain ⟨_, x0, x1, x2, x3, x4⟩ := hx; have HF1 := Lib.hid (((Fr.refl w).alloc _).trans hf); clear hf))
  go_ret
  exact ⟨rfl, HF9.out⟩

set_option maxHeartbeats 4000000 in
set_option maxRecDepth 100000 in
theorem back_lb (u : JV) (B : Option Addr) (d : Nat) (B' : Option Addr) (d' : Nat) (s : ByteArray) (w : World) (hv : InV w (Lo w.heap.size) u (vA u B d B' d')) (hs : s.size ≤ 9223372036854775807) (hT : LowTabs w) (q : Nat) (hc : JV.chk u 1 0 = (0, q)) (hz : 65536 < (JV.wrt u).length) (hl : (JV.wrt u).length ≤ 140737488355328) (a2 c2 : Nat) (h2 : Rd.rdS s.data.toList = .bad a2 c2) :
    Calls Tryd.prog 11 #[vA u B d B' d', .string s] w fun e w' => e = .returned (.bool true) ∧ Fr w w' := by
  have HT := Lib.hid hT
  have HV := Lib.hid hv
  have HS := Lib.hid hs
  have HC := Lib.hid hc
  have H2 := Lib.hid h2
  obtain ⟨T0, hT0⟩ : ∃ T0, T0 = (JV.wrt u) := ⟨_, rfl⟩
  obtain ⟨S0, hS0⟩ : ∃ S0 : ByteArray, S0 = ⟨T0.toArray⟩ := ⟨_, rfl⟩
  have hz0 : S0.size = T0.length := by rw [hS0]; exact List.size_toArray
  have HT0 : Hid (T0 = if 0 = 0 then JV.wrt u else []) := by show _ = _; rw [if_pos rfl]; exact hT0
  have HS0 := Lib.hid hS0
  have HL0 : Hid (T0.length ≤ 140737488355328) := by show _ ≤ _; rw [hT0]; exact hl
  have i0 : (S0.size : Int) ≤ 140737488355328 := by have := HL0.out; omega
  have e0 : decide ((S0.size : Int) ≤ 65536) = false := decide_eq_false (by rw [hz0, hT0]; omega)
  clear hz
  have e2 : (((c2 : Nat) : Int) != 0) = true := by have := (Rd.rdS_place h2).2; rw [bne_iff_ne]; omega
  clear hv hs hT hc h2 hT0 hS0 hz0 hl
  show Calls Tryd.prog _ #[.agg #[.int .i64 u.kd, .int .i64 u.nm, .string ⟨u.tx.toArray⟩, .slice B u.ls.length d, .slice B' u.ms.length d'], .string s] _ _
  go_enter Tryd.func11, Tryd.ntmps11
  go_wp2_with (first
    | (go_at_call 19; have hm := HF2.out; refine (rvalue_b s a2 c2 _ HS.out (HT.out.keep hm) H2.out).mono ?_; rintro e w5 ⟨rfl, hf⟩; have HF5 := Lib.hid (hm.trans hf); clear hf hm)
    | (go_at_call 12; have hm := HF1.out; refine (awake06 _).mono ?_; rintro e w2 ⟨rfl, hf⟩; have hx := HX1.out.keep hf; have HX2 := Lib.hid hx; obtain ⟨_, y0, y1, y2, y3, y4⟩ := hx; have HF2 := Lib.hid (hm.trans hf); clear hf hm)
    | (go_at_call 15; refine (text_bs u B d B' d' _ 0 q T0 HS0.out ((HV.out.keep (Nat.le_refl _) ((Fr.refl w).alloc _)).lo (by simp)) HC.out HT0.out HL0.out).mono ?_; rintro e w1 ⟨rfl, hf⟩; have hx := (VB.made w u B d B' d').keep hf; have HX1 := Lib.hid hx; obtain ⟨_, x0, x1, x2, x3, x4⟩ := hx; have HF1 := Lib.hid (((Fr.refl w).alloc _).trans hf); clear hf))
  go_ret
  exact ⟨rfl, HF5.out.alloc _⟩

set_option maxHeartbeats 4000000 in
set_option maxRecDepth 100000 in
theorem back_lL (u : JV) (B : Option Addr) (d : Nat) (B' : Option Addr) (d' : Nat) (s : ByteArray) (w : World) (hv : InV w (Lo w.heap.size) u (vA u B d B' d')) (hs : s.size ≤ 9223372036854775807) (hT : LowTabs w) (q : Nat) (hc : JV.chk u 1 0 = (0, q)) (hz : 65536 < (JV.wrt u).length) (hl : (JV.wrt u).length ≤ 140737488355328) (x : JV) (l2 : List Scn.Tok) (q2 : Nat) (h2 : Rd.rdS s.data.toList = .ok x l2 q2) (hy : 65536 < (JV.wrt x).length) (hl1 : (JV.wrt x).length ≤ 140737488355328) :
    Calls Tryd.prog 11 #[vA u B d B' d', .string s] w fun e w' => e = .returned (.bool true) ∧ Fr w w' := by
  have HT := Lib.hid hT
  have HV := Lib.hid hv
  have HS := Lib.hid hs
  have HC := Lib.hid hc
  have H2 := Lib.hid h2
  obtain ⟨T0, hT0⟩ : ∃ T0, T0 = (JV.wrt u) := ⟨_, rfl⟩
  obtain ⟨S0, hS0⟩ : ∃ S0 : ByteArray, S0 = ⟨T0.toArray⟩ := ⟨_, rfl⟩
  have hz0 : S0.size = T0.length := by rw [hS0]; exact List.size_toArray
  have HT0 : Hid (T0 = if 0 = 0 then JV.wrt u else []) := by show _ = _; rw [if_pos rfl]; exact hT0
  have HS0 := Lib.hid hS0
  have HL0 : Hid (T0.length ≤ 140737488355328) := by show _ ≤ _; rw [hT0]; exact hl
  have i0 : (S0.size : Int) ≤ 140737488355328 := by have := HL0.out; omega
  have e0 : decide ((S0.size : Int) ≤ 65536) = false := decide_eq_false (by rw [hz0, hT0]; omega)
  clear hz
  obtain ⟨hok, hch, _, _, _, _, _⟩ := Rd.rdS_right h2
  have HCX := Lib.hid hch
  obtain ⟨T1, hT1⟩ : ∃ T1, T1 = JV.wrt x := ⟨_, rfl⟩
  obtain ⟨S1, hS1⟩ : ∃ S1 : ByteArray, S1 = ⟨T1.toArray⟩ := ⟨_, rfl⟩
  have hz1 : S1.size = T1.length := by rw [hS1]; exact List.size_toArray
  have HT1 : Hid (T1 = if 0 = 0 then JV.wrt x else []) := by show _ = _; rw [if_pos rfl]; exact hT1
  have HS1 := Lib.hid hS1
  have HL1 : Hid (T1.length ≤ 140737488355328) := by show _ ≤ _; rw [hT1]; exact hl1
  have i1 : (S1.size : Int) ≤ 140737488355328 := by have := HL1.out; omega
  have e3 : decide ((65536 : Int) < (S1.size : Int)) = true := decide_eq_true (by rw [hz1, hT1]; omega)
  clear hok hch hT1 hS1 hz1 hy hl1
  clear hv hs hT hc h2 hT0 hS0 hz0 hl
  show Calls Tryd.prog _ #[.agg #[.int .i64 u.kd, .int .i64 u.nm, .string ⟨u.tx.toArray⟩, .slice B u.ls.length d, .slice B' u.ms.length d'], .string s] _ _
  go_enter Tryd.func11, Tryd.ntmps11
  go_wp2_with (first
    | (go_at_call 15; have hm := HF5.out; refine (text_bs x D m D' m' _ 0 (Rd.nv x) T1 HS1.out ((HV5.out.keep (Nat.le_refl _) ((Fr.refl w5).alloc _)).lo (by simp)) HCX.out HT1.out HL1.out).mono ?_; rintro e w6 ⟨rfl, hf⟩; have hx := (VB.made w5 x D m D' m').keep hf; have HX6 := Lib.hid hx; have HF6 := Lib.hid ((hm.alloc (.cells #[.int .i64 x.kd, .int .i64 x.nm, .string ⟨x.tx.toArray⟩, .slice D x.ls.length m, .slice D' x.ms.length m'] 25)).trans hf); have HG6 := Lib.hid (((Fr.refl w5).alloc (.cells #[.int .i64 x.kd, .int .i64 x.nm, .string ⟨x.tx.toArray⟩, .slice D x.ls.length m, .slice D' x.ms.length m'] 25)).trans hf); clear hf hm hx)
    | (go_at_call 19; have hm := HF2.out; refine (rvalue_v s x l2 q2 x.kd x.nm x.tx x.ls.length x.ms.length ⟨rfl, rfl, rfl, rfl, rfl⟩ _ HS.out (HT.out.keep hm) H2.out).mono ?_; rintro e w5 ⟨D, m, D', m', rfl, hw, hf⟩; have HV5 := Lib.hid hw.low; have HF5 := Lib.hid (hm.trans hf); clear hf hm hw)
    | (go_at_call 12; have hm := HF1.out; refine (awake06 _).mono ?_; rintro e w2 ⟨rfl, hf⟩; have hx := HX1.out.keep hf; have HX2 := Lib.hid hx; obtain ⟨_, y0, y1, y2, y3, y4⟩ := hx; have HF2 := Lib.hid (hm.trans hf); clear hf hm)
    | (go_at_call 15; refine (text_bs u B d B' d' _ 0 q T0 HS0.out ((HV.out.keep (Nat.le_refl _) ((Fr.refl w).alloc _)).lo (by simp)) HC.out HT0.out HL0.out).mono ?_; rintro e w1 ⟨rfl, hf⟩; have hx := (VB.made w u B d B' d').keep hf; have HX1 := Lib.hid hx; obtain ⟨_, x0, x1, x2, x3, x4⟩ := hx; have HF1 := Lib.hid (((Fr.refl w).alloc _).trans hf); clear hf))
  go_ret
  exact ⟨rfl, HF6.out⟩

set_option maxHeartbeats 4000000 in
set_option maxRecDepth 100000 in
theorem back_lR (u : JV) (B : Option Addr) (d : Nat) (B' : Option Addr) (d' : Nat) (s : ByteArray) (w : World) (hv : InV w (Lo w.heap.size) u (vA u B d B' d')) (hs : s.size ≤ 9223372036854775807) (hT : LowTabs w) (q : Nat) (hc : JV.chk u 1 0 = (0, q)) (hz : 65536 < (JV.wrt u).length) (hl : (JV.wrt u).length ≤ 140737488355328) (x : JV) (l2 : List Scn.Tok) (q2 : Nat) (h2 : Rd.rdS s.data.toList = .ok x l2 q2) (hy : (JV.wrt x).length ≤ 65536) (hl1 : (JV.wrt x).length ≤ 140737488355328) :
    Calls Tryd.prog 11 #[vA u B d B' d', .string s] w fun e w' => e = .returned (.bool true) ∧ Fr w w' := by
  have HT := Lib.hid hT
  have HV := Lib.hid hv
  have HS := Lib.hid hs
  have HC := Lib.hid hc
  have H2 := Lib.hid h2
  obtain ⟨T0, hT0⟩ : ∃ T0, T0 = (JV.wrt u) := ⟨_, rfl⟩
  obtain ⟨S0, hS0⟩ : ∃ S0 : ByteArray, S0 = ⟨T0.toArray⟩ := ⟨_, rfl⟩
  have hz0 : S0.size = T0.length := by rw [hS0]; exact List.size_toArray
  have HT0 : Hid (T0 = if 0 = 0 then JV.wrt u else []) := by show _ = _; rw [if_pos rfl]; exact hT0
  have HS0 := Lib.hid hS0
  have HL0 : Hid (T0.length ≤ 140737488355328) := by show _ ≤ _; rw [hT0]; exact hl
  have i0 : (S0.size : Int) ≤ 140737488355328 := by have := HL0.out; omega
  have e0 : decide ((S0.size : Int) ≤ 65536) = false := decide_eq_false (by rw [hz0, hT0]; omega)
  clear hz
  obtain ⟨hok, hch, _, _, _, _, _⟩ := Rd.rdS_right h2
  have HCX := Lib.hid hch
  obtain ⟨T1, hT1⟩ : ∃ T1, T1 = JV.wrt x := ⟨_, rfl⟩
  obtain ⟨S1, hS1⟩ : ∃ S1 : ByteArray, S1 = ⟨T1.toArray⟩ := ⟨_, rfl⟩
  have hz1 : S1.size = T1.length := by rw [hS1]; exact List.size_toArray
  have HT1 : Hid (T1 = if 0 = 0 then JV.wrt x else []) := by show _ = _; rw [if_pos rfl]; exact hT1
  have HS1 := Lib.hid hS1
  have HL1 : Hid (T1.length ≤ 140737488355328) := by show _ ≤ _; rw [hT1]; exact hl1
  have i1 : (S1.size : Int) ≤ 140737488355328 := by have := HL1.out; omega
  have e3 : decide ((65536 : Int) < (S1.size : Int)) = false := decide_eq_false (by rw [hz1, hT1]; omega)
  have HR1 : Hid (Rd.rdS S1.data.toList = .ok x [] (Rd.nv x)) := by
    show _ = _
    have := Rd.rdS_back (v := x) (by rw [hch]) hy
    rw [hch] at this
    rw [hS1, hT1]; exact this
  have HZ1 : Hid (S1.size ≤ 9223372036854775807) := by show _ ≤ _; rw [hz1]; have := HL1.out; omega
  clear hok hch hT1 hS1 hz1 hy hl1
  clear hv hs hT hc h2 hT0 hS0 hz0 hl
  show Calls Tryd.prog _ #[.agg #[.int .i64 u.kd, .int .i64 u.nm, .string ⟨u.tx.toArray⟩, .slice B u.ls.length d, .slice B' u.ms.length d'], .string s] _ _
  go_enter Tryd.func11, Tryd.ntmps11
  go_wp2_with (first
    | (go_at_call 22; have hm := HF8.out; refine ((same_is x x _ _).call true (by simp) rfl rfl HW8.out HV8.out).mono ?_; rintro e w9 ⟨rfl, hf⟩; have HF9 := Lib.hid (hm.trans hf); clear hf hm)
    | (go_at_call 15; have hm := HF7.out; refine (text_bs x E n E' n' _ 0 (Rd.nv x) T1 HS1.out ((HV7.out.keep (Nat.le_refl _) ((Fr.refl w7).alloc _)).lo (by simp)) HCX.out HT1.out HL1.out).mono ?_; rintro e w8 ⟨rfl, hf⟩; have hg := ((Fr.refl w7).alloc (.cells #[.int .i64 x.kd, .int .i64 x.nm, .string ⟨x.tx.toArray⟩, .slice E x.ls.length n, .slice E' x.ms.length n'] 25)).trans hf; have hx := HX7.out.keep hg; obtain ⟨_, a0, a1, a2', a3, a4⟩ := hx; have hy := (VB.made w7 x E n E' n').keep hf; obtain ⟨_, b0, b1, b2, b3, b4⟩ := hy; have HV8 := Lib.hid ((HV7.out.keep (Nat.le_refl _) hg).lo hg.size); have HW8 := Lib.hid ((HV5.out.keep (Nat.le_refl _) (HG7.out.trans hg)).lo (HG7.out.trans hg).size); have HF8 := Lib.hid (hm.trans hg); clear hf hm hg)
    | (go_at_call 19; have hm := HF6.out; refine (rvalue_v S1 x [] (Rd.nv x) x.kd x.nm x.tx x.ls.length x.ms.length ⟨rfl, rfl, rfl, rfl, rfl⟩ _ HZ1.out (HT.out.keep hm) HR1.out).mono ?_; rintro e w7 ⟨E, n, E', n', rfl, hw, hf⟩; have HV7 := Lib.hid hw.low; have HF7 := Lib.hid (hm.trans hf); have HG7 := Lib.hid (HG6.out.trans hf); have HX7 := Lib.hid (HX6.out.keep hf); clear hf hm hw)
    | (go_at_call 15; have hm := HF5.out; refine (text_bs x D m D' m' _ 0 (Rd.nv x) T1 HS1.out ((HV5.out.keep (Nat.le_refl _) ((Fr.refl w5).alloc _)).lo (by simp)) HCX.out HT1.out HL1.out).mono ?_; rintro e w6 ⟨rfl, hf⟩; have hx := (VB.made w5 x D m D' m').keep hf; have HX6 := Lib.hid hx; have HF6 := Lib.hid ((hm.alloc (.cells #[.int .i64 x.kd, .int .i64 x.nm, .string ⟨x.tx.toArray⟩, .slice D x.ls.length m, .slice D' x.ms.length m'] 25)).trans hf); have HG6 := Lib.hid (((Fr.refl w5).alloc (.cells #[.int .i64 x.kd, .int .i64 x.nm, .string ⟨x.tx.toArray⟩, .slice D x.ls.length m, .slice D' x.ms.length m'] 25)).trans hf); clear hf hm hx)
    | (go_at_call 19; have hm := HF2.out; refine (rvalue_v s x l2 q2 x.kd x.nm x.tx x.ls.length x.ms.length ⟨rfl, rfl, rfl, rfl, rfl⟩ _ HS.out (HT.out.keep hm) H2.out).mono ?_; rintro e w5 ⟨D, m, D', m', rfl, hw, hf⟩; have HV5 := Lib.hid hw.low; have HF5 := Lib.hid (hm.trans hf); clear hf hm hw)
    | (go_at_call 12; have hm := HF1.out; refine (awake06 _).mono ?_; rintro e w2 ⟨rfl, hf⟩; have hx := HX1.out.keep hf; have HX2 := Lib.hid hx; obtain ⟨_, y0, y1, y2, y3, y4⟩ := hx; have HF2 := Lib.hid (hm.trans hf); clear hf hm)
    | (go_at_call 15; refine (text_bs u B d B' d' _ 0 q T0 HS0.out ((HV.out.keep (Nat.le_refl _) ((Fr.refl w).alloc _)).lo (by simp)) HC.out HT0.out HL0.out).mono ?_; rintro e w1 ⟨rfl, hf⟩; have hx := (VB.made w u B d B' d').keep hf; have HX1 := Lib.hid hx; obtain ⟨_, x0, x1, x2, x3, x4⟩ := hx; have HF1 := Lib.hid (((Fr.refl w).alloc _).trans hf); clear hf))
  go_ret
  exact ⟨rfl, HF9.out⟩

set_option maxHeartbeats 4000000 in
set_option maxRecDepth 100000 in
theorem back_rb (u : JV) (B : Option Addr) (d : Nat) (B' : Option Addr) (d' : Nat) (s : ByteArray) (w : World) (hv : InV w (Lo w.heap.size) u (vA u B d B' d')) (hs : s.size ≤ 9223372036854775807) (hT : LowTabs w) (q : Nat) (hc : JV.chk u 1 0 = (0, q)) (hz : (JV.wrt u).length ≤ 65536) (hl : (JV.wrt u).length ≤ 140737488355328) (a2 c2 : Nat) (h2 : Rd.rdS s.data.toList = .bad a2 c2) :
    Calls Tryd.prog 11 #[vA u B d B' d', .string s] w fun e w' => e = .returned (.bool true) ∧ Fr w w' := by
  have HT := Lib.hid hT
  have HV := Lib.hid hv
  have HS := Lib.hid hs
  have HC := Lib.hid hc
  have H2 := Lib.hid h2
  obtain ⟨T0, hT0⟩ : ∃ T0, T0 = (JV.wrt u) := ⟨_, rfl⟩
  obtain ⟨S0, hS0⟩ : ∃ S0 : ByteArray, S0 = ⟨T0.toArray⟩ := ⟨_, rfl⟩
  have hz0 : S0.size = T0.length := by rw [hS0]; exact List.size_toArray
  have HT0 : Hid (T0 = if 0 = 0 then JV.wrt u else []) := by show _ = _; rw [if_pos rfl]; exact hT0
  have HS0 := Lib.hid hS0
  have HL0 : Hid (T0.length ≤ 140737488355328) := by show _ ≤ _; rw [hT0]; exact hl
  have i0 : (S0.size : Int) ≤ 140737488355328 := by have := HL0.out; omega
  have e0 : decide ((S0.size : Int) ≤ 65536) = true := decide_eq_true (by rw [hz0, hT0]; omega)
  have HR0 : Hid (Rd.rdS S0.data.toList = .ok u [] q) := by
    show _ = _
    have := Rd.rdS_back (v := u) (by rw [hc]) hz
    rw [hc] at this
    rw [hS0, hT0]; exact this
  have HZ0 : Hid (S0.size ≤ 9223372036854775807) := by show _ ≤ _; rw [hz0]; have := HL0.out; omega
  clear hz
  have e2 : (((c2 : Nat) : Int) != 0) = true := by have := (Rd.rdS_place h2).2; rw [bne_iff_ne]; omega
  clear hv hs hT hc h2 hT0 hS0 hz0 hl
  show Calls Tryd.prog _ #[.agg #[.int .i64 u.kd, .int .i64 u.nm, .string ⟨u.tx.toArray⟩, .slice B u.ls.length d, .slice B' u.ms.length d'], .string s] _ _
  go_enter Tryd.func11, Tryd.ntmps11
  go_wp2_with (first
    | (go_at_call 19; have hm := HF4.out; refine (rvalue_b s a2 c2 _ HS.out (HT.out.keep hm) H2.out).mono ?_; rintro e w5 ⟨rfl, hf⟩; have HF5 := Lib.hid (hm.trans hf); clear hf hm)
    | (go_at_call 22; have hm := HF3.out; refine ((same_is u u _ _).call true (by simp) rfl rfl ((HV.out.keep (Nat.le_refl _) hm).lo hm.size) HV3.out).mono ?_; rintro e w4 ⟨rfl, hf⟩; have HF4 := Lib.hid (hm.trans hf); clear hf hm)
    | (go_at_call 19; have hm := HF2.out; refine (rvalue_v S0 u [] q u.kd u.nm u.tx u.ls.length u.ms.length ⟨rfl, rfl, rfl, rfl, rfl⟩ _ HZ0.out (HT.out.keep hm) HR0.out).mono ?_; rintro e w3 ⟨C, k, C', k', rfl, hw, hf⟩; have hx := HX2.out.keep (hf.alloc (.cells #[.int .i64 u.kd, .int .i64 u.nm, .string ⟨u.tx.toArray⟩, .slice C u.ls.length k, .slice C' u.ms.length k'] 25)); obtain ⟨_, z0, z1, z2, z3, z4⟩ := hx; have HV3 := Lib.hid ((hw.low.keep (Nat.le_refl _) ((Fr.refl w3).alloc (.cells #[.int .i64 u.kd, .int .i64 u.nm, .string ⟨u.tx.toArray⟩, .slice C u.ls.length k, .slice C' u.ms.length k'] 25))).lo (B' := (w3.alloc (.cells #[.int .i64 u.kd, .int .i64 u.nm, .string ⟨u.tx.toArray⟩, .slice C u.ls.length k, .slice C' u.ms.length k'] 25)).heap.size) (by simp)); have HF3 := Lib.hid ((hm.trans hf).alloc (.cells #[.int .i64 u.kd, .int .i64 u.nm, .string ⟨u.tx.toArray⟩, .slice C u.ls.length k, .slice C' u.ms.length k'] 25)); clear hf hm hw)
    | (go_at_call 12; have hm := HF1.out; refine (awake06 _).mono ?_; rintro e w2 ⟨rfl, hf⟩; have hx := HX1.out.keep hf; have HX2 := Lib.hid hx; obtain ⟨_, y0, y1, y2, y3, y4⟩ := hx; have HF2 := Lib.hid (hm.trans hf); clear hf hm)
    | (go_at_call 15; refine (text_bs u B d B' d' _ 0 q T0 HS0.out ((HV.out.keep (Nat.le_refl _) ((Fr.refl w).alloc _)).lo (by simp)) HC.out HT0.out HL0.out).mono ?_; rintro e w1 ⟨rfl, hf⟩; have hx := (VB.made w u B d B' d').keep hf; have HX1 := Lib.hid hx; obtain ⟨_, x0, x1, x2, x3, x4⟩ := hx; have HF1 := Lib.hid (((Fr.refl w).alloc _).trans hf); clear hf))
  go_ret
  exact ⟨rfl, HF5.out.alloc _⟩

set_option maxHeartbeats 4000000 in
set_option maxRecDepth 100000 in
theorem back_rL (u : JV) (B : Option Addr) (d : Nat) (B' : Option Addr) (d' : Nat) (s : ByteArray) (w : World) (hv : InV w (Lo w.heap.size) u (vA u B d B' d')) (hs : s.size ≤ 9223372036854775807) (hT : LowTabs w) (q : Nat) (hc : JV.chk u 1 0 = (0, q)) (hz : (JV.wrt u).length ≤ 65536) (hl : (JV.wrt u).length ≤ 140737488355328) (x : JV) (l2 : List Scn.Tok) (q2 : Nat) (h2 : Rd.rdS s.data.toList = .ok x l2 q2) (hy : 65536 < (JV.wrt x).length) (hl1 : (JV.wrt x).length ≤ 140737488355328) :
    Calls Tryd.prog 11 #[vA u B d B' d', .string s] w fun e w' => e = .returned (.bool true) ∧ Fr w w' := by
  have HT := Lib.hid hT
  have HV := Lib.hid hv
  have HS := Lib.hid hs
  have HC := Lib.hid hc
  have H2 := Lib.hid h2
  obtain ⟨T0, hT0⟩ : ∃ T0, T0 = (JV.wrt u) := ⟨_, rfl⟩
  obtain ⟨S0, hS0⟩ : ∃ S0 : ByteArray, S0 = ⟨T0.toArray⟩ := ⟨_, rfl⟩
  have hz0 : S0.size = T0.length := by rw [hS0]; exact List.size_toArray
  have HT0 : Hid (T0 = if 0 = 0 then JV.wrt u else []) := by show _ = _; rw [if_pos rfl]; exact hT0
  have HS0 := Lib.hid hS0
  have HL0 : Hid (T0.length ≤ 140737488355328) := by show _ ≤ _; rw [hT0]; exact hl
  have i0 : (S0.size : Int) ≤ 140737488355328 := by have := HL0.out; omega
  have e0 : decide ((S0.size : Int) ≤ 65536) = true := decide_eq_true (by rw [hz0, hT0]; omega)
  have HR0 : Hid (Rd.rdS S0.data.toList = .ok u [] q) := by
    show _ = _
    have := Rd.rdS_back (v := u) (by rw [hc]) hz
    rw [hc] at this
    rw [hS0, hT0]; exact this
  have HZ0 : Hid (S0.size ≤ 9223372036854775807) := by show _ ≤ _; rw [hz0]; have := HL0.out; omega
  clear hz
  obtain ⟨hok, hch, _, _, _, _, _⟩ := Rd.rdS_right h2
  have HCX := Lib.hid hch
  obtain ⟨T1, hT1⟩ : ∃ T1, T1 = JV.wrt x := ⟨_, rfl⟩
  obtain ⟨S1, hS1⟩ : ∃ S1 : ByteArray, S1 = ⟨T1.toArray⟩ := ⟨_, rfl⟩
  have hz1 : S1.size = T1.length := by rw [hS1]; exact List.size_toArray
  have HT1 : Hid (T1 = if 0 = 0 then JV.wrt x else []) := by show _ = _; rw [if_pos rfl]; exact hT1
  have HS1 := Lib.hid hS1
  have HL1 : Hid (T1.length ≤ 140737488355328) := by show _ ≤ _; rw [hT1]; exact hl1
  have i1 : (S1.size : Int) ≤ 140737488355328 := by have := HL1.out; omega
  have e3 : decide ((65536 : Int) < (S1.size : Int)) = true := decide_eq_true (by rw [hz1, hT1]; omega)
  clear hok hch hT1 hS1 hz1 hy hl1
  clear hv hs hT hc h2 hT0 hS0 hz0 hl
  show Calls Tryd.prog _ #[.agg #[.int .i64 u.kd, .int .i64 u.nm, .string ⟨u.tx.toArray⟩, .slice B u.ls.length d, .slice B' u.ms.length d'], .string s] _ _
  go_enter Tryd.func11, Tryd.ntmps11
  go_wp2_with (first
    | (go_at_call 15; have hm := HF5.out; refine (text_bs x D m D' m' _ 0 (Rd.nv x) T1 HS1.out ((HV5.out.keep (Nat.le_refl _) ((Fr.refl w5).alloc _)).lo (by simp)) HCX.out HT1.out HL1.out).mono ?_; rintro e w6 ⟨rfl, hf⟩; have hx := (VB.made w5 x D m D' m').keep hf; have HX6 := Lib.hid hx; have HF6 := Lib.hid ((hm.alloc (.cells #[.int .i64 x.kd, .int .i64 x.nm, .string ⟨x.tx.toArray⟩, .slice D x.ls.length m, .slice D' x.ms.length m'] 25)).trans hf); have HG6 := Lib.hid (((Fr.refl w5).alloc (.cells #[.int .i64 x.kd, .int .i64 x.nm, .string ⟨x.tx.toArray⟩, .slice D x.ls.length m, .slice D' x.ms.length m'] 25)).trans hf); clear hf hm hx)
    | (go_at_call 19; have hm := HF4.out; refine (rvalue_v s x l2 q2 x.kd x.nm x.tx x.ls.length x.ms.length ⟨rfl, rfl, rfl, rfl, rfl⟩ _ HS.out (HT.out.keep hm) H2.out).mono ?_; rintro e w5 ⟨D, m, D', m', rfl, hw, hf⟩; have HV5 := Lib.hid hw.low; have HF5 := Lib.hid (hm.trans hf); clear hf hm hw)
    | (go_at_call 22; have hm := HF3.out; refine ((same_is u u _ _).call true (by simp) rfl rfl ((HV.out.keep (Nat.le_refl _) hm).lo hm.size) HV3.out).mono ?_; rintro e w4 ⟨rfl, hf⟩; have HF4 := Lib.hid (hm.trans hf); clear hf hm)
    | (go_at_call 19; have hm := HF2.out; refine (rvalue_v S0 u [] q u.kd u.nm u.tx u.ls.length u.ms.length ⟨rfl, rfl, rfl, rfl, rfl⟩ _ HZ0.out (HT.out.keep hm) HR0.out).mono ?_; rintro e w3 ⟨C, k, C', k', rfl, hw, hf⟩; have hx := HX2.out.keep (hf.alloc (.cells #[.int .i64 u.kd, .int .i64 u.nm, .string ⟨u.tx.toArray⟩, .slice C u.ls.length k, .slice C' u.ms.length k'] 25)); obtain ⟨_, z0, z1, z2, z3, z4⟩ := hx; have HV3 := Lib.hid ((hw.low.keep (Nat.le_refl _) ((Fr.refl w3).alloc (.cells #[.int .i64 u.kd, .int .i64 u.nm, .string ⟨u.tx.toArray⟩, .slice C u.ls.length k, .slice C' u.ms.length k'] 25))).lo (B' := (w3.alloc (.cells #[.int .i64 u.kd, .int .i64 u.nm, .string ⟨u.tx.toArray⟩, .slice C u.ls.length k, .slice C' u.ms.length k'] 25)).heap.size) (by simp)); have HF3 := Lib.hid ((hm.trans hf).alloc (.cells #[.int .i64 u.kd, .int .i64 u.nm, .string ⟨u.tx.toArray⟩, .slice C u.ls.length k, .slice C' u.ms.length k'] 25)); clear hf hm hw)
    | (go_at_call 12; have hm := HF1.out; refine (awake06 _).mono ?_; rintro e w2 ⟨rfl, hf⟩; have hx := HX1.out.keep hf; have HX2 := Lib.hid hx; obtain ⟨_, y0, y1, y2, y3, y4⟩ := hx; have HF2 := Lib.hid (hm.trans hf); clear hf hm)
    | (go_at_call 15; refine (text_bs u B d B' d' _ 0 q T0 HS0.out ((HV.out.keep (Nat.le_refl _) ((Fr.refl w).alloc _)).lo (by simp)) HC.out HT0.out HL0.out).mono ?_; rintro e w1 ⟨rfl, hf⟩; have hx := (VB.made w u B d B' d').keep hf; have HX1 := Lib.hid hx; obtain ⟨_, x0, x1, x2, x3, x4⟩ := hx; have HF1 := Lib.hid (((Fr.refl w).alloc _).trans hf); clear hf))
  go_ret
  exact ⟨rfl, HF6.out⟩

set_option maxHeartbeats 4000000 in
set_option maxRecDepth 100000 in
theorem back_rR (u : JV) (B : Option Addr) (d : Nat) (B' : Option Addr) (d' : Nat) (s : ByteArray) (w : World) (hv : InV w (Lo w.heap.size) u (vA u B d B' d')) (hs : s.size ≤ 9223372036854775807) (hT : LowTabs w) (q : Nat) (hc : JV.chk u 1 0 = (0, q)) (hz : (JV.wrt u).length ≤ 65536) (hl : (JV.wrt u).length ≤ 140737488355328) (x : JV) (l2 : List Scn.Tok) (q2 : Nat) (h2 : Rd.rdS s.data.toList = .ok x l2 q2) (hy : (JV.wrt x).length ≤ 65536) (hl1 : (JV.wrt x).length ≤ 140737488355328) :
    Calls Tryd.prog 11 #[vA u B d B' d', .string s] w fun e w' => e = .returned (.bool true) ∧ Fr w w' := by
  have HT := Lib.hid hT
  have HV := Lib.hid hv
  have HS := Lib.hid hs
  have HC := Lib.hid hc
  have H2 := Lib.hid h2
  obtain ⟨T0, hT0⟩ : ∃ T0, T0 = (JV.wrt u) := ⟨_, rfl⟩
  obtain ⟨S0, hS0⟩ : ∃ S0 : ByteArray, S0 = ⟨T0.toArray⟩ := ⟨_, rfl⟩
  have hz0 : S0.size = T0.length := by rw [hS0]; exact List.size_toArray
  have HT0 : Hid (T0 = if 0 = 0 then JV.wrt u else []) := by show _ = _; rw [if_pos rfl]; exact hT0
  have HS0 := Lib.hid hS0
  have HL0 : Hid (T0.length ≤ 140737488355328) := by show _ ≤ _; rw [hT0]; exact hl
  have i0 : (S0.size : Int) ≤ 140737488355328 := by have := HL0.out; omega
  have e0 : decide ((S0.size : Int) ≤ 65536) = true := decide_eq_true (by rw [hz0, hT0]; omega)
  have HR0 : Hid (Rd.rdS S0.data.toList = .ok u [] q) := by
    show _ = _
    have := Rd.rdS_back (v := u) (by rw [hc]) hz
    rw [hc] at this
    rw [hS0, hT0]; exact this
  have HZ0 : Hid (S0.size ≤ 9223372036854775807) := by show _ ≤ _; rw [hz0]; have := HL0.out; omega
  clear hz
  obtain ⟨hok, hch, _, _, _, _, _⟩ := Rd.rdS_right h2
  have HCX := Lib.hid hch
  obtain ⟨T1, hT1⟩ : ∃ T1, T1 = JV.wrt x := ⟨_, rfl⟩
  obtain ⟨S1, hS1⟩ : ∃ S1 : ByteArray, S1 = ⟨T1.toArray⟩ := ⟨_, rfl⟩
  have hz1 : S1.size = T1.length := by rw [hS1]; exact List.size_toArray
  have HT1 : Hid (T1 = if 0 = 0 then JV.wrt x else []) := by show _ = _; rw [if_pos rfl]; exact hT1
  have HS1 := Lib.hid hS1
  have HL1 : Hid (T1.length ≤ 140737488355328) := by show _ ≤ _; rw [hT1]; exact hl1
  have i1 : (S1.size : Int) ≤ 140737488355328 := by have := HL1.out; omega
  have e3 : decide ((65536 : Int) < (S1.size : Int)) = false := decide_eq_false (by rw [hz1, hT1]; omega)
  have HR1 : Hid (Rd.rdS S1.data.toList = .ok x [] (Rd.nv x)) := by
    show _ = _
    have := Rd.rdS_back (v := x) (by rw [hch]) hy
    rw [hch] at this
    rw [hS1, hT1]; exact this
  have HZ1 : Hid (S1.size ≤ 9223372036854775807) := by show _ ≤ _; rw [hz1]; have := HL1.out; omega
  clear hok hch hT1 hS1 hz1 hy hl1
  clear hv hs hT hc h2 hT0 hS0 hz0 hl
  show Calls Tryd.prog _ #[.agg #[.int .i64 u.kd, .int .i64 u.nm, .string ⟨u.tx.toArray⟩, .slice B u.ls.length d, .slice B' u.ms.length d'], .string s] _ _
  go_enter Tryd.func11, Tryd.ntmps11
  go_wp2_with (first
    | (go_at_call 22; have hm := HF8.out; refine ((same_is x x _ _).call true (by simp) rfl rfl HW8.out HV8.out).mono ?_; rintro e w9 ⟨rfl, hf⟩; have HF9 := Lib.hid (hm.trans hf); clear hf hm)
    | (go_at_call 15; have hm := HF7.out; refine (text_bs x E n E' n' _ 0 (Rd.nv x) T1 HS1.out ((HV7.out.keep (Nat.le_refl _) ((Fr.refl w7).alloc _)).lo (by simp)) HCX.out HT1.out HL1.out).mono ?_; rintro e w8 ⟨rfl, hf⟩; have hg := ((Fr.refl w7).alloc (.cells #[.int .i64 x.kd, .int .i64 x.nm, .string ⟨x.tx.toArray⟩, .slice E x.ls.length n, .slice E' x.ms.length n'] 25)).trans hf; have hx := HX7.out.keep hg; obtain ⟨_, a0, a1, a2', a3, a4⟩ := hx; have hy := (VB.made w7 x E n E' n').keep hf; obtain ⟨_, b0, b1, b2, b3, b4⟩ := hy; have HV8 := Lib.hid ((HV7.out.keep (Nat.le_refl _) hg).lo hg.size); have HW8 := Lib.hid ((HV5.out.keep (Nat.le_refl _) (HG7.out.trans hg)).lo (HG7.out.trans hg).size); have HF8 := Lib.hid (hm.trans hg); clear hf hm hg)
    | (go_at_call 19; have hm := HF6.out; refine (rvalue_v S1 x [] (Rd.nv x) x.kd x.nm x.tx x.ls.length x.ms.length ⟨rfl, rfl, rfl, rfl, rfl⟩ _ HZ1.out (HT.out.keep hm) HR1.out).mono ?_; rintro e w7 ⟨E, n, E', n', rfl, hw, hf⟩; have HV7 := Lib.hid hw.low; have HF7 := Lib.hid (hm.trans hf); have HG7 := Lib.hid (HG6.out.trans hf); have HX7 := Lib.hid (HX6.out.keep hf); clear hf hm hw)
    | (go_at_call 15; have hm := HF5.out; refine (text_bs x D m D' m' _ 0 (Rd.nv x) T1 HS1.out ((HV5.out.keep (Nat.le_refl _) ((Fr.refl w5).alloc _)).lo (by simp)) HCX.out HT1.out HL1.out).mono ?_; rintro e w6 ⟨rfl, hf⟩; have hx := (VB.made w5 x D m D' m').keep hf; have HX6 := Lib.hid hx; have HF6 := Lib.hid ((hm.alloc (.cells #[.int .i64 x.kd, .int .i64 x.nm, .string ⟨x.tx.toArray⟩, .slice D x.ls.length m, .slice D' x.ms.length m'] 25)).trans hf); have HG6 := Lib.hid (((Fr.refl w5).alloc (.cells #[.int .i64 x.kd, .int .i64 x.nm, .string ⟨x.tx.toArray⟩, .slice D x.ls.length m, .slice D' x.ms.length m'] 25)).trans hf); clear hf hm hx)
    | (go_at_call 19; have hm := HF4.out; refine (rvalue_v s x l2 q2 x.kd x.nm x.tx x.ls.length x.ms.length ⟨rfl, rfl, rfl, rfl, rfl⟩ _ HS.out (HT.out.keep hm) H2.out).mono ?_; rintro e w5 ⟨D, m, D', m', rfl, hw, hf⟩; have HV5 := Lib.hid hw.low; have HF5 := Lib.hid (hm.trans hf); clear hf hm hw)
    | (go_at_call 22; have hm := HF3.out; refine ((same_is u u _ _).call true (by simp) rfl rfl ((HV.out.keep (Nat.le_refl _) hm).lo hm.size) HV3.out).mono ?_; rintro e w4 ⟨rfl, hf⟩; have HF4 := Lib.hid (hm.trans hf); clear hf hm)
    | (go_at_call 19; have hm := HF2.out; refine (rvalue_v S0 u [] q u.kd u.nm u.tx u.ls.length u.ms.length ⟨rfl, rfl, rfl, rfl, rfl⟩ _ HZ0.out (HT.out.keep hm) HR0.out).mono ?_; rintro e w3 ⟨C, k, C', k', rfl, hw, hf⟩; have hx := HX2.out.keep (hf.alloc (.cells #[.int .i64 u.kd, .int .i64 u.nm, .string ⟨u.tx.toArray⟩, .slice C u.ls.length k, .slice C' u.ms.length k'] 25)); obtain ⟨_, z0, z1, z2, z3, z4⟩ := hx; have HV3 := Lib.hid ((hw.low.keep (Nat.le_refl _) ((Fr.refl w3).alloc (.cells #[.int .i64 u.kd, .int .i64 u.nm, .string ⟨u.tx.toArray⟩, .slice C u.ls.length k, .slice C' u.ms.length k'] 25))).lo (B' := (w3.alloc (.cells #[.int .i64 u.kd, .int .i64 u.nm, .string ⟨u.tx.toArray⟩, .slice C u.ls.length k, .slice C' u.ms.length k'] 25)).heap.size) (by simp)); have HF3 := Lib.hid ((hm.trans hf).alloc (.cells #[.int .i64 u.kd, .int .i64 u.nm, .string ⟨u.tx.toArray⟩, .slice C u.ls.length k, .slice C' u.ms.length k'] 25)); clear hf hm hw)
    | (go_at_call 12; have hm := HF1.out; refine (awake06 _).mono ?_; rintro e w2 ⟨rfl, hf⟩; have hx := HX1.out.keep hf; have HX2 := Lib.hid hx; obtain ⟨_, y0, y1, y2, y3, y4⟩ := hx; have HF2 := Lib.hid (hm.trans hf); clear hf hm)
    | (go_at_call 15; refine (text_bs u B d B' d' _ 0 q T0 HS0.out ((HV.out.keep (Nat.le_refl _) ((Fr.refl w).alloc _)).lo (by simp)) HC.out HT0.out HL0.out).mono ?_; rintro e w1 ⟨rfl, hf⟩; have hx := (VB.made w u B d B' d').keep hf; have HX1 := Lib.hid hx; obtain ⟨_, x0, x1, x2, x3, x4⟩ := hx; have HF1 := Lib.hid (((Fr.refl w).alloc _).trans hf); clear hf))
  go_ret
  exact ⟨rfl, HF9.out⟩

theorem back_is (u : JV) (B : Option Addr) (d : Nat) (B' : Option Addr) (d' : Nat) (s : ByteArray) (w : World) (hv : InV w (Lo w.heap.size) u (vA u B d B' d')) (hs : s.size ≤ 140737488351232) (hb : JV.bulk u ≤ 1048576) (hT : LowTabs w) :
    Calls Tryd.prog 11 #[vA u B d B' d', .string s] w fun e w' => e = .returned (.bool true) ∧ Fr w w' := by
  have hwl : (JV.chk u 1 0).1 = 0 → (JV.wrt u).length ≤ 8388608 := fun h => by
    have := JV.wrt_len u ((JV.chk_all u 1 0).1 h)
    omega
  rcases hc : JV.chk u 1 0 with ⟨c, q⟩
  rw [hc] at hwl
  have hs' : s.size ≤ 9223372036854775807 := by omega
  have hxl : ∀ x l2 q2, Rd.rdS s.data.toList = .ok x l2 q2 → (JV.wrt x).length ≤ 140737488355328 := fun x l2 q2 h => by
    have h1 := (Rd.rdS_right h).1
    have h2 := JV.wrt_len x (JV.ok_all h1)
    have h3 := Rd.rdS_bulk h
    omega
  rcases h2 : Rd.rdS s.data.toList with _ | ⟨a2, c2⟩ | ⟨x, l2, q2⟩
  · exact absurd h2 (Rd.rdS_out _)
  · by_cases h0 : c = 0
    · subst h0
      have hl := hwl rfl
      by_cases hz : (JV.wrt u).length ≤ 65536
      · exact back_rb u B d B' d' s w hv hs' hT q hc hz (by omega) a2 c2 h2
      · exact back_lb u B d B' d' s w hv hs' hT q hc (by omega) (by omega) a2 c2 h2
    · exact back_nb u B d B' d' s w hv hs' hT c q hc h0 a2 c2 h2
  · have hx := hxl x l2 q2 h2
    by_cases hy : (JV.wrt x).length ≤ 65536
    · by_cases h0 : c = 0
      · subst h0
        have hl := hwl rfl
        by_cases hz : (JV.wrt u).length ≤ 65536
        · exact back_rR u B d B' d' s w hv hs' hT q hc hz (by omega) x l2 q2 h2 hy hx
        · exact back_lR u B d B' d' s w hv hs' hT q hc (by omega) (by omega) x l2 q2 h2 hy hx
      · exact back_nR u B d B' d' s w hv hs' hT c q hc h0 x l2 q2 h2 hy hx
    · by_cases h0 : c = 0
      · subst h0
        have hl := hwl rfl
        by_cases hz : (JV.wrt u).length ≤ 65536
        · exact back_rL u B d B' d' s w hv hs' hT q hc hz (by omega) x l2 q2 h2 (by omega) hx
        · exact back_lL u B d B' d' s w hv hs' hT q hc (by omega) (by omega) x l2 q2 h2 (by omega) hx
      · exact back_nL u B d B' d' s w hv hs' hT c q hc h0 x l2 q2 h2 (by omega) hx
end Go.Proofs.YtgncdjcbphobmaaDoor
