/- Chapter 15: the document's Has, Put. -/
import Derived.Test.YtgaiepficjiclaaGreatDoorBkC
import Derived.Test.YtgaiepficjiclaaGreatDoorPtt
import Derived.Test.YtgaiepficjiclaaGreatDoorBkA
import Derived.Deep.RegionHeld
namespace Go.Proofs.YtgaiepficjiclaaGreatDoor
set_option maxRecDepth 100000
set_option maxHeartbeats 4000000
set_option linter.unusedVariables false
set_option linter.unusedSimpArgs false
open Go.RowKit

theorem has7_is (v : JV) (B : Option Addr) (d : Nat) (B' : Option Addr) (d' : Nat) (s : List UInt8) (w : World) (Z : Nat) (hZ : Z ≤ w.heap.size) (h : InV w (Lo Z) v (vA v B d B' d')) :
  Calls Tryz.prog 30 #[.agg #[.int .i64 v.kd, .int .i64 v.nm, .string ⟨v.tx.toArray⟩, .slice B v.ls.length d, .slice B' v.ms.length d'], .string ⟨s.toArray⟩] w fun e w' => e = .returned (.bool (Pt.get v s).isSome) ∧ Fr w w' := by
 have hal := (Fr.refl w).alloc (.cells #[.int .i64 v.kd, .int .i64 v.nm, .string ⟨v.tx.toArray⟩, .slice B v.ls.length d, .slice B' v.ms.length d'] 25)
 have HG : Hid (Calls Tryz.prog 33 #[.agg #[.int .i64 v.kd, .int .i64 v.nm, .string ⟨v.tx.toArray⟩, .slice B v.ls.length d, .slice B' v.ms.length d'], .string ⟨s.toArray⟩] (w.alloc (.cells #[.int .i64 v.kd, .int .i64 v.nm, .string ⟨v.tx.toArray⟩, .slice B v.ls.length d, .slice B' v.ms.length d'] 25)) (OpP Z (w.alloc (.cells #[.int .i64 v.kd, .int .i64 v.nm, .string ⟨v.tx.toArray⟩, .slice B v.ls.length d, .slice B' v.ms.length d'] 25)) (Pt.get v s))) := Lib.hid (get7_is v B d B' d' s _ Z (Nat.le_trans hZ hal.size) (h.keep hZ hal))
 clear h
 cases hg : Pt.get v s with
 | none =>
  rw [hg] at HG
  go_enter Tryz.func30, Tryz.ntmps30
  go_wp2_with (go_at_call 33; refine HG.out.mono ?_; rintro e w1 ⟨rfl, hf⟩; have HF := Lib.hid (hal.trans hf); clear hf)
  go_ret
  exact ⟨rfl, HF.out.alloc _⟩
 | some y =>
  rw [hg] at HG
  go_enter Tryz.func30, Tryz.ntmps30
  go_wp2_with (go_at_call 33; refine HG.out.mono ?_; rintro e w1 ⟨C, f, C', f', rfl, _, hf⟩; have HF := Lib.hid (hal.trans hf); clear hf)
  go_ret
  exact ⟨rfl, HF.out.alloc _⟩
theorem Srt.fl_take {l : List (List UInt8)} {P : List UInt8 → Bool} {i : Nat} (hi : i < l.length) : (l.take (i + 1)).filter P = (l.take i).filter P ++ (if P l[i] then [l[i]] else []) := by
 rw [List.take_succ_eq_append_getElem hi, List.filter_append]
 cases h : P l[i] <;> simp [h]
theorem Srt.geq (x s : List UInt8) : (Op.bytesLess x s || x == s) = !decide (s < x) := by
 rw [bytesLess_eq]
 rcases Srt.tri x s with h | h | h
 ·have h2 : ¬ s < x := fun k => List.lt_irrefl _ (List.lt_trans h k)
  simp [h, h2]
 ·subst h
  have h2 : ¬ x < x := List.lt_irrefl _
  simp [h2]
 ·have h2 : ¬ x < s := fun k => List.lt_irrefl _ (List.lt_trans h k)
  have h3 : ¬ x = s := fun e => by subst e; exact List.lt_irrefl _ h
  simp [h, h2, h3]
theorem put14_is (ps : List (List UInt8)) (A : Option Addr) (c : Nat) (s : List UInt8) (w : World) (h : PsC w A ps) (hl : ps.length ≤ 1048576) :
  Calls Tryz.prog 29 #[.slice A ps.length c, .string ⟨s.toArray⟩] w fun e w' => (∃ v', e = .returned v' ∧ Ssl w' w.heap.size v' (Srt.put ps s)) ∧ Fr w w' := by
 have H := Lib.hid h
 have hl' : (ps.length : Int) ≤ 1048576 := by omega
 clear h
 go_enter Tryz.func29, Tryz.ntmps29
 go_wp2_with fail
 go_loopw [5, 6] (fun bv j wr => ∃ (i : Nat) (acc : List (List UInt8)), i ≤ ps.length ∧ j = .int .i64 i ∧ Hid (acc.length ≤ i) ∧ Hid (Ssl wr w.heap.size bv acc) ∧ Hid (Fr w wr) ∧ Hid (acc = (ps.take i).filter (fun x => decide (x < s)))) (fun _ j _ => ps.length - (intOf j).toNat)
 case atStart => exact ⟨0, [], by omega, rfl, Lib.hid (by simp), Lib.hid (Ssl.none_ _ _), Lib.hid (Fr.refl w), Lib.hid rfl⟩
 case round =>
  obtain ⟨i, acc, hi, rfl, hal, hS, hF, hA⟩ := hrel
  by_cases hlt : i < ps.length
  ·have hlt' : (i : Int) < (ps.length : Int) := by omega
   obtain ⟨b, o, rfl, hb, hc⟩ := (H.out.keep hF.out) (fun e => by subst e; simp at hlt)
   have c0 := hc i hlt
   have hnx := Srt.fl_take (P := fun x => decide (x < s)) hlt
   obtain ⟨x, hx⟩ : ∃ x, ps[i] = x := ⟨_, rfl⟩
   rw [hx] at c0 hnx
   have hal2 := hal.out
   have hk : (acc.length + 1) * 16 ≤ 140737488355328 := by omega
   rw [← hA.out] at hnx
   obtain ⟨cb, hcb⟩ : ∃ cb, decide (x < s) = cb := ⟨_, rfl⟩
   have hbl : Op.bytesLess x s = cb := by rw [bytesLess_eq]; exact hcb
   rw [hcb] at hnx
   have HNX := Lib.hid hnx
   clear hnx hx hcb hb hc
   cases cb
   ·go_wp2_with fail
    exact ⟨⟨i + 1, acc, by omega, by go_num, Lib.hid (by omega), hS, hF, Lib.hid (by rw [HNX.out]; simp)⟩, by simp [intOf]; omega⟩
   ·go_wp2_with (at_builtin; refine wpl_ss_lit rfl (.tmp 20) (.tmp 25) rfl w hF.out _ acc rfl hS.out [x] rfl rfl rfl rfl rfl (by simpa using hk) ?_; intro v9 w9 hv9 hf9; have HS9 := Lib.hid hv9; have HF9 := Lib.hid hf9; clear hv9 hf9)
    exact ⟨⟨i + 1, acc ++ [x], by omega, by go_num, Lib.hid (by simp; omega), HS9, HF9, Lib.hid (by rw [HNX.out]; simp)⟩, by simp [intOf]; omega⟩
  ·obtain rfl : i = ps.length := by omega
   have hA2 : acc = ps.filter (fun x => decide (x < s)) := by rw [hA.out, List.take_length]
   have hal2 := hal.out
   have hk : (acc.length + 1) * 16 ≤ 140737488355328 := by omega
   go_upto_region 8 with (at_builtin; refine wpl_ss_lit rfl (.tmp 27) (.tmp 29) rfl w hF.out _ acc rfl hS.out [s] rfl rfl rfl rfl rfl (by simpa using hk) ?_; intro v9 w9 hv9 hf9; have HS9 := Lib.hid hv9; have HF9 := Lib.hid hf9; clear hv9 hf9)
   obtain ⟨base, hbase⟩ : ∃ b, acc ++ [s] = b := ⟨_, rfl⟩
   have HBS : Hid (base = ps.filter (fun x => decide (x < s)) ++ [s]) := Lib.hid (by rw [← hbase, hA2])
   rw [hbase] at HS9
   have hbl2 : base.length ≤ ps.length + 1 := by rw [← hbase]; simp; omega
   clear hA2 hA hS hbase
   go_wp2_with fail
   go_loopw [5, 7] (fun bv j wq => ∃ (i : Nat) (acc : List (List UInt8)), i ≤ ps.length ∧ j = .int .i64 i ∧ Hid (acc.length ≤ ps.length + 1 + i) ∧ Hid (Ssl wq w.heap.size bv acc) ∧ Hid (Fr w wq) ∧ Hid (acc = base ++ (ps.take i).filter (fun x => decide (s < x)))) (fun _ j _ => ps.length - (intOf j).toNat)
   case atStart => exact ⟨0, base, by omega, rfl, Lib.hid (by omega), HS9, HF9, Lib.hid (by simp)⟩
   case round =>
    obtain ⟨i, acc, hi, rfl, hal, hS, hF, hA⟩ := hrel
    by_cases hlt : i < ps.length
    ·have hlt' : (i : Int) < (ps.length : Int) := by omega
     obtain ⟨b, o, rfl, hb, hc⟩ := (H.out.keep hF.out) (fun e => by subst e; simp at hlt)
     have c0 := hc i hlt
     have hnx := Srt.fl_take (P := fun x => decide (s < x)) hlt
     obtain ⟨x, hx⟩ : ∃ x, ps[i] = x := ⟨_, rfl⟩
     rw [hx] at c0 hnx
     have hal2 := hal.out
     have hk : (acc.length + 1) * 16 ≤ 140737488355328 := by omega
     obtain ⟨cb, hcb⟩ : ∃ cb, decide (s < x) = cb := ⟨_, rfl⟩
     have hbl : (Op.bytesLess x s || x == s) = !cb := by rw [← hcb]; exact Srt.geq x s
     rw [hcb] at hnx
     have HNX := Lib.hid hnx
     clear hnx hx hcb hb hc
     cases cb
     ·go_wp2_with fail
      exact ⟨⟨i + 1, acc, by omega, by go_num, Lib.hid (by omega), hS, hF, Lib.hid (by rw [HNX.out, hA.out]; simp)⟩, by simp [intOf]; omega⟩
     ·go_wp2_with (at_builtin; refine wpl_ss_lit rfl (.tmp 43) (.tmp 48) rfl w hF.out _ acc rfl hS.out [x] rfl rfl rfl rfl rfl (by simpa using hk) ?_; intro v9 w9 hv9 hf9; have HS9 := Lib.hid hv9; have HF9 := Lib.hid hf9; clear hv9 hf9)
      exact ⟨⟨i + 1, acc ++ [x], by omega, by go_num, Lib.hid (by simp; omega), HS9, HF9, Lib.hid (by rw [HNX.out, hA.out]; simp)⟩, by simp [intOf]; omega⟩
    ·obtain rfl : i = ps.length := by omega
     have hA2 : acc = Srt.put ps s := by rw [hA.out, HBS.out, List.take_length]; rfl
     have HA2 := Lib.hid hA2
     clear hA2
     go_wp2_with fail
     go_ret
     exact ⟨⟨_, rfl, by rw [← HA2.out]; exact hS.out⟩, hF.out⟩
/- Chapter 15: the document's May. -/

theorem rmay_is (nm : List UInt8) (u : JV) (C : Option Addr) (f : Nat) (C' : Option Addr) (f' : Nat) (w : World) (hs : u.tx.length ≤ 140737488355328) :
  Calls Tryz.prog 20 #[.string ⟨nm.toArray⟩, .agg #[.int .i64 u.kd, .int .i64 u.nm, .string ⟨u.tx.toArray⟩, .slice C u.ls.length f, .slice C' u.ms.length f']] w fun e w' => e = .returned (.bool (Bk.may nm u)) ∧ Fr w w' := by
 by_cases e0 : nm = Bk.nDesc
 ·have q0 : (nm == ([100, 101, 115, 99, 114, 105, 112, 116, 105, 111, 110] : List UInt8)) = true := beq_iff_eq.2 e0
  have q1 : (nm == ([105, 115, 83, 117, 98, 115, 99, 114, 105, 98, 101, 100] : List UInt8)) = false := by rw [e0]; rfl
  have q2 : (nm == ([110, 97, 109, 101] : List UInt8)) = false := by rw [e0]; rfl
  have q3 : (nm == ([115, 111, 114, 116, 79, 114, 100, 101, 114] : List UInt8)) = false := by rw [e0]; rfl
  have HM : Hid (Bk.may nm u = (u.kd == 1 || (u.kd == 4 && decide (u.tx.length ≤ 1024)))) := Lib.hid (by unfold Bk.may; rw [if_pos e0])
  by_cases k1 : u.kd = 1
  ·have p1 : (u.kd == 1) = true := by rw [k1]; rfl
   have HB : Hid (true = Bk.may nm u) := Lib.hid (by rw [HM.out]; simp [p1])
   clear HM
   try clear e0
   try clear e1
   try clear e2
   try clear e3
   go_enter Tryz.func20, Tryz.ntmps20
   simp only [List.append_eq, List.cons_append, List.nil_append]
   go_wp2_with fail
   go_ret
   exact ⟨by rw [← HB.out]; rfl, (Fr.refl w).alloc _⟩
  ·have p1 : (u.kd == 1) = false := (ikind k1).1
   by_cases k4 : u.kd = 4
   ·have p4 : (u.kd == 4) = true := by rw [k4]; rfl
    by_cases l1 : u.tx.length ≤ 1024
    ·have i1 : (u.tx.length : Int) ≤ 1024 := by omega
     have HB : Hid (true = Bk.may nm u) := Lib.hid (by rw [HM.out]; simp [p4, p1, l1])
     clear HM
     try clear e0
     try clear e1
     try clear e2
     try clear e3
     go_enter Tryz.func20, Tryz.ntmps20
     simp only [List.append_eq, List.cons_append, List.nil_append]
     go_wp2_with fail
     go_ret
     exact ⟨by rw [← HB.out]; rfl, (Fr.refl w).alloc _⟩
    ·have i1 : ¬ ((u.tx.length : Int) ≤ 1024) := by omega
     have HB : Hid (false = Bk.may nm u) := Lib.hid (by rw [HM.out]; simp [p4, p1, l1])
     clear HM
     try clear e0
     try clear e1
     try clear e2
     try clear e3
     go_enter Tryz.func20, Tryz.ntmps20
     simp only [List.append_eq, List.cons_append, List.nil_append]
     go_wp2_with fail
     go_ret
     exact ⟨by rw [← HB.out]; rfl, (Fr.refl w).alloc _⟩
   ·have p4 : (u.kd == 4) = false := (ikind k4).1
    have HB : Hid (false = Bk.may nm u) := Lib.hid (by rw [HM.out]; simp [p1, p4])
    clear HM
    try clear e0
    try clear e1
    try clear e2
    try clear e3
    go_enter Tryz.func20, Tryz.ntmps20
    simp only [List.append_eq, List.cons_append, List.nil_append]
    go_wp2_with fail
    go_ret
    exact ⟨by rw [← HB.out]; rfl, (Fr.refl w).alloc _⟩
 ·have q0 : (nm == ([100, 101, 115, 99, 114, 105, 112, 116, 105, 111, 110] : List UInt8)) = false := beq_eq_false_iff_ne.2 e0
  by_cases e1 : nm = Bk.nSub
  ·have q1 : (nm == ([105, 115, 83, 117, 98, 115, 99, 114, 105, 98, 101, 100] : List UInt8)) = true := beq_iff_eq.2 e1
   have q2 : (nm == ([110, 97, 109, 101] : List UInt8)) = false := by rw [e1]; rfl
   have q3 : (nm == ([115, 111, 114, 116, 79, 114, 100, 101, 114] : List UInt8)) = false := by rw [e1]; rfl
   have HM : Hid (Bk.may nm u = (u.kd == 2)) := Lib.hid (by unfold Bk.may; rw [if_neg e0, if_pos e1])
   by_cases k2 : u.kd = 2
   ·have p2 : (u.kd == 2) = true := by rw [k2]; rfl
    have HB : Hid (true = Bk.may nm u) := Lib.hid (by rw [HM.out]; simp [p2])
    clear HM
    try clear e0
    try clear e1
    try clear e2
    try clear e3
    go_enter Tryz.func20, Tryz.ntmps20
    simp only [List.append_eq, List.cons_append, List.nil_append]
    go_wp2_with fail
    go_ret
    exact ⟨by rw [← HB.out]; rfl, (Fr.refl w).alloc _⟩
   ·have p2 : (u.kd == 2) = false := (ikind k2).1
    have HB : Hid (false = Bk.may nm u) := Lib.hid (by rw [HM.out]; simp [p2])
    clear HM
    try clear e0
    try clear e1
    try clear e2
    try clear e3
    go_enter Tryz.func20, Tryz.ntmps20
    simp only [List.append_eq, List.cons_append, List.nil_append]
    go_wp2_with fail
    go_ret
    exact ⟨by rw [← HB.out]; rfl, (Fr.refl w).alloc _⟩
  ·have q1 : (nm == ([105, 115, 83, 117, 98, 115, 99, 114, 105, 98, 101, 100] : List UInt8)) = false := beq_eq_false_iff_ne.2 e1
   by_cases e2 : nm = Bk.nName
   ·have q2 : (nm == ([110, 97, 109, 101] : List UInt8)) = true := beq_iff_eq.2 e2
    have q3 : (nm == ([115, 111, 114, 116, 79, 114, 100, 101, 114] : List UInt8)) = false := by rw [e2]; rfl
    have HM : Hid (Bk.may nm u = (u.kd == 4 && (decide (1 ≤ u.tx.length) && decide (u.tx.length ≤ 255)))) := Lib.hid (by unfold Bk.may; rw [if_neg e0, if_neg e1, if_pos e2])
    by_cases k4 : u.kd = 4
    ·have p4 : (u.kd == 4) = true := by rw [k4]; rfl
     by_cases l1 : 1 ≤ u.tx.length
     ·have i1 : 1 ≤ (u.tx.length : Int) := by omega
      by_cases l2 : u.tx.length ≤ 255
      ·have i2 : (u.tx.length : Int) ≤ 255 := by omega
       have HB : Hid (true = Bk.may nm u) := Lib.hid (by rw [HM.out]; simp [p4, l1, l2])
       clear HM
       try clear e0
       try clear e1
       try clear e2
       try clear e3
       go_enter Tryz.func20, Tryz.ntmps20
       simp only [List.append_eq, List.cons_append, List.nil_append]
       go_wp2_with fail
       go_ret
       exact ⟨by rw [← HB.out]; rfl, (Fr.refl w).alloc _⟩
      ·have i2 : ¬ ((u.tx.length : Int) ≤ 255) := by omega
       have HB : Hid (false = Bk.may nm u) := Lib.hid (by rw [HM.out]; simp [p4, l1, l2])
       clear HM
       try clear e0
       try clear e1
       try clear e2
       try clear e3
       go_enter Tryz.func20, Tryz.ntmps20
       simp only [List.append_eq, List.cons_append, List.nil_append]
       go_wp2_with fail
       go_ret
       exact ⟨by rw [← HB.out]; rfl, (Fr.refl w).alloc _⟩
     ·have i1 : ¬ (1 ≤ (u.tx.length : Int)) := by omega
      have HB : Hid (false = Bk.may nm u) := Lib.hid (by rw [HM.out]; simp [p4, l1])
      clear HM
      try clear e0
      try clear e1
      try clear e2
      try clear e3
      go_enter Tryz.func20, Tryz.ntmps20
      simp only [List.append_eq, List.cons_append, List.nil_append]
      go_wp2_with fail
      go_ret
      exact ⟨by rw [← HB.out]; rfl, (Fr.refl w).alloc _⟩
    ·have p4 : (u.kd == 4) = false := (ikind k4).1
     have HB : Hid (false = Bk.may nm u) := Lib.hid (by rw [HM.out]; simp [p4])
     clear HM
     try clear e0
     try clear e1
     try clear e2
     try clear e3
     go_enter Tryz.func20, Tryz.ntmps20
     simp only [List.append_eq, List.cons_append, List.nil_append]
     go_wp2_with fail
     go_ret
     exact ⟨by rw [← HB.out]; rfl, (Fr.refl w).alloc _⟩
   ·have q2 : (nm == ([110, 97, 109, 101] : List UInt8)) = false := beq_eq_false_iff_ne.2 e2
    by_cases e3 : nm = Bk.nSort
    ·have q3 : (nm == ([115, 111, 114, 116, 79, 114, 100, 101, 114] : List UInt8)) = true := beq_iff_eq.2 e3
     have HM : Hid (Bk.may nm u = (u.kd == 3 && (decide (0 ≤ u.nm) && decide (u.nm ≤ 2147483647)))) := Lib.hid (by unfold Bk.may; rw [if_neg e0, if_neg e1, if_neg e2, if_pos e3])
     by_cases k3 : u.kd = 3
     ·have p3 : (u.kd == 3) = true := by rw [k3]; rfl
      by_cases l1 : 0 ≤ u.nm
      ·have i1 : 0 ≤ u.nm := by omega
       by_cases l2 : u.nm ≤ 2147483647
       ·have i2 : u.nm ≤ 2147483647 := by omega
        have HB : Hid (true = Bk.may nm u) := Lib.hid (by rw [HM.out]; simp [p3, l1, l2])
        clear HM
        try clear e0
        try clear e1
        try clear e2
        try clear e3
        go_enter Tryz.func20, Tryz.ntmps20
        simp only [List.append_eq, List.cons_append, List.nil_append]
        go_wp2_with fail
        go_ret
        exact ⟨by rw [← HB.out]; rfl, (Fr.refl w).alloc _⟩
       ·have i2 : ¬ (u.nm ≤ 2147483647) := by omega
        have HB : Hid (false = Bk.may nm u) := Lib.hid (by rw [HM.out]; simp [p3, l1, l2])
        clear HM
        try clear e0
        try clear e1
        try clear e2
        try clear e3
        go_enter Tryz.func20, Tryz.ntmps20
        simp only [List.append_eq, List.cons_append, List.nil_append]
        go_wp2_with fail
        go_ret
        exact ⟨by rw [← HB.out]; rfl, (Fr.refl w).alloc _⟩
      ·have i1 : ¬ (0 ≤ u.nm) := by omega
       have HB : Hid (false = Bk.may nm u) := Lib.hid (by rw [HM.out]; simp [p3, l1])
       clear HM
       try clear e0
       try clear e1
       try clear e2
       try clear e3
       go_enter Tryz.func20, Tryz.ntmps20
       simp only [List.append_eq, List.cons_append, List.nil_append]
       go_wp2_with fail
       go_ret
       exact ⟨by rw [← HB.out]; rfl, (Fr.refl w).alloc _⟩
     ·have p3 : (u.kd == 3) = false := (ikind k3).1
      have HB : Hid (false = Bk.may nm u) := Lib.hid (by rw [HM.out]; simp [p3])
      clear HM
      try clear e0
      try clear e1
      try clear e2
      try clear e3
      go_enter Tryz.func20, Tryz.ntmps20
      simp only [List.append_eq, List.cons_append, List.nil_append]
      go_wp2_with fail
      go_ret
      exact ⟨by rw [← HB.out]; rfl, (Fr.refl w).alloc _⟩
    ·have q3 : (nm == ([115, 111, 114, 116, 79, 114, 100, 101, 114] : List UInt8)) = false := beq_eq_false_iff_ne.2 e3
     have HM : Hid (Bk.may nm u = false) := Lib.hid (by unfold Bk.may; rw [if_neg e0, if_neg e1, if_neg e2, if_neg e3])
     have HB : Hid (false = Bk.may nm u) := Lib.hid (by rw [HM.out])
     clear HM
     try clear e0
     try clear e1
     try clear e2
     try clear e3
     go_enter Tryz.func20, Tryz.ntmps20
     simp only [List.append_eq, List.cons_append, List.nil_append]
     go_wp2_with fail
     go_ret
     exact ⟨by rw [← HB.out]; rfl, (Fr.refl w).alloc _⟩
/- Chapter 15: the document's Check. -/

theorem Srt.put_len (l : List (List UInt8)) (s : List UInt8) : (Srt.put l s).length ≤ l.length + 1 := by
 unfold Srt.put
 have h : ∀ l : List (List UInt8), (l.filter (fun x => decide (x < s))).length + (l.filter (fun x => decide (s < x))).length ≤ l.length := by
  intro l
  induction l with
  | nil => simp
  | cons x l ih =>
   rcases Srt.tri x s with h | h | h
   ·have h2 : ¬ s < x := fun k => List.lt_irrefl _ (List.lt_trans h k)
    rw [List.filter_cons_of_pos (by simp [h]), List.filter_cons_of_neg (by simp [h2])]; simp only [List.length_cons]; omega
   ·subst h
    rw [List.filter_cons_of_neg (by simp [List.lt_irrefl]), List.filter_cons_of_neg (by simp [List.lt_irrefl])]; simp only [List.length_cons]; omega
   ·have h2 : ¬ x < s := fun k => List.lt_irrefl _ (List.lt_trans h k)
    rw [List.filter_cons_of_neg (by simp [h2]), List.filter_cons_of_pos (by simp [h])]; simp only [List.length_cons]; omega
 simp only [List.length_append, List.length_singleton]
 exact Nat.le_trans (Nat.le_of_eq (Nat.add_right_comm _ _ _)) (Nat.succ_le_succ (h l))
theorem rcheck15_is (v : JV) (B : Option Addr) (d : Nat) (B' : Option Addr) (d' : Nat) (w : World) (Z : Nat) (hZ : Z ≤ w.heap.size) (h : InV w (Lo Z) v (vA v B d B' d')) (hn : v.ms.length ≤ 1048575) :
  Calls Tryz.prog 12 #[.agg #[.int .i64 v.kd, .int .i64 v.nm, .string ⟨v.tx.toArray⟩, .slice B v.ls.length d, .slice B' v.ms.length d']] w fun e w' => (∃ A c, e = .returned (.slice A (Bk.wrong v).length c) ∧ PsC w' A (Bk.wrong v)) ∧ Fr w w' := by
 have H := Lib.hid h
 obtain ⟨A, c, A', c', he, _, hms⟩ := h.open_
 have hA : B' = A' := by obtain ⟨_, _, _, _, e4⟩ := five he; injection e4
 subst hA
 have HMS := Lib.hid hms
 have hM' : (v.ms.length : Int) ≤ 1048575 := by omega
 obtain ⟨bn, hbn⟩ : ∃ b, (Pt.get v Bk.nName).isSome = b := ⟨_, rfl⟩
 have HHS : Hid (∀ W, Fr w W → Calls Tryz.prog 30 #[.agg #[.int .i64 v.kd, .int .i64 v.nm, .string ⟨v.tx.toArray⟩, .slice B v.ls.length d, .slice B' v.ms.length d'], .string ⟨#[110, 97, 109, 101]⟩] W fun e w' => e = .returned (.bool bn) ∧ Fr W w') := Lib.hid (fun W hW => by rw [← hbn]; exact has7_is v B d B' d' Bk.nName W Z (Nat.le_trans hZ hW.size) (H.out.keep hZ hW))
 clear h he hms
 have HPN : Hid (∀ W A c acc, PsC W A acc → acc.length ≤ 1048576 → Calls Tryz.prog 29 #[.slice A acc.length c, .string ⟨#[110, 97, 109, 101]⟩] W fun e w' => (∃ A' c', e = .returned (.slice A' (Srt.put acc Bk.nName).length c') ∧ PsC w' A' (Srt.put acc Bk.nName)) ∧ Fr W w') := Lib.hid (fun W A c acc h hl => (put14_is acc A c Bk.nName W h hl).mono (by rintro e w' ⟨⟨v', rfl, hs⟩, hf⟩; obtain ⟨A', c', rfl, hp⟩ := hs.shows; exact ⟨⟨A', c', rfl, hp⟩, hf⟩))
 by_cases h6 : v.kd = 6
 ·have q6 : (v.kd == 6) = true := by rw [h6]; rfl
  have HW : Hid (Bk.wrong v = if bn then Srt.puts (Bk.badM v.ms) else Srt.put (Srt.puts (Bk.badM v.ms)) Bk.nName) := Lib.hid (by
   unfold Bk.wrong Bk.names
   rw [if_pos h6, hbn]
   cases bn
   ·rw [if_neg (by simp), if_neg (by simp), Srt.puts_app]
   ·rw [if_pos rfl, if_pos rfl, List.append_nil])
  clear h6 hbn
  go_enter Tryz.func12, Tryz.ntmps12
  go_upto_region 1 with fail
  have hb0 := Blk.made w #[.int .i64 v.kd, .int .i64 v.nm, .string ⟨v.tx.toArray⟩, .slice B v.ls.length d, .slice B' v.ms.length d'] 25
  have hf0 : Fr w (w.alloc (.cells #[.int .i64 v.kd, .int .i64 v.nm, .string ⟨v.tx.toArray⟩, .slice B v.ls.length d, .slice B' v.ms.length d'] 25)) := (Fr.refl w).alloc _
  generalize (w.alloc (.cells #[.int .i64 v.kd, .int .i64 v.nm, .string ⟨v.tx.toArray⟩, .slice B v.ls.length d, .slice B' v.ms.length d'] 25)) = W0 at hb0 hf0 ⊢
  obtain ⟨X1, hX⟩ : ∃ X, w.heap.size = X := ⟨_, rfl⟩
  rw [hX] at hb0 ⊢
  clear hX
  have HB0 := Lib.hid hb0
  have HF0 := Lib.hid hf0
  clear hb0 hf0
  go_wp2_with fail
  go_loopw [3, 4] (fun bv j wr => ∃ (i : Nat) (acc : List (List UInt8)) (A : Option Addr) (c : Nat), i ≤ v.ms.length ∧ bv = .slice A acc.length c ∧ j = .int .i64 i ∧ Hid (acc.length ≤ i) ∧ Hid (PsC wr A acc) ∧ Hid (Fr W0 wr) ∧ Hid (acc = Srt.puts (Bk.badM (v.ms.take i)))) (fun _ j _ => v.ms.length - (intOf j).toNat)
  case atStart => exact ⟨0, [], none, 0, by omega, rfl, rfl, Lib.hid (by simp), Lib.hid (fun h => absurd rfl h), Lib.hid (Fr.refl W0), Lib.hid rfl⟩
  case round =>
   obtain ⟨i, acc, A3, c3, hi, rfl, rfl, hal, hP, hF, hA⟩ := hrel
   obtain ⟨⟨y0, y1, y2, y3, y4⟩, _⟩ := box5 (HB0.out.keep hF.out)
   by_cases hlt : i < v.ms.length
   ·have hlt' : (i : Int) < (v.ms.length : Int) := by omega
    obtain ⟨b5, o5, E, e, E', e', rfl, hbb, hnl, c0, ⟨c1, c2, c3', c4, c5⟩, hiv⟩ := (HMS.out.keep hZ (HF0.out.trans hF.out)) i hlt
    have hnx := Bk.badM_take hlt
    obtain ⟨pu, hpu⟩ : ∃ pu, v.ms[i] = pu := ⟨_, rfl⟩
    rw [hpu] at c0 c1 c2 c3' c4 c5 hiv hnl hnx
    obtain ⟨nm, u⟩ := pu
    simp only at c0 c1 c2 c3' c4 c5 hiv hnl hnx
    have hux := hiv.facts.2.2.1
    have hbw : b5 < wr.heap.size := by have := (HF0.out.trans hF.out).size; have : b5 < Z := hbb; omega
    obtain ⟨mb, hmb⟩ : ∃ b, Bk.may nm u = b := ⟨_, rfl⟩
    have HMY : Hid (∀ W, Calls Tryz.prog 20 #[.string ⟨nm.toArray⟩, .agg #[.int .i64 u.kd, .int .i64 u.nm, .string ⟨u.tx.toArray⟩, .slice E u.ls.length e, .slice E' u.ms.length e']] W fun e w' => e = .returned (.bool mb) ∧ Fr W w') := Lib.hid (fun W => by rw [← hmb]; exact rmay_is nm u E e E' e' W hux)
    have hx1 := HB0.out.keep hF.out
    have HSW : Hid (∀ W, Fr wr W → W.cell? ⟨X1, 4, none⟩ = some (.slice (some ⟨b5, o5, none⟩) v.ms.length d') ∧ W.cell? ⟨b5, o5 + i * 6, none⟩ = some (.string ⟨nm.toArray⟩) ∧ W.cell? ⟨b5, o5 + i * 6 + 1, none⟩ = some (.int .i64 u.kd) ∧ W.cell? ⟨b5, o5 + i * 6 + 1 + 1, none⟩ = some (.int .i64 u.nm) ∧ W.cell? ⟨b5, o5 + i * 6 + 1 + 2, none⟩ = some (.string ⟨u.tx.toArray⟩) ∧ W.cell? ⟨b5, o5 + i * 6 + 1 + 3, none⟩ = some (.slice E u.ls.length e) ∧ W.cell? ⟨b5, o5 + i * 6 + 1 + 4, none⟩ = some (.slice E' u.ms.length e')) := Lib.hid (fun W hW => by
     have a := hx1.keep hW
     have k : ∀ o, W.cell? ⟨b5, o, none⟩ = wr.cell? ⟨b5, o, none⟩ := fun o => hW.cell hbw
     exact ⟨a.cell 4, (k _).trans c0, (k _).trans c1, (k _).trans c2, (k _).trans c3', (k _).trans c4, (k _).trans c5⟩)
    rw [hmb] at hnx
    have HNX := Lib.hid hnx
    have hal2 := hal.out
    have HPU : Hid (∀ W, Fr wr W → Calls Tryz.prog 29 #[.slice A3 acc.length c3, .string ⟨nm.toArray⟩] W fun e w' => (∃ A' c', e = .returned (.slice A' (Srt.put acc nm).length c') ∧ PsC w' A' (Srt.put acc nm)) ∧ Fr W w') := Lib.hid (fun W hW => (put14_is acc A3 c3 nm W (hP.out.keep hW) (by omega)).mono (by rintro e w' ⟨⟨v', rfl, hs⟩, hf⟩; obtain ⟨A', c', rfl, hp⟩ := hs.shows; exact ⟨⟨A', c', rfl, hp⟩, hf⟩))
    clear hnx hmb hpu hiv hux hbb hnl c0 c1 c2 c3' c4 c5 hx1
    cases mb
    ·go_upto_region 5 with fail
     refine wp_region_held_drew (S := (fun W => W.cell? ⟨X1, 4, none⟩ = some (.slice (some ⟨b5, o5, none⟩) v.ms.length d') ∧ W.cell? ⟨b5, o5 + i * 6, none⟩ = some (.string ⟨nm.toArray⟩) ∧ W.cell? ⟨b5, o5 + i * 6 + 1, none⟩ = some (.int .i64 u.kd) ∧ W.cell? ⟨b5, o5 + i * 6 + 1 + 1, none⟩ = some (.int .i64 u.nm) ∧ W.cell? ⟨b5, o5 + i * 6 + 1 + 2, none⟩ = some (.string ⟨u.tx.toArray⟩) ∧ W.cell? ⟨b5, o5 + i * 6 + 1 + 3, none⟩ = some (.slice E u.ls.length e) ∧ W.cell? ⟨b5, o5 + i * 6 + 1 + 4, none⟩ = some (.slice E' u.ms.length e'))) (by kernel_rfl) ?_ (fun hHeld => ?_)
     ·exact HSW.out _ (Fr.refl _).drew
     refine tk (i := 0) (v := ?_) rfl ⟨by rfl, ?_⟩ hHeld ?_
     rotate_left
     ·(intro w' hSw; (try dsimp only at hSw); go_simp; try with_reducible rfl)
     try simp only [Act.put, fl]
     refine tk (i := 1) (v := ?_) rfl ⟨by rfl, ?_⟩ hHeld ?_
     rotate_left
     ·(intro w' hSw; (try dsimp only at hSw); go_simp; try with_reducible rfl)
     try simp only [Act.put, fl]
     refine tk (i := 2) (v := ?_) rfl ⟨by rfl, ?_⟩ hHeld ?_
     rotate_left
     ·(intro w' hSw; (try dsimp only at hSw); go_simp; try with_reducible rfl)
     try simp only [Act.put, fl]
     refine tk (i := 3) (v := ?_) rfl ⟨by rfl, ?_⟩ hHeld ?_
     rotate_left
     ·(intro w' hSw; (try dsimp only at hSw); go_simp; try with_reducible rfl)
     try simp only [Act.put, fl]
     refine tk (i := 4) (v := ?_) rfl ⟨by rfl, ?_⟩ hHeld ?_
     rotate_left
     ·(intro w' hSw; (try dsimp only at hSw); go_simp; try with_reducible rfl)
     try simp only [Act.put, fl]
     refine tk (i := 5) (v := ?_) rfl ⟨by rfl, ?_⟩ hHeld ?_
     rotate_left
     ·(intro w' hSw; (try dsimp only at hSw); go_simp; try with_reducible rfl)
     try simp only [Act.put, fl]
     refine tk (i := 6) (v := ?_) rfl ⟨by rfl, ?_⟩ hHeld ?_
     rotate_left
     ·(intro w' hSw; (try dsimp only at hSw); go_simp; try with_reducible rfl)
     try simp only [Act.put, fl]
     refine tk (i := 7) (v := ?_) rfl ⟨by rfl, ?_⟩ hHeld ?_
     rotate_left
     ·(intro w' hSw; (try dsimp only at hSw); go_simp; try with_reducible rfl)
     try simp only [Act.put, fl]
     refine tk (i := 8) (v := ?_) rfl ⟨by rfl, ?_⟩ hHeld ?_
     rotate_left
     ·(intro w' hSw; (try dsimp only at hSw); go_simp; try with_reducible rfl)
     try simp only [Act.put, fl]
     refine tk (i := 9) (v := ?_) rfl ⟨by rfl, ?_⟩ hHeld ?_
     rotate_left
     ·(intro w' hSw; (try dsimp only at hSw); go_simp; try with_reducible rfl)
     try simp only [Act.put, fl]
     refine tk (i := 10) (v := ?_) rfl ⟨by rfl, ?_⟩ hHeld ?_
     rotate_left
     ·(intro w' hSw; (try dsimp only at hSw); go_simp; try with_reducible rfl)
     try simp only [Act.put, fl]
     refine tk (i := 11) (v := ?_) rfl ⟨by rfl, ?_⟩ hHeld ?_
     rotate_left
     ·(intro w' hSw; (try dsimp only at hSw); go_simp; try with_reducible rfl)
     try simp only [Act.put, fl]
     refine wpAnyH_ready (rs := [12]) (by kernel_rfl) (by simp) ?_
     refine AllReadyH.cons rfl (fun K hK => ?_) AllReadyH.nil
     go_simp
     (go_at_call 20; refine (HMY.out _).mono ?_; rintro e w8 ⟨rfl, hf8⟩; have HF8 : Hid (Fr wr w8) := Lib.hid ((Fr.refl wr).drew.trans hf8); clear hf8)
     try (refine hK.out _ _ ?_ (fun hHeld2 => ?_))
     ·exact HSW.out _ HF8.out
     clear hK K
     try simp only [Act.put, fl]
     refine tk (i := 13) (v := ?_) rfl ⟨by rfl, ?_⟩ hHeld2 ?_
     rotate_left
     ·(intro w' hSw; (try dsimp only at hSw); go_simp; try with_reducible rfl)
     try simp only [Act.put, fl]
     refine wpAnyH_done (by kernel_rfl) ?_ _
     clear y0 y1 y2 y3 y4 hHeld hHeld2
     obtain ⟨m4, m0, m1, m2, m3, m5, m6⟩ := HSW.out _ HF8.out
     go_wp2_with (go_at_call 29; refine (HPU.out _ HF8.out).mono ?_; rintro e w9 ⟨⟨A9, c9, rfl, hp⟩, hf⟩; have HP9 := Lib.hid hp; have HF9 := Lib.hid ((hF.out.trans HF8.out).trans hf); clear hf hp)
     exact ⟨⟨i + 1, Srt.put acc nm, A9, c9, by omega, rfl, by go_num, Lib.hid (by have := Srt.put_len acc nm; omega), HP9, HF9, Lib.hid (by rw [HNX.out, if_neg (by simp), Srt.puts_app, hA.out])⟩, by simp [intOf]; omega⟩
    ·go_upto_region 5 with fail
     refine wp_region_held_drew (S := (fun W => W.cell? ⟨X1, 4, none⟩ = some (.slice (some ⟨b5, o5, none⟩) v.ms.length d') ∧ W.cell? ⟨b5, o5 + i * 6, none⟩ = some (.string ⟨nm.toArray⟩) ∧ W.cell? ⟨b5, o5 + i * 6 + 1, none⟩ = some (.int .i64 u.kd) ∧ W.cell? ⟨b5, o5 + i * 6 + 1 + 1, none⟩ = some (.int .i64 u.nm) ∧ W.cell? ⟨b5, o5 + i * 6 + 1 + 2, none⟩ = some (.string ⟨u.tx.toArray⟩) ∧ W.cell? ⟨b5, o5 + i * 6 + 1 + 3, none⟩ = some (.slice E u.ls.length e) ∧ W.cell? ⟨b5, o5 + i * 6 + 1 + 4, none⟩ = some (.slice E' u.ms.length e'))) (by kernel_rfl) ?_ (fun hHeld => ?_)
     ·exact HSW.out _ (Fr.refl _).drew
     refine tk (i := 0) (v := ?_) rfl ⟨by rfl, ?_⟩ hHeld ?_
     rotate_left
     ·(intro w' hSw; (try dsimp only at hSw); go_simp; try with_reducible rfl)
     try simp only [Act.put, fl]
     refine tk (i := 1) (v := ?_) rfl ⟨by rfl, ?_⟩ hHeld ?_
     rotate_left
     ·(intro w' hSw; (try dsimp only at hSw); go_simp; try with_reducible rfl)
     try simp only [Act.put, fl]
     refine tk (i := 2) (v := ?_) rfl ⟨by rfl, ?_⟩ hHeld ?_
     rotate_left
     ·(intro w' hSw; (try dsimp only at hSw); go_simp; try with_reducible rfl)
     try simp only [Act.put, fl]
     refine tk (i := 3) (v := ?_) rfl ⟨by rfl, ?_⟩ hHeld ?_
     rotate_left
     ·(intro w' hSw; (try dsimp only at hSw); go_simp; try with_reducible rfl)
     try simp only [Act.put, fl]
     refine tk (i := 4) (v := ?_) rfl ⟨by rfl, ?_⟩ hHeld ?_
     rotate_left
     ·(intro w' hSw; (try dsimp only at hSw); go_simp; try with_reducible rfl)
     try simp only [Act.put, fl]
     refine tk (i := 5) (v := ?_) rfl ⟨by rfl, ?_⟩ hHeld ?_
     rotate_left
     ·(intro w' hSw; (try dsimp only at hSw); go_simp; try with_reducible rfl)
     try simp only [Act.put, fl]
     refine tk (i := 6) (v := ?_) rfl ⟨by rfl, ?_⟩ hHeld ?_
     rotate_left
     ·(intro w' hSw; (try dsimp only at hSw); go_simp; try with_reducible rfl)
     try simp only [Act.put, fl]
     refine tk (i := 7) (v := ?_) rfl ⟨by rfl, ?_⟩ hHeld ?_
     rotate_left
     ·(intro w' hSw; (try dsimp only at hSw); go_simp; try with_reducible rfl)
     try simp only [Act.put, fl]
     refine tk (i := 8) (v := ?_) rfl ⟨by rfl, ?_⟩ hHeld ?_
     rotate_left
     ·(intro w' hSw; (try dsimp only at hSw); go_simp; try with_reducible rfl)
     try simp only [Act.put, fl]
     refine tk (i := 9) (v := ?_) rfl ⟨by rfl, ?_⟩ hHeld ?_
     rotate_left
     ·(intro w' hSw; (try dsimp only at hSw); go_simp; try with_reducible rfl)
     try simp only [Act.put, fl]
     refine tk (i := 10) (v := ?_) rfl ⟨by rfl, ?_⟩ hHeld ?_
     rotate_left
     ·(intro w' hSw; (try dsimp only at hSw); go_simp; try with_reducible rfl)
     try simp only [Act.put, fl]
     refine tk (i := 11) (v := ?_) rfl ⟨by rfl, ?_⟩ hHeld ?_
     rotate_left
     ·(intro w' hSw; (try dsimp only at hSw); go_simp; try with_reducible rfl)
     try simp only [Act.put, fl]
     refine wpAnyH_ready (rs := [12]) (by kernel_rfl) (by simp) ?_
     refine AllReadyH.cons rfl (fun K hK => ?_) AllReadyH.nil
     go_simp
     (go_at_call 20; refine (HMY.out _).mono ?_; rintro e w8 ⟨rfl, hf8⟩; have HF8 : Hid (Fr wr w8) := Lib.hid ((Fr.refl wr).drew.trans hf8); clear hf8)
     try (refine hK.out _ _ ?_ (fun hHeld2 => ?_))
     ·exact HSW.out _ HF8.out
     clear hK K
     try simp only [Act.put, fl]
     refine tk (i := 13) (v := ?_) rfl ⟨by rfl, ?_⟩ hHeld2 ?_
     rotate_left
     ·(intro w' hSw; (try dsimp only at hSw); go_simp; try with_reducible rfl)
     try simp only [Act.put, fl]
     refine wpAnyH_done (by kernel_rfl) ?_ _
     clear y0 y1 y2 y3 y4 hHeld hHeld2
     go_wp2_with fail
     exact ⟨⟨i + 1, acc, A3, c3, by omega, rfl, by go_num, Lib.hid (by omega), Lib.hid (hP.out.keep HF8.out), Lib.hid (hF.out.trans HF8.out), Lib.hid (by rw [HNX.out, if_pos rfl, List.append_nil, hA.out])⟩, by simp [intOf]; omega⟩
   ·obtain rfl : i = v.ms.length := by omega
    have hac : acc = Srt.puts (Bk.badM v.ms) := by rw [hA.out, List.take_length]
    rw [← hac] at HW
    have hal2 := hal.out
    clear hA hac
    cases bn
    ·go_wp2_with (first
      | (go_at_call 29; have hq := HF1.out; refine (HPN.out _ _ _ _ (hP.out.keep hq) (by omega)).mono ?_; rintro e w9 ⟨⟨A9, c9, rfl, hp⟩, hf⟩; have HP9 := Lib.hid hp; have HF9 := Lib.hid ((HF0.out.trans hF.out).trans (hq.trans hf)); clear hf hp hq)
      | (go_at_call 30; refine (HHS.out _ (HF0.out.trans hF.out)).mono ?_; rintro e w1 ⟨rfl, hf⟩; have HF1 := Lib.hid hf; clear hf))
     go_ret
     rw [HW.out]
     exact ⟨⟨A9, c9, rfl, HP9.out⟩, HF9.out⟩
    ·go_wp2_with (go_at_call 30; refine (HHS.out _ (HF0.out.trans hF.out)).mono ?_; rintro e w1 ⟨rfl, hf⟩; have HF1 := Lib.hid hf; clear hf)
     go_ret
     rw [HW.out]
     exact ⟨⟨A3, c3, rfl, hP.out.keep HF1.out⟩, (HF0.out.trans hF.out).trans HF1.out⟩
 ·have q6 : (v.kd == 6) = false := (ikind h6).1
  have hbf : bn = false := by rw [← hbn]; unfold Pt.get; rw [if_neg h6]; rfl
  subst hbf
  have HW : Hid (Bk.wrong v = Srt.put [] Bk.nName) := Lib.hid (by
   unfold Bk.wrong Bk.names
   rw [hbn, if_neg h6]
   rfl)
  clear h6 hbn
  have HP0 : Hid (∀ W, Calls Tryz.prog 29 #[.slice none 0 0, .string ⟨#[110, 97, 109, 101]⟩] W fun e w' => (∃ A' c', e = .returned (.slice A' (Srt.put [] Bk.nName).length c') ∧ PsC w' A' (Srt.put [] Bk.nName)) ∧ Fr W w') := Lib.hid (fun W => HPN.out W none 0 [] (fun h => absurd rfl h) (by simp))
  clear HPN
  obtain ⟨pn, hpn⟩ : ∃ pn, Srt.put [] Bk.nName = pn := ⟨_, rfl⟩
  rw [hpn] at HP0 HW
  clear hpn
  go_enter Tryz.func12, Tryz.ntmps12
  go_upto_region 1 with fail
  have hb0 := Blk.made w #[.int .i64 v.kd, .int .i64 v.nm, .string ⟨v.tx.toArray⟩, .slice B v.ls.length d, .slice B' v.ms.length d'] 25
  have hf0 : Fr w (w.alloc (.cells #[.int .i64 v.kd, .int .i64 v.nm, .string ⟨v.tx.toArray⟩, .slice B v.ls.length d, .slice B' v.ms.length d'] 25)) := (Fr.refl w).alloc _
  generalize (w.alloc (.cells #[.int .i64 v.kd, .int .i64 v.nm, .string ⟨v.tx.toArray⟩, .slice B v.ls.length d, .slice B' v.ms.length d'] 25)) = W0 at hb0 hf0 ⊢
  obtain ⟨X1, hX⟩ : ∃ X, w.heap.size = X := ⟨_, rfl⟩
  rw [hX] at hb0 ⊢
  clear hX
  have HB0 := Lib.hid hb0
  have HF0 := Lib.hid hf0
  clear hb0 hf0
  go_wp2_with fail
  go_loopw [3, 4] (fun bv j wr => bv = .slice none 0 0 ∧ j = .int .i64 0 ∧ Hid (Fr W0 wr)) (fun _ _ _ => 0)
  case atStart => exact ⟨rfl, rfl, Lib.hid (Fr.refl W0)⟩
  case round =>
   obtain ⟨rfl, rfl, hF⟩ := hrel
   obtain ⟨⟨y0, y1, y2, y3, y4⟩, _⟩ := box5 (HB0.out.keep hF.out)
   by_cases hl : (0 : Int) < (v.ms.length : Int)
   all_goals (
    go_wp2_with (first
     | (go_at_call 29; have hq := HF1.out; refine (HP0.out _).mono ?_; rintro e w9 ⟨⟨A9, c9, rfl, hp⟩, hf⟩; have HP9 := Lib.hid hp; have HF9 := Lib.hid ((HF0.out.trans hF.out).trans (hq.trans hf)); clear hf hp hq)
     | (go_at_call 30; refine (HHS.out _ (HF0.out.trans hF.out)).mono ?_; rintro e w1 ⟨rfl, hf⟩; have HF1 := Lib.hid hf; clear hf))
    go_ret
    rw [HW.out]
    exact ⟨⟨A9, c9, rfl, HP9.out⟩, HF9.out⟩)
end Go.Proofs.YtgaiepficjiclaaGreatDoor
