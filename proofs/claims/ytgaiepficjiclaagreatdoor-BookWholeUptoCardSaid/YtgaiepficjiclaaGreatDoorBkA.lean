/- Chapter 15: book.may, book.usual. -/
import Derived.Test.YtgaiepficjiclaaGreatDoorBka
import Derived.Test.YtgaiepficjiclaaGreatDoorPta
namespace Go.Proofs.YtgaiepficjiclaaGreatDoor
set_option maxRecDepth 100000
set_option maxHeartbeats 2000000
set_option linter.unusedVariables false
set_option linter.unusedSimpArgs false
open Go.RowKit

theorem may_is (nm : List UInt8) (u : JV) (C : Option Addr) (f : Nat) (C' : Option Addr) (f' : Nat) (w : World) (hs : u.tx.length ≤ 140737488355328) :
  Calls Tryz.prog 26 #[.agg #[.string ⟨nm.toArray⟩, .int .i64 u.kd, .int .i64 u.nm, .string ⟨u.tx.toArray⟩, .slice C u.ls.length f, .slice C' u.ms.length f']] w fun e w' => e = .returned (.bool (Bk.may nm u)) ∧ Fr w w' := by
 by_cases e0 : nm = Bk.nDesc
 ·have q0 : (nm == ([100, 101, 115, 99, 114, 105, 112, 116, 105, 111, 110] : List UInt8)) = true := beq_iff_eq.2 e0
  have HM : Hid (Bk.may nm u = (u.kd == 1 || (u.kd == 4 && decide (u.tx.length ≤ 1024)))) := Lib.hid (by unfold Bk.may; rw [if_pos e0])
  by_cases k1 : u.kd = 1
  ·have p1 : (u.kd == 1) = true := by rw [k1]; rfl
   have HB : Hid (true = Bk.may nm u) := Lib.hid (by rw [HM.out]; simp [p1])
   clear HM
   try clear e0
   try clear e1
   try clear e2
   try clear e3
   go_enter Tryz.func26, Tryz.ntmps26
   go_wp2_with fail
   go_ret
   exact ⟨by rw [← HB.out]; rfl, ((Fr.refl w).alloc _).alloc _⟩
  ·have p1 : (u.kd == 1) = false := (ikind k1).1
   by_cases k4 : u.kd = 4
   ·have p4 : (u.kd == 4) = true := by rw [k4]; rfl
    by_cases l1 : u.tx.length ≤ 1024
    ·have i1 : (u.tx.length : Int) ≤ 1024 := by omega
     have HB : Hid (true = Bk.may nm u) := Lib.hid (by rw [HM.out]; simp [p4, p1, l1])
     clear HM
     try clear e0
     try clear e1
     try clear e2
     try clear e3
     go_enter Tryz.func26, Tryz.ntmps26
     go_wp2_with fail
     go_ret
     exact ⟨by rw [← HB.out]; rfl, ((Fr.refl w).alloc _).alloc _⟩
    ·have i1 : ¬ ((u.tx.length : Int) ≤ 1024) := by omega
     have HB : Hid (false = Bk.may nm u) := Lib.hid (by rw [HM.out]; simp [p4, p1, l1])
     clear HM
     try clear e0
     try clear e1
     try clear e2
     try clear e3
     go_enter Tryz.func26, Tryz.ntmps26
     go_wp2_with fail
     go_ret
     exact ⟨by rw [← HB.out]; rfl, ((Fr.refl w).alloc _).alloc _⟩
   ·have p4 : (u.kd == 4) = false := (ikind k4).1
    have HB : Hid (false = Bk.may nm u) := Lib.hid (by rw [HM.out]; simp [p1, p4])
    clear HM
    try clear e0
    try clear e1
    try clear e2
    try clear e3
    go_enter Tryz.func26, Tryz.ntmps26
    go_wp2_with fail
    go_ret
    exact ⟨by rw [← HB.out]; rfl, ((Fr.refl w).alloc _).alloc _⟩
 ·have q0 : (nm == ([100, 101, 115, 99, 114, 105, 112, 116, 105, 111, 110] : List UInt8)) = false := beq_eq_false_iff_ne.2 e0
  by_cases e1 : nm = Bk.nSub
  ·have q1 : (nm == ([105, 115, 83, 117, 98, 115, 99, 114, 105, 98, 101, 100] : List UInt8)) = true := beq_iff_eq.2 e1
   have HM : Hid (Bk.may nm u = (u.kd == 2)) := Lib.hid (by unfold Bk.may; rw [if_neg e0, if_pos e1])
   by_cases k2 : u.kd = 2
   ·have p2 : (u.kd == 2) = true := by rw [k2]; rfl
    have HB : Hid (true = Bk.may nm u) := Lib.hid (by rw [HM.out]; simp [p2])
    clear HM
    try clear e0
    try clear e1
    try clear e2
    try clear e3
    go_enter Tryz.func26, Tryz.ntmps26
    go_wp2_with fail
    go_ret
    exact ⟨by rw [← HB.out]; rfl, ((Fr.refl w).alloc _).alloc _⟩
   ·have p2 : (u.kd == 2) = false := (ikind k2).1
    have HB : Hid (false = Bk.may nm u) := Lib.hid (by rw [HM.out]; simp [p2])
    clear HM
    try clear e0
    try clear e1
    try clear e2
    try clear e3
    go_enter Tryz.func26, Tryz.ntmps26
    go_wp2_with fail
    go_ret
    exact ⟨by rw [← HB.out]; rfl, ((Fr.refl w).alloc _).alloc _⟩
  ·have q1 : (nm == ([105, 115, 83, 117, 98, 115, 99, 114, 105, 98, 101, 100] : List UInt8)) = false := beq_eq_false_iff_ne.2 e1
   by_cases e2 : nm = Bk.nName
   ·have q2 : (nm == ([110, 97, 109, 101] : List UInt8)) = true := beq_iff_eq.2 e2
    have HM : Hid (Bk.may nm u = (u.kd == 4 && (decide (1 ≤ u.tx.length) && decide (u.tx.length ≤ 255)))) := Lib.hid (by unfold Bk.may; rw [if_neg e0, if_neg e1, if_pos e2])
    by_cases k4 : u.kd = 4
    ·have p4 : (u.kd == 4) = true := by rw [k4]; rfl
     by_cases l1 : 1 ≤ u.tx.length
     ·have i1 : 1 ≤ (u.tx.length : Int) := by omega
      by_cases l2 : u.tx.length ≤ 255
      ·have i2 : (u.tx.length : Int) ≤ 255 := by omega
       have HB : Hid (true = Bk.may nm u) := Lib.hid (by rw [HM.out]; simp [p4, l1, l2])
       clear HM
       try clear e0
       try clear e1
       try clear e2
       try clear e3
       go_enter Tryz.func26, Tryz.ntmps26
       go_wp2_with fail
       go_ret
       exact ⟨by rw [← HB.out]; rfl, ((Fr.refl w).alloc _).alloc _⟩
      ·have i2 : ¬ ((u.tx.length : Int) ≤ 255) := by omega
       have HB : Hid (false = Bk.may nm u) := Lib.hid (by rw [HM.out]; simp [p4, l1, l2])
       clear HM
       try clear e0
       try clear e1
       try clear e2
       try clear e3
       go_enter Tryz.func26, Tryz.ntmps26
       go_wp2_with fail
       go_ret
       exact ⟨by rw [← HB.out]; rfl, ((Fr.refl w).alloc _).alloc _⟩
     ·have i1 : ¬ (1 ≤ (u.tx.length : Int)) := by omega
      have HB : Hid (false = Bk.may nm u) := Lib.hid (by rw [HM.out]; simp [p4, l1])
      clear HM
      try clear e0
      try clear e1
      try clear e2
      try clear e3
      go_enter Tryz.func26, Tryz.ntmps26
      go_wp2_with fail
      go_ret
      exact ⟨by rw [← HB.out]; rfl, ((Fr.refl w).alloc _).alloc _⟩
    ·have p4 : (u.kd == 4) = false := (ikind k4).1
     have HB : Hid (false = Bk.may nm u) := Lib.hid (by rw [HM.out]; simp [p4])
     clear HM
     try clear e0
     try clear e1
     try clear e2
     try clear e3
     go_enter Tryz.func26, Tryz.ntmps26
     go_wp2_with fail
     go_ret
     exact ⟨by rw [← HB.out]; rfl, ((Fr.refl w).alloc _).alloc _⟩
   ·have q2 : (nm == ([110, 97, 109, 101] : List UInt8)) = false := beq_eq_false_iff_ne.2 e2
    by_cases e3 : nm = Bk.nSort
    ·have q3 : (nm == ([115, 111, 114, 116, 79, 114, 100, 101, 114] : List UInt8)) = true := beq_iff_eq.2 e3
     have HM : Hid (Bk.may nm u = (u.kd == 3 && (decide (0 ≤ u.nm) && decide (u.nm ≤ 2147483647)))) := Lib.hid (by unfold Bk.may; rw [if_neg e0, if_neg e1, if_neg e2, if_pos e3])
     by_cases k3 : u.kd = 3
     ·have p3 : (u.kd == 3) = true := by rw [k3]; rfl
      by_cases l1 : 0 ≤ u.nm
      ·have i1 : 0 ≤ u.nm := by omega
       by_cases l2 : u.nm ≤ 2147483647
       ·have i2 : u.nm ≤ 2147483647 := by omega
        have HB : Hid (true = Bk.may nm u) := Lib.hid (by rw [HM.out]; simp [p3, l1, l2])
        clear HM
        try clear e0
        try clear e1
        try clear e2
        try clear e3
        go_enter Tryz.func26, Tryz.ntmps26
        go_wp2_with fail
        go_ret
        exact ⟨by rw [← HB.out]; rfl, ((Fr.refl w).alloc _).alloc _⟩
       ·have i2 : ¬ (u.nm ≤ 2147483647) := by omega
        have HB : Hid (false = Bk.may nm u) := Lib.hid (by rw [HM.out]; simp [p3, l1, l2])
        clear HM
        try clear e0
        try clear e1
        try clear e2
        try clear e3
        go_enter Tryz.func26, Tryz.ntmps26
        go_wp2_with fail
        go_ret
        exact ⟨by rw [← HB.out]; rfl, ((Fr.refl w).alloc _).alloc _⟩
      ·have i1 : ¬ (0 ≤ u.nm) := by omega
       have HB : Hid (false = Bk.may nm u) := Lib.hid (by rw [HM.out]; simp [p3, l1])
       clear HM
       try clear e0
       try clear e1
       try clear e2
       try clear e3
       go_enter Tryz.func26, Tryz.ntmps26
       go_wp2_with fail
       go_ret
       exact ⟨by rw [← HB.out]; rfl, ((Fr.refl w).alloc _).alloc _⟩
     ·have p3 : (u.kd == 3) = false := (ikind k3).1
      have HB : Hid (false = Bk.may nm u) := Lib.hid (by rw [HM.out]; simp [p3])
      clear HM
      try clear e0
      try clear e1
      try clear e2
      try clear e3
      go_enter Tryz.func26, Tryz.ntmps26
      go_wp2_with fail
      go_ret
      exact ⟨by rw [← HB.out]; rfl, ((Fr.refl w).alloc _).alloc _⟩
    ·have q3 : (nm == ([115, 111, 114, 116, 79, 114, 100, 101, 114] : List UInt8)) = false := beq_eq_false_iff_ne.2 e3
     have HM : Hid (Bk.may nm u = false) := Lib.hid (by unfold Bk.may; rw [if_neg e0, if_neg e1, if_neg e2, if_neg e3])
     have HB : Hid (false = Bk.may nm u) := Lib.hid (by rw [HM.out])
     clear HM
     try clear e0
     try clear e1
     try clear e2
     try clear e3
     go_enter Tryz.func26, Tryz.ntmps26
     go_wp2_with fail
     go_ret
     exact ⟨by rw [← HB.out]; rfl, ((Fr.refl w).alloc _).alloc _⟩

theorem usual_shape (nm : List UInt8) : (Bk.usual nm).ls = [] ∧ (Bk.usual nm).ms = [] ∧ (Bk.usual nm).tx = [] := by
 unfold Bk.usual
 split
 ·exact ⟨rfl, rfl, rfl⟩
 ·split <;> exact ⟨rfl, rfl, rfl⟩
theorem usual_is (nm : List UInt8) (w : World) :
  Calls Tryz.prog 31 #[.string ⟨nm.toArray⟩] w fun e w' => e = .returned (.agg #[.int .i64 (Bk.usual nm).kd, .int .i64 (Bk.usual nm).nm, .string ⟨#[]⟩, .slice none 0 0, .slice none 0 0]) ∧ Fr w w' := by
 by_cases e1 : nm = Bk.nSub
 ·have q1 : (nm == ([105, 115, 83, 117, 98, 115, 99, 114, 105, 98, 101, 100] : List UInt8)) = true := beq_iff_eq.2 e1
  have HU : Hid (Bk.usual nm = .mk 2 1 [] [] []) := Lib.hid (by unfold Bk.usual; rw [if_pos e1])
  clear e1
  rw [HU.out]
  go_enter Tryz.func31, Tryz.ntmps31
  go_wp2_with fail
  refine bodyPost_ret (results_cv (by rfl) rfl _ w.heap.size (by rfl) _ _ _ _ _ (Blk.made w _ _)) rfl ?_
  exact ⟨rfl, (Fr.refl w).alloc _⟩
 ·have q1 : (nm == ([105, 115, 83, 117, 98, 115, 99, 114, 105, 98, 101, 100] : List UInt8)) = false := beq_eq_false_iff_ne.2 e1
  by_cases e3 : nm = Bk.nSort
  ·have q3 : (nm == ([115, 111, 114, 116, 79, 114, 100, 101, 114] : List UInt8)) = true := beq_iff_eq.2 e3
   have HU : Hid (Bk.usual nm = .mk 3 0 [] [] []) := Lib.hid (by unfold Bk.usual; rw [if_neg e1, if_pos e3])
   clear e1 e3
   rw [HU.out]
   go_enter Tryz.func31, Tryz.ntmps31
   go_wp2_with fail
   refine bodyPost_ret (results_cv (by rfl) rfl _ w.heap.size (by rfl) _ _ _ _ _ (Blk.made w _ _)) rfl ?_
   exact ⟨rfl, (Fr.refl w).alloc _⟩
  ·have q3 : (nm == ([115, 111, 114, 116, 79, 114, 100, 101, 114] : List UInt8)) = false := beq_eq_false_iff_ne.2 e3
   have HU : Hid (Bk.usual nm = .mk 1 0 [] [] []) := Lib.hid (by unfold Bk.usual; rw [if_neg e1, if_neg e3])
   clear e1 e3
   rw [HU.out]
   go_enter Tryz.func31, Tryz.ntmps31
   go_wp2_with fail
   refine bodyPost_ret (results_cv (by rfl) rfl _ w.heap.size (by rfl) _ _ _ _ _ (Blk.made w _ _)) rfl ?_
   exact ⟨rfl, (Fr.refl w).alloc _⟩
end Go.Proofs.YtgaiepficjiclaaGreatDoor
