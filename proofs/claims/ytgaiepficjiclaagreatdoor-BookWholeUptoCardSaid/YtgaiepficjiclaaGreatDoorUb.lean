/- The walk of the document's One. -/
import Derived.Test.YtgaiepficjiclaaGreatDoorUa
import Derived.Test.YtgaiepficjiclaaGreatDoorPa
namespace Go.Proofs.YtgaiepficjiclaaGreatDoor
set_option maxRecDepth 100000
set_option maxHeartbeats 2000000
set_option linter.unusedVariables false
set_option linter.unusedSimpArgs false
open Go.RowKit

structure ROneInv (s : ByteArray) (k n0 p0 i q : Nat) : Prop where
 lo : 1 ≤ i
 hi : i ≤ n0
 eq : Utf.rtail p0 (s.data.toList.drop (k + 1)) (n0 - 1) = Utf.rtail q (s.data.toList.drop (k + i)) (n0 - i)
 b1 : i = 1 → q < 256
 b2 : i = 2 → q < 16384
 b3 : i = 3 → q < 1048576
 b4 : i = 4 → q < 67108864
theorem ROneInv.step {s : ByteArray} {k n0 p0 i q : Nat} (h : ROneInv s k n0 p0 i q) (hn : n0 ≤ 4) (hi : i < n0) (hk : k + i < s.size) :
  ROneInv s k n0 p0 (i + 1) (q * 64 + s[k + i].toNat % 64) := by
 have hl := h.lo; have h0 := h.b1; have h1 := h.b2; have h2 := h.b3; have h3 := h.b4
 refine ⟨by omega, by omega, ?_, by omega, by omega, by omega, by omega⟩
 rw [h.eq, show n0 - i = (n0 - (i + 1)) + 1 by omega, toList_drop s (k + i) hk, Utf.rtail]
 rfl
theorem ROneInv.done {s : ByteArray} {k n0 p0 q : Nat} (h : ROneInv s k n0 p0 n0 q) : Utf.rtail p0 (s.data.toList.drop (k + 1)) (n0 - 1) = q := by
 rw [h.eq, Nat.sub_self, Utf.rtail_zero]
theorem ROneInv.bound {s : ByteArray} {k n0 p0 i q : Nat} (h : ROneInv s k n0 p0 i q) (hn : n0 ≤ 4) : q < 67108864 := by
 have := h.lo; have := h.hi; have h1 := h.b1; have h2 := h.b2; have h3 := h.b3; have h4 := h.b4; omega

theorem extract_list (s : ByteArray) (i j : Nat) : (s.extract i j).data.toList = (s.data.toList.drop i).take (j - i) := by simp [ByteArray.data_extract]

theorem rone_end {s : ByteArray} {k n0 p0 q p n : Nat} {a : UInt8} (hk : k < s.size) (ha : s[k] = a) (hn0 : Utf.rn a = n0) (hp0 : Utf.rp a = p0) (hn1 : 1 ≤ n0)
  (hq : Utf.rtail p0 (s.data.toList.drop (k + 1)) (n0 - 1) = q) (h : Utf.one (s.data.toList.drop k) = (p, n)) :
  ((Utf.bytesO q == (s.extract k (k + n0)).toList) = true ∧ p = q ∧ n = n0) ∨ ((Utf.bytesO q == (s.extract k (k + n0)).toList) = false ∧ p = 0 ∧ n = 0) := by
 rw [ByteArray.toList_eq]
 have e : (s.extract k (k + n0)).data.toList = (a :: s.data.toList.drop (k + 1)).take n0 := by
  rw [extract_list, toList_drop s k hk, ha, show k + n0 - k = n0 by omega]
 rw [toList_drop s k hk, ha] at h
 subst hn0
 subst hp0
 by_cases hb : Utf.bytesO q = (a :: s.data.toList.drop (k + 1)).take (Utf.rn a)
 ·left
  rw [Utf.ref_yes hq hb] at h
  refine ⟨by rw [beq_iff_eq, e]; exact hb, ?_, ?_⟩
  ·simpa using (congrArg Prod.fst h).symm
  ·simpa using (congrArg Prod.snd h).symm
 ·right
  rw [Utf.ref_no hq hb] at h
  refine ⟨by rw [beq_eq_false_iff_ne, e]; exact hb, ?_, ?_⟩
  ·simpa using (congrArg Prod.fst h).symm
  ·simpa using (congrArg Prod.snd h).symm
theorem rone_short {s : ByteArray} {k n0 p n : Nat} {a : UInt8} (hk : k < s.size) (ha : s[k] = a) (hn0 : Utf.rn a = n0) (hl : s.size - k < n0) (h : Utf.one (s.data.toList.drop k) = (p, n)) : p = 0 ∧ n = 0 := by
 rw [toList_drop s k hk, ha, Utf.ref_short (by rw [hn0]; simp; omega)] at h
 exact ⟨by simpa using (congrArg Prod.fst h).symm, by simpa using (congrArg Prod.snd h).symm⟩
/- The walk of the document's One: of three and four bytes. -/

/- Walks: the document's One, Points. -/

def pvs (l : List Nat) : List Value := l.map fun (p : Nat) => .int .i64 p
theorem pvs_len (l : List Nat) : (pvs l).length = l.length := by simp [pvs]
theorem pvs_app (a b : List Nat) : pvs (a ++ b) = pvs a ++ pvs b := by simp [pvs]
def Ps (w : World) (base : Nat) (v : Value) (l : List Nat) : Prop := Row w base 2 v (pvs l)
/- Walks of chars' small functions: plain; the document's hex, digit. -/

theorem plain_is (c : UInt8) (w : World) :
  Calls Tryz.prog 98 #[.int .u8 c.toNat] w fun e w' => e = .returned (.tuple #[.int .u8 ((Chr.plain c).getD 0).toNat, .bool (Chr.plain c).isSome]) ∧ w = w' := by
 by_cases h0 : c = 34
 ·subst h0
  go_enter Tryz.func98, Tryz.ntmps98
  go_wp2_with fail
  go_ret2
  exact ⟨rfl, rfl⟩
 have e0 := u8neq (d := 34) (by omega) h0
 by_cases h1 : c = 92
 ·subst h1
  go_enter Tryz.func98, Tryz.ntmps98
  go_wp2_with fail
  go_ret2
  exact ⟨rfl, rfl⟩
 have e1 := u8neq (d := 92) (by omega) h1
 by_cases h2 : c = 47
 ·subst h2
  go_enter Tryz.func98, Tryz.ntmps98
  go_wp2_with fail
  go_ret2
  exact ⟨rfl, rfl⟩
 have e2 := u8neq (d := 47) (by omega) h2
 by_cases h3 : c = 98
 ·subst h3
  go_enter Tryz.func98, Tryz.ntmps98
  go_wp2_with fail
  go_ret2
  exact ⟨rfl, rfl⟩
 have e3 := u8neq (d := 98) (by omega) h3
 by_cases h4 : c = 102
 ·subst h4
  go_enter Tryz.func98, Tryz.ntmps98
  go_wp2_with fail
  go_ret2
  exact ⟨rfl, rfl⟩
 have e4 := u8neq (d := 102) (by omega) h4
 by_cases h5 : c = 110
 ·subst h5
  go_enter Tryz.func98, Tryz.ntmps98
  go_wp2_with fail
  go_ret2
  exact ⟨rfl, rfl⟩
 have e5 := u8neq (d := 110) (by omega) h5
 by_cases h6 : c = 114
 ·subst h6
  go_enter Tryz.func98, Tryz.ntmps98
  go_wp2_with fail
  go_ret2
  exact ⟨rfl, rfl⟩
 have e6 := u8neq (d := 114) (by omega) h6
 by_cases h7 : c = 116
 ·subst h7
  go_enter Tryz.func98, Tryz.ntmps98
  go_wp2_with fail
  go_ret2
  exact ⟨rfl, rfl⟩
 have e7 := u8neq (d := 116) (by omega) h7
 have hr : Hid (Chr.plain c = none) := by show _ = _; unfold Chr.plain; rw [if_neg h0, if_neg h1, if_neg h2, if_neg h3, if_neg h4, if_neg h5, if_neg h6, if_neg h7]
 clear h0 h1 h2 h3 h4 h5 h6 h7
 go_enter Tryz.func98, Tryz.ntmps98
 go_wp2_with fail
 go_ret2
 exact ⟨by rw [hr.out]; rfl, rfl⟩

def rdig (c : UInt8) : Int := match Chr.hexv c with | some d => d | none => -1

end Go.Proofs.YtgaiepficjiclaaGreatDoor
