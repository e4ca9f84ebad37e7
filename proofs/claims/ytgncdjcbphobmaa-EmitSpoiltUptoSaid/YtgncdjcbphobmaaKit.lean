/- Small laws of the walk that serve every function of this claim: cuts of an array, bytes to a text. -/
import Derived.Test.YtgncdjcbphobmaaRows
import Derived.WalkKit
import Derived.WalkSpells
import Derived.WalkLawsBesides
import Derived.Lib.Hide
import Derived.BigQuiet
import Derived.Handy
import Derived.Deep.RegionWith
import Derived.Deep.QuietTactic
import Derived.Deep.RegionHeld3
import Derived.Deep.DeepCutAuto
import Derived.Deep.LoopGhost
import Derived.Deep.DeepMust
import Derived.Deep.DeepFit
import Derived.StillTailTactics
import Derived.Lib.SmallJoins
namespace Go.Proofs.Ytgncdjcbphobmaa
set_option linter.unusedVariables false
set_option linter.unusedSimpArgs false
open Go.RowKit

theorem ret_int {k : IntKind} {a b : Int} (h : a = b) : Ending.returned (.int k a) = .returned (.int k b) := by rw [h]
theorem ret_bool {a b : Bool} (h : a = b) : Ending.returned (.bool a) = .returned (.bool b) := by rw [h]
theorem ret_str {a b : List UInt8} (h : a = b) : Ending.returned (.string ⟨a.toArray⟩) = .returned (.string ⟨b.toArray⟩) := by rw [h]

/-- What was there stays as it was. -/
def Fr (w w' : World) : Prop := Below w.heap.size w w'
theorem Fr.refl (w : World) : Fr w w := Below.refl _ _
theorem Fr.size {w w' : World} (h : Fr w w') : w.heap.size ≤ w'.heap.size := Below.size h
theorem Fr.trans {a b c : World} (h : Fr a b) (k : Fr b c) : Fr a c := Below.trans h (Below.mono k (Below.size h))
theorem Fr.alloc {a w : World} (h : Fr a w) (o : Obj) : Fr a (w.alloc o) := Below.alloc h (Below.size h) o
theorem Fr.drew {a w : World} (h : Fr a w) : Fr a w.drew := Below.drew h
theorem Fr.drewN {a w : World} (h : Fr a w) (n : Nat) : Fr a (w.drewN n) := by
  have h' : Below a.heap.size a w := h
  exact ⟨h'.os, h'.tape, h'.output, h'.size, h'.block⟩
theorem Fr.setCell {a w : World} (h : Fr a w) {p : Addr} (hp : a.heap.size ≤ p.block) (u : Value) : Fr a (w.setCell p u) := Below.setCell h hp u
theorem Fr.of {w w' : World} (h : Below w.heap.size w w') : Fr w w' := h
theorem Fr.below {w w' : World} (h : Fr w w') : Below w.heap.size w w' := h
theorem Fr.cell {w w' : World} (h : Fr w w') {b o : Nat} (hb : b < w.heap.size) : w'.cell? ⟨b, o, none⟩ = w.cell? ⟨b, o, none⟩ := Below.cell h (p := ⟨b, o, none⟩) hb
theorem Fr.frozen {w w' : World} (h : Fr w w') {b o : Nat} (hb : b < w.heap.size) : w'.frozen? ⟨b, o, none⟩ = w.frozen? ⟨b, o, none⟩ := Below.frozen h (p := ⟨b, o, none⟩) hb

theorem bytes_eq {a b : ByteArray} (h : a.data.toList = b.data.toList) : a = b := by
  cases a; cases b; simp at h; simp [h]

/-- A cut of an array variable, from a place on. -/
theorem run_sliceAt_from {P : Program} (w : World) (t e : TypeId) (N m b : Nat) (ht : P.underlying t = some (.array N e)) (hN : P.arrayLen t = N) (hel : P.elem t = e)
    (hsz : (sizeOf e).run P w = .ok 1 w) (hm : m < N) :
    (Instr.sliceAt t (.pointer (some ⟨b, 0, none⟩)) (some (.int .i64 m)) none none).run P w = .ok (.slice (some ⟨b, m, none⟩) (N - m) (N - m)) w := by
  rw [run_sliceAt_array_l w t ⟨b, 0, none⟩ (by rw [hN, hel]; exact ht) .i64 m (by omega) (by rw [hN]; omega)]
  rw [hel, hsz, hN]
  simp only [Result.andThen, slicedAt]
  rw [if_neg (by simp; omega)]
  by_cases h0 : m = 0
  · subst h0; simp [Addr.add]
  · simp [Addr.add, h0]

theorem foldl_push_bytes (l : List UInt8) : ∀ s : ByteArray, (l.map fun c : UInt8 => (c.toNat : Int)).foldl (fun r n => r.push (UInt8.ofNat n.toNat)) s = ⟨(s.data.toList ++ l).toArray⟩ := by
  induction l with
  | nil => intro s; apply bytes_eq; simp
  | cons c l ih =>
    intro s
    rw [List.map_cons, List.foldl_cons, ih]
    apply bytes_eq
    simp [ByteArray.push]

/-- Bytes in a row to a text. -/
theorem run_convert_row {P : Program} (w : World) (src dst e : TypeId) (b off cap : Nat) (l : List UInt8)
    (hs : P.underlying src = some (.slice e)) (he : P.underlying e = some (.int .u8)) (hd : P.underlying dst = some .string)
    (hc : ∀ j, j < l.length → w.cell? ⟨b, off + j, none⟩ = some (.int .u8 (l.getD j 0).toNat)) :
    (convert src dst (.slice (some ⟨b, off, none⟩) l.length cap)).run P w = .ok (.string ⟨l.toArray⟩) w := by
  rw [run_convert_bytes_string w src dst e _ _ _ hs he hd]
  have h1 : (loadCells ⟨b, off, none⟩ l.length).run P w = .ok ((l.map fun c : UInt8 => (c.toNat : Int)).map (Value.int .u8)).toArray w := by
    have h2 := run_loadCells_list (P := P) w ⟨b, off, none⟩ ((l.map fun c : UInt8 => (c.toNat : Int)).map (Value.int .u8)) (by
      intro j v hv
      have hj : j < l.length := by
        rcases Nat.lt_or_ge j l.length with h | h
        · exact h
        · simp [List.getElem?_eq_none h] at hv
      have h3 := hc j hj
      simp [List.getElem?_eq_getElem hj] at hv
      subst hv
      have e1 : (Addr.mk b off none).add j = ⟨b, off + j, none⟩ := by
        by_cases h0 : j = 0
        · subst h0; simp [Addr.add]
        · simp [Addr.add, h0]
      rw [e1, h3]
      simp [List.getD, List.getElem?_eq_getElem hj])
    simpa using h2
  rw [run_bytesToString w _ _ _ _ h1, foldl_push_bytes]
  simp

/-- The byte that a cell holds. -/
def byteAt (w : World) (n i : Nat) : UInt8 := match w.cell? ⟨n, i, none⟩ with | some (.int .u8 x) => UInt8.ofNat x.toNat | _ => 0
def isByteAt (w : World) (n i : Nat) : Bool := match w.cell? ⟨n, i, none⟩ with | some (.int .u8 _) => true | _ => false
theorem byteAt_of {w : World} {n i : Nat} {x : Int} (h : w.cell? ⟨n, i, none⟩ = some (.int .u8 x)) : byteAt w n i = UInt8.ofNat x.toNat := by simp [byteAt, h]
theorem isByteAt_of {w : World} {n i : Nat} {x : Int} (h : w.cell? ⟨n, i, none⟩ = some (.int .u8 x)) : isByteAt w n i = true := by simp [isByteAt, h]
theorem isByteAt_out {w : World} {n i : Nat} (h : isByteAt w n i = true) : ∃ x, w.cell? ⟨n, i, none⟩ = some (.int .u8 x) := by
  unfold isByteAt at h
  split at h
  · exact ⟨_, ‹_›⟩
  · cases h

theorem run_conv_row (w : World) (n o cap : Nat) (l : List Int) (h : ∀ j x, l[j]? = some x → w.cell? ⟨n, o + j, none⟩ = some (.int .u8 x)) :
    (convert 36 9 (.slice (some ⟨n, o, none⟩) l.length cap)).run Try.prog w = .ok (.string ⟨(l.map fun x => UInt8.ofNat x.toNat).toArray⟩) w := by
  rw [run_convert_bytes_string _ 36 9 5 _ _ _ Try.underlying36 Try.underlying5 Try.underlying9]
  have h1 := run_loadCells_list (P := Try.prog) w ⟨n, o, none⟩ (l.map (Value.int .u8)) (by
    intro j v hv
    simp at hv
    obtain ⟨x, hx, rfl⟩ := hv
    have e1 : (Addr.mk n o none).add j = ⟨n, o + j, none⟩ := by
      by_cases h0 : j = 0
      · subst h0; simp [Addr.add]
      · simp [Addr.add, h0]
    rw [e1]
    exact h j x hx)
  rw [run_bytesToString _ _ _ _ l (by simpa using h1)]
  have hf : ∀ (l : List Int) (s : ByteArray), l.foldl (fun r n => r.push (UInt8.ofNat n.toNat)) s = ⟨(s.data.toList ++ l.map fun x => UInt8.ofNat x.toNat).toArray⟩ := by
    intro l
    induction l with
    | nil => intro s; apply bytes_eq; simp
    | cons x l ih =>
      intro s
      rw [List.foldl_cons, ih]
      apply bytes_eq
      simp [ByteArray.push]
  rw [hf]
  rfl

/-- Bytes that lie in a row, one to four, to a text. -/
@[go_sem] theorem run_conv_1 (w : World) (n cap : Nat) (h0 : isByteAt w n 0 = true) :
    (convert 36 9 (.slice (some ⟨n, 0, none⟩) 1 cap)).run Try.prog w = .ok (.string ⟨[byteAt w n 0].toArray⟩) w := by
  obtain ⟨x0, e0⟩ := isByteAt_out h0
  rw [byteAt_of e0]
  exact run_conv_row w n 0 cap [x0] (by
    intro j x hx
    rcases j with _ | j
    · simp at hx; subst hx; exact e0
    · simp at hx)
@[go_sem] theorem run_conv_2 (w : World) (n cap : Nat) (h0 : isByteAt w n 0 = true) (h1 : isByteAt w n 1 = true) :
    (convert 36 9 (.slice (some ⟨n, 0, none⟩) 2 cap)).run Try.prog w = .ok (.string ⟨[byteAt w n 0, byteAt w n 1].toArray⟩) w := by
  obtain ⟨x0, e0⟩ := isByteAt_out h0
  obtain ⟨x1, e1⟩ := isByteAt_out h1
  rw [byteAt_of e0, byteAt_of e1]
  exact run_conv_row w n 0 cap [x0, x1] (by
    intro j x hx
    rcases j with _ | _ | j
    · simp at hx; subst hx; exact e0
    · simp at hx; subst hx; exact e1
    · simp at hx)
@[go_sem] theorem run_conv_3 (w : World) (n cap : Nat) (h0 : isByteAt w n 0 = true) (h1 : isByteAt w n 1 = true) (h2 : isByteAt w n 2 = true) :
    (convert 36 9 (.slice (some ⟨n, 0, none⟩) 3 cap)).run Try.prog w = .ok (.string ⟨[byteAt w n 0, byteAt w n 1, byteAt w n 2].toArray⟩) w := by
  obtain ⟨x0, e0⟩ := isByteAt_out h0
  obtain ⟨x1, e1⟩ := isByteAt_out h1
  obtain ⟨x2, e2⟩ := isByteAt_out h2
  rw [byteAt_of e0, byteAt_of e1, byteAt_of e2]
  exact run_conv_row w n 0 cap [x0, x1, x2] (by
    intro j x hx
    rcases j with _ | _ | _ | j
    · simp at hx; subst hx; exact e0
    · simp at hx; subst hx; exact e1
    · simp at hx; subst hx; exact e2
    · simp at hx)
@[go_sem] theorem run_conv_4 (w : World) (n cap : Nat) (h0 : isByteAt w n 0 = true) (h1 : isByteAt w n 1 = true) (h2 : isByteAt w n 2 = true) (h3 : isByteAt w n 3 = true) :
    (convert 36 9 (.slice (some ⟨n, 0, none⟩) 4 cap)).run Try.prog w = .ok (.string ⟨[byteAt w n 0, byteAt w n 1, byteAt w n 2, byteAt w n 3].toArray⟩) w := by
  obtain ⟨x0, e0⟩ := isByteAt_out h0
  obtain ⟨x1, e1⟩ := isByteAt_out h1
  obtain ⟨x2, e2⟩ := isByteAt_out h2
  obtain ⟨x3, e3⟩ := isByteAt_out h3
  rw [byteAt_of e0, byteAt_of e1, byteAt_of e2, byteAt_of e3]
  exact run_conv_row w n 0 cap [x0, x1, x2, x3] (by
    intro j x hx
    rcases j with _ | _ | _ | _ | j
    · simp at hx; subst hx; exact e0
    · simp at hx; subst hx; exact e1
    · simp at hx; subst hx; exact e2
    · simp at hx; subst hx; exact e3
    · simp at hx)
attribute [go_sem] byteAt isByteAt

theorem Fr.cells {w w' : World} (h : Fr w w') : ∀ b o, b < w.heap.size → w'.cell? ⟨b, o, none⟩ = w.cell? ⟨b, o, none⟩ := fun _ _ hb => h.cell hb
theorem Fr.frozens {w w' : World} (h : Fr w w') : ∀ b o, b < w.heap.size → w'.frozen? ⟨b, o, none⟩ = w.frozen? ⟨b, o, none⟩ := fun _ _ hb => h.frozen hb

theorem ret_bs {a : ByteArray} {l : List UInt8} (h : a.data.toList = l) : Ending.returned (.string a) = .returned (.string ⟨l.toArray⟩) := by
  rw [bytes_eq (a := a) (b := ⟨l.toArray⟩) (by simpa using h)]
theorem data_app (a b : ByteArray) : (a ++ b).data.toList = a.data.toList ++ b.data.toList := Joins.data_append a b

end Go.Proofs.Ytgncdjcbphobmaa
