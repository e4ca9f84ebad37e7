/- The scanner's state; the walk of lay. -/
import Derived.Test.YtmalfecpcdopfaaDoorScanU
import Derived.Test.YtmalfecpcdopfaaDoorTk
import Derived.Test.YtmalfecpcdopfaaDoorCharsS
namespace Go.Proofs.YtmalfecpcdopfaaDoor
set_option linter.unusedVariables false
set_option linter.unusedSimpArgs false
open Go.RowKit

/-- The scanner in block B: text, place, tokens so far. -/
structure Sc (B : Nat) (s : ByteArray) (k : Nat) (v : Value) (ts : List Scn.Tok) (w : World) : Prop where
  lt : B < w.heap.size
  c0 : w.cell? ⟨B, 0, none⟩ = some (.string s)
  c1 : w.cell? ⟨B, 1, none⟩ = some (.int .i64 k)
  c2 : w.cell? ⟨B, 2, none⟩ = some v
  fz : ∀ j, w.frozen? ⟨B, j, none⟩ = false
  tks : Tks w (B + 1) v ts
theorem Sc.keep {B k : Nat} {s : ByteArray} {v : Value} {ts : List Scn.Tok} {w w' : World} (h : Sc B s k v ts w) (hf : Fr w w') : Sc B s k v ts w' :=
  ⟨Nat.lt_of_lt_of_le h.lt hf.size, by rw [hf.cell h.lt]; exact h.c0, by rw [hf.cell h.lt]; exact h.c1, by rw [hf.cell h.lt]; exact h.c2, fun j => by rw [hf.frozen h.lt]; exact h.fz j, h.tks.keep hf⟩
theorem tks_below {B : Nat} {v x : Value} {ts : List Scn.Tok} {w : World} (h : Tks w (B + 1) v ts) (j : Nat) : Tks (w.setCell ⟨B, j, none⟩ x) (B + 1) v ts := by
  refine ⟨h.1, ?_⟩
  rcases h.2 with hn | ⟨g, cap, cur, rfl, hb, hg, rest⟩
  · exact .inl hn
  · exact .inr ⟨g, cap, cur, rfl, hb, by rw [Below.heap_setCell _ _ _ _ (by simp; omega)]; exact hg, rest⟩

theorem Sc.at_ {B k : Nat} {s : ByteArray} {v : Value} {ts : List Scn.Tok} {w w1 w2 : World} (h : Sc B s k v ts w) (h1 : Fr w w1) (hb : Below (B + 1) w1 w2) :
    w2.cell? ⟨B, 0, none⟩ = some (.string s) ∧ w2.cell? ⟨B, 1, none⟩ = some (.int .i64 k) ∧ w2.cell? ⟨B, 2, none⟩ = some v ∧ w2.frozen? ⟨B, 0, none⟩ = false ∧ w2.frozen? ⟨B, 1, none⟩ = false ∧ w2.frozen? ⟨B, 2, none⟩ = false ∧ B < w2.heap.size := by
  have h2 := h.keep h1
  refine ⟨?_, ?_, ?_, ?_, ?_, ?_, Nat.lt_of_lt_of_le h2.lt hb.size⟩
  · rw [Below.cell hb (p := ⟨B, 0, none⟩) (by simp)]; exact h2.c0
  · rw [Below.cell hb (p := ⟨B, 1, none⟩) (by simp)]; exact h2.c1
  · rw [Below.cell hb (p := ⟨B, 2, none⟩) (by simp)]; exact h2.c2
  · rw [Below.frozen hb (p := ⟨B, 0, none⟩) (by simp)]; exact h2.fz 0
  · rw [Below.frozen hb (p := ⟨B, 1, none⟩) (by simp)]; exact h2.fz 1
  · rw [Below.frozen hb (p := ⟨B, 2, none⟩) (by simp)]; exact h2.fz 2

/-- Behind lay's stores. -/
theorem Sc.laid {B k n : Nat} {s : ByteArray} {v v' : Value} {ts us : List Scn.Tok} {w w1 w2 : World} (h : Sc B s k v ts w) (h1 : Fr w w1) (hb : Below (B + 1) w1 w2) (ht : Tks w2 (B + 1) v' us) :
    Sc B s n v' us ((w2.setCell ⟨B, 2, none⟩ v').setCell ⟨B, 1, none⟩ (.int .i64 n)) ∧ Below B w ((w2.setCell ⟨B, 2, none⟩ v').setCell ⟨B, 1, none⟩ (.int .i64 n)) := by
  obtain ⟨g0, g1, g2, z0, z1, z2, hl⟩ := h.at_ h1 hb
  have hB : Below B w w2 := Below.trans (Below.mono h1 (Nat.le_of_lt h.lt)) (Below.mono hb (by omega))
  have e1 : (w2.setCell ⟨B, 2, none⟩ v').cell? ⟨B, 1, none⟩ = some (.int .i64 k) := by rw [World.cell?_setCell_other _ _ _ _ (by simp)]; exact g1
  refine ⟨⟨by simpa using hl, ?_, ?_, ?_, fun j => ?_, tks_below (tks_below ht 2) 1⟩, Below.setCell (Below.setCell hB (p := ⟨B, 2, none⟩) (Nat.le_refl _) _) (p := ⟨B, 1, none⟩) (Nat.le_refl _) _⟩
  · rw [World.cell?_setCell_other _ _ _ _ (by simp), World.cell?_setCell_other _ _ _ _ (by simp)]; exact g0
  · rw [World.cell?_setCell_same _ _ _ e1]
  · rw [World.cell?_setCell_other _ _ _ _ (by simp), World.cell?_setCell_same _ _ _ g2]
  · rw [World.frozen?_setCell, World.frozen?_setCell, Below.frozen hb (p := ⟨B, j, none⟩) (by simp)]; exact (h.keep h1).fz j

set_option maxHeartbeats 1000000 in
theorem lay_is (B k n kd a0 : Nat) (m : Int) (s : ByteArray) (d : List UInt8) (v : Value) (ts : List Scn.Tok) (w : World) (h : Sc B s k v ts w) (h63 : (ts.length + 1) * 40 ≤ 140737488355328) :
    Calls Tryd.prog 23 #[.pointer (some ⟨B, 0, none⟩), .agg #[.int .i64 kd, .int .i64 m, .string ⟨d.toArray⟩, .int .i64 a0], .int .i64 n] w
      fun e w' => e = .returned (.tuple #[]) ∧ (∃ v', Sc B s n v' (ts ++ [⟨kd, m, d, k⟩]) w') ∧ Below B w w' := by
  have hlt := h.lt
  have c0 := h.c0
  have c1 := h.c1
  have c2 := h.c2
  have f0 := h.fz 0
  have f1 := h.fz 1
  have f2 := h.fz 2
  have HS := Lib.hid h
  clear h
  go_enter Tryd.func23, Tryd.ntmps23
  go_wp2_with fail
  go_region_law ((refine step_tk (by rfl) (.tmp 15) (.tmp 17) (by rfl) (B + 1) (by simp; omega) v ts (by rfl) (HS.out.tks.keep ((Fr.refl w).alloc _).drew) ⟨kd, m, d, k⟩ (by rfl) (by simp) (by rfl) h63 ?_; intro v' w2 ht hb; obtain ⟨g0, g1, g2, z0, z1, z2, hl2⟩ := HS.out.at_ ((Fr.refl w).alloc _).drew hb; obtain ⟨sb, sn, sc, rfl⟩ := ht.is_slice; have HT := Lib.hid ht; have HB := Lib.hid hb; clear ht hb))
  all_goals
    go_wp2_with fail
    go_end0
    have hx := HS.out.laid (n := n) ((Fr.refl w).alloc _).drew HB.out HT.out
    exact ⟨rfl, ⟨_, hx.1⟩, hx.2⟩
theorem lay_at (B k : Nat) (n kd : Nat) (zn zk z0 : Int) (m : Int) (s : ByteArray) (x : ByteArray) (d : List UInt8) (v : Value) (ts : List Scn.Tok) (w : World) (h : Sc B s k v ts w) (h63 : (ts.length + 1) * 40 ≤ 140737488355328) (hn : zn = (n : Nat)) (hk : zk = (kd : Nat)) (h0 : z0 = 0) (hx : x = ⟨d.toArray⟩) :
    Calls Tryd.prog 23 #[.pointer (some ⟨B, 0, none⟩), .agg #[.int .i64 zk, .int .i64 m, .string x, .int .i64 z0], .int .i64 zn] w
      fun e w' => e = .returned (.tuple #[]) ∧ (∃ v', Sc B s n v' (ts ++ [⟨kd, m, d, k⟩]) w') ∧ Below B w w' := by
  subst hn; subst hk; subst h0; subst hx
  exact lay_is B k n kd 0 m s d v ts w h h63
theorem Sc.drewN {B k : Nat} {s : ByteArray} {v : Value} {ts : List Scn.Tok} {w : World} (h : Sc B s k v ts w) (n : Nat) : Sc B s k v ts (w.drewN n) := h.keep ((Fr.refl w).drewN n)
end Go.Proofs.YtmalfecpcdopfaaDoor
