/- A value that lies in memory. -/
import Derived.Test.YtgncdjcbphobmaaKit
import Derived.Test.YtgncdjcbphobmaaValP
namespace Go.Proofs.Ytgncdjcbphobmaa
set_option linter.unusedVariables false
set_option linter.unusedSimpArgs false
open Go.RowKit

/-- x is the value v; all its memory lies in blocks of S. -/
inductive InV (w : World) (S : Nat → Prop) : JV → Value → Prop
  | mk (k n : Int) (s : List UInt8) (l : List JV) (m : List (List UInt8 × JV)) (A A' : Option Addr) (c c' : Nat) (E F : Nat → Nat → Value)
    (hn1 : -9223372036854775808 ≤ n) (hn2 : n ≤ 9223372036854775807) (hk1 : -9223372036854775808 ≤ k) (hk2 : k ≤ 9223372036854775807)
    (hs : s.length ≤ 140737488355328) (hl63 : l.length ≤ 140737488355328) (hm63 : m.length ≤ 140737488355328)
    (hl : ∀ i (h : i < l.length), InV w S l[i] (.agg #[E i 0, E i 1, E i 2, E i 3, E i 4]))
    (cl : 0 < l.length → ∃ b o, A = some ⟨b, o, none⟩ ∧ S b ∧ ∀ i j, i < l.length → j < 5 → w.cell? ⟨b, o + i * 5 + j, none⟩ = some (E i j))
    (hm : ∀ i (h : i < m.length), InV w S m[i].2 (.agg #[F i 1, F i 2, F i 3, F i 4, F i 5]))
    (cm : 0 < m.length → ∃ b o, A' = some ⟨b, o, none⟩ ∧ S b ∧ ∀ i (hi : i < m.length), F i 0 = .string ⟨m[i].1.toArray⟩ ∧ m[i].1.length ≤ 140737488355328 ∧ ∀ j, j < 6 → w.cell? ⟨b, o + i * 6 + j, none⟩ = some (F i j)) :
    InV w S (.mk k n s l m) (.agg #[.int .i64 k, .int .i64 n, .string ⟨s.toArray⟩, .slice A l.length c, .slice A' m.length c'])

theorem InV.map {w w' : World} {S S' : Nat → Prop} {v : JV} {x : Value} (h : InV w S v x) (hS : ∀ b, S b → S' b) (hw : ∀ b o, S b → w'.cell? ⟨b, o, none⟩ = w.cell? ⟨b, o, none⟩) : InV w' S' v x := by
  induction h with
  | mk k n s l m A A' c c' E F hn1 hn2 hk1 hk2 hs hl63 hm63 hl cl hm cm ihl ihm =>
    refine .mk k n s l m A A' c c' E F hn1 hn2 hk1 hk2 hs hl63 hm63 ihl (fun h0 => ?_) ihm (fun h0 => ?_)
    · obtain ⟨b, o, h1, h2, h3⟩ := cl h0
      exact ⟨b, o, h1, hS b h2, fun i j hi hj => by rw [hw b _ h2]; exact h3 i j hi hj⟩
    · obtain ⟨b, o, h1, h2, h3⟩ := cm h0
      exact ⟨b, o, h1, hS b h2, fun i hi => ⟨(h3 i hi).1, (h3 i hi).2.1, fun j hj => by rw [hw b _ h2]; exact (h3 i hi).2.2 j hj⟩⟩
/-- The blocks below a number. -/
def Lo (B : Nat) : Nat → Prop := fun b => b < B
/-- The blocks from a number on, below another one. -/
def Be (a B : Nat) : Nat → Prop := fun b => a ≤ b ∧ b < B
theorem InV.blw {B : Nat} {w w' : World} {v : JV} {x : Value} (h : InV w (Lo B) v x) (hb : Below B w w') : InV w' (Lo B) v x :=
  h.map (fun _ h => h) (fun b o hs => Below.cell hb (p := ⟨b, o, none⟩) hs)
theorem InV.keep {B : Nat} {w w' : World} {v : JV} {x : Value} (h : InV w (Lo B) v x) (hB : B ≤ w.heap.size) (hf : Fr w w') : InV w' (Lo B) v x :=
  h.map (fun _ h => h) (fun b o hs => hf.cell (Nat.lt_of_lt_of_le hs hB))
theorem InV.more {w : World} {S S' : Nat → Prop} {v : JV} {x : Value} (h : InV w S v x) (hS : ∀ b, S b → S' b) : InV w S' v x := h.map hS (fun _ _ _ => rfl)
theorem InV.lo {B B' : Nat} {w : World} {v : JV} {x : Value} (h : InV w (Lo B) v x) (hB : B ≤ B') : InV w (Lo B') v x := h.more (fun b hb => Nat.lt_of_lt_of_le hb hB)
theorem InV.shape {w : World} {S : Nat → Prop} {v : JV} {x : Value} (h : InV w S v x) : ∃ A c A' c', x = .agg #[.int .i64 v.kd, .int .i64 v.nm, .string ⟨v.tx.toArray⟩, .slice A v.ls.length c, .slice A' v.ms.length c'] := by
  cases h with
  | mk k n s l m A A' c c' E F => exact ⟨A, c, A', c', rfl⟩
theorem InV.facts {w : World} {S : Nat → Prop} {v : JV} {x : Value} (h : InV w S v x) :
    (-9223372036854775808 ≤ v.nm ∧ v.nm ≤ 9223372036854775807) ∧ (-9223372036854775808 ≤ v.kd ∧ v.kd ≤ 9223372036854775807) ∧ v.tx.length ≤ 140737488355328 ∧ v.ls.length ≤ 140737488355328 ∧ v.ms.length ≤ 140737488355328 := by
  cases h with
  | mk k n s l m A A' c c' E F hn1 hn2 hk1 hk2 hs hl63 hm63 hl cl hm cm => exact ⟨⟨hn1, hn2⟩, ⟨hk1, hk2⟩, hs, hl63, hm63⟩
theorem five {e0 e1 e2 e3 e4 f0 f1 f2 f3 f4 : Value} (h : Value.agg #[e0, e1, e2, e3, e4] = .agg #[f0, f1, f2, f3, f4]) : e0 = f0 ∧ e1 = f1 ∧ e2 = f2 ∧ e3 = f3 ∧ e4 = f4 := by
  simpa using h
/-- The cells of a value at a place. -/
def VC (w : World) (b o : Nat) (u : JV) (B : Option Addr) (d : Nat) (B' : Option Addr) (d' : Nat) : Prop :=
  w.cell? ⟨b, o, none⟩ = some (.int .i64 u.kd) ∧ w.cell? ⟨b, o + 1, none⟩ = some (.int .i64 u.nm) ∧ w.cell? ⟨b, o + 2, none⟩ = some (.string ⟨u.tx.toArray⟩) ∧ w.cell? ⟨b, o + 3, none⟩ = some (.slice B u.ls.length d) ∧ w.cell? ⟨b, o + 4, none⟩ = some (.slice B' u.ms.length d')
/-- A value's form in memory. -/
def vA (u : JV) (B : Option Addr) (d : Nat) (B' : Option Addr) (d' : Nat) : Value := .agg #[.int .i64 u.kd, .int .i64 u.nm, .string ⟨u.tx.toArray⟩, .slice B u.ls.length d, .slice B' u.ms.length d']
/-- The values of a list lie there. -/
def LsC (w : World) (S : Nat → Prop) (A : Option Addr) (l : List JV) : Prop := ∀ i (h : i < l.length), ∃ b o B d B' d', A = some ⟨b, o, none⟩ ∧ S b ∧ VC w b (o + i * 5) l[i] B d B' d' ∧ InV w S l[i] (vA l[i] B d B' d')
/-- The members of a map lie there. -/
def MsC (w : World) (S : Nat → Prop) (A : Option Addr) (m : List (List UInt8 × JV)) : Prop := ∀ i (h : i < m.length), ∃ b o B d B' d', A = some ⟨b, o, none⟩ ∧ S b ∧ m[i].1.length ≤ 140737488355328 ∧ w.cell? ⟨b, o + i * 6, none⟩ = some (.string ⟨m[i].1.toArray⟩) ∧ VC w b (o + i * 6 + 1) m[i].2 B d B' d' ∧ InV w S m[i].2 (vA m[i].2 B d B' d')
/-- All that a walk wants of a value. -/
theorem InV.open_ {w : World} {S : Nat → Prop} {v : JV} {x : Value} (h : InV w S v x) : ∃ A c A' c', x = vA v A c A' c' ∧ LsC w S A v.ls ∧ MsC w S A' v.ms := by
  cases h with
  | mk k n s l m A A' c c' E F hn1 hn2 hk1 hk2 hs hl63 hm63 hl cl hm cm =>
    refine ⟨A, c, A', c', rfl, fun i hi => ?_, fun i hi => ?_⟩
    · have hi' : i < l.length := hi
      obtain ⟨b, o, h1, h2, h3⟩ := cl (by omega)
      obtain ⟨B, d, B', d', he⟩ := (hl i hi').shape
      have hv := hl i hi'
      rw [he] at hv
      obtain ⟨e0, e1, e2, e3, e4⟩ := five he
      refine ⟨b, o, B, d, B', d', h1, h2, ⟨?_, ?_, ?_, ?_, ?_⟩, hv⟩
      · exact (h3 i 0 hi' (by omega)).trans (congrArg some e0)
      · exact (h3 i 1 hi' (by omega)).trans (congrArg some e1)
      · exact (h3 i 2 hi' (by omega)).trans (congrArg some e2)
      · exact (h3 i 3 hi' (by omega)).trans (congrArg some e3)
      · exact (h3 i 4 hi' (by omega)).trans (congrArg some e4)
    · have hi' : i < m.length := hi
      obtain ⟨b, o, h1, h2, h3⟩ := cm (by omega)
      obtain ⟨g1, g2, g3⟩ := h3 i hi'
      obtain ⟨B, d, B', d', he⟩ := (hm i hi').shape
      have hv := hm i hi'
      rw [he] at hv
      obtain ⟨e0, e1, e2, e3, e4⟩ := five he
      refine ⟨b, o, B, d, B', d', h1, h2, g2, ?_, ⟨?_, ?_, ?_, ?_, ?_⟩, hv⟩
      · have g0 := g3 0 (by omega); rw [g1] at g0; exact g0
      · exact (g3 1 (by omega)).trans (congrArg some e0)
      · exact (g3 2 (by omega)).trans (congrArg some e1)
      · exact (g3 3 (by omega)).trans (congrArg some e2)
      · exact (g3 4 (by omega)).trans (congrArg some e3)
      · exact (g3 5 (by omega)).trans (congrArg some e4)
theorem VC.keep {w w' : World} {b o : Nat} {u : JV} {B : Option Addr} {d : Nat} {B' : Option Addr} {d' : Nat} (h : VC w b o u B d B' d') (hb : ∀ j, w'.cell? ⟨b, j, none⟩ = w.cell? ⟨b, j, none⟩) : VC w' b o u B d B' d' := by
  obtain ⟨h0, h1, h2, h3, h4⟩ := h
  exact ⟨(hb _).trans h0, (hb _).trans h1, (hb _).trans h2, (hb _).trans h3, (hb _).trans h4⟩
theorem LsC.map {w w' : World} {S S' : Nat → Prop} {A : Option Addr} {l : List JV} (h : LsC w S A l) (hS : ∀ b, S b → S' b) (hw : ∀ b o, S b → w'.cell? ⟨b, o, none⟩ = w.cell? ⟨b, o, none⟩) : LsC w' S' A l := by
  intro i hi
  obtain ⟨b, o, B, d, B', d', h1, h2, h3, h4⟩ := h i hi
  exact ⟨b, o, B, d, B', d', h1, hS b h2, h3.keep (fun j => hw b j h2), h4.map hS hw⟩
theorem MsC.map {w w' : World} {S S' : Nat → Prop} {A : Option Addr} {m : List (List UInt8 × JV)} (h : MsC w S A m) (hS : ∀ b, S b → S' b) (hw : ∀ b o, S b → w'.cell? ⟨b, o, none⟩ = w.cell? ⟨b, o, none⟩) : MsC w' S' A m := by
  intro i hi
  obtain ⟨b, o, B, d, B', d', h1, h2, hl, hn, h3, h4⟩ := h i hi
  exact ⟨b, o, B, d, B', d', h1, hS b h2, hl, (hw b _ h2).trans hn, h3.keep (fun j => hw b j h2), h4.map hS hw⟩
theorem LsC.blw {B : Nat} {w w' : World} {A : Option Addr} {l : List JV} (h : LsC w (Lo B) A l) (hb : Below B w w') : LsC w' (Lo B) A l :=
  h.map (fun _ h => h) (fun b o hs => Below.cell hb (p := ⟨b, o, none⟩) hs)
theorem MsC.blw {B : Nat} {w w' : World} {A : Option Addr} {m : List (List UInt8 × JV)} (h : MsC w (Lo B) A m) (hb : Below B w w') : MsC w' (Lo B) A m :=
  h.map (fun _ h => h) (fun b o hs => Below.cell hb (p := ⟨b, o, none⟩) hs)
theorem LsC.keep {B : Nat} {w w' : World} {A : Option Addr} {l : List JV} (h : LsC w (Lo B) A l) (hB : B ≤ w.heap.size) (hf : Fr w w') : LsC w' (Lo B) A l :=
  h.map (fun _ h => h) (fun b o hs => hf.cell (Nat.lt_of_lt_of_le hs hB))
theorem MsC.keep {B : Nat} {w w' : World} {A : Option Addr} {m : List (List UInt8 × JV)} (h : MsC w (Lo B) A m) (hB : B ≤ w.heap.size) (hf : Fr w w') : MsC w' (Lo B) A m :=
  h.map (fun _ h => h) (fun b o hs => hf.cell (Nat.lt_of_lt_of_le hs hB))
end Go.Proofs.Ytgncdjcbphobmaa
