/- Plain mathematics of reading: no program in sight. -/
import Derived.Test.YtgaiepficjiclaaGreatDoorPa
namespace Go.Proofs.YtgaiepficjiclaaGreatDoor.Rd
set_option maxRecDepth 100000
set_option linter.unusedVariables false
set_option linter.unusedSimpArgs false
open JV Scn

inductive R where
 | out
 | bad (at_ why : Nat)
 | ok (v : JV) (l : List Tok) (p : Nat)

def next (e : Nat) (l : List Tok) : Tok := l.headD ⟨0, 0, [], e⟩
def isM (t : Tok) (c : UInt8) : Bool := t.kind == 1 && t.s == [c]
def leaf (t : Tok) : Option JV := if t.kind = 4 then some (textV t.s) else if t.kind = 3 then some (intV t.n) else if t.kind = 2 then (if t.s = tNull then some nullV else if t.s = tTrue then some (boolV 1) else some (boolV 0)) else none
mutual
def rdV : Nat → Nat → Tok → List Tok → Nat → Nat → R
 | 0, _, _, _, _, _ => .out
 | f + 1, e, t, l, d, p =>
  if leaf t = none ∧ isM t 91 = false ∧ isM t 123 = false then .bad t.at_ 50
  else if 16 < d then .bad t.at_ 51
  else if 8192 ≤ p then .bad t.at_ 53
  else match leaf t with
   | some v => .ok v l (p + 1)
   | none => if isM t 91 then (if isM (next e l) 93 then .ok (listV []) l.tail (p + 1) else rdL f e l d (p + 1) []) else (if isM (next e l) 125 then .ok (mapV []) l.tail (p + 1) else rdM f e l d (p + 1) [])
termination_by structural f => f
def rdL : Nat → Nat → List Tok → Nat → Nat → List JV → R
 | 0, _, _, _, _, _ => .out
 | f + 1, e, l, d, p, acc =>
  match rdV f e (next e l) l.tail (d + 1) p with
  | .out => .out
  | .bad a w => .bad a w
  | .ok v l' p' => if isM (next e l') 93 then .ok (listV (acc ++ [v])) l'.tail p' else if isM (next e l') 44 then rdL f e l'.tail d p' (acc ++ [v]) else .bad (next e l').at_ 50
termination_by structural f => f
def rdM : Nat → Nat → List Tok → Nat → Nat → List (List UInt8 × JV) → R
 | 0, _, _, _, _, _ => .out
 | f + 1, e, l, d, p, acc =>
  if (next e l).kind ≠ 4 then .bad (next e l).at_ 50
  else if (next e l).s ∈ acc.map (·.1) then .bad (next e l).at_ 52
  else if isM (next e l.tail) 58 = false then .bad (next e l.tail).at_ 50
  else match rdV f e (next e l.tail.tail) l.tail.tail.tail (d + 1) p with
   | .out => .out
   | .bad a w => .bad a w
   | .ok v l' p' => if isM (next e l') 125 then .ok (mapV (acc ++ [((next e l).s, v)])) l'.tail p' else if isM (next e l') 44 then rdM f e l'.tail d p' (acc ++ [((next e l).s, v)]) else .bad (next e l').at_ 50
termination_by structural f => f
end
theorem rdV_succ (f e : Nat) (t : Tok) (l : List Tok) (d p : Nat) : rdV (f + 1) e t l d p =
  if leaf t = none ∧ isM t 91 = false ∧ isM t 123 = false then .bad t.at_ 50
  else if 16 < d then .bad t.at_ 51
  else if 8192 ≤ p then .bad t.at_ 53
  else match leaf t with
   | some v => .ok v l (p + 1)
   | none => if isM t 91 then (if isM (next e l) 93 then .ok (listV []) l.tail (p + 1) else rdL f e l d (p + 1) []) else (if isM (next e l) 125 then .ok (mapV []) l.tail (p + 1) else rdM f e l d (p + 1) []) := by
 conv => lhs; unfold rdV
theorem rdL_succ (f e : Nat) (l : List Tok) (d p : Nat) (acc : List JV) : rdL (f + 1) e l d p acc =
  match rdV f e (next e l) l.tail (d + 1) p with
  | .out => .out
  | .bad a w => .bad a w
  | .ok v l' p' => if isM (next e l') 93 then .ok (listV (acc ++ [v])) l'.tail p' else if isM (next e l') 44 then rdL f e l'.tail d p' (acc ++ [v]) else .bad (next e l').at_ 50 := by
 conv => lhs; unfold rdL
theorem rdM_succ (f e : Nat) (l : List Tok) (d p : Nat) (acc : List (List UInt8 × JV)) : rdM (f + 1) e l d p acc =
  if (next e l).kind ≠ 4 then .bad (next e l).at_ 50
  else if (next e l).s ∈ acc.map (·.1) then .bad (next e l).at_ 52
  else if isM (next e l.tail) 58 = false then .bad (next e l.tail).at_ 50
  else match rdV f e (next e l.tail.tail) l.tail.tail.tail (d + 1) p with
   | .out => .out
   | .bad a w => .bad a w
   | .ok v l' p' => if isM (next e l') 125 then .ok (mapV (acc ++ [((next e l).s, v)])) l'.tail p' else if isM (next e l') 44 then rdM f e l'.tail d p' (acc ++ [((next e l).s, v)]) else .bad (next e l').at_ 50 := by
 conv => lhs; unfold rdM

def Le (r : R) (n : Nat) : Prop := match r with | .ok _ l _ => l.length ≤ n | _ => True
theorem rd_le : ∀ f, (∀ e t l d p, Le (rdV f e t l d p) l.length) ∧ (∀ e l d p acc, Le (rdL f e l d p acc) (l.length - 1)) ∧ (∀ e l d p acc, Le (rdM f e l d p acc) (l.length - 1)) := by
 intro f
 induction f with
 | zero => exact ⟨fun _ _ _ _ _ => by unfold rdV; trivial, fun _ _ _ _ _ => by unfold rdL; trivial, fun _ _ _ _ _ => by unfold rdM; trivial⟩
 | succ f ih =>
  obtain ⟨ihV, ihL, ihM⟩ := ih
  refine ⟨fun e t l d p => ?_, fun e l d p acc => ?_, fun e l d p acc => ?_⟩
  ·rw [rdV_succ]
   repeat' split
   all_goals first
    | trivial
    | exact Nat.le_refl _
    | (show l.tail.length ≤ _; rw [List.length_tail]; omega)
    | (have := ihL e l d (p + 1) []; revert this; generalize rdL f e l d (p + 1) [] = r; intro h; cases r <;> first | trivial | (simp only [Le] at h ⊢; omega))
    | (have := ihM e l d (p + 1) []; revert this; generalize rdM f e l d (p + 1) [] = r; intro h; cases r <;> first | trivial | (simp only [Le] at h ⊢; omega))
  ·rw [rdL_succ]
   have hv := ihV e (next e l) l.tail (d + 1) p
   revert hv
   generalize rdV f e (next e l) l.tail (d + 1) p = r
   intro hv
   cases r with
   | out => trivial
   | bad a w => trivial
   | ok v l' p' =>
    simp only [Le, List.length_tail] at hv
    simp only
    split
    ·simp only [Le, List.length_tail]; omega
    split
    ·have := ihL e l'.tail d p' (acc ++ [v]); revert this; generalize rdL f e l'.tail d p' (acc ++ [v]) = r; intro h; cases r <;> first | trivial | (simp only [Le, List.length_tail] at h ⊢; omega)
    ·trivial
  ·rw [rdM_succ]
   split
   ·trivial
   split
   ·trivial
   split
   ·trivial
   have hv := ihV e (next e l.tail.tail) l.tail.tail.tail (d + 1) p
   revert hv
   generalize rdV f e (next e l.tail.tail) l.tail.tail.tail (d + 1) p = r
   intro hv
   cases r with
   | out => trivial
   | bad a w => trivial
   | ok v l' p' =>
    simp only [Le, List.length_tail] at hv
    simp only
    split
    ·simp only [Le, List.length_tail]; omega
    split
    ·have := ihM e l'.tail d p' (acc ++ [((next e l).s, v)]); revert this; generalize rdM f e l'.tail d p' (acc ++ [((next e l).s, v)]) = r; intro h; cases r <;> first | trivial | (simp only [Le, List.length_tail] at h ⊢; omega)
    ·trivial

theorem next_end {e : Nat} {l : List Tok} {c : UInt8} (h : isM (next e l) c = true) : 0 < l.length := by
 cases l with
 | nil => simp [next, isM] at h
 | cons t l => simp
theorem rdV_end (f e d p : Nat) (l : List Tok) : rdV (f + 1) e (next e []) l d p = .bad e 50 := by
 rw [rdV_succ]; simp [next, leaf, isM]
theorem rd_fuel : ∀ f, (∀ e t l d p, 2 * l.length + 3 ≤ f → rdV f e t l d p ≠ .out) ∧ (∀ e l d p acc, 2 * l.length + 2 ≤ f → rdL f e l d p acc ≠ .out) ∧ (∀ e l d p acc, 2 * l.length + 2 ≤ f → rdM f e l d p acc ≠ .out) := by
 intro f
 induction f with
 | zero => exact ⟨fun _ _ _ _ _ h => by omega, fun _ _ _ _ _ h => by omega, fun _ _ _ _ _ h => by omega⟩
 | succ f ih =>
  obtain ⟨ihV, ihL, ihM⟩ := ih
  refine ⟨fun e t l d p h => ?_, fun e l d p acc h => ?_, fun e l d p acc h => ?_⟩
  ·rw [rdV_succ]
   repeat' split
   all_goals first
    | (intro h; cases h; done)
    | exact ihL e l d _ _ (by omega)
    | exact ihM e l d _ _ (by omega)
  ·rw [rdL_succ]
   have hv : rdV f e (next e l) l.tail (d + 1) p ≠ .out := by
    cases l with
    | nil =>
     obtain ⟨g, rfl⟩ : ∃ g, f = g + 1 := ⟨f - 1, by simp at h; omega⟩
     rw [rdV_end]; simp
    | cons t l => exact ihV _ _ _ _ _ (by simp at h ⊢; omega)
   have hle := (rd_le f).1 e (next e l) l.tail (d + 1) p
   revert hv hle
   generalize rdV f e (next e l) l.tail (d + 1) p = r
   intro hv hle
   cases r with
   | out => exact absurd rfl hv
   | bad a w => simp
   | ok v l' p' =>
    simp only [Le, List.length_tail] at hle
    simp only
    split
    ·simp
    split
    ·rename_i hc
     have := next_end hc
     exact ihL _ _ _ _ _ (by rw [List.length_tail]; omega)
    ·simp
  ·rw [rdM_succ]
   split
   ·simp
   rename_i hk
   have hl : 0 < l.length := by
    cases l with
    | nil => simp [next] at hk
    | cons t l => simp
   split
   ·simp
   split
   ·simp
   rename_i hc
   have hl1 : 0 < l.tail.length := next_end (by simpa using hc)
   rw [List.length_tail] at hl1
   have hv : rdV f e (next e l.tail.tail) l.tail.tail.tail (d + 1) p ≠ .out := by
    exact ihV _ _ _ _ _ (by simp only [List.length_tail]; omega)
   have hle := (rd_le f).1 e (next e l.tail.tail) l.tail.tail.tail (d + 1) p
   revert hv hle
   generalize rdV f e (next e l.tail.tail) l.tail.tail.tail (d + 1) p = r
   intro hv hle
   cases r with
   | out => exact absurd rfl hv
   | bad a w => simp
   | ok v l' p' =>
    simp only [Le, List.length_tail] at hle
    simp only
    split
    ·simp
    split
    ·rename_i hc
     have := next_end hc
     exact ihM _ _ _ _ _ (by rw [List.length_tail]; omega)
    ·simp
end Go.Proofs.YtgaiepficjiclaaGreatDoor.Rd
/- Plain laws of reading: how much, how deep, where faults lie; tokens further on. -/
namespace Go.Proofs.YtgaiepficjiclaaGreatDoor.Rd
set_option linter.unusedVariables false
set_option linter.unusedSimpArgs false
open JV Scn

mutual
def nv : JV → Nat
 | .mk _ _ _ l m => 1 + nvL l + nvM m
termination_by structural v => v
def nvL : List JV → Nat
 | [] => 0
 | v :: l => nv v + nvL l
termination_by structural v => v
def nvM : List (List UInt8 × JV) → Nat
 | [] => 0
 | x :: m => nvP x + nvM m
termination_by structural v => v
def nvP : List UInt8 × JV → Nat
 | (_, v) => nv v
termination_by structural v => v
end
mutual
def dp : JV → Nat → Nat
 | .mk _ _ _ l m, d => max d (max (dpL l (d + 1)) (dpM m (d + 1)))
termination_by structural v => v
def dpL : List JV → Nat → Nat
 | [], _ => 0
 | v :: l, d => max (dp v d) (dpL l d)
termination_by structural v => v
def dpM : List (List UInt8 × JV) → Nat → Nat
 | [], _ => 0
 | x :: m, d => max (dpP x d) (dpM m d)
termination_by structural v => v
def dpP : List UInt8 × JV → Nat → Nat
 | (_, v), d => dp v d
termination_by structural v => v
end
mutual
def uq : JV → Bool
 | .mk _ _ _ l m => uqL l && uqM m && decide (m.map (·.1)).Nodup
termination_by structural v => v
def uqL : List JV → Bool
 | [] => true
 | v :: l => uq v && uqL l
termination_by structural v => v
def uqM : List (List UInt8 × JV) → Bool
 | [] => true
 | x :: m => uqP x && uqM m
termination_by structural v => v
def uqP : List UInt8 × JV → Bool
 | (_, v) => uq v
termination_by structural v => v
end
theorem nv_mk (k n : Int) (s : List UInt8) (l : List JV) (m : List (List UInt8 × JV)) : nv (.mk k n s l m) = 1 + nvL l + nvM m := by conv => lhs; unfold nv
theorem nvL_cons (v : JV) (l : List JV) : nvL (v :: l) = nv v + nvL l := by conv => lhs; unfold nvL
theorem nvM_cons (x : List UInt8 × JV) (m : List (List UInt8 × JV)) : nvM (x :: m) = nv x.2 + nvM m := by conv => lhs; unfold nvM nvP
theorem dp_mk (k n : Int) (s : List UInt8) (l : List JV) (m : List (List UInt8 × JV)) (d : Nat) : dp (.mk k n s l m) d = max d (max (dpL l (d + 1)) (dpM m (d + 1))) := by conv => lhs; unfold dp
theorem dpL_cons (v : JV) (l : List JV) (d : Nat) : dpL (v :: l) d = max (dp v d) (dpL l d) := by conv => lhs; unfold dpL
theorem dpM_cons (x : List UInt8 × JV) (m : List (List UInt8 × JV)) (d : Nat) : dpM (x :: m) d = max (dp x.2 d) (dpM m d) := by conv => lhs; unfold dpM dpP
theorem uq_mk (k n : Int) (s : List UInt8) (l : List JV) (m : List (List UInt8 × JV)) : uq (.mk k n s l m) = (uqL l && uqM m && decide (m.map (·.1)).Nodup) := by conv => lhs; unfold uq
theorem uqL_all (l : List JV) : uqL l = l.all uq := by
 induction l with
 | nil => unfold uqL; rfl
 | cons v l ih => unfold uqL; rw [ih]; rfl
theorem uqM_all (l : List (List UInt8 × JV)) : uqM l = l.all fun x => uq x.2 := by
 induction l with
 | nil => unfold uqM; rfl
 | cons v l ih => unfold uqM uqP; rw [ih]; rfl
theorem nvL_nil : nvL [] = 0 := by unfold nvL; rfl
theorem nvM_nil : nvM [] = 0 := by unfold nvM; rfl
theorem dpL_nil (d : Nat) : dpL [] d = 0 := by unfold dpL; rfl
theorem dpM_nil (d : Nat) : dpM [] d = 0 := by unfold dpM; rfl
theorem nvL_app (a b : List JV) : nvL (a ++ b) = nvL a + nvL b := by
 induction a with
 | nil => simp [nvL_nil]
 | cons v a ih => rw [List.cons_append, nvL_cons, nvL_cons, ih]; omega
theorem nvM_app (a b : List (List UInt8 × JV)) : nvM (a ++ b) = nvM a + nvM b := by
 induction a with
 | nil => simp [nvM_nil]
 | cons v a ih => rw [List.cons_append, nvM_cons, nvM_cons, ih]; omega
theorem dpL_le {l : List JV} {d n : Nat} : dpL l d ≤ n ↔ ∀ v ∈ l, dp v d ≤ n := by
 induction l with
 | nil => simp [dpL_nil]
 | cons v l ih => rw [dpL_cons]; simp only [List.mem_cons, forall_eq_or_imp, ← ih]; omega
theorem dpM_le {l : List (List UInt8 × JV)} {d n : Nat} : dpM l d ≤ n ↔ ∀ v ∈ l, dp v.2 d ≤ n := by
 induction l with
 | nil => simp [dpM_nil]
 | cons v l ih => rw [dpM_cons]; simp only [List.mem_cons, forall_eq_or_imp, ← ih]; omega

theorem leaf_is {t : Tok} {v : JV} (h : leaf t = some v) : nv v = 1 ∧ uq v = true ∧ ∀ d, dp v d = d := by
 unfold leaf at h
 repeat' split at h
 all_goals first
  | (cases h; done)
  | (obtain rfl := Option.some.inj h; simp [textV, intV, nullV, boolV, nv_mk, uq_mk, dp_mk, nvL_nil, nvM_nil, dpL_nil, dpM_nil, uqL_all, uqM_all])

theorem rd_sorts : ∀ f, (∀ e t l d p v l' p', rdV f e t l d p = .ok v l' p' → uq v = true ∧ p' = p + nv v ∧ p' ≤ 8192 ∧ dp v d ≤ 16) ∧
  (∀ e l d p acc v l' p', rdL f e l d p acc = .ok v l' p' → ∃ new, v = listV (acc ++ new) ∧ (∀ u ∈ new, uq u = true ∧ dp u (d + 1) ≤ 16) ∧ p' = p + nvL new ∧ p' ≤ 8192) ∧
  (∀ e l d p acc v l' p', (acc.map (·.1)).Nodup → rdM f e l d p acc = .ok v l' p' → ∃ new, v = mapV (acc ++ new) ∧ (∀ u ∈ new, uq u.2 = true ∧ dp u.2 (d + 1) ≤ 16) ∧ p' = p + nvM new ∧ p' ≤ 8192 ∧ ((acc ++ new).map (·.1)).Nodup) := by
 intro f
 induction f with
 | zero => exact ⟨fun _ _ _ _ _ _ _ _ h => (by unfold rdV at h; cases h), fun _ _ _ _ _ _ _ _ h => (by unfold rdL at h; cases h), fun _ _ _ _ _ _ _ _ _ h => (by unfold rdM at h; cases h)⟩
 | succ f ih =>
  obtain ⟨ihV, ihL, ihM⟩ := ih
  refine ⟨fun e t l d p v l' p' h => ?_, fun e l d p acc v l' p' h => ?_, fun e l d p acc v l' p' hnd h => ?_⟩
  ·rw [rdV_succ] at h
   split at h
   ·cases h
   split at h
   ·cases h
   split at h
   ·cases h
   split at h
   ·rename_i u hu
    simp only [R.ok.injEq] at h
    obtain ⟨rfl, rfl, rfl⟩ := h
    obtain ⟨h1, h2, h3⟩ := leaf_is hu
    rw [h1, h3]
    exact ⟨h2, rfl, by omega, by omega⟩
   ·split at h
    ·split at h
     ·simp only [R.ok.injEq] at h
      obtain ⟨rfl, rfl, rfl⟩ := h
      simp [listV, nv_mk, uq_mk, dp_mk, nvL_nil, nvM_nil, dpL_nil, dpM_nil, uqL_all, uqM_all]
      omega
     ·obtain ⟨new, rfl, h1, h2, h3⟩ := ihL e l d (p + 1) [] v l' p' h
      rw [List.nil_append]
      refine ⟨?_, ?_, h3, ?_⟩
      ·simp only [listV, uq_mk, uqL_all, uqM_all, List.all_nil, List.map_nil, List.nodup_nil, decide_true, Bool.and_true, List.all_eq_true]
       exact fun u hu => (h1 u hu).1
      ·simp only [listV, nv_mk, nvM_nil]; omega
      ·simp only [listV, dp_mk, dpM_nil]
       have := dpL_le.2 (fun u hu => (h1 u hu).2)
       omega
    ·split at h
     ·simp only [R.ok.injEq] at h
      obtain ⟨rfl, rfl, rfl⟩ := h
      simp [mapV, nv_mk, uq_mk, dp_mk, nvL_nil, nvM_nil, dpL_nil, dpM_nil, uqL_all, uqM_all]
      omega
     ·obtain ⟨new, rfl, h1, h2, h3, h4⟩ := ihM e l d (p + 1) [] v l' p' (by simp) h
      rw [List.nil_append] at h4 ⊢
      refine ⟨?_, ?_, h3, ?_⟩
      ·simp only [mapV, uq_mk, uqL_all, uqM_all, List.all_nil, h4, decide_true, Bool.and_true, Bool.true_and, List.all_eq_true]
       exact fun u hu => (h1 u hu).1
      ·simp only [mapV, nv_mk, nvL_nil]; omega
      ·simp only [mapV, dp_mk, dpL_nil]
       have := dpM_le.2 (fun u hu => (h1 u hu).2)
       omega
  ·rw [rdL_succ] at h
   rcases hr : rdV f e (next e l) l.tail (d + 1) p with _ | ⟨a, w⟩ | ⟨u, r, q⟩
   ·rw [hr] at h; cases h
   ·rw [hr] at h; cases h
   ·rw [hr] at h
    simp only at h
    obtain ⟨g1, g2, g3, g4⟩ := ihV _ _ _ _ _ _ _ _ hr
    split at h
    ·simp only [R.ok.injEq] at h
     obtain ⟨rfl, rfl, rfl⟩ := h
     exact ⟨[u], rfl, by simp [g1, g4], by rw [nvL_cons, nvL_nil]; omega, g3⟩
    split at h
    ·obtain ⟨new, rfl, k1, k2, k3⟩ := ihL _ _ _ _ _ _ _ _ h
     refine ⟨u :: new, by simp, ?_, by rw [nvL_cons]; omega, k3⟩
     intro x hx
     rcases List.mem_cons.1 hx with rfl | hx
     ·exact ⟨g1, g4⟩
     ·exact k1 x hx
    ·cases h
  ·rw [rdM_succ] at h
   split at h
   ·cases h
   split at h
   ·cases h
   rename_i hnot
   split at h
   ·cases h
   rcases hr : rdV f e (next e l.tail.tail) l.tail.tail.tail (d + 1) p with _ | ⟨a, w⟩ | ⟨u, r, q⟩
   ·rw [hr] at h; cases h
   ·rw [hr] at h; cases h
   ·rw [hr] at h
    simp only at h
    obtain ⟨g1, g2, g3, g4⟩ := ihV _ _ _ _ _ _ _ _ hr
    have hnd2 : ((acc ++ [((next e l).s, u)]).map (·.1)).Nodup := by
     rw [List.map_append, List.nodup_append]
     refine ⟨hnd, by simp, fun a ha b hb => ?_⟩
     simp at hb
     subst hb
     intro e2
     subst e2
     exact hnot ha
    split at h
    ·simp only [R.ok.injEq] at h
     obtain ⟨rfl, rfl, rfl⟩ := h
     exact ⟨[_], rfl, by simp [g1, g4], by rw [nvM_cons, nvM_nil]; simp only; omega, g3, hnd2⟩
    split at h
    ·obtain ⟨new, rfl, k1, k2, k3, k4⟩ := ihM _ _ _ _ _ _ _ _ hnd2 h
     refine ⟨((next e l).s, u) :: new, by simp, ?_, by rw [nvM_cons]; simp only; omega, k3, by simpa using k4⟩
     intro x hx
     rcases List.mem_cons.1 hx with rfl | hx
     ·exact ⟨g1, g4⟩
     ·exact k1 x hx
    ·cases h

theorem next_at {e : Nat} {l : List Tok} (h : ∀ t ∈ l, t.at_ ≤ e) : (next e l).at_ ≤ e := by
 cases l with
 | nil => exact Nat.le_refl _
 | cons t l => exact h t (by simp)
def Sfx (r : R) (l0 : List Tok) (e : Nat) : Prop := match r with | .out => True | .bad a w => a ≤ e ∧ w ≠ 0 | .ok _ l _ => ∀ t ∈ l, t ∈ l0
theorem mem_tail2 {t : Tok} {l : List Tok} (h : t ∈ l.tail) : t ∈ l := List.mem_of_mem_tail h
theorem rd_place : ∀ f, (∀ e t l d p, t.at_ ≤ e → (∀ x ∈ l, x.at_ ≤ e) → Sfx (rdV f e t l d p) l e) ∧
  (∀ e l d p acc, (∀ x ∈ l, x.at_ ≤ e) → Sfx (rdL f e l d p acc) l e) ∧ (∀ e l d p acc, (∀ x ∈ l, x.at_ ≤ e) → Sfx (rdM f e l d p acc) l e) := by
 intro f
 induction f with
 | zero => exact ⟨fun _ _ _ _ _ _ _ => by unfold rdV; trivial, fun _ _ _ _ _ _ => by unfold rdL; trivial, fun _ _ _ _ _ _ => by unfold rdM; trivial⟩
 | succ f ih =>
  obtain ⟨ihV, ihL, ihM⟩ := ih
  refine ⟨fun e t l d p ht hl => ?_, fun e l d p acc hl => ?_, fun e l d p acc hl => ?_⟩
  ·rw [rdV_succ]
   repeat' split
   all_goals first
    | exact ⟨ht, by decide⟩
    | exact fun _ h => h
    | exact fun _ h => mem_tail2 h
    | exact ihL e l d _ _ hl
    | exact ihM e l d _ _ hl
  ·rw [rdL_succ]
   have hl1 : ∀ x ∈ l.tail, x.at_ ≤ e := fun x hx => hl x (mem_tail2 hx)
   have hv := ihV e (next e l) l.tail (d + 1) p (next_at hl) hl1
   revert hv
   generalize rdV f e (next e l) l.tail (d + 1) p = r
   intro hv
   cases r with
   | out => trivial
   | bad a w => exact hv
   | ok v l' p' =>
    have hl2 : ∀ x ∈ l', x.at_ ≤ e := fun x hx => hl1 x (hv x hx)
    simp only
    split
    ·exact fun x hx => mem_tail2 (hv x (mem_tail2 hx))
    split
    ·have := ihL e l'.tail d p' (acc ++ [v]) (fun x hx => hl2 x (mem_tail2 hx))
     revert this
     generalize rdL f e l'.tail d p' (acc ++ [v]) = r
     intro h
     cases r with
     | out => trivial
     | bad a w => exact h
     | ok v2 l2 p2 => exact fun x hx => mem_tail2 (hv x (mem_tail2 (h x hx)))
    ·exact ⟨next_at hl2, by decide⟩
  ·rw [rdM_succ]
   have hl1 : ∀ x ∈ l.tail, x.at_ ≤ e := fun x hx => hl x (mem_tail2 hx)
   have hl2 : ∀ x ∈ l.tail.tail, x.at_ ≤ e := fun x hx => hl1 x (mem_tail2 hx)
   have hl3 : ∀ x ∈ l.tail.tail.tail, x.at_ ≤ e := fun x hx => hl2 x (mem_tail2 hx)
   split
   ·exact ⟨next_at hl, by decide⟩
   split
   ·exact ⟨next_at hl, by decide⟩
   split
   ·exact ⟨next_at hl1, by decide⟩
   have hv := ihV e (next e l.tail.tail) l.tail.tail.tail (d + 1) p (next_at hl2) hl3
   revert hv
   generalize rdV f e (next e l.tail.tail) l.tail.tail.tail (d + 1) p = r
   intro hv
   cases r with
   | out => trivial
   | bad a w => exact hv
   | ok v l' p' =>
    have hl4 : ∀ x ∈ l', x.at_ ≤ e := fun x hx => hl3 x (hv x hx)
    simp only
    split
    ·exact fun x hx => mem_tail2 (mem_tail2 (mem_tail2 (hv x (mem_tail2 hx))))
    split
    ·have := ihM e l'.tail d p' (acc ++ [((next e l).s, v)]) (fun x hx => hl4 x (mem_tail2 hx))
     revert this
     generalize rdM f e l'.tail d p' (acc ++ [((next e l).s, v)]) = r
     intro h
     cases r with
     | out => trivial
     | bad a w => exact h
     | ok v2 l2 p2 => exact fun x hx => mem_tail2 (mem_tail2 (mem_tail2 (hv x (mem_tail2 (h x hx)))))
    ·exact ⟨next_at hl4, by decide⟩

theorem rd_more : ∀ f, (∀ e t l d p, rdV f e t l d p ≠ .out → rdV (f + 1) e t l d p = rdV f e t l d p) ∧
  (∀ e l d p acc, rdL f e l d p acc ≠ .out → rdL (f + 1) e l d p acc = rdL f e l d p acc) ∧ (∀ e l d p acc, rdM f e l d p acc ≠ .out → rdM (f + 1) e l d p acc = rdM f e l d p acc) := by
 intro f
 induction f with
 | zero => exact ⟨fun _ _ _ _ _ h => absurd (by unfold rdV; rfl) h, fun _ _ _ _ _ h => absurd (by unfold rdL; rfl) h, fun _ _ _ _ _ h => absurd (by unfold rdM; rfl) h⟩
 | succ f ih =>
  obtain ⟨ihV, ihL, ihM⟩ := ih
  refine ⟨fun e t l d p h => ?_, fun e l d p acc h => ?_, fun e l d p acc h => ?_⟩
  ·rw [rdV_succ] at h
   rw [rdV_succ, rdV_succ f]
   split
   ·rfl
   rw [if_neg (by assumption)] at h
   split
   ·rfl
   rw [if_neg (by assumption)] at h
   split
   ·rfl
   rw [if_neg (by assumption)] at h
   cases hle : leaf t with
   | some v => rfl
   | none =>
    rw [hle] at h
    simp only at h ⊢
    split
    ·rename_i h1
     rw [if_pos h1] at h
     split
     ·rfl
     ·rename_i h2
      rw [if_neg h2] at h
      exact ihL _ _ _ _ _ h
    ·rename_i h1
     rw [if_neg h1] at h
     split
     ·rfl
     ·rename_i h2
      rw [if_neg h2] at h
      exact ihM _ _ _ _ _ h
  ·rw [rdL_succ] at h
   rw [rdL_succ, rdL_succ f]
   have h0 : rdV f e (next e l) l.tail (d + 1) p ≠ .out := by intro hz; rw [hz] at h; exact h rfl
   rw [ihV _ _ _ _ _ h0]
   revert h
   generalize rdV f e (next e l) l.tail (d + 1) p = r
   intro h
   cases r with
   | out => rfl
   | bad a w => rfl
   | ok v l' p' =>
    simp only at h ⊢
    split
    ·rfl
    rw [if_neg (by assumption)] at h
    split
    ·rw [if_pos (by assumption)] at h
     exact ihL _ _ _ _ _ h
    ·rfl
  ·rw [rdM_succ] at h
   rw [rdM_succ, rdM_succ f]
   split
   ·rfl
   rw [if_neg (by assumption)] at h
   split
   ·rfl
   rw [if_neg (by assumption)] at h
   split
   ·rfl
   rw [if_neg (by assumption)] at h
   have h0 : rdV f e (next e l.tail.tail) l.tail.tail.tail (d + 1) p ≠ .out := by intro hz; rw [hz] at h; exact h rfl
   rw [ihV _ _ _ _ _ h0]
   revert h
   generalize rdV f e (next e l.tail.tail) l.tail.tail.tail (d + 1) p = r
   intro h
   cases r with
   | out => rfl
   | bad a w => rfl
   | ok v l' p' =>
    simp only at h ⊢
    split
    ·rfl
    rw [if_neg (by assumption)] at h
    split
    ·rw [if_pos (by assumption)] at h
     exact ihM _ _ _ _ _ h
    ·rfl
theorem rdV_more {f e : Nat} {t : Tok} {l : List Tok} {d p : Nat} (h : rdV f e t l d p ≠ .out) : ∀ k, rdV (f + k) e t l d p = rdV f e t l d p
 | 0 => rfl
 | k + 1 => by
  rw [← Nat.add_assoc, (rd_more (f + k)).1 _ _ _ _ _ (by rw [rdV_more h k]; exact h), rdV_more h k]
theorem rdV_any {f g e : Nat} {t : Tok} {l : List Tok} {d p : Nat} (h : rdV f e t l d p ≠ .out) (h2 : rdV g e t l d p ≠ .out) : rdV f e t l d p = rdV g e t l d p := by
 rcases Nat.le_total f g with hfg | hfg
 ·rw [show g = f + (g - f) by omega, rdV_more h]
 ·rw [show f = g + (f - g) by omega, rdV_more h2]
end Go.Proofs.YtgaiepficjiclaaGreatDoor.Rd
/- A token is told by its own bytes and by a sign behind them; tokens further on, and deeper. -/
namespace Go.Proofs.YtgaiepficjiclaaGreatDoor.Scn
set_option linter.unusedVariables false
set_option linter.unusedSimpArgs false

def cut (g : UInt8) : Bool := white g || mark g
theorem cut_all : ∀ g : UInt8, cut g = true → (Nm.isDig g = false ∧ g ≠ 46 ∧ g ≠ 101 ∧ g ≠ 69 ∧ part g = false) ∧ (g ∉ wTrue ∧ g ∉ wFalse ∧ g ∉ wNull) := by
 intro g
 have h : ∀ n : Fin 256, cut (UInt8.ofFin n) = true → (Nm.isDig (UInt8.ofFin n) = false ∧ (UInt8.ofFin n) ≠ 46 ∧ (UInt8.ofFin n) ≠ 101 ∧ (UInt8.ofFin n) ≠ 69 ∧ part (UInt8.ofFin n) = false) ∧ ((UInt8.ofFin n) ∉ wTrue ∧ (UInt8.ofFin n) ∉ wFalse ∧ (UInt8.ofFin n) ∉ wNull) := by decide +kernel
 exact h g.toFin
theorem cut_num {g : UInt8} (h : cut g = true) : Nm.isDig g = false ∧ g ≠ 46 ∧ g ≠ 101 ∧ g ≠ 69 ∧ part g = false := (cut_all g h).1
theorem cut_word {g : UInt8} (h : cut g = true) : g ∉ wTrue ∧ g ∉ wFalse ∧ g ∉ wNull := (cut_all g h).2
theorem readNum_cut {l u : List UInt8} {k : Nat} {g : UInt8} (hg : cut g = true) (hk : k < l.length) (h : (Nm.readNum l k).2.2 = 0) : Nm.readNum (l ++ g :: u) k = Nm.readNum l k := by
 obtain ⟨g1, g2, g3, g4, _⟩ := cut_num hg
 obtain ⟨f, hf⟩ : ∃ f, f = if l.getD k 0 = 45 then k + 1 else k := ⟨_, rfl⟩
 obtain ⟨E, hE⟩ : ∃ E, f + Nm.digLen (l.drop f) = E := ⟨_, rfl⟩
 have hfl : f ≤ l.length := by subst hf; split <;> omega
 have hd := Nm.digLen_le (l.drop f)
 simp only [List.length_drop] at hd
 have hf' : f = if (l ++ g :: u).getD k 0 = 45 then k + 1 else k := by rw [getD_app hk]; exact hf
 have hE' : f + Nm.digLen ((l ++ g :: u).drop f) = E := by rw [drop_app hfl, digLen_app g1]; exact hE
 by_cases hb : E = f ∨ (l.getD f 0 = 48 ∧ 1 < E - f) ∨ (E < l.length ∧ (l.getD E 0 = 46 ∨ l.getD E 0 = 101 ∨ l.getD E 0 = 69))
 ·rw [Nm.readNum_bad hk hf hE hb] at h; simp at h
 ·have hEf : E ≠ f := fun e => hb (.inl e)
  have hft : ((l ++ g :: u).drop f).take (E - f) = (l.drop f).take (E - f) := by
   rw [drop_app hfl, List.take_append_of_le_length (by simp; omega)]
  rw [Nm.readNum_good hk hf hE hb, Nm.readNum_good (by simp; omega) hf' hE' (by
   rw [getD_app (show f < l.length by omega)]
   intro h
   apply hb
   rcases h with h | h | h
   ·exact .inl h
   ·exact .inr (.inl h)
   ·right; right
    by_cases hEl : E < l.length
    ·rw [getD_app hEl] at h
     exact ⟨hEl, h.2⟩
    ·exfalso
     have e : (l ++ g :: u).getD E 0 = g := by
      rw [show E = l.length by omega]
      simp [List.getD_eq_getElem?_getD]
     rw [e] at h
     rcases h.2 with h | h | h
     ·exact g2 h
     ·exact g3 h
     ·exact g4 h), hft, getD_app hk]
theorem wordLen_cut {d u : List UInt8} {g : UInt8} (hg : cut g = true) : wordLen (d ++ g :: u) = wordLen d := by
 obtain ⟨_, _, _, _, hp⟩ := cut_num hg
 obtain ⟨h1, h2, h3⟩ := cut_word hg
 unfold wordLen
 rw [pre_local hp h1, pre_local hp h2, pre_local hp h3]
theorem tokAt_cut {l u : List UInt8} {k n : Nat} {g : UInt8} {t : Tok} (hg : cut g = true) (hk : k < l.length) (h : tokAt l k = .tok t n) : tokAt (l ++ g :: u) k = .tok t n := by
 have h0 := h
 unfold tokAt at h ⊢
 simp only at h ⊢
 rw [getD_app hk]
 by_cases h34 : l.getD k 0 = 34
 ·rw [if_pos h34] at h ⊢
  by_cases hc : (Chr.read l k).2.2 = 0
  ·rw [read_local hc]; exact h
  ·rw [if_neg hc] at h; cases h
 rw [if_neg h34] at h ⊢
 by_cases hd : l.getD k 0 = 45 ∨ (48 ≤ (l.getD k 0).toNat ∧ (l.getD k 0).toNat ≤ 57)
 ·rw [if_pos hd] at h ⊢
  by_cases hc : (Nm.readNum l k).2.2 = 0
  ·rw [readNum_cut hg hk hc]; exact h
  ·rw [if_neg hc] at h; cases h
 rw [if_neg hd] at h ⊢
 by_cases hm : mark (l.getD k 0) = true
 ·rw [if_pos hm] at h ⊢; exact h
 rw [if_neg hm] at h ⊢
 rw [drop_app (by omega), wordLen_cut hg]
 by_cases hw : wordLen (l.drop k) = 0
 ·rw [if_pos hw] at h; cases h
 ·rw [if_neg hw] at h ⊢
  rw [← h, List.take_append_of_le_length (wordLen_le _).1]
theorem tk_cut {l u : List UInt8} {g : UInt8} (hg : cut g = true) : ∀ (n k : Nat), l.length ≤ k + n → k ≤ l.length → (tk l k).2.2 = 0 →
  tk (l ++ g :: u) k = if (tk (l ++ g :: u) l.length).2.2 = 0 then ((tk l k).1 ++ (tk (l ++ g :: u) l.length).1, 0, 0) else ([], (tk (l ++ g :: u) l.length).2)
 | n, k, hn, hkl, h => by
  by_cases h1 : l.length ≤ k
  ·obtain rfl : k = l.length := by omega
   rw [tk_end h1]
   split
   ·rename_i h2
    have h3 := tk_ok (l ++ g :: u).length (l ++ g :: u) l.length (by omega) h2
    rw [List.nil_append]
    apply Prod.ext
    ·rfl
    ·exact Prod.ext h3.1 h2
   ·rename_i h2
    have h3 := tk_bad (l ++ g :: u).length (l ++ g :: u) l.length (by omega) h2
    apply Prod.ext
    ·exact h3.1
    ·rfl
  have hlen : k < (l ++ g :: u).length := by simp; omega
  by_cases h2 : white (l.getD k 0) = true
  ·rw [tk_white (by omega) h2] at h ⊢
   rw [tk_white hlen (by rw [getD_app (by omega)]; exact h2)]
   cases n with
   | zero => omega
   | succ n => exact tk_cut hg n (k + 1) (by omega) (by omega) h
  have h2' : white (l.getD k 0) = false := by simpa using h2
  rcases ht : tokAt l k with ⟨e, q⟩ | ⟨t, m⟩
  ·have := tokAt_err (by omega) ht
   rw [tk_err (by omega) h2' ht] at h
   exact absurd h this.2
  ·have hm := tokAt_next (by omega) ht
   have hl := tokAt_cut (u := u) hg (by omega) ht
   rw [tk_tok (by omega) h2' ht] at h ⊢
   rw [tk_tok hlen (by rw [getD_app (by omega)]; exact h2') hl]
   cases n with
   | zero => omega
   | succ n =>
    by_cases h3 : (tk l m).2.2 = 0
    ·rw [if_pos h3]
     rw [tk_cut hg n m (by omega) (by omega) h3]
     by_cases h4 : (tk (l ++ g :: u) l.length).2.2 = 0
     ·rw [if_pos h4, if_pos h4]; simp
     ·rw [if_neg h4, if_neg h4]
      simp only
      rw [if_neg h4]
    ·rw [if_neg h3] at h
     exact absurd h h3

end Go.Proofs.YtgaiepficjiclaaGreatDoor.Scn
namespace Go.Proofs.YtgaiepficjiclaaGreatDoor.Rd
set_option linter.unusedVariables false
set_option linter.unusedSimpArgs false
open JV Scn

theorem next_sh (m e : Nat) (l : List Tok) : next (e + m) (l.map (shTok m)) = shTok m (next e l) := by cases l <;> rfl
def shR (m : Nat) : R → R
 | .out => .out
 | .bad a w => .bad (a + m) w
 | .ok v l p => .ok v (l.map (shTok m)) p
theorem rd_shift (m : Nat) : ∀ f, (∀ e t l d p, rdV f (e + m) (shTok m t) (l.map (shTok m)) d p = shR m (rdV f e t l d p)) ∧
  (∀ e l d p acc, rdL f (e + m) (l.map (shTok m)) d p acc = shR m (rdL f e l d p acc)) ∧ (∀ e l d p acc, rdM f (e + m) (l.map (shTok m)) d p acc = shR m (rdM f e l d p acc)) := by
 intro f
 induction f with
 | zero => exact ⟨fun _ _ _ _ _ => by unfold rdV; rfl, fun _ _ _ _ _ => by unfold rdL; rfl, fun _ _ _ _ _ => by unfold rdM; rfl⟩
 | succ f ih =>
  obtain ⟨ihV, ihL, ihM⟩ := ih
  have el : ∀ t, leaf (shTok m t) = leaf t := fun _ => rfl
  have em : ∀ t c, isM (shTok m t) c = isM t c := fun _ _ => rfl
  have ea : ∀ t, (shTok m t).at_ = t.at_ + m := fun _ => rfl
  have ek : ∀ t, (shTok m t).kind = t.kind := fun _ => rfl
  have es : ∀ t, (shTok m t).s = t.s := fun _ => rfl
  have et : ∀ l : List Tok, (l.map (shTok m)).tail = l.tail.map (shTok m) := fun l => by cases l <;> rfl
  refine ⟨fun e t l d p => ?_, fun e l d p acc => ?_, fun e l d p acc => ?_⟩
  ·rw [rdV_succ, rdV_succ]
   simp only [el, em, ea, next_sh, et, ihL, ihM]
   repeat' split
   all_goals first | rfl | simp_all [shR]
  ·rw [rdL_succ, rdL_succ]
   simp only [el, em, ea, next_sh, et, ihV]
   generalize rdV f e (next e l) l.tail (d + 1) p = r
   cases r with
   | out => rfl
   | bad a w => rfl
   | ok v l' p' =>
    simp only [shR, el, em, ea, next_sh, et, ihL]
    by_cases h1 : isM (next e l') 93 = true
    ·rw [if_pos h1, if_pos h1]
    rw [if_neg h1, if_neg h1]
    by_cases h2 : isM (next e l') 44 = true
    ·rw [if_pos h2, if_pos h2]
    ·rw [if_neg h2, if_neg h2]
  ·rw [rdM_succ, rdM_succ]
   simp only [el, em, ea, ek, es, next_sh, et, ihV]
   split
   ·rfl
   split
   ·rfl
   split
   ·rfl
   generalize rdV f e (next e l.tail.tail) l.tail.tail.tail (d + 1) p = r
   cases r with
   | out => rfl
   | bad a w => rfl
   | ok v l' p' =>
    simp only [shR, el, em, ea, next_sh, et, ihM]
    by_cases h1 : isM (next e l') 125 = true
    ·rw [if_pos h1, if_pos h1]
    rw [if_neg h1, if_neg h1]
    by_cases h2 : isM (next e l') 44 = true
    ·rw [if_pos h2, if_pos h2]
    ·rw [if_neg h2, if_neg h2]

def ext (m : Nat) (xs l : List Tok) : List Tok := l.map (shTok m) ++ xs
theorem ext_next {m e2 e : Nat} {xs l : List Tok} (h : 0 < l.length) : next e2 (ext m xs l) = shTok m (next e l) ∧ (ext m xs l).tail = ext m xs l.tail := by
 cases l with
 | nil => simp at h
 | cons t l => exact ⟨rfl, rfl⟩
theorem dpL_mem {u : JV} {l : List JV} {d : Nat} (h : u ∈ l) : dp u d ≤ dpL l d := dpL_le.1 (Nat.le_refl _) u h
theorem dpM_mem {u : List UInt8 × JV} {l : List (List UInt8 × JV)} {d : Nat} (h : u ∈ l) : dp u.2 d ≤ dpM l d := dpM_le.1 (Nat.le_refl _) u h
theorem dp_ge (v : JV) (d : Nat) : d ≤ dp v d := by cases v; rw [dp_mk]; omega
theorem nv_pos (v : JV) : 1 ≤ nv v := by cases v; rw [nv_mk]; omega
theorem rdL_ne {f e d p : Nat} {acc : List JV} {v : JV} {r : List Tok} {q : Nat} (h : rdL f e [] d p acc = .ok v r q) : False := by
 cases f with
 | zero => unfold rdL at h; cases h
 | succ f =>
  rw [rdL_succ] at h
  cases f with
  | zero => unfold rdV at h; cases h
  | succ f => rw [rdV_end] at h; cases h
theorem rdM_ne {f e d p : Nat} {acc : List (List UInt8 × JV)} {v : JV} {r : List Tok} {q : Nat} (h : rdM f e [] d p acc = .ok v r q) : False := by
 cases f with
 | zero => unfold rdM at h; cases h
 | succ f => rw [rdM_succ] at h; simp [next] at h
theorem rdM_new : ∀ {f e : Nat} {l : List Tok} {d p : Nat} {acc : List (List UInt8 × JV)} {v : JV} {r : List Tok} {q : Nat}, rdM f e l d p acc = .ok v r q → ∃ new, v = mapV (acc ++ new) ∧ p ≤ q
 | 0, e, l, d, p, acc, v, r, q, h => by unfold rdM at h; cases h
 | f + 1, e, l, d, p, acc, v, r, q, h => by
  rw [rdM_succ] at h
  split at h
  ·cases h
  split at h
  ·cases h
  split at h
  ·cases h
  rcases hr : rdV f e (next e l.tail.tail) l.tail.tail.tail (d + 1) p with _ | ⟨a, w⟩ | ⟨u, r1, q1⟩
  ·rw [hr] at h; cases h
  ·rw [hr] at h; cases h
  rw [hr] at h
  simp only at h
  have hs := ((rd_sorts f).1 _ _ _ _ _ _ _ _ hr).2.1
  split at h
  ·simp only [R.ok.injEq] at h
   obtain ⟨rfl, rfl, rfl⟩ := h
   exact ⟨_, rfl, by omega⟩
  split at h
  ·obtain ⟨new, hn, hq⟩ := rdM_new h
   exact ⟨((next e l).s, u) :: new, by rw [hn]; simp, by omega⟩
  ·cases h
def Wr (c : Nat) (x : R) (v : JV) (l : List Tok) (p : Nat) : Prop := if c = 0 then x = .ok v l (p + 1) else ∃ a, x = .bad a c
def Cd (c depth p : Nat) : Prop := c = 0 ∨ (c = 51 ∧ 16 ≤ depth) ∨ (c = 53 ∧ 8192 ≤ p)
theorem rd_wrap : ∀ f,
  (∀ e t l d p v r q, rdV f e t l d p = .ok v r q → ∃ c, Cd c (dp v d) q ∧ ∀ e2 m xs, Wr c (rdV f e2 (shTok m t) (ext m xs l) (d + 1) (p + 1)) v (ext m xs r) q) ∧
  (∀ e l d p acc v r q, rdL f e l d p acc = .ok v r q → ∃ c, Cd c (dp v d) q ∧ ∀ e2 m xs, Wr c (rdL f e2 (ext m xs l) (d + 1) (p + 1) acc) v (ext m xs r) q) ∧
  (∀ e l d p acc v r q, rdM f e l d p acc = .ok v r q → ∃ c, Cd c (dp v d) q ∧ ∀ e2 m xs, Wr c (rdM f e2 (ext m xs l) (d + 1) (p + 1) acc) v (ext m xs r) q) := by
 intro f
 induction f with
 | zero => exact ⟨fun _ _ _ _ _ _ _ _ h => (by unfold rdV at h; cases h), fun _ _ _ _ _ _ _ _ h => (by unfold rdL at h; cases h), fun _ _ _ _ _ _ _ _ h => (by unfold rdM at h; cases h)⟩
 | succ f ih =>
  obtain ⟨ihV, ihL, ihM⟩ := ih
  have el : ∀ m t, leaf (shTok m t) = leaf t := fun _ _ => rfl
  have em : ∀ m t c, isM (shTok m t) c = isM t c := fun _ _ _ => rfl
  have ea : ∀ m t, (shTok m t).at_ = t.at_ + m := fun _ _ => rfl
  refine ⟨fun e t l d p v r q h => ?_, fun e l d p acc v r q h => ?_, fun e l d p acc v r q h => ?_⟩
  ·have hs := (rd_sorts (f + 1)).1 _ _ _ _ _ _ _ _ h
   have hn := nv_pos v
   have hd := dp_ge v d
   rw [rdV_succ] at h
   by_cases g1 : leaf t = none ∧ isM t 91 = false ∧ isM t 123 = false
   ·rw [if_pos g1] at h; cases h
   rw [if_neg g1] at h
   by_cases g2 : 16 < d
   ·rw [if_pos g2] at h; cases h
   rw [if_neg g2] at h
   by_cases g3 : 8192 ≤ p
   ·rw [if_pos g3] at h; cases h
   rw [if_neg g3] at h
   by_cases k2 : 16 < d + 1
   ·refine ⟨51, .inr (.inl ⟨rfl, by omega⟩), fun e2 m xs => ?_⟩
    unfold Wr
    rw [if_neg (by decide), rdV_succ, el, em, em, if_neg g1, if_pos k2]
    exact ⟨_, rfl⟩
   by_cases k3 : 8192 ≤ p + 1
   ·refine ⟨53, .inr (.inr ⟨rfl, by omega⟩), fun e2 m xs => ?_⟩
    unfold Wr
    rw [if_neg (by decide), rdV_succ, el, em, em, if_neg g1, if_neg k2, if_pos k3]
    exact ⟨_, rfl⟩
   cases hl : leaf t with
   | some u =>
    rw [hl] at h
    simp only [R.ok.injEq] at h
    obtain ⟨rfl, rfl, rfl⟩ := h
    refine ⟨0, .inl rfl, fun e2 m xs => ?_⟩
    unfold Wr
    rw [if_pos rfl, rdV_succ, el, em, em, if_neg g1, if_neg k2, if_neg k3, hl]
   | none =>
    rw [hl] at h
    simp only at h
    by_cases h91 : isM t 91 = true
    ·rw [if_pos h91] at h
     by_cases h93 : isM (next e l) 93 = true
     ·rw [if_pos h93] at h
      simp only [R.ok.injEq] at h
      obtain ⟨rfl, rfl, rfl⟩ := h
      refine ⟨0, .inl rfl, fun e2 m xs => ?_⟩
      have hx := ext_next (m := m) (e2 := e2) (e := e) (xs := xs) (next_end h93)
      unfold Wr
      rw [if_pos rfl, rdV_succ, el, em, em, if_neg g1, if_neg k2, if_neg k3, hl]
      simp only
      rw [if_pos h91, hx.1, em, if_pos h93, hx.2]
     ·rw [if_neg h93] at h
      have h0 : 0 < l.length := by
       cases l with
       | nil => exact (rdL_ne h).elim
       | cons t l => simp
      obtain ⟨c, hc, hw⟩ := ihL _ _ _ _ _ _ _ _ h
      refine ⟨c, hc, fun e2 m xs => ?_⟩
      have hx := ext_next (m := m) (e2 := e2) (e := e) (xs := xs) h0
      rw [rdV_succ, el, em, em, if_neg g1, if_neg k2, if_neg k3, hl]
      simp only
      rw [if_pos h91, hx.1, em, if_neg h93]
      exact hw e2 m xs
    ·rw [if_neg h91] at h
     by_cases h93 : isM (next e l) 125 = true
     ·rw [if_pos h93] at h
      simp only [R.ok.injEq] at h
      obtain ⟨rfl, rfl, rfl⟩ := h
      refine ⟨0, .inl rfl, fun e2 m xs => ?_⟩
      have hx := ext_next (m := m) (e2 := e2) (e := e) (xs := xs) (next_end h93)
      unfold Wr
      rw [if_pos rfl, rdV_succ, el, em, em, if_neg g1, if_neg k2, if_neg k3, hl]
      simp only
      rw [if_neg h91, hx.1, em, if_pos h93, hx.2]
     ·rw [if_neg h93] at h
      have h0 : 0 < l.length := by
       cases l with
       | nil => exact (rdM_ne h).elim
       | cons t l => simp
      obtain ⟨c, hc, hw⟩ := ihM _ _ _ _ _ _ _ _ h
      refine ⟨c, hc, fun e2 m xs => ?_⟩
      have hx := ext_next (m := m) (e2 := e2) (e := e) (xs := xs) h0
      rw [rdV_succ, el, em, em, if_neg g1, if_neg k2, if_neg k3, hl]
      simp only
      rw [if_neg h91, hx.1, em, if_neg h93]
      exact hw e2 m xs
  ·have h0 : 0 < l.length := by
    cases l with
    | nil => exact (rdL_ne h).elim
    | cons t l => simp
   rw [rdL_succ] at h
   rcases hr : rdV f e (next e l) l.tail (d + 1) p with _ | ⟨a, w⟩ | ⟨u, r1, q1⟩
   ·rw [hr] at h; cases h
   ·rw [hr] at h; cases h
   rw [hr] at h
   simp only at h
   obtain ⟨c1, hc1, hw1⟩ := ihV _ _ _ _ _ _ _ _ hr
   by_cases h93 : isM (next e r1) 93 = true
   ·rw [if_pos h93] at h
    simp only [R.ok.injEq] at h
    obtain ⟨rfl, rfl, rfl⟩ := h
    have hdp : dp u (d + 1) ≤ dp (listV (acc ++ [u])) d := by
     unfold listV
     rw [dp_mk]
     have := dpL_mem (d := d + 1) (show u ∈ acc ++ [u] by simp)
     omega
    have hcd : Cd c1 (dp (listV (acc ++ [u])) d) q1 := by
     rcases hc1 with h | h | h
     ·exact .inl h
     ·exact .inr (.inl ⟨h.1, by omega⟩)
     ·exact .inr (.inr h)
    refine ⟨c1, hcd, fun e2 m xs => ?_⟩
    have hx := ext_next (m := m) (e2 := e2) (e := e) (xs := xs) h0
    have hy := ext_next (m := m) (e2 := e2) (e := e) (xs := xs) (next_end h93)
    have hw := hw1 e2 m xs
    rw [rdL_succ, hx.1, hx.2]
    unfold Wr at hw ⊢
    by_cases h2 : c1 = 0
    ·rw [if_pos h2] at hw ⊢
     rw [hw]
     simp only
     rw [hy.1, em, if_pos h93, hy.2]
    ·rw [if_neg h2] at hw ⊢
     obtain ⟨a, hw⟩ := hw
     rw [hw]
     exact ⟨a, rfl⟩
   rw [if_neg h93] at h
   by_cases h44 : isM (next e r1) 44 = true
   ·rw [if_pos h44] at h
    obtain ⟨c2, hc2, hw2⟩ := ihL _ _ _ _ _ _ _ _ h
    obtain ⟨new, hnew, _, hq, _⟩ := (rd_sorts f).2.1 _ _ _ _ _ _ _ _ h
    by_cases h2 : c1 = 0
    ·refine ⟨c2, hc2, fun e2 m xs => ?_⟩
     have hx := ext_next (m := m) (e2 := e2) (e := e) (xs := xs) h0
     have hy := ext_next (m := m) (e2 := e2) (e := e) (xs := xs) (next_end h44)
     have hw := hw1 e2 m xs
     rw [rdL_succ, hx.1, hx.2]
     unfold Wr at hw
     rw [if_pos h2] at hw
     rw [hw]
     simp only
     rw [hy.1, em, if_neg h93, em, if_pos h44, hy.2]
     exact hw2 e2 m xs
    ·have hdp : dp u (d + 1) ≤ dp v d := by
      rw [hnew]
      unfold listV
      rw [dp_mk]
      have := dpL_mem (d := d + 1) (show u ∈ acc ++ [u] ++ new by simp)
      omega
     have hcd : Cd c1 (dp v d) q := by
      rcases hc1 with h | h | h
      ·exact .inl h
      ·exact .inr (.inl ⟨h.1, by omega⟩)
      ·exact .inr (.inr ⟨h.1, by omega⟩)
     refine ⟨c1, hcd, fun e2 m xs => ?_⟩
     have hx := ext_next (m := m) (e2 := e2) (e := e) (xs := xs) h0
     have hw := hw1 e2 m xs
     rw [rdL_succ, hx.1, hx.2]
     unfold Wr at hw ⊢
     rw [if_neg h2] at hw ⊢
     obtain ⟨a, hw⟩ := hw
     rw [hw]
     exact ⟨a, rfl⟩
   ·rw [if_neg h44] at h; cases h
  ·have h0 : 0 < l.length := by
    cases l with
    | nil => exact (rdM_ne h).elim
    | cons t l => simp
   have es : ∀ m t, (shTok m t).s = t.s := fun _ _ => rfl
   have ek : ∀ m t, (shTok m t).kind = t.kind := fun _ _ => rfl
   rw [rdM_succ] at h
   by_cases g1 : (next e l).kind ≠ 4
   ·rw [if_pos g1] at h; cases h
   rw [if_neg g1] at h
   by_cases g2 : (next e l).s ∈ acc.map (·.1)
   ·rw [if_pos g2] at h; cases h
   rw [if_neg g2] at h
   by_cases g3 : isM (next e l.tail) 58 = false
   ·rw [if_pos g3] at h; cases h
   rw [if_neg g3] at h
   have h1 : 0 < l.tail.length := next_end (by simpa using g3)
   rcases hr : rdV f e (next e l.tail.tail) l.tail.tail.tail (d + 1) p with _ | ⟨a, w⟩ | ⟨u, r1, q1⟩
   ·rw [hr] at h; cases h
   ·rw [hr] at h; cases h
   have h2 : 0 < l.tail.tail.length := by
    cases hlt : l.tail.tail with
    | nil =>
     rw [hlt] at hr
     cases f with
     | zero => unfold rdV at hr; cases hr
     | succ f => rw [rdV_end] at hr; cases hr
    | cons t l => simp
   rw [hr] at h
   simp only at h
   obtain ⟨c1, hc1, hw1⟩ := ihV _ _ _ _ _ _ _ _ hr
   have hstep : ∀ e2 m xs, rdM (f + 1) e2 (ext m xs l) (d + 1) (p + 1) acc = match rdV f e2 (shTok m (next e l.tail.tail)) (ext m xs l.tail.tail.tail) (d + 1 + 1) (p + 1) with
     | .out => .out
     | .bad a w => .bad a w
     | .ok v l' p' => if isM (next e2 l') 125 then .ok (mapV (acc ++ [((next e l).s, v)])) l'.tail p' else if isM (next e2 l') 44 then rdM f e2 l'.tail (d + 1) p' (acc ++ [((next e l).s, v)]) else .bad (next e2 l').at_ 50 := by
    intro e2 m xs
    have hx := ext_next (m := m) (e2 := e2) (e := e) (xs := xs) h0
    have hx1 := ext_next (m := m) (e2 := e2) (e := e) (xs := xs) h1
    have hx2 := ext_next (m := m) (e2 := e2) (e := e) (xs := xs) h2
    rw [rdM_succ, hx.1, hx.2, hx1.1, hx1.2, hx2.1, hx2.2, ek, es, em, if_neg g1, if_neg g2, if_neg g3]
    all_goals
     generalize rdV f e2 (shTok m (next e l.tail.tail)) (ext m xs l.tail.tail.tail) (d + 1 + 1) (p + 1) = x
     cases x <;> rfl
   by_cases h93 : isM (next e r1) 125 = true
   ·rw [if_pos h93] at h
    simp only [R.ok.injEq] at h
    obtain ⟨rfl, rfl, rfl⟩ := h
    have hdp : dp u (d + 1) ≤ dp (mapV (acc ++ [((next e l).s, u)])) d := by
     unfold mapV
     rw [dp_mk]
     have := dpM_mem (d := d + 1) (show ((next e l).s, u) ∈ acc ++ [((next e l).s, u)] by simp)
     simp only at this
     omega
    have hcd : Cd c1 (dp (mapV (acc ++ [((next e l).s, u)])) d) q1 := by
     rcases hc1 with h | h | h
     ·exact .inl h
     ·exact .inr (.inl ⟨h.1, by omega⟩)
     ·exact .inr (.inr h)
    refine ⟨c1, hcd, fun e2 m xs => ?_⟩
    have hy := ext_next (m := m) (e2 := e2) (e := e) (xs := xs) (next_end h93)
    have hw := hw1 e2 m xs
    rw [hstep]
    unfold Wr at hw ⊢
    by_cases h2 : c1 = 0
    ·rw [if_pos h2] at hw ⊢
     rw [hw]
     simp only
     rw [hy.1, em, if_pos h93, hy.2]
    ·rw [if_neg h2] at hw ⊢
     obtain ⟨a, hw⟩ := hw
     rw [hw]
     exact ⟨a, rfl⟩
   rw [if_neg h93] at h
   by_cases h44 : isM (next e r1) 44 = true
   ·rw [if_pos h44] at h
    obtain ⟨c2, hc2, hw2⟩ := ihM _ _ _ _ _ _ _ _ h
    by_cases h2 : c1 = 0
    ·refine ⟨c2, hc2, fun e2 m xs => ?_⟩
     have hy := ext_next (m := m) (e2 := e2) (e := e) (xs := xs) (next_end h44)
     have hw := hw1 e2 m xs
     rw [hstep]
     unfold Wr at hw
     rw [if_pos h2] at hw
     rw [hw]
     simp only
     rw [hy.1, em, if_neg h93, em, if_pos h44, hy.2]
     exact hw2 e2 m xs
    ·obtain ⟨new, hnew, hq⟩ := rdM_new h
     have hdp : dp u (d + 1) ≤ dp v d := by
      rw [hnew]
      unfold mapV
      rw [dp_mk]
      have := dpM_mem (d := d + 1) (show ((next e l).s, u) ∈ acc ++ [((next e l).s, u)] ++ new by simp)
      simp only at this
      omega
     have hcd : Cd c1 (dp v d) q := by
      rcases hc1 with h | h | h
      ·exact .inl h
      ·exact .inr (.inl ⟨h.1, by omega⟩)
      ·exact .inr (.inr ⟨h.1, by omega⟩)
     refine ⟨c1, hcd, fun e2 m xs => ?_⟩
     have hw := hw1 e2 m xs
     rw [hstep]
     unfold Wr at hw ⊢
     rw [if_neg h2] at hw ⊢
     obtain ⟨a, hw⟩ := hw
     rw [hw]
     exact ⟨a, rfl⟩
   ·rw [if_neg h44] at h; cases h
end Go.Proofs.YtgaiepficjiclaaGreatDoor.Rd
/- Plain laws of reading: a right value's text is read as it was. -/
namespace Go.Proofs.YtgaiepficjiclaaGreatDoor.Rd
set_option linter.unusedVariables false
set_option linter.unusedSimpArgs false
open JV Scn

def Ct (u : List UInt8) : Prop := u = [] ∨ ∃ g r, u = g :: r ∧ cut g = true
theorem Ct.cons {g : UInt8} (h : cut g = true) (r : List UInt8) : Ct (g :: r) := .inr ⟨g, r, rfl, h⟩
theorem Ct.ends {u : List UInt8} (h : Ct u) : Nm.ends u = true := by
 rcases h with rfl | ⟨g, r, rfl, h⟩
 ·rfl
 ·obtain ⟨g1, g2, g3, g4, _⟩ := cut_num h
  simp only [Nm.ends]; simp [g1, g2, g3, g4]
theorem wr_at {t : Tok} (h : Good t) {u : List UInt8} (hu : Ct u) : white ((wr t ++ u).getD 0 0) = false ∧ tokAt (wr t ++ u) 0 = .tok { t with at_ := 0 } (wr t).length ∧ wr t ≠ [] := by
 cases h with
 | mark c a hm =>
  have e : wr ⟨1, 0, [c], a⟩ = [c] := rfl
  rw [e]
  rcases mark_cases hm with rfl | rfl | rfl | rfl | rfl | rfl <;> exact ⟨rfl, rfl, by simp⟩
 | word w a hw =>
  have e : wr ⟨2, 0, w, a⟩ = w := rfl
  rw [e]
  have hl : ∀ d : List UInt8, wordLen (d ++ u) = wordLen d := by
   intro d
   rcases hu with rfl | ⟨g, r, rfl, h⟩
   ·rw [List.append_nil]
   ·exact wordLen_cut h
  unfold tokAt
  simp only [List.drop_zero]
  rw [hl]
  rcases hw with rfl | rfl | rfl <;> exact ⟨rfl, rfl, by decide⟩
 | num n a h1 h2 =>
  have e : wr ⟨3, n, [], a⟩ = Nm.put n := rfl
  rw [e]
  obtain ⟨c, r, hp, hc⟩ := put_head n
  have hr := Nm.readNum_put n u hu.ends
  rw [if_pos ⟨h1, h2⟩] at hr
  have e0 : (Nm.put n ++ u).getD 0 0 = c := by rw [hp]; rfl
  have hwc : white c = false := by
   rcases hc with rfl | hc
   ·rfl
   ·simp only [white, Bool.or_eq_false_iff, beq_eq_false_iff_ne]
    refine ⟨⟨⟨?_, ?_⟩, ?_⟩, ?_⟩ <;> (intro e; subst e; simp at hc)
  have h34 : c ≠ 34 := by
   rcases hc with rfl | hc
   ·decide
   ·intro e; subst e; simp at hc
  refine ⟨by rw [e0]; exact hwc, ?_, by rw [hp]; simp⟩
  unfold tokAt
  simp only
  rw [e0, if_neg h34, if_pos hc]
  have hr' : Nm.readNum (Nm.put n ++ u) ((0 : Nat) : Int) = (n, ((Nm.put n).length : Int), 0) := hr
  rw [hr']
  simp
 | text s a hs =>
  have e : wr ⟨4, 0, s, a⟩ = Chr.quote s := by unfold wr Chr.quoteO; simp [hs]
  rw [e]
  have hr := Chr.read_back (h := []) (s := s) (t := u) hs
  simp only [List.nil_append, List.length_nil] at hr
  have e0 : (Chr.quote s ++ u).getD 0 0 = 34 := rfl
  refine ⟨by rw [e0]; rfl, ?_, by simp [Chr.quote]⟩
  unfold tokAt
  simp only
  rw [e0, if_pos rfl, hr]
  simp
def Gv (p x u : List UInt8) (ts : List Tok) : Prop :=
 (tk (p ++ (x ++ u)) (p.length + x.length)).2.2 = 0 → tk (p ++ (x ++ u)) p.length = (ts ++ (tk (p ++ (x ++ u)) (p.length + x.length)).1, 0, 0)
theorem Gv.of {x u : List UInt8} {t : Tok} (p : List UInt8) (hw : white ((x ++ u).getD 0 0) = false) (ht : tokAt (x ++ u) 0 = .tok { t with at_ := 0 } x.length) (hne : x ≠ []) : Gv p x u [{ t with at_ := p.length }] := by
 intro h0
 have hl : 0 < (x ++ u).length := by
  have : 0 < x.length := List.length_pos_iff.2 hne
  simp; omega
 have h1 := tokAt_sh (p := p) hl
 rw [ht] at h1
 simp only [shTR, shTok, Nat.zero_add, Nat.add_zero] at h1
 have h2 := getD_sh p (x ++ u) 0
 rw [Nat.add_zero] at h2
 rw [tk_tok (by simp at hl ⊢; omega) (by rw [h2]; exact hw) h1, Nat.add_comm x.length, if_pos h0]
 rfl
theorem Gv.one {t : Tok} (h : Good t) (p : List UInt8) {u : List UInt8} (hu : Ct u) : Gv p (wr t) u [{ t with at_ := p.length }] := by
 obtain ⟨hw, ht, hne⟩ := wr_at h hu
 exact Gv.of p hw ht hne
theorem Gv.mark {c : UInt8} (h : mark c = true) (p u : List UInt8) : Gv p [c] u [⟨1, 0, [c], p.length⟩] := by
 refine Gv.of (t := ⟨1, 0, [c], 0⟩) p ?_ ?_ (by simp)
 ·rcases mark_cases h with rfl | rfl | rfl | rfl | rfl | rfl <;> rfl
 ·rcases mark_cases h with rfl | rfl | rfl | rfl | rfl | rfl <;> rfl
theorem Gv.app {p x y u : List UInt8} {ts ts' : List Tok} (h : Gv p x (y ++ u) ts) (h' : Gv (p ++ x) y u ts') : Gv p (x ++ y) u (ts ++ ts') := by
 intro h0
 have e : p ++ x ++ (y ++ u) = p ++ (x ++ (y ++ u)) := by simp
 have e2 : p ++ (x ++ y ++ u) = p ++ (x ++ (y ++ u)) := by simp
 unfold Gv at h h'
 rw [e] at h'
 rw [e2] at h0 ⊢
 simp only [List.length_append] at h' h0 ⊢
 rw [← Nat.add_assoc] at h0 ⊢
 have h1 := h' h0
 have h2 := h (by rw [h1])
 rw [h2, h1]
 simp
theorem Gv.nil (p u : List UInt8) : Gv p [] u [] := by
 intro h0
 simp only [List.length_nil, Nat.add_zero, List.nil_append] at h0 ⊢
 have h3 := tk_ok (p ++ u).length (p ++ u) p.length (by omega) h0
 exact Prod.ext rfl (Prod.ext h3.1 h0)
theorem Ct.l (l : List JV) (u : List UInt8) : Ct (wrtL l false ++ (93 :: u)) := by
 cases l with
 | nil => rw [wrtL_nil]; exact Ct.cons (by decide) _
 | cons v l => rw [wrtL_cons]; exact Ct.cons (g := 44) (by decide) _
theorem Ct.m (l : List (List UInt8 × JV)) (u : List UInt8) : Ct (wrtM l false ++ (125 :: u)) := by
 cases l with
 | nil => rw [wrtM_nil]; exact Ct.cons (by decide) _
 | cons v l => rw [wrtM_cons]; exact Ct.cons (g := 44) (by decide) _
theorem rdL_more {f e : Nat} {l : List Tok} {d p : Nat} {acc : List JV} (h : rdL f e l d p acc ≠ .out) : ∀ k, rdL (f + k) e l d p acc = rdL f e l d p acc
 | 0 => rfl
 | k + 1 => by rw [← Nat.add_assoc, ((rd_more (f + k)).2.1 e l d p acc (by rw [rdL_more h k]; exact h)), rdL_more h k]
theorem rdM_more {f e : Nat} {l : List Tok} {d p : Nat} {acc : List (List UInt8 × JV)} (h : rdM f e l d p acc ≠ .out) : ∀ k, rdM (f + k) e l d p acc = rdM f e l d p acc
 | 0 => rfl
 | k + 1 => by rw [← Nat.add_assoc, ((rd_more (f + k)).2.2 e l d p acc (by rw [rdM_more h k]; exact h)), rdM_more h k]
def Rv (v : JV) (t : Tok) (ts : List Tok) : Prop := (isM t 93 = false ∧ isM t 125 = false) ∧ ∀ e d q q' rest, chk v d q = (0, q') → ∃ f, rdV f e t (ts ++ rest) d q = .ok v rest q'
theorem chk_in {v : JV} {d q q' : Nat} (h : chk v d q = (0, q')) : d ≤ 16 ∧ q < 8192 := by
 cases v with
 | mk k n s l m =>
  rw [chk_mk] at h
  by_cases h1 : 16 < d
  ·rw [if_pos h1] at h; simp at h
  rw [if_neg h1] at h
  by_cases h2 : 8192 ≤ q
  ·rw [if_pos h2] at h; simp at h
  omega
theorem rd_leaf {v : JV} {t : Tok} (hl : leaf t = some v) (hc : ∀ d q, d ≤ 16 → q < 8192 → chk v d q = (0, q + 1) ∨ (chk v d q).1 ≠ 0) (h1 : isM t 93 = false) (h2 : isM t 125 = false) : Rv v t [] := by
 refine ⟨⟨h1, h2⟩, fun e d q q' rest h => ⟨1, ?_⟩⟩
 obtain ⟨h3, h4⟩ := chk_in h
 rw [rdV_succ, if_neg (by rw [hl]; simp), if_neg (by omega), if_neg (by omega), hl]
 rcases hc d q h3 h4 with h5 | h5
 ·rw [h] at h5
  simp only [Prod.mk.injEq, true_and] at h5
  subst h5; rfl
 ·rw [h] at h5; exact absurd rfl h5
theorem chk_leaf (k n : Int) (s : List UInt8) {d q : Nat} (hd : d ≤ 16) (hq : q < 8192) : chk (.mk k n s [] []) d q = (0, q + 1) ∨ (chk (.mk k n s [] []) d q).1 ≠ 0 := by
 rw [chk_mk, if_neg (by omega), if_neg (by omega)]
 split
 ·right; simp
 ·left; rw [chkL_nil, chkM_nil]; simp
theorem chkL_step {v : JV} {l : List JV} {d q q' : Nat} (h : chkL (v :: l) d q = (0, q')) : ∃ r, chk v d q = (0, r) ∧ chkL l d r = (0, q') := by
 rw [chkL_cons] at h
 by_cases h1 : (chk v d q).1 = 0
 ·rw [if_neg (by simp [h1])] at h
  exact ⟨_, Prod.ext h1 rfl, h⟩
 ·rw [if_pos h1] at h; rw [h] at h1; exact absurd rfl h1
theorem chkM_step {x : List UInt8 × JV} {l : List (List UInt8 × JV)} {d q q' : Nat} (h : chkM (x :: l) d q = (0, q')) : ∃ r, chk x.2 d q = (0, r) ∧ chkM l d r = (0, q') := by
 rw [chkM_cons] at h
 by_cases h1 : (chk x.2 d q).1 = 0
 ·rw [if_neg (by simp [h1])] at h
  exact ⟨_, Prod.ext h1 rfl, h⟩
 ·rw [if_pos h1] at h; rw [h] at h1; exact absurd rfl h1
theorem next_cons (e : Nat) (t : Tok) (l : List Tok) : next e (t :: l) = t := rfl
theorem isM_mk (c d : UInt8) (a : Nat) : isM ⟨1, 0, [c], a⟩ d = (c == d) := by simp [isM]

theorem back_l : ∀ (l : List JV), l ≠ [] → (∀ v ∈ l, ∀ p u, Ct u → ∃ t ts, Gv p (wrt v) u (t :: ts) ∧ Rv v t ts) → ∀ p u, ∃ t ts, Gv p (wrtL l true ++ [93]) u (t :: ts) ∧ isM t 93 = false ∧ ∀ e d q q' acc rest, chkL l (d + 1) q = (0, q') → ∃ f, rdL f e (t :: ts ++ rest) d q acc = .ok (listV (acc ++ l)) rest q'
 | [], hne, _, _, _ => absurd rfl hne
 | [v], _, hv, p, u => by
  obtain ⟨t, ts, h1, ⟨h2, _⟩, h3⟩ := hv v (by simp) p ([93] ++ u) (Ct.cons (by decide) _)
  refine ⟨t, ts ++ [⟨1, 0, [93], (p ++ wrt v).length⟩], ?_, h2, fun e d q q' acc rest h => ?_⟩
  ·have h4 := h1.app (Gv.mark (c := 93) (by decide) (p ++ wrt v) u)
   have e1 : wrtL [v] true ++ [93] = wrt v ++ [93] := by rw [wrtL_cons, wrtL_nil]; simp
   rw [e1]
   exact h4
  ·obtain ⟨r, h5, h6⟩ := chkL_step h
   rw [chkL_nil] at h6
   simp only [Prod.mk.injEq, true_and] at h6
   subst h6
   obtain ⟨f, h7⟩ := h3 e (d + 1) q r (⟨1, 0, [93], (p ++ wrt v).length⟩ :: rest) h5
   refine ⟨f + 1, ?_⟩
   rw [rdL_succ]
   have e1 : t :: (ts ++ [⟨1, 0, [93], (p ++ wrt v).length⟩]) ++ rest = t :: (ts ++ ⟨1, 0, [93], (p ++ wrt v).length⟩ :: rest) := by simp
   rw [e1, next_cons, List.tail_cons, h7]
   simp [next_cons, isM_mk]
 | v :: v2 :: l, _, hv, p, u => by
  obtain ⟨t2, ts2, g1, g2, g3⟩ := back_l (v2 :: l) (by simp) (fun x hx => hv x (by simp at hx ⊢; right; exact hx)) (p ++ wrt v ++ [44]) u
  obtain ⟨t, ts, h1, ⟨h2, _⟩, h3⟩ := hv v (by simp) p ([44] ++ (wrtL (v2 :: l) true ++ [93]) ++ u) (Ct.cons (by decide) _)
  refine ⟨t, ts ++ (⟨1, 0, [44], (p ++ wrt v).length⟩ :: t2 :: ts2), ?_, h2, fun e d q q' acc rest h => ?_⟩
  ·have h4 := (Gv.mark (c := 44) (by decide) (p ++ wrt v) (wrtL (v2 :: l) true ++ [93] ++ u)).app g1
   have h5 := h1.app h4
   have e1 : wrtL (v :: v2 :: l) true ++ [93] = wrt v ++ ([44] ++ (wrtL (v2 :: l) true ++ [93])) := by rw [wrtL_cons, wrtL_cons, wrtL_cons]; simp
   rw [e1]
   exact h5
  ·obtain ⟨r, h5, h6⟩ := chkL_step h
   obtain ⟨f, h7⟩ := h3 e (d + 1) q r (⟨1, 0, [44], (p ++ wrt v).length⟩ :: t2 :: ts2 ++ rest) h5
   obtain ⟨f2, h8⟩ := g3 e d r q' (acc ++ [v]) rest h6
   refine ⟨f + f2 + 1, ?_⟩
   rw [rdL_succ]
   have e1 : t :: (ts ++ (⟨1, 0, [44], (p ++ wrt v).length⟩ :: t2 :: ts2)) ++ rest = t :: (ts ++ (⟨1, 0, [44], (p ++ wrt v).length⟩ :: t2 :: ts2 ++ rest)) := by simp
   rw [e1, next_cons, List.tail_cons, rdV_more (by rw [h7]; simp) f2, h7]
   simp only [List.cons_append, next_cons, List.tail_cons, isM_mk]
   rw [if_neg (by decide), if_pos (by decide), Nat.add_comm f f2]
   rw [List.cons_append] at h8
   rw [rdL_more (by rw [h8]; simp) f, h8]
   simp
theorem back_m : ∀ (m : List (List UInt8 × JV)), m ≠ [] → (∀ x ∈ m, Utf.bad x.1 = x.1.length) → (∀ x ∈ m, ∀ p u, Ct u → ∃ t ts, Gv p (wrt x.2) u (t :: ts) ∧ Rv x.2 t ts) → ∀ p u, ∃ t ts, Gv p (wrtM m true ++ [125]) u (t :: ts) ∧ isM t 125 = false ∧ ∀ e d q q' (acc : List (List UInt8 × JV)) rest, ((acc ++ m).map (·.1)).Nodup → chkM m (d + 1) q = (0, q') → ∃ f, rdM f e (t :: ts ++ rest) d q acc = .ok (mapV (acc ++ m)) rest q'
 | [], hne, _, _, _, _ => absurd rfl hne
 | [(s, v)], _, hs, hv, p, u => by
  have hs1 : Utf.bad s = s.length := hs _ (List.mem_singleton.2 rfl)
  have hq : q s = wr ⟨4, 0, s, 0⟩ := rfl
  have k1 := Gv.one (.text s 0 hs1) p (u := [58] ++ (wrt v ++ [125]) ++ u) (Ct.cons (by decide) _)
  have k2 := Gv.mark (c := 58) (by decide) (p ++ q s) (wrt v ++ [125] ++ u)
  obtain ⟨t, ts, h1, ⟨h2, _⟩, h3⟩ := hv (s, v) (List.mem_singleton.2 rfl) (p ++ q s ++ [58]) ([125] ++ u) (Ct.cons (by decide) _)
  have k3 := Gv.mark (c := 125) (by decide) (p ++ q s ++ [58] ++ wrt v) u
  refine ⟨⟨4, 0, s, p.length⟩, ⟨1, 0, [58], (p ++ q s).length⟩ :: t :: ts ++ [⟨1, 0, [125], (p ++ q s ++ [58] ++ wrt v).length⟩], ?_, rfl, fun e d qq q' acc rest hn h => ?_⟩
  ·have h5 := k1.app (k2.app (h1.app k3))
   have e1 : wrtM [(s, v)] true ++ [125] = q s ++ ([58] ++ (wrt v ++ [125])) := by rw [wrtM_cons, wrtM_nil]; simp
   rw [e1]
   exact h5
  ·obtain ⟨r, h5, h6⟩ := chkM_step h
   rw [chkM_nil] at h6
   simp only [Prod.mk.injEq, true_and] at h6
   subst h6
   obtain ⟨f, h7⟩ := h3 e (d + 1) qq r (⟨1, 0, [125], (p ++ q s ++ [58] ++ wrt v).length⟩ :: rest) h5
   refine ⟨f + 1, ?_⟩
   generalize (p ++ q s ++ [58] ++ wrt v).length = a1 at h7 ⊢
   generalize (p ++ q s).length = a2
   have hnew : s ∉ acc.map (·.1) := by
    rw [List.map_append, List.nodup_append] at hn
    intro hin
    exact hn.2.2 s hin s (by simp) rfl
   rw [rdM_succ]
   simp only [List.cons_append, next_cons, List.tail_cons, isM_mk, List.append_assoc, List.nil_append]
   rw [if_neg (by simp), if_neg hnew, if_neg (by decide), h7]
   simp [next_cons, isM_mk]
 | (s, v) :: x2 :: m, _, hs, hv, p, u => by
  have hs1 : Utf.bad s = s.length := hs (s, v) (by simp)
  obtain ⟨t2, ts2, g1, g2, g3⟩ := back_m (x2 :: m) (by simp) (fun x hx => hs x (by simp at hx ⊢; right; exact hx)) (fun x hx => hv x (by simp at hx ⊢; right; exact hx)) (p ++ q s ++ [58] ++ wrt v ++ [44]) u
  have k1 := Gv.one (.text s 0 hs1) p (u := [58] ++ (wrt v ++ ([44] ++ (wrtM (x2 :: m) true ++ [125]))) ++ u) (Ct.cons (by decide) _)
  have k2 := Gv.mark (c := 58) (by decide) (p ++ q s) (wrt v ++ ([44] ++ (wrtM (x2 :: m) true ++ [125])) ++ u)
  obtain ⟨t, ts, h1, ⟨h2, _⟩, h3⟩ := hv (s, v) (by simp) (p ++ q s ++ [58]) ([44] ++ (wrtM (x2 :: m) true ++ [125]) ++ u) (Ct.cons (by decide) _)
  have k3 := Gv.mark (c := 44) (by decide) (p ++ q s ++ [58] ++ wrt v) (wrtM (x2 :: m) true ++ [125] ++ u)
  refine ⟨⟨4, 0, s, p.length⟩, ⟨1, 0, [58], (p ++ q s).length⟩ :: t :: ts ++ (⟨1, 0, [44], (p ++ q s ++ [58] ++ wrt v).length⟩ :: t2 :: ts2), ?_, rfl, fun e d qq q' acc rest hn h => ?_⟩
  ·have h5 := k1.app (k2.app (h1.app (k3.app g1)))
   have e1 : wrtM ((s, v) :: x2 :: m) true ++ [125] = q s ++ ([58] ++ (wrt v ++ ([44] ++ (wrtM (x2 :: m) true ++ [125])))) := by rw [wrtM_cons, wrtM_cons, wrtM_cons]; simp
   rw [e1]
   exact h5
  ·obtain ⟨r, h5, h6⟩ := chkM_step h
   obtain ⟨f, h7⟩ := h3 e (d + 1) qq r (⟨1, 0, [44], (p ++ q s ++ [58] ++ wrt v).length⟩ :: t2 :: ts2 ++ rest) h5
   obtain ⟨f2, h8⟩ := g3 e d r q' (acc ++ [(s, v)]) rest (by rw [List.append_assoc]; exact hn) h6
   refine ⟨f + f2 + 1, ?_⟩
   generalize (p ++ q s ++ [58] ++ wrt v).length = a1 at h7 ⊢
   generalize (p ++ q s).length = a2
   have hnew : s ∉ acc.map (·.1) := by
    rw [List.map_append, List.nodup_append] at hn
    intro hin
    exact hn.2.2 s hin s (by simp) rfl
   rw [rdM_succ]
   simp only [List.cons_append, next_cons, List.tail_cons, isM_mk, List.append_assoc, List.nil_append]
   simp only [List.cons_append] at h7 h8
   rw [if_neg (by simp), if_neg hnew, if_neg (by decide), rdV_more (by rw [h7]; simp) f2, h7]
   simp only [List.cons_append, next_cons, List.tail_cons, isM_mk]
   rw [if_neg (by decide), if_pos (by decide), Nat.add_comm f f2]
   rw [rdM_more (by rw [h8]; simp) f, h8]
   simp
theorem back_v (v : JV) : okB v = true → ∀ p u, Ct u → ∃ t ts, Gv p (wrt v) u (t :: ts) ∧ Rv v t ts := by
 induction v using JV.ind with
 | h k n s l m ihl ihm =>
  intro hok p u hu
  obtain ⟨hr, hnm, hokl, hokm⟩ := (ok_iff _).1 hok
  rcases right_form hr with hv | ⟨n', hn, hv⟩ | ⟨n', h1, h2, hv⟩ | ⟨s', hs, hv⟩ | ⟨l', hv⟩ | ⟨m', hv⟩
  ·rw [hv]
   exact ⟨_, [], Gv.one (.word tNull 0 (.inr (.inr rfl))) p hu, rd_leaf rfl (fun d q h3 h4 => chk_leaf _ _ _ h3 h4) rfl rfl⟩
  ·rw [hv]
   rcases hn with rfl | rfl
   ·have e : wrt (boolV 0) = tFalse := by unfold boolV; rw [wrt_mk]; rfl
    rw [e]
    exact ⟨_, [], Gv.one (.word tFalse 0 (.inr (.inl rfl))) p hu, rd_leaf rfl (fun d q h3 h4 => chk_leaf _ _ _ h3 h4) rfl rfl⟩
   ·have e : wrt (boolV 1) = tTrue := by unfold boolV; rw [wrt_mk]; rfl
    rw [e]
    exact ⟨_, [], Gv.one (.word tTrue 0 (.inl rfl)) p hu, rd_leaf rfl (fun d q h3 h4 => chk_leaf _ _ _ h3 h4) rfl rfl⟩
  ·rw [hv]
   have e : wrt (intV n') = Nm.put n' := by unfold intV; rw [wrt_mk]; rfl
   rw [e]
   exact ⟨_, [], Gv.one (.num n' 0 h1 h2) p hu, rd_leaf rfl (fun d q h3 h4 => chk_leaf _ _ _ h3 h4) rfl rfl⟩
  ·rw [hv]
   have e : wrt (textV s') = q s' := by unfold textV; rw [wrt_mk]; rfl
   rw [e]
   exact ⟨_, [], Gv.one (.text s' 0 hs) p hu, rd_leaf rfl (fun d q h3 h4 => chk_leaf _ _ _ h3 h4) rfl rfl⟩
  ·obtain ⟨rfl, rfl, rfl, rfl, rfl⟩ : k = 5 ∧ n = 0 ∧ s = [] ∧ l = l' ∧ m = [] := by simpa [listV] using hv
   have e : wrt (.mk 5 0 [] l []) = 91 :: (wrtL l true ++ [93]) := by rw [wrt_mk]; rfl
   rw [e]
   by_cases hl : l = []
   ·subst hl
    refine ⟨⟨1, 0, [91], p.length⟩, [⟨1, 0, [93], (p ++ [91]).length⟩], ?_, ⟨rfl, rfl⟩, fun e d q q' rest h => ⟨1, ?_⟩⟩
    ·rw [wrtL_nil]
     exact (Gv.mark (c := 91) (by decide) p ([93] ++ u)).app (Gv.mark (c := 93) (by decide) (p ++ [91]) u)
    ·obtain ⟨h3, h4⟩ := chk_in h
     rw [rdV_succ, if_neg (by simp [isM]), if_neg (by omega), if_neg (by omega)]
     rw [chk_mk, if_neg (by omega), if_neg (by omega), if_neg (by rw [show rightB (.mk 5 0 [] [] []) = true from hr]; simp), chkL_nil, chkM_nil] at h
     simp only [ne_eq, not_true_eq_false, if_false, Prod.mk.injEq, true_and] at h
     subst h
     rfl
   ·obtain ⟨t, ts, h1, h2, h3⟩ := back_l l hl (fun v hv => ihl v hv (hokl v hv)) (p ++ [91]) u
    refine ⟨⟨1, 0, [91], p.length⟩, t :: ts, ?_, ⟨rfl, rfl⟩, fun e d q q' rest h => ?_⟩
    ·exact (Gv.mark (c := 91) (by decide) p (wrtL l true ++ [93] ++ u)).app h1
    ·obtain ⟨h4, h5⟩ := chk_in h
     rw [chk_mk, if_neg (by omega), if_neg (by omega), if_neg (by rw [show rightB (.mk 5 0 [] l []) = true from hr]; simp)] at h
     have h6 : chkL l (d + 1) (q + 1) = (0, q') := by
      simp only [chkM_nil] at h
      split at h
      ·rename_i h7; rw [h] at h7; exact absurd rfl h7
      ·rename_i h7
       simp only [Prod.mk.injEq, true_and] at h
       exact Prod.ext (by simpa using h7) h
     obtain ⟨f, h7⟩ := h3 e d (q + 1) q' [] rest h6
     refine ⟨f + 1, ?_⟩
     rw [rdV_succ, if_neg (by simp [isM]), if_neg (by omega), if_neg (by omega)]
     show (if isM ⟨1, 0, [91], p.length⟩ 91 = true then if isM (next e (t :: ts ++ rest)) 93 = true then _ else rdL f e (t :: ts ++ rest) d (q + 1) [] else _) = _
     rw [if_pos (by rfl), List.cons_append, next_cons, h2, if_neg (by simp), ← List.cons_append, h7]
     rfl
  ·obtain ⟨rfl, rfl, rfl, rfl, rfl⟩ : k = 6 ∧ n = 0 ∧ s = [] ∧ l = [] ∧ m = m' := by simpa [mapV] using hv
   have e : wrt (.mk 6 0 [] [] m) = 123 :: (wrtM m true ++ [125]) := by rw [wrt_mk]; rfl
   rw [e]
   by_cases hl : m = []
   ·subst hl
    refine ⟨⟨1, 0, [123], p.length⟩, [⟨1, 0, [125], (p ++ [123]).length⟩], ?_, ⟨rfl, rfl⟩, fun e d q q' rest h => ⟨1, ?_⟩⟩
    ·rw [wrtM_nil]
     exact (Gv.mark (c := 123) (by decide) p ([125] ++ u)).app (Gv.mark (c := 125) (by decide) (p ++ [123]) u)
    ·obtain ⟨h3, h4⟩ := chk_in h
     rw [rdV_succ, if_neg (by simp [isM]), if_neg (by omega), if_neg (by omega)]
     rw [chk_mk, if_neg (by omega), if_neg (by omega), if_neg (by rw [show rightB (.mk 6 0 [] [] []) = true from hr]; simp), chkL_nil, chkM_nil] at h
     simp only [ne_eq, not_true_eq_false, if_false, Prod.mk.injEq, true_and] at h
     subst h
     rfl
   ·have hnm' := hnm rfl
    simp only [namesB, Bool.and_eq_true, List.all_eq_true, beq_iff_eq, decide_eq_true_eq] at hnm'
    obtain ⟨t, ts, h1, h2, h3⟩ := back_m m hl hnm'.1 (fun x hx => ihm x hx (hokm x hx)) (p ++ [123]) u
    refine ⟨⟨1, 0, [123], p.length⟩, t :: ts, ?_, ⟨rfl, rfl⟩, fun e d q q' rest h => ?_⟩
    ·exact (Gv.mark (c := 123) (by decide) p (wrtM m true ++ [125] ++ u)).app h1
    ·obtain ⟨h4, h5⟩ := chk_in h
     rw [chk_mk, if_neg (by omega), if_neg (by omega), if_neg (by rw [show rightB (.mk 6 0 [] [] m) = true from hr]; simp), chkL_nil] at h
     have h6 : chkM m (d + 1) (q + 1) = (0, q') := by simpa using h
     obtain ⟨f, h7⟩ := h3 e d (q + 1) q' [] rest (by rw [List.nil_append]; exact hnm'.2) h6
     refine ⟨f + 1, ?_⟩
     rw [rdV_succ, if_neg (by simp [isM]), if_neg (by omega), if_neg (by omega)]
     show (if isM ⟨1, 0, [123], p.length⟩ 91 = true then _ else if isM (next e (t :: ts ++ rest)) 125 = true then _ else rdM f e (t :: ts ++ rest) d (q + 1) []) = _
     rw [if_neg (by simp [isM]), List.cons_append, next_cons, h2, if_neg (by simp), ← List.cons_append, h7]
     rfl
def rdS (s : List UInt8) : R := match tokens s with
 | (ts, p, x) => if x = 0 then (match rdV (2 * ts.length + 3) s.length (next s.length ts) ts.tail 1 0 with | .ok v l q => if l = [] then .ok v [] q else .bad (next s.length l).at_ 50 | r => r) else .bad p x
theorem rdS_back {v : JV} (h : (chk v 1 0).1 = 0) (hl : (wrt v).length ≤ 65536) : rdS (wrt v) = .ok v [] (chk v 1 0).2 := by
 obtain ⟨t, ts, h1, h2⟩ := back_v v (chk_ok v 1 0 h).1 [] [] (.inl rfl)
 have h3 : tk (wrt v) 0 = (t :: ts, 0, 0) := by
  have := h1 (by simp; rw [tk_end (Nat.le_refl _)])
  simpa [tk_end (Nat.le_refl (wrt v).length)] using this
 have h4 : tokens (wrt v) = (t :: ts, 0, 0) := by unfold tokens; rw [if_neg (by omega)]; exact h3
 obtain ⟨f, h5⟩ := h2.2 (wrt v).length 1 0 (chk v 1 0).2 [] (Prod.ext h rfl)
 have h6 := (rd_fuel (2 * (t :: ts).length + 3)).1 (wrt v).length t ts 1 0 (by simp; omega)
 rw [List.append_nil] at h5
 have h7 := rdV_any h6 (by rw [h5]; simp : rdV f (wrt v).length t ts 1 0 ≠ .out)
 unfold rdS
 rw [h4]
 simp only [if_true]
 rw [next_cons, List.tail_cons]
 rw [h7, h5]
 simp
end Go.Proofs.YtgaiepficjiclaaGreatDoor.Rd
/- Plain laws of reading: what is read is right. -/
namespace Go.Proofs.YtgaiepficjiclaaGreatDoor.Rd
set_option linter.unusedVariables false
set_option linter.unusedSimpArgs false
open JV Scn

def G0 (t : Tok) : Prop := Good t ∨ t.kind = 0
theorem next_g0 {e : Nat} {l : List Tok} (h : ∀ t ∈ l, Good t) : G0 (next e l) := by
 cases l with
 | nil => exact .inr rfl
 | cons t l => exact .inl (h t (by simp))
theorem leaf_ok {t : Tok} {v : JV} (h : leaf t = some v) (hg : G0 t) : okB v = true := by
 rcases hg with hg | h0
 ·cases hg with
  | mark c a hm => simp [leaf] at h
  | word w a hw =>
   rcases hw with rfl | rfl | rfl
   ·have : v = boolV 1 := by injection h with h; exact h.symm
    subst this; rfl
   ·have : v = boolV 0 := by injection h with h; exact h.symm
    subst this; rfl
   ·have : v = nullV := by injection h with h; exact h.symm
    subst this; rfl
  | num n a h1 h2 =>
   have : v = intV n := by injection h with h; exact h.symm
   subst this
   rw [ok_iff]
   refine ⟨?_, by simp [intV, kd], by simp [intV, ls], by simp [intV, ms]⟩
   simp [rightB, intV, bareB, h1, h2]; decide
  | text s a hs =>
   have : v = textV s := by injection h with h; exact h.symm
   subst this
   rw [ok_iff]
   refine ⟨?_, by simp [textV, kd], by simp [textV, ls], by simp [textV, ms]⟩
   simp [rightB, textV, bareB, hs]
 ·simp [leaf, h0] at h
theorem ok_list {l : List JV} (h : ∀ u ∈ l, okB u = true) : okB (listV l) = true := by
 rw [ok_iff]
 exact ⟨by simp [rightB, listV, bareB]; decide, by simp [listV, kd], h, by simp [listV, ms]⟩
theorem ok_map {m : List (List UInt8 × JV)} (h : ∀ x ∈ m, okB x.2 = true) (hn : namesB m = true) : okB (mapV m) = true := by
 rw [ok_iff]
 exact ⟨by simp [rightB, mapV, bareB, hn]; decide, fun _ => hn, by simp [mapV, ls], h⟩
theorem rd_ok : ∀ f, (∀ e t l d p v l' p', G0 t → (∀ x ∈ l, Good x) → rdV f e t l d p = .ok v l' p' → okB v = true ∧ ∀ x ∈ l', Good x) ∧
  (∀ e l d p acc v l' p', (∀ x ∈ l, Good x) → (∀ u ∈ acc, okB u = true) → rdL f e l d p acc = .ok v l' p' → okB v = true ∧ ∀ x ∈ l', Good x) ∧
  (∀ e l d p acc v l' p', (∀ x ∈ l, Good x) → (∀ u ∈ acc, okB u.2 = true) → namesB acc = true → rdM f e l d p acc = .ok v l' p' → okB v = true ∧ ∀ x ∈ l', Good x) := by
 intro f
 induction f with
 | zero => exact ⟨fun _ _ _ _ _ _ _ _ _ _ h => (by unfold rdV at h; cases h), fun _ _ _ _ _ _ _ _ _ _ h => (by unfold rdL at h; cases h), fun _ _ _ _ _ _ _ _ _ _ _ h => (by unfold rdM at h; cases h)⟩
 | succ f ih =>
  obtain ⟨ihV, ihL, ihM⟩ := ih
  refine ⟨fun e t l d p v l' p' hg hl h => ?_, fun e l d p acc v l' p' hl ha h => ?_, fun e l d p acc v l' p' hl ha hn h => ?_⟩
  ·rw [rdV_succ] at h
   split at h
   ·cases h
   split at h
   ·cases h
   split at h
   ·cases h
   split at h
   ·rename_i u hu
    simp only [R.ok.injEq] at h
    obtain ⟨rfl, rfl, rfl⟩ := h
    exact ⟨leaf_ok hu hg, hl⟩
   ·split at h
    ·split at h
     ·simp only [R.ok.injEq] at h
      obtain ⟨rfl, rfl, rfl⟩ := h
      exact ⟨ok_list (by simp), fun x hx => hl x (List.mem_of_mem_tail hx)⟩
     ·exact ihL _ _ _ _ _ _ _ _ hl (by simp) h
    ·split at h
     ·simp only [R.ok.injEq] at h
      obtain ⟨rfl, rfl, rfl⟩ := h
      exact ⟨ok_map (by simp) (by decide), fun x hx => hl x (List.mem_of_mem_tail hx)⟩
     ·exact ihM _ _ _ _ _ _ _ _ hl (by simp) (by decide) h
  ·rw [rdL_succ] at h
   have hv := ihV e (next e l) l.tail (d + 1) p
   revert hv h
   generalize rdV f e (next e l) l.tail (d + 1) p = r
   intro h hv
   cases r with
   | out => cases h
   | bad a w => cases h
   | ok u l2 p2 =>
    obtain ⟨h1, h2⟩ := hv _ _ _ (next_g0 hl) (fun x hx => hl x (List.mem_of_mem_tail hx)) rfl
    have h3 : ∀ w ∈ acc ++ [u], okB w = true := by
     intro w hw
     rcases List.mem_append.1 hw with hw | hw
     ·exact ha w hw
     ·simp at hw; subst hw; exact h1
    simp only at h
    split at h
    ·simp only [R.ok.injEq] at h
     obtain ⟨rfl, rfl, rfl⟩ := h
     exact ⟨ok_list h3, fun x hx => h2 x (List.mem_of_mem_tail hx)⟩
    split at h
    ·exact ihL _ _ _ _ _ _ _ _ (fun x hx => h2 x (List.mem_of_mem_tail hx)) h3 h
    ·cases h
  ·rw [rdM_succ] at h
   split at h
   ·cases h
   rename_i hk
   split at h
   ·cases h
   rename_i hnew
   split at h
   ·cases h
   have hs : Utf.bad (next e l).s = (next e l).s.length := by
    rcases next_g0 (e := e) hl with hg | h0
    ·revert hk; generalize next e l = t at hg; intro hk
     cases hg with
     | mark c a hm => simp at hk
     | word w a hw => simp at hk
     | num n a h1 h2 => simp at hk
     | text s a hs => exact hs
    ·rw [h0] at hk; simp at hk
   have hl3 : ∀ x ∈ l.tail.tail, Good x := fun x hx => hl x (List.mem_of_mem_tail (List.mem_of_mem_tail hx))
   have hv := ihV e (next e l.tail.tail) l.tail.tail.tail (d + 1) p
   revert hv h
   generalize rdV f e (next e l.tail.tail) l.tail.tail.tail (d + 1) p = r
   intro h hv
   cases r with
   | out => cases h
   | bad a w => cases h
   | ok u l2 p2 =>
    obtain ⟨h1, h2⟩ := hv _ _ _ (next_g0 hl3) (fun x hx => hl3 x (List.mem_of_mem_tail hx)) rfl
    have h3 : ∀ w ∈ acc ++ [((next e l).s, u)], okB w.2 = true := by
     intro w hw
     rcases List.mem_append.1 hw with hw | hw
     ·exact ha w hw
     ·simp at hw; subst hw; exact h1
    have h4 : namesB (acc ++ [((next e l).s, u)]) = true := by
     simp only [namesB, Bool.and_eq_true, List.all_eq_true, beq_iff_eq, decide_eq_true_eq] at hn ⊢
     refine ⟨fun x hx => ?_, ?_⟩
     ·rcases List.mem_append.1 hx with hx | hx
      ·exact hn.1 x hx
      ·simp at hx; subst hx; exact hs
     ·rw [List.map_append, List.nodup_append]
      refine ⟨hn.2, by simp, ?_⟩
      intro a ha' b hb
      simp at hb
      subst hb
      rintro rfl
      exact hnew ha'
    simp only at h
    split at h
    ·simp only [R.ok.injEq] at h
     obtain ⟨rfl, rfl, rfl⟩ := h
     exact ⟨ok_map h3 h4, fun x hx => h2 x (List.mem_of_mem_tail hx)⟩
    split at h
    ·exact ihM _ _ _ _ _ _ _ _ (fun x hx => h2 x (List.mem_of_mem_tail hx)) h3 h4 h
    ·cases h
theorem chk_total (v : JV) : ∀ d p, okB v = true → dp v d ≤ 16 → p + nv v ≤ 8192 → chk v d p = (0, p + nv v) := by
 induction v using JV.ind with
 | h k n s l m ihl ihm =>
  intro d p hok hd hp
  obtain ⟨hr, _, hokl, hokm⟩ := (ok_iff _).1 hok
  simp only [ls, ms] at hokl hokm
  rw [dp_mk] at hd
  rw [nv_mk] at hp ⊢
  have hL : ∀ (l : List JV) (d p : Nat), (∀ v ∈ l, ∀ d p, okB v = true → dp v d ≤ 16 → p + nv v ≤ 8192 → chk v d p = (0, p + nv v)) → (∀ u ∈ l, okB u = true) → dpL l d ≤ 16 → p + nvL l ≤ 8192 → chkL l d p = (0, p + nvL l) := by
   intro l
   induction l with
   | nil => intro d p _ _ _ _; rw [chkL_nil, nvL_nil]; rfl
   | cons v l ih =>
    intro d p h ho hd hp
    rw [dpL_cons] at hd
    rw [nvL_cons] at hp ⊢
    rw [chkL_cons, h v (by simp) d p (ho v (by simp)) (by omega) (by omega)]
    simp only [ne_eq, not_true_eq_false, if_false]
    rw [ih d (p + nv v) (fun u hu => h u (by simp [hu])) (fun u hu => ho u (by simp [hu])) (by omega) (by omega), Nat.add_assoc]
  have hM : ∀ (l : List (List UInt8 × JV)) (d p : Nat), (∀ v ∈ l, ∀ d p, okB v.2 = true → dp v.2 d ≤ 16 → p + nv v.2 ≤ 8192 → chk v.2 d p = (0, p + nv v.2)) → (∀ u ∈ l, okB u.2 = true) → dpM l d ≤ 16 → p + nvM l ≤ 8192 → chkM l d p = (0, p + nvM l) := by
   intro l
   induction l with
   | nil => intro d p _ _ _ _; rw [chkM_nil, nvM_nil]; rfl
   | cons v l ih =>
    intro d p h ho hd hp
    rw [dpM_cons] at hd
    rw [nvM_cons] at hp ⊢
    rw [chkM_cons, h v (by simp) d p (ho v (by simp)) (by omega) (by omega)]
    simp only [ne_eq, not_true_eq_false, if_false]
    rw [ih d (p + nv v.2) (fun u hu => h u (by simp [hu])) (fun u hu => ho u (by simp [hu])) (by omega) (by omega), Nat.add_assoc]
  rw [chk_mk, if_neg (by omega), if_neg (by omega), if_neg (by rw [hr]; simp), hL l (d + 1) (p + 1) (fun v hv => ihl v hv) hokl (by omega) (by omega)]
  simp only [ne_eq, not_true_eq_false, if_false]
  rw [hM m (d + 1) (p + 1 + nvL l) (fun v hv => ihm v hv) hokm (by omega) (by omega)]
  simp only [Prod.mk.injEq, true_and]; omega
theorem rdS_right {s : List UInt8} {v : JV} {l : List Tok} {q : Nat} (h : rdS s = .ok v l q) : okB v = true ∧ chk v 1 0 = (0, nv v) ∧ q = nv v ∧ q ≤ 8192 ∧ dp v 1 ≤ 16 ∧ uq v = true ∧ l = [] := by
 unfold rdS at h
 rcases ht : tokens s with ⟨ts, p, x⟩
 rw [ht] at h
 simp only at h
 split at h
 ·have hg : ∀ t ∈ ts, Good t := by
   unfold tokens at ht
   split at ht
   ·simp only [Prod.mk.injEq] at ht; rw [← ht.1]; simp
   ·have := tk_good s.length s 0 (by omega)
    unfold tk at this
    rw [ht] at this; exact this
  have h1 := (rd_ok (2 * ts.length + 3)).1 s.length (next s.length ts) ts.tail 1 0
  have h2 := (rd_sorts (2 * ts.length + 3)).1 s.length (next s.length ts) ts.tail 1 0
  revert h h1 h2
  generalize rdV (2 * ts.length + 3) s.length (next s.length ts) ts.tail 1 0 = r
  intro h h1 h2
  cases r with
  | out => cases h
  | bad a w => cases h
  | ok u l2 p2 =>
   simp only at h
   split at h
   ·simp only [R.ok.injEq] at h
    obtain ⟨rfl, rfl, rfl⟩ := h
    obtain ⟨g1, _⟩ := h1 _ _ _ (next_g0 hg) (fun x hx => hg x (List.mem_of_mem_tail hx)) rfl
    obtain ⟨k1, k2, k3, k4⟩ := h2 _ _ _ rfl
    rw [Nat.zero_add] at k2
    subst k2
    refine ⟨g1, ?_, rfl, k3, k4, k1, rfl⟩
    have := chk_total u 1 0 g1 k4 (by omega)
    rw [Nat.zero_add] at this
    exact this
   ·cases h
 ·cases h
end Go.Proofs.YtgaiepficjiclaaGreatDoor.Rd
/- Plain laws of reading: what is left was there. -/
namespace Go.Proofs.YtgaiepficjiclaaGreatDoor.Rd
set_option linter.unusedVariables false
set_option linter.unusedSimpArgs false
open JV Scn

theorem rd_toks : ∀ f, (∀ e t l d p v l' p', rdV f e t l d p = .ok v l' p' → ∀ x ∈ l', x ∈ l) ∧
  (∀ e l d p acc v l' p', rdL f e l d p acc = .ok v l' p' → ∀ x ∈ l', x ∈ l) ∧
  (∀ e l d p acc v l' p', rdM f e l d p acc = .ok v l' p' → ∀ x ∈ l', x ∈ l) := by
 intro f
 induction f with
 | zero => exact ⟨fun _ _ _ _ _ _ _ _ h => (by unfold rdV at h; cases h), fun _ _ _ _ _ _ _ _ h => (by unfold rdL at h; cases h), fun _ _ _ _ _ _ _ _ h => (by unfold rdM at h; cases h)⟩
 | succ f ih =>
  obtain ⟨ihV, ihL, ihM⟩ := ih
  refine ⟨fun e t l d p v l' p' h => ?_, fun e l d p acc v l' p' h => ?_, fun e l d p acc v l' p' h => ?_⟩
  ·rw [rdV_succ] at h
   split at h
   ·cases h
   split at h
   ·cases h
   split at h
   ·cases h
   split at h
   ·simp only [R.ok.injEq] at h
    obtain ⟨rfl, rfl, rfl⟩ := h
    exact fun x hx => hx
   ·split at h
    ·split at h
     ·simp only [R.ok.injEq] at h
      obtain ⟨rfl, rfl, rfl⟩ := h
      exact fun x hx => List.mem_of_mem_tail hx
     ·exact ihL _ _ _ _ _ _ _ _ h
    ·split at h
     ·simp only [R.ok.injEq] at h
      obtain ⟨rfl, rfl, rfl⟩ := h
      exact fun x hx => List.mem_of_mem_tail hx
     ·exact ihM _ _ _ _ _ _ _ _ h
  ·rw [rdL_succ] at h
   have hv := ihV e (next e l) l.tail (d + 1) p
   revert hv h
   generalize rdV f e (next e l) l.tail (d + 1) p = r
   intro h hv
   cases r with
   | out => cases h
   | bad a w => cases h
   | ok u l2 p2 =>
    have h2 := hv _ _ _ rfl
    simp only at h
    split at h
    ·simp only [R.ok.injEq] at h
     obtain ⟨rfl, rfl, rfl⟩ := h
     exact fun x hx => List.mem_of_mem_tail (h2 x (List.mem_of_mem_tail hx))
    split at h
    ·exact fun x hx => List.mem_of_mem_tail (h2 x (List.mem_of_mem_tail (ihL _ _ _ _ _ _ _ _ h x hx)))
    ·cases h
  ·rw [rdM_succ] at h
   split at h
   ·cases h
   split at h
   ·cases h
   split at h
   ·cases h
   have hv := ihV e (next e l.tail.tail) l.tail.tail.tail (d + 1) p
   revert hv h
   generalize rdV f e (next e l.tail.tail) l.tail.tail.tail (d + 1) p = r
   intro h hv
   cases r with
   | out => cases h
   | bad a w => cases h
   | ok u l2 p2 =>
    have h2 : ∀ x ∈ l2, x ∈ l := fun x hx => List.mem_of_mem_tail (List.mem_of_mem_tail (List.mem_of_mem_tail (hv _ _ _ rfl x hx)))
    simp only at h
    split at h
    ·simp only [R.ok.injEq] at h
     obtain ⟨rfl, rfl, rfl⟩ := h
     exact fun x hx => h2 x (List.mem_of_mem_tail hx)
    split at h
    ·exact fun x hx => h2 x (List.mem_of_mem_tail (ihM _ _ _ _ _ _ _ _ h x hx))
    ·cases h
end Go.Proofs.YtgaiepficjiclaaGreatDoor.Rd
/- Plain laws of reading: white space around a text. -/
namespace Go.Proofs.YtgaiepficjiclaaGreatDoor.Rd
set_option linter.unusedVariables false
set_option linter.unusedSimpArgs false
open JV Scn

def Al (t t' : Tok) : Prop := t.kind = t'.kind ∧ t.n = t'.n ∧ t.s = t'.s
theorem Al.isM {t t' : Tok} (h : Al t t') (c : UInt8) : isM t c = isM t' c := by unfold Rd.isM; rw [h.1, h.2.2]
theorem Al.leaf {t t' : Tok} (h : Al t t') : leaf t = leaf t' := by unfold Rd.leaf; rw [h.1, h.2.1, h.2.2]
theorem next_al (e e' : Nat) (l : List Tok) : Al (next e l) (next e' l) := by cases l <;> exact ⟨rfl, rfl, rfl⟩
theorem rd_e : ∀ f, (∀ e e' t t' l d p v l' p', Al t t' → rdV f e t l d p = .ok v l' p' → rdV f e' t' l d p = .ok v l' p') ∧
  (∀ e e' l d p acc v l' p', rdL f e l d p acc = .ok v l' p' → rdL f e' l d p acc = .ok v l' p') ∧
  (∀ e e' l d p acc v l' p', rdM f e l d p acc = .ok v l' p' → rdM f e' l d p acc = .ok v l' p') := by
 intro f
 induction f with
 | zero => exact ⟨fun _ _ _ _ _ _ _ _ _ _ _ h => (by unfold rdV at h; cases h), fun _ _ _ _ _ _ _ _ _ h => (by unfold rdL at h; cases h), fun _ _ _ _ _ _ _ _ _ h => (by unfold rdM at h; cases h)⟩
 | succ f ih =>
  obtain ⟨ihV, ihL, ihM⟩ := ih
  refine ⟨fun e e' t t' l d p v l' p' ha h => ?_, fun e e' l d p acc v l' p' h => ?_, fun e e' l d p acc v l' p' h => ?_⟩
  ·rw [rdV_succ] at h ⊢
   rw [← ha.leaf, ← ha.isM, ← ha.isM, ← (next_al e e' l).isM, ← (next_al e e' l).isM]
   split at h
   ·cases h
   rename_i h1
   rw [if_neg h1]
   split at h
   ·cases h
   rename_i h2
   rw [if_neg h2]
   split at h
   ·cases h
   rename_i h3
   rw [if_neg h3]
   cases hl : leaf t with
   | some u => rw [hl] at h; exact h
   | none =>
    rw [hl] at h
    simp only at h ⊢
    split at h
    ·rename_i h4
     rw [if_pos h4]
     split at h
     ·rename_i h5; rw [if_pos h5]; exact h
     ·rename_i h5; rw [if_neg h5]; exact ihL _ _ _ _ _ _ _ _ _ h
    ·rename_i h4
     rw [if_neg h4]
     split at h
     ·rename_i h5; rw [if_pos h5]; exact h
     ·rename_i h5; rw [if_neg h5]; exact ihM _ _ _ _ _ _ _ _ _ h
  ·rw [rdL_succ] at h ⊢
   rcases hv : rdV f e (next e l) l.tail (d + 1) p with _ | ⟨a, w⟩ | ⟨u, l2, p2⟩
   ·rw [hv] at h; cases h
   ·rw [hv] at h; cases h
   ·rw [hv] at h
    rw [ihV e e' (next e l) (next e' l) _ _ _ _ _ _ (next_al e e' l) hv]
    simp only at h ⊢
    rw [← (next_al e e' l2).isM, ← (next_al e e' l2).isM]
    split at h
    ·rename_i h5; rw [if_pos h5]; exact h
    rename_i h5
    rw [if_neg h5]
    split at h
    ·rename_i h6; rw [if_pos h6]; exact ihL _ _ _ _ _ _ _ _ _ h
    ·cases h
  ·rw [rdM_succ] at h ⊢
   have hk := (next_al e e' l).1
   have hs := (next_al e e' l).2.2
   rw [← hk, ← hs, ← (next_al e e' l.tail).isM]
   split at h
   ·cases h
   rename_i h1
   rw [if_neg h1]
   split at h
   ·cases h
   rename_i h2
   rw [if_neg h2]
   split at h
   ·cases h
   rename_i h3
   rw [if_neg h3]
   rcases hv : rdV f e (next e l.tail.tail) l.tail.tail.tail (d + 1) p with _ | ⟨a, w⟩ | ⟨u, l2, p2⟩
   ·rw [hv] at h; cases h
   ·rw [hv] at h; cases h
   ·rw [hv] at h
    rw [ihV e e' _ (next e' l.tail.tail) _ _ _ _ _ _ (next_al e e' l.tail.tail) hv]
    simp only at h ⊢
    rw [← (next_al e e' l2).isM, ← (next_al e e' l2).isM]
    split at h
    ·rename_i h5; rw [if_pos h5]; exact h
    rename_i h5
    rw [if_neg h5]
    split at h
    ·rename_i h6; rw [if_pos h6]; exact ihM _ _ _ _ _ _ _ _ _ h
    ·cases h
theorem white_skip0 {gap : List UInt8} (hg : ∀ c ∈ gap, white c = true) (u : List UInt8) : tk (gap ++ u) 0 = tk (gap ++ u) gap.length := by
 have h := white_skip hg [] u 0 (by omega)
 simpa using h
theorem rdS_white {gap s : List UInt8} (hg : ∀ c ∈ gap, white c = true) (h1 : s.length ≤ 60000) (h2 : gap.length ≤ 10) :
  rdS (gap ++ s) = match rdS s with | .ok v l q => .ok v l q | .bad a c => .bad (a + gap.length) c | .out => .out := by
 rcases ht : tokens s with ⟨ts, p, x⟩
 have hs : tk s 0 = (ts, p, x) := by unfold tokens at ht; rw [if_neg (by omega)] at ht; exact ht
 have h3 := tk_sh (p := gap) s.length s 0 (by omega)
 rw [hs, Nat.add_zero, ← white_skip0 hg] at h3
 have h4 : tokens (gap ++ s) = (ts.map (shTok gap.length), if x = 0 then 0 else p + gap.length, x) := by
  unfold tokens
  rw [if_neg (by simp; omega)]
  exact h3
 unfold rdS
 rw [ht, h4]
 simp only
 by_cases hx : x = 0
 ·rw [if_pos hx, if_pos hx, List.length_append, Nat.add_comm gap.length, next_sh, List.length_map, ← List.map_tail]
  rw [((rd_shift gap.length (2 * ts.length + 3)).1 s.length (next s.length ts) ts.tail 1 0)]
  rcases hv : rdV (2 * ts.length + 3) s.length (next s.length ts) ts.tail 1 0 with _ | ⟨a, w⟩ | ⟨u, l, q⟩
  ·rfl
  ·rfl
  ·simp only [shR]
   by_cases hl : l = []
   ·subst hl; simp
   ·rw [if_neg hl, if_neg (by simpa using hl)]
    simp only
    rw [next_sh]; rfl
 ·rw [if_neg hx, if_neg hx, if_neg hx]
theorem rdS_line {s : List UInt8} (h1 : s.length ≤ 60100) {v : JV} {l : List Tok} {q : Nat} (h : rdS s = .ok v l q) : rdS (s ++ [10]) = .ok v l q := by
 rcases ht : tokens s with ⟨ts, p, x⟩
 have hs : tk s 0 = (ts, p, x) := by unfold tokens at ht; rw [if_neg (by omega)] at ht; exact ht
 have h0 := h
 unfold rdS at h0
 rw [ht] at h0
 simp only at h0
 split at h0
 ·rename_i hx
  subst hx
  have h3 := tk_cut (l := s) (u := []) (g := 10) (by decide) s.length 0 (by omega) (by omega) (by rw [hs])
  have h5 : tk (s ++ [10]) s.length = ([], 0, 0) := by
   rw [tk_white (by simp) (by simp [List.getD_eq_getElem?_getD]; decide), tk_end (by simp)]
  rw [h5, hs, if_pos rfl, List.append_nil] at h3
  have h4 : tokens (s ++ [10]) = (ts, 0, 0) := by
   unfold tokens
   rw [if_neg (by simp; omega)]
   exact h3
  unfold rdS
  rw [h4]
  simp only [if_true]
  rcases hv : rdV (2 * ts.length + 3) s.length (next s.length ts) ts.tail 1 0 with _ | ⟨a, w⟩ | ⟨u, l2, q2⟩
  ·rw [hv] at h0; cases h0
  ·rw [hv] at h0; cases h0
  ·rw [hv] at h0
   have hv2 := (rd_e (2 * ts.length + 3)).1 s.length (s ++ [(10 : UInt8)]).length (next s.length ts) (next (s ++ [(10 : UInt8)]).length ts) ts.tail 1 0 u l2 q2 (next_al _ _ _) hv
   rw [hv2]
   simp only at h0 ⊢
   split at h0
   ·rename_i hl; rw [if_pos hl]; exact h0
   ·cases h0
 ·cases h0
end Go.Proofs.YtgaiepficjiclaaGreatDoor.Rd
/- Plain laws of reading: a text as the only value of a list, and of a map. -/
namespace Go.Proofs.YtgaiepficjiclaaGreatDoor.Rd
set_option linter.unusedVariables false
set_option linter.unusedSimpArgs false
open JV Scn

theorem Gv.text {s : List UInt8} {ts : List Tok} (h : tk s 0 = (ts, 0, 0)) (p r : List UInt8) {g : UInt8} (hg : cut g = true) : Gv p s (g :: r) (ts.map (shTok p.length)) := by
 intro h0
 have h1 := tk_sh (p := p) (s ++ g :: r).length (s ++ g :: r) s.length (by omega)
 rw [h1] at h0 ⊢
 simp only at h0
 have h2 := tk_cut (u := r) hg s.length 0 (by omega) (by omega) (show (tk s 0).2.2 = 0 by rw [h])
 rw [if_pos h0, h] at h2
 have h3 := tk_sh (p := p) (s ++ g :: r).length (s ++ g :: r) 0 (by omega)
 rw [h2] at h3
 simp only [Nat.add_zero] at h3
 rw [h3]
 simp
theorem dp_shift (v : JV) : ∀ d, dp v (d + 1) = dp v d + 1 := by
 induction v using JV.ind with
 | h k n s l m ihl ihm =>
  intro d
  have hL : ∀ (l : List JV) (d : Nat), (∀ v ∈ l, ∀ d, dp v (d + 1) = dp v d + 1) → (dpL l d = 0 ∧ dpL l (d + 1) = 0) ∨ dpL l (d + 1) = dpL l d + 1 := by
   intro l
   induction l with
   | nil => intro d _; rw [dpL_nil, dpL_nil]; omega
   | cons v l ih =>
    intro d h
    have h1 := h v (by simp) d
    have h2 := ih d (fun u hu => h u (by simp [hu]))
    rw [dpL_cons, dpL_cons, h1]; omega
  have hM : ∀ (l : List (List UInt8 × JV)) (d : Nat), (∀ v ∈ l, ∀ d, dp v.2 (d + 1) = dp v.2 d + 1) → (dpM l d = 0 ∧ dpM l (d + 1) = 0) ∨ dpM l (d + 1) = dpM l d + 1 := by
   intro l
   induction l with
   | nil => intro d _; rw [dpM_nil, dpM_nil]; omega
   | cons v l ih =>
    intro d h
    have h1 := h v (by simp) d
    have h2 := ih d (fun u hu => h u (by simp [hu]))
    rw [dpM_cons, dpM_cons, h1]; omega
  have a := hL l (d + 1) ihl
  have b := hM m (d + 1) ihm
  rw [dp_mk, dp_mk]
  omega
theorem rdS_tk {s : List UInt8} {v : JV} {l : List Tok} {q : Nat} (h : rdS s = .ok v l q) : ∃ t ts, tk s 0 = (t :: ts, 0, 0) ∧ s.length ≤ 65536 ∧ l = [] ∧ ∃ f, rdV f s.length t ts 1 0 = .ok v [] q := by
 rcases ht : tokens s with ⟨ts, p, x⟩
 have h0 := h
 unfold rdS at h0
 rw [ht] at h0
 simp only at h0
 split at h0
 ·rename_i hx
  subst hx
  unfold tokens at ht
  split at ht
  ·simp only [Prod.mk.injEq] at ht; omega
  rename_i hl
  rcases hv : rdV (2 * ts.length + 3) s.length (next s.length ts) ts.tail 1 0 with _ | ⟨a, w⟩ | ⟨u, l2, q2⟩
  ·rw [hv] at h0; cases h0
  ·rw [hv] at h0; cases h0
  ·rw [hv] at h0
   simp only at h0
   split at h0
   ·rename_i hl2
    subst hl2
    simp only [R.ok.injEq] at h0
    obtain ⟨rfl, rfl, rfl⟩ := h0
    cases ts with
    | nil => rw [show 2 * ([] : List Tok).length + 3 = 2 + 1 from rfl, rdV_end] at hv; cases hv
    | cons t ts =>
     have h5 : tk s 0 = (t :: ts, p, 0) := ht
     have h6 := (tk_ok s.length s 0 (by omega) (by rw [h5])).1
     rw [h5] at h6
     simp only at h6
     subst h6
     exact ⟨t, ts, h5, by omega, rfl, _, hv⟩
   ·cases h0
 ·cases h0
theorem head_ok {f e : Nat} {t : Tok} {l : List Tok} {d p : Nat} {v : JV} {l' : List Tok} {p' : Nat} (h : rdV f e t l d p = .ok v l' p') : isM t 93 = false := by
 cases f with
 | zero => unfold rdV at h; cases h
 | succ f =>
  cases hb : isM t 93 with
  | false => rfl
  | true =>
   exfalso
   have hk : t.kind = 1 ∧ t.s = [93] := by simpa [isM] using hb
   rw [rdV_succ, if_pos ⟨by simp [leaf, hk.1], by simp [isM, hk.2], by simp [isM, hk.2]⟩] at h
   cases h
def finR (e : Nat) : R → R
 | .ok v l q => if l = [] then .ok v [] q else .bad (next e l).at_ 50
 | .bad a c => .bad a c
 | .out => .out
theorem rdS_of {s : List UInt8} {t : Tok} {ts : List Tok} (htk : tk s 0 = (t :: ts, 0, 0)) (hl : s.length ≤ 65536) {g : Nat} {r : R} (h : rdV g s.length t ts 1 0 = r) (hr : r ≠ .out) :
  rdS s = finR s.length r := by
 have ht : tokens s = (t :: ts, 0, 0) := by unfold tokens; rw [if_neg (by omega)]; exact htk
 have h6 := (rd_fuel (2 * (t :: ts).length + 3)).1 s.length t ts 1 0 (by simp; omega)
 have h7 := rdV_any h6 (by rw [h]; exact hr : rdV g s.length t ts 1 0 ≠ .out)
 unfold rdS
 rw [ht]
 simp only [if_true]
 rw [next_cons, List.tail_cons, h7, h]
 cases r <;> rfl
theorem wrap_l {f e : Nat} {t m : Tok} {ts : List Tok} {v : JV} {q c : Nat} (hw : Wr c (rdV f e (shTok 1 t) (ext 1 [m] ts) 2 1) v (ext 1 [m] []) q) (h93 : isM t 93 = false) (hm : isM m 93 = true) :
  if c = 0 then rdV (f + 2) e ⟨1, 0, [91], 0⟩ (shTok 1 t :: ext 1 [m] ts) 1 0 = .ok (listV [v]) [] (q + 1) else ∃ a, rdV (f + 2) e ⟨1, 0, [91], 0⟩ (shTok 1 t :: ext 1 [m] ts) 1 0 = .bad a c := by
 have h0 : rdV (f + 2) e ⟨1, 0, [91], 0⟩ (shTok 1 t :: ext 1 [m] ts) 1 0 = rdL (f + 1) e (shTok 1 t :: ext 1 [m] ts) 1 1 [] := by
  rw [rdV_succ, if_neg (by simp [isM]), if_neg (by omega), if_neg (by omega)]
  show (if isM ⟨1, 0, [91], 0⟩ 91 = true then if isM (shTok 1 t) 93 = true then _ else rdL (f + 1) e (shTok 1 t :: ext 1 [m] ts) 1 1 [] else _) = _
  rw [if_pos (by rfl), show isM (shTok 1 t) 93 = isM t 93 from rfl, h93, if_neg (by simp)]
 rw [h0, rdL_succ, next_cons, List.tail_cons]
 have e1 : ext 1 [m] [] = [m] := rfl
 rw [e1] at hw
 unfold Wr at hw
 split at hw
 ·rename_i hc
  rw [if_pos hc, hw]
  simp [next_cons, hm]
 ·rename_i hc
  obtain ⟨a, ha⟩ := hw
  rw [if_neg hc, ha]
  exact ⟨a, rfl⟩
theorem wrap_m {f e : Nat} {t m : Tok} {ts : List Tok} {v : JV} {q c : Nat} (hw : Wr c (rdV f e (shTok 5 t) (ext 5 [m] ts) 2 1) v (ext 5 [m] []) q) (hm : isM m 125 = true) :
  if c = 0 then rdV (f + 2) e ⟨1, 0, [123], 0⟩ (⟨4, 0, [107], 1⟩ :: ⟨1, 0, [58], 4⟩ :: shTok 5 t :: ext 5 [m] ts) 1 0 = .ok (mapV [([107], v)]) [] (q + 1) else ∃ a, rdV (f + 2) e ⟨1, 0, [123], 0⟩ (⟨4, 0, [107], 1⟩ :: ⟨1, 0, [58], 4⟩ :: shTok 5 t :: ext 5 [m] ts) 1 0 = .bad a c := by
 have h0 : rdV (f + 2) e ⟨1, 0, [123], 0⟩ (⟨4, 0, [107], 1⟩ :: ⟨1, 0, [58], 4⟩ :: shTok 5 t :: ext 5 [m] ts) 1 0 = rdM (f + 1) e (⟨4, 0, [107], 1⟩ :: ⟨1, 0, [58], 4⟩ :: shTok 5 t :: ext 5 [m] ts) 1 1 [] := by
  rw [rdV_succ, if_neg (by simp [isM]), if_neg (by omega), if_neg (by omega)]
  rfl
 have h1 : rdM (f + 1) e (⟨4, 0, [107], 1⟩ :: ⟨1, 0, [58], 4⟩ :: shTok 5 t :: ext 5 [m] ts) 1 1 [] = match rdV f e (shTok 5 t) (ext 5 [m] ts) 2 1 with
   | .out => .out
   | .bad a w => .bad a w
   | .ok v l' p' => if isM (next e l') 125 then .ok (mapV ([] ++ [([107], v)])) l'.tail p' else if isM (next e l') 44 then rdM f e l'.tail 1 p' ([] ++ [([107], v)]) else .bad (next e l').at_ 50 := by
  rw [rdM_succ]
  rfl
 rw [h0, h1]
 have e1 : ext 5 [m] [] = [m] := rfl
 rw [e1] at hw
 unfold Wr at hw
 split at hw
 ·rename_i hc
  rw [if_pos hc, hw]
  simp [next_cons, hm]
 ·rename_i hc
  obtain ⟨a, ha⟩ := hw
  rw [if_neg hc, ha]
  exact ⟨a, rfl⟩
theorem rdS_wrap {s : List UInt8} (hs : s.length ≤ 60000) {v : JV} {l : List Tok} {q : Nat} (h : rdS s = .ok v l q) :
  (nv v = 8192 ∨ dp v 1 = 16) ∧ (∃ c a b, (c = 51 ∨ c = 53) ∧ rdS ([91] ++ s ++ [93]) = .bad a c ∧ rdS ([123, 34, 107, 34, 58] ++ s ++ [125]) = .bad b c) ∨
  (nv v ≠ 8192 ∧ dp v 1 ≠ 16) ∧ (∃ q1 q2, rdS ([91] ++ s ++ [93]) = .ok (listV [v]) [] q1 ∧ rdS ([123, 34, 107, 34, 58] ++ s ++ [125]) = .ok (mapV [([107], v)]) [] q2) := by
 obtain ⟨_, _, hq, hq8, hd, _, _⟩ := rdS_right h
 obtain ⟨t, ts, htk, _, rfl, f, hv⟩ := rdS_tk h
 have h93 := head_ok hv
 obtain ⟨c, hc, hw⟩ := (rd_wrap f).1 _ _ _ _ _ _ _ _ hv
 have m1 : Gv [] [91] (s ++ [93] ++ []) [⟨1, 0, [91], 0⟩] := Gv.mark (by decide) [] _
 have m2 : Gv [91] s ([93] ++ []) ((t :: ts).map (shTok 1)) := Gv.text htk [91] [] (by decide)
 have m3 : Gv ([91] ++ s) [93] [] [⟨1, 0, [93], ([91] ++ s).length⟩] := Gv.mark (by decide) _ _
 have m4 := m2.app m3
 have g1 : Gv [] ([91] ++ (s ++ [93])) [] _ := Gv.app (p := []) m1 m4
 have e1 : [91] ++ (s ++ [93]) = [91] ++ s ++ [93] := by simp
 have k1 : tk ([91] ++ s ++ [93]) 0 = (⟨1, 0, [91], 0⟩ :: shTok 1 t :: ext 1 [⟨1, 0, [93], ([91] ++ s).length⟩] ts, 0, 0) := by
  have := g1 (by rw [tk_end (by simp)])
  simp only [List.nil_append, List.append_nil, List.length_nil, Nat.zero_add] at this
  rw [tk_end (Nat.le_refl _), e1] at this
  rw [this]
  simp [ext]
 have hM : Good ⟨4, 0, [107], 0⟩ := .text [107] 0 (by decide)
 have w0 : wr ⟨4, 0, [107], 0⟩ = [34, 107, 34] := by decide
 have n1 : Gv [] [123] ([34, 107, 34] ++ ([58] ++ (s ++ [125])) ++ []) [⟨1, 0, [123], 0⟩] := Gv.mark (by decide) [] _
 have n2 : Gv [123] [34, 107, 34] ([58] ++ (s ++ [125]) ++ []) [⟨4, 0, [107], 1⟩] := by
  have := Gv.one hM [123] (u := [58] ++ (s ++ [125]) ++ []) (Ct.cons (by decide) _)
  rw [w0] at this
  exact this
 have n3 : Gv ([123] ++ [34, 107, 34]) [58] (s ++ [125] ++ []) [⟨1, 0, [58], 4⟩] := Gv.mark (by decide) _ _
 have n4 : Gv ([123] ++ [34, 107, 34] ++ [58]) s ([125] ++ []) ((t :: ts).map (shTok 5)) := Gv.text htk _ [] (by decide)
 have n5 : Gv ([123] ++ [34, 107, 34] ++ [58] ++ s) [125] [] [⟨1, 0, [125], ([123] ++ [34, 107, 34] ++ [58] ++ s).length⟩] := Gv.mark (by decide) _ _
 have n6 := n2.app (n3.app (n4.app n5))
 have g2 : Gv [] ([123] ++ ([34, 107, 34] ++ ([58] ++ (s ++ [125])))) [] _ := Gv.app (p := []) n1 n6
 have e2 : [123] ++ ([34, 107, 34] ++ ([58] ++ (s ++ [125]))) = [123, 34, 107, 34, 58] ++ s ++ [125] := by simp
 have k2 : tk ([123, 34, 107, 34, 58] ++ s ++ [125]) 0 = (⟨1, 0, [123], 0⟩ :: ⟨4, 0, [107], 1⟩ :: ⟨1, 0, [58], 4⟩ :: shTok 5 t :: ext 5 [⟨1, 0, [125], ([123] ++ [34, 107, 34] ++ [58] ++ s).length⟩] ts, 0, 0) := by
  have := g2 (by rw [tk_end (by simp)])
  simp only [List.nil_append, List.append_nil, List.length_nil, Nat.zero_add] at this
  rw [tk_end (Nat.le_refl _), e2] at this
  rw [this]
  simp [ext]
 have r1 := wrap_l (hw ([91] ++ s ++ [93]).length 1 [⟨1, 0, [93], ([91] ++ s).length⟩]) h93 rfl
 have r2 := wrap_m (hw ([123, 34, 107, 34, 58] ++ s ++ [125]).length 5 [⟨1, 0, [125], ([123] ++ [34, 107, 34] ++ [58] ++ s).length⟩]) rfl
 have l1 : ([91] ++ s ++ [93]).length ≤ 65536 := by simp; omega
 have l2 : ([123, 34, 107, 34, 58] ++ s ++ [125]).length ≤ 65536 := by simp; omega
 by_cases h0 : c = 0
 ·rw [if_pos h0] at r1 r2
  have s1 := rdS_of k1 l1 r1 (by simp)
  have s2 := rdS_of k2 l2 r2 (by simp)
  simp only [finR, if_true] at s1 s2
  obtain ⟨_, _, hq1, hq2, hd2, _, _⟩ := rdS_right s1
  have hdl : dp (listV [v]) 1 = max 1 (dp v (1 + 1)) := by unfold listV; rw [dp_mk, dpL_cons, dpL_nil, dpM_nil]; omega
  have hnl : nv (listV [v]) = 1 + nv v := by unfold listV; rw [nv_mk, nvL_cons, nvL_nil, nvM_nil]; omega
  have hds : dp v (1 + 1) = dp v 1 + 1 := dp_shift v 1
  exact .inr ⟨by omega, _, _, s1, s2⟩
 ·rw [if_neg h0] at r1 r2
  obtain ⟨a, r1⟩ := r1
  obtain ⟨b, r2⟩ := r2
  have s1 := rdS_of k1 l1 r1 (by simp)
  have s2 := rdS_of k2 l2 r2 (by simp)
  rcases hc with h | ⟨h, h'⟩ | ⟨h, h'⟩
  ·exact absurd h h0
  ·exact .inl ⟨.inr (by omega), c, a, b, .inl h, s1, s2⟩
  ·exact .inl ⟨.inl (by omega), c, a, b, .inr h, s1, s2⟩
end Go.Proofs.YtgaiepficjiclaaGreatDoor.Rd
/- Plain laws of reading: how much is read. -/
namespace Go.Proofs.YtgaiepficjiclaaGreatDoor.Rd
set_option linter.unusedVariables false
set_option linter.unusedSimpArgs false
open JV Scn

theorem bulkL_nil : bulkL [] = 0 := by unfold bulkL; rfl
theorem bulkM_nil : bulkM [] = 0 := by unfold bulkM; rfl
theorem bulkL_app (a b : List JV) : bulkL (a ++ b) = bulkL a + bulkL b := by
 induction a with
 | nil => rw [bulkL_nil]; simp
 | cons v a ih => rw [List.cons_append, bulkL_cons, bulkL_cons, ih]; omega
theorem bulkM_app (a b : List (List UInt8 × JV)) : bulkM (a ++ b) = bulkM a + bulkM b := by
 induction a with
 | nil => rw [bulkM_nil]; simp
 | cons v a ih => rw [List.cons_append, bulkM_cons, bulkM_cons, ih]; omega
def BkV (K : Nat) (v : JV) : Prop := bulk v + 1 + K ≤ (4 + 2 * K) * nv v
def BkL (K : Nat) (l : List JV) : Prop := bulkL l ≤ (4 + 2 * K) * nvL l
def BkM (K : Nat) (m : List (List UInt8 × JV)) : Prop := bulkM m ≤ (4 + 2 * K) * nvM m
theorem BkL.snoc {K : Nat} {l : List JV} {v : JV} (h : BkL K l) (hv : BkV K v) : BkL K (l ++ [v]) := by
 unfold BkL BkV at *
 rw [bulkL_app, nvL_app, bulkL_cons, nvL_cons, bulkL_nil, nvL_nil, Nat.mul_add, Nat.mul_add]
 omega
theorem BkM.snoc {K : Nat} {m : List (List UInt8 × JV)} {s : List UInt8} {v : JV} (h : BkM K m) (hs : s.length ≤ K) (hv : BkV K v) : BkM K (m ++ [(s, v)]) := by
 unfold BkM BkV at *
 rw [bulkM_app, nvM_app, bulkM_cons, nvM_cons, bulkM_nil, nvM_nil, Nat.mul_add, Nat.mul_add]
 simp only
 omega
theorem BkL.v {K : Nat} {l : List JV} (h : BkL K l) : BkV K (listV l) := by
 unfold BkL BkV listV at *
 rw [bulk_mk, nv_mk, bulkM_nil, nvM_nil, Nat.mul_add, Nat.mul_add]
 simp only [List.length_nil]
 omega
theorem BkM.v {K : Nat} {m : List (List UInt8 × JV)} (h : BkM K m) : BkV K (mapV m) := by
 unfold BkM BkV mapV at *
 rw [bulk_mk, nv_mk, bulkL_nil, nvL_nil, Nat.mul_add, Nat.mul_add]
 simp only [List.length_nil]
 omega
theorem leaf_bk {K : Nat} {t : Tok} {v : JV} (h : leaf t = some v) (hk : t.s.length ≤ K) : BkV K v := by
 unfold leaf at h
 unfold BkV
 repeat' split at h
 all_goals first
  | (cases h; done)
  | (obtain rfl := Option.some.inj h; simp only [textV, intV, nullV, boolV]; rw [bulk_mk, nv_mk, bulkL_nil, bulkM_nil, nvL_nil, nvM_nil]; (try simp only [List.length_nil]); omega)
theorem next_bk {e K : Nat} {l : List Tok} (h : ∀ t ∈ l, t.s.length ≤ K) : (next e l).s.length ≤ K := by
 cases l with
 | nil => simp [next]
 | cons t l => exact h t (by simp)
theorem tail_bk {K : Nat} {l : List Tok} (h : ∀ t ∈ l, t.s.length ≤ K) : ∀ t ∈ l.tail, t.s.length ≤ K := fun t ht => h t (List.mem_of_mem_tail ht)
theorem rd_bulk (K : Nat) : ∀ f, (∀ e t l d p v l' p', t.s.length ≤ K → (∀ x ∈ l, x.s.length ≤ K) → rdV f e t l d p = .ok v l' p' → BkV K v) ∧
  (∀ e l d p acc v l' p', (∀ x ∈ l, x.s.length ≤ K) → BkL K acc → rdL f e l d p acc = .ok v l' p' → BkV K v) ∧
  (∀ e l d p acc v l' p', (∀ x ∈ l, x.s.length ≤ K) → BkM K acc → rdM f e l d p acc = .ok v l' p' → BkV K v) := by
 intro f
 induction f with
 | zero => exact ⟨fun _ _ _ _ _ _ _ _ _ _ h => (by unfold rdV at h; cases h), fun _ _ _ _ _ _ _ _ _ _ h => (by unfold rdL at h; cases h), fun _ _ _ _ _ _ _ _ _ _ h => (by unfold rdM at h; cases h)⟩
 | succ f ih =>
  obtain ⟨ihV, ihL, ihM⟩ := ih
  refine ⟨fun e t l d p v l' p' ht hl h => ?_, fun e l d p acc v l' p' hl ha h => ?_, fun e l d p acc v l' p' hl ha h => ?_⟩
  ·rw [rdV_succ] at h
   split at h
   ·cases h
   split at h
   ·cases h
   split at h
   ·cases h
   split at h
   ·rename_i u hu
    simp only [R.ok.injEq] at h
    obtain ⟨rfl, rfl, rfl⟩ := h
    exact leaf_bk hu ht
   ·have h0 : BkL K [] := by unfold BkL; rw [bulkL_nil]; omega
    have h0' : BkM K [] := by unfold BkM; rw [bulkM_nil]; omega
    split at h
    ·split at h
     ·simp only [R.ok.injEq] at h
      obtain ⟨rfl, rfl, rfl⟩ := h
      exact h0.v
     ·exact ihL _ _ _ _ _ _ _ _ hl h0 h
    ·split at h
     ·simp only [R.ok.injEq] at h
      obtain ⟨rfl, rfl, rfl⟩ := h
      exact h0'.v
     ·exact ihM _ _ _ _ _ _ _ _ hl h0' h
  ·rw [rdL_succ] at h
   rcases hv : rdV f e (next e l) l.tail (d + 1) p with _ | ⟨a, w⟩ | ⟨u, l2, p2⟩
   ·rw [hv] at h; cases h
   ·rw [hv] at h; cases h
   ·rw [hv] at h
    have hb := ihV _ _ _ _ _ _ _ _ (next_bk hl) (tail_bk hl) hv
    have hl2 : ∀ x ∈ l2, x.s.length ≤ K := fun x hx => tail_bk hl x ((rd_toks f).1 _ _ _ _ _ _ _ _ hv x hx)
    simp only at h
    split at h
    ·simp only [R.ok.injEq] at h
     obtain ⟨rfl, rfl, rfl⟩ := h
     exact (ha.snoc hb).v
    split at h
    ·exact ihL _ _ _ _ _ _ _ _ (tail_bk hl2) (ha.snoc hb) h
    ·cases h
  ·rw [rdM_succ] at h
   split at h
   ·cases h
   split at h
   ·cases h
   split at h
   ·cases h
   rcases hv : rdV f e (next e l.tail.tail) l.tail.tail.tail (d + 1) p with _ | ⟨a, w⟩ | ⟨u, l2, p2⟩
   ·rw [hv] at h; cases h
   ·rw [hv] at h; cases h
   ·rw [hv] at h
    have hb := ihV _ _ _ _ _ _ _ _ (next_bk (tail_bk (tail_bk hl))) (tail_bk (tail_bk (tail_bk hl))) hv
    have hl2 : ∀ x ∈ l2, x.s.length ≤ K := fun x hx => tail_bk (tail_bk (tail_bk hl)) x ((rd_toks f).1 _ _ _ _ _ _ _ _ hv x hx)
    simp only at h
    split at h
    ·simp only [R.ok.injEq] at h
     obtain ⟨rfl, rfl, rfl⟩ := h
     exact (ha.snoc (next_bk hl) hb).v
    split at h
    ·exact ihM _ _ _ _ _ _ _ _ (tail_bk hl2) (ha.snoc (next_bk hl) hb) h
    ·cases h
theorem rdS_bulk {s : List UInt8} {v : JV} {l : List Tok} {q : Nat} (h : rdS s = .ok v l q) : bulk v ≤ 1100000000 := by
 have hr := rdS_right h
 rcases ht : tokens s with ⟨ts, p, x⟩
 have hK : ∀ t ∈ ts, t.s.length ≤ 65553 := by
  intro t hi
  unfold tokens at ht
  split at ht
  ·simp only [Prod.mk.injEq] at ht; rw [← ht.1] at hi; simp at hi
  ·have := tk_size s.length s 0 (by omega) t (by unfold tk; rw [ht]; exact hi)
   omega
 unfold rdS at h
 rw [ht] at h
 simp only at h
 split at h
 ·rcases hv : rdV (2 * ts.length + 3) s.length (next s.length ts) ts.tail 1 0 with _ | ⟨a, w⟩ | ⟨u, l2, q2⟩
  ·rw [hv] at h; cases h
  ·rw [hv] at h; cases h
  ·have hb := (rd_bulk 65553 _).1 _ _ _ _ _ _ _ _ (next_bk hK) (tail_bk hK) hv
   rw [hv] at h
   simp only at h
   split at h
   ·simp only [R.ok.injEq] at h
    obtain ⟨rfl, _, _⟩ := h
    unfold BkV at hb
    have hn : nv u ≤ 8192 := by have := hr.2.2.1; have := hr.2.2.2.1; omega
    have : (4 + 2 * 65553) * nv u ≤ (4 + 2 * 65553) * 8192 := Nat.mul_le_mul_left _ hn
    omega
   ·cases h
 ·cases h
end Go.Proofs.YtgaiepficjiclaaGreatDoor.Rd
