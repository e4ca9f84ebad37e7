/- Plain mathematics of pointers: no program in sight. -/
import Derived.Test.YtgaiepficjiclaaGreatDoorPa
import Derived.Lib.SplitLaws
import Derived.Test.YtgaiepficjiclaaGreatDoorPb
import Derived.Test.YtgaiepficjiclaaGreatDoorKa
import Derived.Test.YtgaiepficjiclaaGreatDoorShelf
import Derived.Laws.IdiomStrings
namespace Go.Proofs.YtgaiepficjiclaaGreatDoor.Pt
set_option maxRecDepth 100000
set_option maxHeartbeats 1000000
set_option linter.unusedVariables false
set_option linter.unusedSimpArgs false
open JV

def plain : List UInt8 → Option (List UInt8)
 | [] => some []
 | [c] => if c = 126 then none else some [c]
 | c :: d :: r => if c = 126 then (if d = 48 then (plain r).map (126 :: ·) else if d = 49 then (plain r).map (47 :: ·) else none) else (plain (d :: r)).map (c :: ·)
def esc : List UInt8 → List UInt8
 | [] => []
 | c :: r => (if c = 126 then [126, 48] else if c = 47 then [126, 49] else [c]) ++ esc r
def cut : List UInt8 → List (List UInt8)
 | [] => [[]]
 | c :: r => if c = 47 then [] :: cut r else match cut r with
  | [] => [[c]]
  | h :: t => (c :: h) :: t
def allP : List (List UInt8) → Option (List (List UInt8))
 | [] => some []
 | s :: l => (plain s).bind fun p => (allP l).map (p :: ·)
def parts : List UInt8 → Option (List (List UInt8))
 | [] => some []
 | c :: r => if c = 47 then allP (cut r) else none
def text : List (List UInt8) → List UInt8
 | [] => []
 | p :: ps => 47 :: (esc p ++ text ps)

theorem allP_def (h : List UInt8) (t : List (List UInt8)) : allP (h :: t) = (plain h).bind fun p => (allP t).map (p :: ·) := rfl
theorem allP_one (h : List UInt8) : allP [h] = (plain h).map ([·]) := by simp [allP]; cases plain h <;> simp
theorem plain_two (c d : UInt8) (r : List UInt8) : plain (c :: d :: r) = if c = 126 then (if d = 48 then (plain r).map (126 :: ·) else if d = 49 then (plain r).map (47 :: ·) else none) else (plain (d :: r)).map (c :: ·) := by
 conv => lhs; unfold plain
theorem plain_ne {c : UInt8} (r : List UInt8) (h : c ≠ 126) : plain (c :: r) = (plain r).map (c :: ·) := by
 cases r with
 | nil => simp [plain, h]
 | cons d r => rw [plain_two, if_neg h]
theorem plain_esc : ∀ s, plain (esc s) = some s
 | [] => rfl
 | c :: r => by
  unfold esc
  by_cases h : c = 126
  ·subst h
   rw [if_pos rfl]
   show plain (126 :: 48 :: esc r) = _
   rw [plain_two, if_pos rfl, if_pos rfl, plain_esc r]; rfl
  ·rw [if_neg h]
   by_cases h2 : c = 47
   ·subst h2
    rw [if_pos rfl]
    show plain (126 :: 49 :: esc r) = _
    rw [plain_two, if_pos rfl, if_neg (by decide), if_pos rfl, plain_esc r]; rfl
   ·rw [if_neg h2]
    show plain (c :: esc r) = _
    rw [plain_ne _ h, plain_esc r]; rfl
theorem esc_no (s : List UInt8) : ∀ c ∈ esc s, c ≠ 47 := by
 induction s with
 | nil => simp [esc]
 | cons a r ih =>
  intro c hc
  unfold esc at hc
  rcases List.mem_append.1 hc with hc | hc
  ·split at hc
   ·simp at hc; rcases hc with rfl | rfl <;> decide
   ·split at hc
    ·simp at hc; rcases hc with rfl | rfl <;> decide
    ·rename_i h2; simp at hc; subst hc; exact h2
  ·exact ih c hc
theorem cut_ne_nil (l : List UInt8) : cut l ≠ [] := by
 cases l with
 | nil => simp [cut]
 | cons c r =>
  unfold cut
  split
  ·simp
  ·split <;> simp
theorem cut_pre : ∀ (a b : List UInt8), (∀ c ∈ a, c ≠ 47) → cut (a ++ 47 :: b) = a :: cut b
 | [], b, _ => by show cut (47 :: b) = _; rw [cut, if_pos rfl]
 | c :: a, b, h => by
  have ih := cut_pre a b (fun x hx => h x (by simp [hx]))
  show cut (c :: (a ++ 47 :: b)) = _
  rw [cut, if_neg (h c (by simp)), ih]
theorem cut_no : ∀ (a : List UInt8), (∀ c ∈ a, c ≠ 47) → cut a = [a]
 | [], _ => rfl
 | c :: a, h => by
  have ih := cut_no a (fun x hx => h x (by simp [hx]))
  rw [cut, if_neg (h c (by simp)), ih]
theorem parts_text : ∀ ps, parts (text ps) = some ps := by
 intro ps
 cases ps with
 | nil => rfl
 | cons p ps =>
  show parts (47 :: (esc p ++ text ps)) = _
  rw [parts, if_pos rfl]
  induction ps generalizing p with
  | nil =>
   show allP (cut (esc p ++ [])) = _
   rw [List.append_nil, cut_no _ (esc_no p)]
   simp [allP, plain_esc]
  | cons q qs ih =>
   show allP (cut (esc p ++ 47 :: (esc q ++ text qs))) = _
   have := ih q
   rw [cut_pre _ _ (esc_no p), allP_def, plain_esc]
   show (some p).bind _ = _
   have h2 : allP (cut (esc q ++ text qs)) = some (q :: qs) := ih q
   simp [h2]
def go (acc : List (List UInt8)) (cur : List UInt8) : List UInt8 → Option (List (List UInt8))
 | [] => some (acc ++ [cur])
 | [c] => if c = 47 then some (acc ++ [cur] ++ [[]]) else if c = 126 then none else some (acc ++ [cur ++ [c]])
 | c :: d :: r => if c = 47 then go (acc ++ [cur]) [] (d :: r) else if c = 126 then (if d = 48 then go acc (cur ++ [126]) r else if d = 49 then go acc (cur ++ [47]) r else none) else go acc (cur ++ [c]) (d :: r)
theorem go_two (acc : List (List UInt8)) (cur : List UInt8) (c d : UInt8) (r : List UInt8) : go acc cur (c :: d :: r) = if c = 47 then go (acc ++ [cur]) [] (d :: r) else if c = 126 then (if d = 48 then go acc (cur ++ [126]) r else if d = 49 then go acc (cur ++ [47]) r else none) else go acc (cur ++ [c]) (d :: r) := by
 conv => lhs; unfold go
theorem go_slash (acc : List (List UInt8)) (cur r : List UInt8) : go acc cur (47 :: r) = go (acc ++ [cur]) [] r := by
 cases r with
 | nil => simp [go]
 | cons d r => rw [go_two, if_pos rfl]
theorem go_ne (acc : List (List UInt8)) (cur : List UInt8) {c : UInt8} (r : List UInt8) (h : c ≠ 47) (h2 : c ≠ 126) : go acc cur (c :: r) = go acc (cur ++ [c]) r := by
 cases r with
 | nil => simp [go, h, h2]
 | cons d r => rw [go_two, if_neg h, if_neg h2]
def join (acc : List (List UInt8)) (cur : List UInt8) : List (List UInt8) → Option (List (List UInt8))
 | [] => none
 | h :: t => (plain h).bind fun p => (allP t).map fun q => acc ++ (cur ++ p) :: q
theorem join_def (acc : List (List UInt8)) (cur h : List UInt8) (t : List (List UInt8)) : join acc cur (h :: t) = (plain h).bind fun p => (allP t).map fun q => acc ++ (cur ++ p) :: q := rfl
theorem join_cons (acc : List (List UInt8)) (cur : List UInt8) (c : UInt8) (h : List UInt8) (t : List (List UInt8)) (hc : c ≠ 126) : join acc cur ((c :: h) :: t) = join acc (cur ++ [c]) (h :: t) := by
 rw [join_def, join_def, plain_ne h hc]
 cases plain h with
 | none => rfl
 | some p => simp
theorem go_cut : ∀ (n : Nat) (l : List UInt8), l.length ≤ n → ∀ acc cur, go acc cur l = join acc cur (cut l) := by
 intro n
 induction n with
 | zero =>
  intro l hl acc cur
  have : l = [] := List.eq_nil_of_length_eq_zero (by omega)
  subst this
  simp [go, cut, join, plain, allP]
 | succ n ih =>
  intro l hl acc cur
  match l, hl with
  | [], _ => simp [go, cut, join, plain, allP]
  | c :: r, hl =>
   have hr : r.length ≤ n := by simp at hl; omega
   by_cases h : c = 47
   ·subst h
    rw [go_slash, ih r hr, cut, if_pos rfl]
    rcases hc : cut r with _ | ⟨h, t⟩
    ·exact absurd hc (cut_ne_nil r)
    ·rw [join_def, join_def, allP_def]
     show _ = (some []).bind _
     cases plain h with
     | none => rfl
     | some p =>
      cases allP t with
      | none => rfl
      | some q => simp
   ·by_cases h2 : c = 126
    ·subst h2
     match r, hr with
     | [], _ => simp [go, cut, join, plain]
     | d :: r, hr =>
      have hr2 : r.length ≤ n := by simp at hr; omega
      rw [go_two, if_neg (by decide), if_pos rfl]
      rcases hc : cut r with _ | ⟨h, t⟩
      ·exact absurd hc (cut_ne_nil r)
      ·by_cases h4 : d = 48
       ·subst h4
        rw [if_pos rfl, ih r hr2, hc]
        rw [cut, if_neg (by decide), cut, if_neg (by decide), hc]
        show _ = join acc cur ((126 :: 48 :: h) :: t)
        rw [join_def, join_def, plain_two, if_pos rfl, if_pos rfl]
        cases plain h <;> simp
       ·rw [if_neg h4]
        by_cases h5 : d = 49
        ·subst h5
         rw [if_pos rfl, ih r hr2, hc]
         rw [cut, if_neg (by decide), cut, if_neg (by decide), hc]
         show _ = join acc cur ((126 :: 49 :: h) :: t)
         rw [join_def, join_def, plain_two, if_pos rfl, if_neg (by decide), if_pos rfl]
         cases plain h <;> simp
        ·rw [if_neg h5]
         by_cases h6 : d = 47
         ·subst h6
          rw [cut, if_neg (by decide), cut, if_pos rfl]
          rfl
         ·rw [cut, if_neg (by decide), cut, if_neg h6, hc]
          show _ = join acc cur ((126 :: d :: h) :: t)
          rw [join_def, plain_two, if_pos rfl, if_neg h4, if_neg h5]
          rfl
    ·rw [go_ne _ _ _ h h2, ih r hr, cut, if_neg h]
     rcases hc : cut r with _ | ⟨h, t⟩
     ·exact absurd hc (cut_ne_nil r)
     ·exact (join_cons acc cur c h t h2).symm
theorem parts_go (r : List UInt8) : parts (47 :: r) = go [] [] r := by
 rw [parts, if_pos rfl, go_cut r.length r (Nat.le_refl _)]
 rcases hc : cut r with _ | ⟨h, t⟩
 ·exact absurd hc (cut_ne_nil r)
 ·rw [allP_def, join_def]
  simp

theorem index_eq (r : List UInt8) : Lib.index (47 :: r) [47] = 0 := by rw [Lib.index]; simp [List.isPrefixOf]
theorem index_ne {c : UInt8} (r : List UInt8) (h : c ≠ 47) : Lib.index (c :: r) [47] = if Lib.index r [47] == -1 then -1 else Lib.index r [47] + 1 := by
 have hp : ([47] : List UInt8).isPrefixOf (c :: r) = false := by simp [List.isPrefixOf, Ne.symm h]
 rw [Lib.index, hp]; simp
theorem splitK_eq (k : Nat) (r : List UInt8) : Lib.splitK [47] 0 (k + 1) (47 :: r) = [] :: Lib.splitK [47] 0 k r := by
 rw [Lib.splitK, index_eq]
 simp
theorem splitK_ne {c : UInt8} (k : Nat) (r : List UInt8) (h : c ≠ 47) : ∃ a t, Lib.splitK [47] 0 k r = a :: t ∧ Lib.splitK [47] 0 k (c :: r) = (c :: a) :: t := by
 cases k with
 | zero => exact ⟨r, [], rfl, rfl⟩
 | succ k =>
  rw [Lib.splitK, Lib.splitK, index_ne r h]
  have hge := Lib.index_ge r [47]
  by_cases hm : Lib.index r [47] = -1
  ·rw [hm]; exact ⟨r, [], by simp, by simp⟩
  ·obtain ⟨j, hj⟩ : ∃ j : Nat, Lib.index r [47] = j := ⟨(Lib.index r [47]).toNat, by omega⟩
   rw [hj]
   have e1 : ((j : Int) == -1) = false := by rw [beq_eq_false_iff_ne]; omega
   have e2 : ((j : Int) + 1 == -1) = false := by rw [beq_eq_false_iff_ne]; omega
   have e3 : ((j : Int) + 1).toNat = j + 1 := by omega
   simp only [e1, e2, e3, Bool.false_eq_true, if_false, Int.toNat_natCast]
   exact ⟨_, _, rfl, by simp⟩
theorem split_cut : ∀ (l : List UInt8), Lib.splitK [47] 0 (Lib.count l [47]) l = cut l
 | [] => by
  have : Lib.count [] [47] = 0 := by rw [Lib.count_one]; rfl
  rw [this]; rfl
 | c :: r => by
  by_cases h : c = 47
  ·subst h
   rw [Lib.count_cons_eq, Nat.add_comm, splitK_eq, split_cut r, cut, if_pos rfl]
  ·rw [Lib.count_cons_ne _ _ _ h]
   obtain ⟨a, t, h1, h2⟩ := splitK_ne (Lib.count r [47]) r h
   rw [h2, cut, if_neg h]
   rw [split_cut r] at h1
   rw [h1]
end Go.Proofs.YtgaiepficjiclaaGreatDoor.Pt
/- Plain mathematics of pointers: what they lead to. -/
namespace Go.Proofs.YtgaiepficjiclaaGreatDoor.Pt
set_option linter.unusedVariables false
set_option linter.unusedSimpArgs false
open JV

def getM : List (List UInt8 × JV) → List UInt8 → Option JV
 | [], _ => none
 | p :: m, s => if p.1 = s then some p.2 else getM m s
def get (v : JV) (s : List UInt8) : Option JV := if v.kd = 6 then getM v.ms s else none
def num (s : List UInt8) (L : Nat) : Option Nat := match Nm.allNum s with
 | some n => if 0 ≤ n ∧ n < (L : Nat) then some n.toNat else none
 | none => none
def step (v : JV) (s : List UInt8) : Option JV := if v.kd = 5 then (match num s v.ls.length with | some i => v.ls[i]? | none => none) else get v s
def flat (y : JV) : List JV := if y.kd = 5 then y.ls else [y]
def gather (f : JV → Option JV) : List JV → Option (List JV)
 | [] => some []
 | x :: l => (f x).bind fun y => (gather f l).map (flat y ++ ·)
def find (st : Bool) : List (List UInt8) → JV → Option JV
 | [], v => some v
 | p :: ps, v => if st = true ∧ p = [42] ∧ v.kd = 5 then (gather (find st ps) v.ls).map listV else (step v p).bind (find st ps)
theorem find_nil (st : Bool) (v : JV) : find st [] v = some v := rfl
theorem find_cons (st : Bool) (p : List UInt8) (ps : List (List UInt8)) (v : JV) : find st (p :: ps) v = if st = true ∧ p = [42] ∧ v.kd = 5 then (gather (find st ps) v.ls).map listV else (step v p).bind (find st ps) := rfl
theorem gather_nil (f : JV → Option JV) : gather f [] = some [] := rfl
theorem gather_cons (f : JV → Option JV) (x : JV) (l : List JV) : gather f (x :: l) = (f x).bind fun y => (gather f l).map (flat y ++ ·) := rfl
theorem gather_app (f : JV → Option JV) : ∀ (a b : List JV), gather f (a ++ b) = (gather f a).bind fun p => (gather f b).map (p ++ ·)
 | [], b => by cases h : gather f b <;> simp [gather, h]
 | x :: a, b => by
  rw [List.cons_append, gather_cons, gather_cons, gather_app f a b]
  cases f x with
  | none => rfl
  | some y =>
   cases gather f a with
   | none => rfl
   | some p => cases gather f b <;> simp

theorem getM_mem : ∀ {m : List (List UInt8 × JV)} {s : List UInt8} {x : JV}, getM m s = some x → (s, x) ∈ m
 | [], s, x, h => by cases h
 | p :: m, s, x, h => by
  unfold getM at h
  split at h
  ·rename_i hp; subst hp; obtain rfl := Option.some.inj h; exact List.mem_cons_self
  ·exact List.mem_cons_of_mem _ (getM_mem h)
theorem nvL_mem {x : JV} : ∀ {l : List JV}, x ∈ l → Rd.nv x ≤ Rd.nvL l
 | [], h => by cases h
 | y :: l, h => by
  rw [Rd.nvL_cons]
  rcases List.mem_cons.1 h with rfl | h
  ·omega
  ·have := nvL_mem h; omega
theorem nvM_mem {p : List UInt8 × JV} : ∀ {m : List (List UInt8 × JV)}, p ∈ m → Rd.nv p.2 ≤ Rd.nvM m
 | [], h => by cases h
 | y :: l, h => by
  rw [Rd.nvM_cons]
  rcases List.mem_cons.1 h with rfl | h
  ·omega
  ·have := nvM_mem h; omega
theorem nv_eq (v : JV) : Rd.nv v = 1 + Rd.nvL v.ls + Rd.nvM v.ms := by cases v; exact Rd.nv_mk _ _ _ _ _
theorem nvL_len : ∀ l : List JV, l.length ≤ Rd.nvL l
 | [] => by simp
 | v :: l => by rw [Rd.nvL_cons, List.length_cons]; have := nvL_len l; have := Rd.nv_pos v; omega
theorem step_mem {v x : JV} {s : List UInt8} (h : step v s = some x) : (v.kd = 5 ∧ x ∈ v.ls) ∨ (v.kd = 6 ∧ ∃ n, (n, x) ∈ v.ms) := by
 unfold step at h
 split at h
 ·rename_i hk
  split at h
  ·exact .inl ⟨hk, List.mem_of_getElem? h⟩
  ·cases h
 ·unfold get at h
  split at h
  ·rename_i hk; exact .inr ⟨hk, s, getM_mem h⟩
  ·cases h
theorem step_nv {v x : JV} {s : List UInt8} (h : step v s = some x) : Rd.nv x < Rd.nv v := by
 rw [nv_eq v]
 rcases step_mem h with ⟨_, hm⟩ | ⟨_, n, hm⟩
 ·have := nvL_mem hm; omega
 ·have := nvM_mem hm; simp only at this; omega
theorem find_len (st : Bool) : ∀ (ps : List (List UInt8)) (v y : JV), find st ps v = some y → (flat y).length ≤ Rd.nv v
 | [], v, y, h => by
  obtain rfl := Option.some.inj h
  unfold flat
  split
  ·have := nvL_len v.ls; rw [nv_eq v]; omega
  ·have := Rd.nv_pos v; simp; omega
 | p :: ps, v, y, h => by
  rw [find_cons] at h
  split at h
  ·have hg : ∀ (l : List JV) (r : List JV), gather (find st ps) l = some r → r.length ≤ Rd.nvL l := by
    intro l
    induction l with
    | nil => intro r hr; obtain rfl := Option.some.inj hr; simp
    | cons x l ih =>
     intro r hr
     rw [gather_cons] at hr
     cases hx : find st ps x with
     | none => rw [hx] at hr; cases hr
     | some z =>
      rw [hx] at hr
      cases hq : gather (find st ps) l with
      | none => rw [hq] at hr; cases hr
      | some q =>
       rw [hq] at hr
       obtain rfl := Option.some.inj hr
       have h1 := find_len st ps x z hx
       have h2 := ih q hq
       rw [List.length_append, Rd.nvL_cons]; omega
   cases hq : gather (find st ps) v.ls with
   | none => rw [hq] at h; cases h
   | some r =>
    rw [hq] at h
    obtain rfl := Option.some.inj h
    have := hg _ _ hq
    rw [nv_eq v]
    show r.length ≤ _
    omega
  ·cases hs : step v p with
   | none => rw [hs] at h; cases h
   | some x =>
    rw [hs] at h
    have h1 := find_len st ps x y h
    have h2 := step_nv hs
    omega
theorem find_app : ∀ (a b : List (List UInt8)) (v : JV), find false (a ++ b) v = (find false a v).bind (find false b)
 | [], b, v => rfl
 | p :: a, b, v => by
  rw [List.cons_append, find_cons, find_cons, if_neg (by simp), if_neg (by simp)]
  cases step v p with
  | none => rfl
  | some x => exact find_app a b x
theorem find_star : ∀ (ps : List (List UInt8)) (v : JV), (∀ p ∈ ps, p ≠ [42]) → find true ps v = find false ps v
 | [], v, _ => rfl
 | p :: ps, v, h => by
  rw [find_cons, find_cons, if_neg (fun e => h p (by simp) e.2.1), if_neg (by simp)]
  cases step v p with
  | none => rfl
  | some x => exact find_star ps x (fun q hq => h q (by simp [hq]))
end Go.Proofs.YtgaiepficjiclaaGreatDoor.Pt
/- Plain: where no part holds a star, both lead to the same. -/
namespace Go.Proofs.YtgaiepficjiclaaGreatDoor.Pt
set_option linter.unusedVariables false
set_option linter.unusedSimpArgs false

theorem find_nostar : ∀ (ps : List (List UInt8)) (v : JV), (∀ p ∈ ps, (42 : UInt8) ∉ p) → find true ps v = find false ps v
 | [], v, _ => rfl
 | p :: ps, v, h => by
  have hp : p ≠ [42] := fun hp => h p List.mem_cons_self (by rw [hp]; simp)
  rw [find_cons, find_cons, if_neg (fun hh => hp hh.2.1), if_neg (fun hh => hp hh.2.1)]
  have : find true ps = find false ps := funext fun x => find_nostar ps x (fun q hq => h q (List.mem_cons_of_mem _ hq))
  rw [this]
theorem plain_star : ∀ (n : Nat) (l t : List UInt8), l.length ≤ n → plain l = some t → (42 : UInt8) ∉ l → (42 : UInt8) ∉ t := by
 intro n
 induction n with
 | zero =>
  intro l t hl h hs
  have : l = [] := List.eq_nil_of_length_eq_zero (by omega)
  subst this
  obtain rfl := Option.some.inj h; simp
 | succ n ih =>
  intro l t hl h hs
  match l, hl, hs with
  | [], _, _ => obtain rfl := Option.some.inj h; simp
  | c :: r, hl, hs =>
   have hr : r.length ≤ n := by simp at hl; omega
   have hc2 : (42 : UInt8) ≠ c := fun hh => hs (by rw [hh]; simp)
   have hsr : (42 : UInt8) ∉ r := fun hh => hs (List.mem_cons_of_mem _ hh)
   by_cases hc : c = 126
   ·subst hc
    match r, hr, hsr with
    | [], _, _ => simp [plain] at h
    | d :: r, hr, hsr =>
     have hr2 : r.length ≤ n := by simp at hr; omega
     have hs2 : (42 : UInt8) ∉ r := fun hh => hsr (List.mem_cons_of_mem _ hh)
     rw [plain_two, if_pos rfl] at h
     cases hp : plain r with
     | none => rw [hp] at h; split at h <;> (try split at h) <;> cases h
     | some q =>
      have hq := ih r q hr2 hp hs2
      rw [hp] at h
      split at h
      ·obtain rfl := Option.some.inj h
       exact fun hh => (List.mem_cons.1 hh).elim (fun e => absurd e (by decide)) hq
      ·split at h
       ·obtain rfl := Option.some.inj h
        exact fun hh => (List.mem_cons.1 hh).elim (fun e => absurd e (by decide)) hq
       ·cases h
   ·rw [plain_ne _ hc] at h
    cases hp : plain r with
    | none => rw [hp] at h; cases h
    | some q =>
     have hq := ih r q hr hp hsr
     rw [hp] at h
     obtain rfl := Option.some.inj h
     exact fun hh => (List.mem_cons.1 hh).elim hc2 hq
theorem allP_star : ∀ (qs ps : List (List UInt8)), allP qs = some ps → (∀ q ∈ qs, (42 : UInt8) ∉ q) → ∀ p ∈ ps, (42 : UInt8) ∉ p
 | [], ps, h, _ => by obtain rfl := Option.some.inj h; simp
 | q :: qs, ps, h, hs => by
  rw [allP_def] at h
  cases hp : plain q with
  | none => rw [hp] at h; cases h
  | some t =>
   rw [hp] at h
   cases hq : allP qs with
   | none => rw [hq] at h; cases h
   | some r =>
    rw [hq] at h
    obtain rfl := Option.some.inj h
    intro p hp2
    rcases List.mem_cons.1 hp2 with rfl | hp2
    ·exact plain_star _ q p (Nat.le_refl _) hp (hs q List.mem_cons_self)
    ·exact allP_star qs r hq (fun q' h' => hs q' (List.mem_cons_of_mem _ h')) p hp2
theorem cut_star : ∀ (l : List UInt8), (42 : UInt8) ∉ l → ∀ q ∈ cut l, (42 : UInt8) ∉ q
 | [], _, q, h => by simp [cut] at h; subst h; simp
 | c :: r, hs, q, h => by
  have ih := cut_star r (fun hh => hs (List.mem_cons_of_mem _ hh))
  have hc2 : (42 : UInt8) ≠ c := fun hh => hs (by rw [hh]; simp)
  unfold cut at h
  split at h
  ·rcases List.mem_cons.1 h with rfl | h
   ·simp
   ·exact ih q h
  ·split at h
   ·obtain rfl := List.mem_singleton.1 h
    simpa using hc2
   ·rename_i hd tl hct
    rcases List.mem_cons.1 h with rfl | h
    ·have := ih hd (by rw [hct]; simp)
     exact fun hh => (List.mem_cons.1 hh).elim hc2 this
    ·exact ih q (by rw [hct]; exact List.mem_cons_of_mem _ h)
theorem parts_star {s : List UInt8} {ps : List (List UInt8)} (h : parts s = some ps) (hs : (42 : UInt8) ∉ s) : ∀ p ∈ ps, (42 : UInt8) ∉ p := by
 cases s with
 | nil => obtain rfl := Option.some.inj h; simp
 | cons c r =>
  rw [show parts (c :: r) = if c = 47 then allP (cut r) else none from rfl] at h
  by_cases hc : c = 47
  ·rw [if_pos hc] at h
   exact allP_star _ _ h (cut_star r (fun hh => hs (List.mem_cons_of_mem _ hh)))
  ·rw [if_neg hc] at h; cases h
end Go.Proofs.YtgaiepficjiclaaGreatDoor.Pt
/- The walk of point.plain. -/
namespace Go.Proofs.YtgaiepficjiclaaGreatDoor
set_option linter.unusedVariables false
set_option linter.unusedSimpArgs false
open Go.RowKit

structure PlI (s : ByteArray) (R : Option (List UInt8)) (k : Nat) (l : List UInt8) : Prop where
 eq : R = (Pt.plain (s.data.toList.drop k)).map (l ++ ·)
 len : l.length ≤ k
theorem drop_at {s : ByteArray} {k : Nat} (hk : k < s.size) {c : UInt8} (hc : s[k] = c) : s.data.toList.drop k = c :: s.data.toList.drop (k + 1) := by
 have hl : k < s.data.toList.length := by simpa using hk
 rw [List.drop_eq_getElem_cons hl]
 have : s.data.toList[k] = s[k] := by simp; rfl
 rw [this, hc]
theorem drop_out {s : ByteArray} {k : Nat} (hk : s.size ≤ k) : s.data.toList.drop k = [] := List.drop_eq_nil_of_le (by simpa using hk)
theorem PlI.start (s : ByteArray) : PlI s (Pt.plain s.data.toList) 0 [] := ⟨by simp, by simp⟩
theorem PlI.stop {s : ByteArray} {R : Option (List UInt8)} {k : Nat} {l : List UInt8} (h : PlI s R k l) (hk : s.size ≤ k) : R = some l := by
 rw [h.eq, drop_out hk]; simp [Pt.plain]
theorem PlI.other {s : ByteArray} {R : Option (List UInt8)} {k : Nat} {l : List UInt8} (h : PlI s R k l) (hk : k < s.size) {c : UInt8} (hc : s[k] = c) (hn : c ≠ 126) : PlI s R (k + 1) (l ++ [c]) := by
 refine ⟨?_, by have := h.len; simp; omega⟩
 rw [h.eq, drop_at hk hc, Pt.plain_ne _ hn]
 cases Pt.plain (s.data.toList.drop (k + 1)) <;> simp
theorem PlI.last {s : ByteArray} {R : Option (List UInt8)} {k : Nat} {l : List UInt8} (h : PlI s R k l) (hk : k < s.size) (hc : s[k] = 126) (h2 : s.size ≤ k + 1) : R = none := by
 rw [h.eq, drop_at hk hc, drop_out h2]; simp [Pt.plain]
theorem PlI.two {s : ByteArray} {R : Option (List UInt8)} {k : Nat} {l : List UInt8} (h : PlI s R k l) (hk : k < s.size) (hc : s[k] = 126) (h2 : k + 1 < s.size) {d : UInt8} (hd : s[k + 1] = d) :
  (d = 48 → PlI s R (k + 2) (l ++ [126])) ∧ (d = 49 → PlI s R (k + 2) (l ++ [47])) ∧ (d ≠ 48 → d ≠ 49 → R = none) := by
 have e : R = ((if d = 48 then (Pt.plain (s.data.toList.drop (k + 2))).map (126 :: ·) else if d = 49 then (Pt.plain (s.data.toList.drop (k + 2))).map (47 :: ·) else none)).map (l ++ ·) := by
  rw [h.eq, drop_at hk hc, drop_at h2 hd, Pt.plain_two, if_pos rfl]
 have hl := h.len
 refine ⟨fun hd => ⟨?_, by simp; omega⟩, fun hd => ⟨?_, by simp; omega⟩, fun h1 h2 => ?_⟩
 ·rw [e, if_pos hd]; cases Pt.plain (s.data.toList.drop (k + 2)) <;> simp
 ·rw [e, if_neg (by rw [hd]; decide), if_pos hd]; cases Pt.plain (s.data.toList.drop (k + 2)) <;> simp
 ·rw [e, if_neg h1, if_neg h2]; rfl

def PlP (w : World) : Option (List UInt8) → Ending → World → Prop
 | none, e, w' => e = .returned (.tuple #[.string ⟨#[]⟩, .bool false]) ∧ Fr w w'
 | some t, e, w' => e = .returned (.tuple #[.string ⟨t.toArray⟩, .bool true]) ∧ Fr w w'

/- The walk of point.Parts. -/

theorem el_st : El 29 9 (.string ByteArray.empty) 16 := ⟨Tryz.underlying29, by kernel_rfl, rfl⟩
def svs (l : List (List UInt8)) : List Value := l.map fun s => .string ⟨s.toArray⟩
theorem svs_len (l : List (List UInt8)) : (svs l).length = l.length := by simp [svs]
theorem svs_app (a b : List (List UInt8)) : svs (a ++ b) = svs a ++ svs b := by simp [svs]
theorem svs_one (l : List (List UInt8)) : ∀ u ∈ svs l, u.oneCell' = true := by
 intro u hu
 simp only [svs, List.mem_map] at hu
 obtain ⟨c, _, rfl⟩ := hu
 rfl
def Ssl (w : World) (base : Nat) (v : Value) (l : List (List UInt8)) : Prop := Row w base 9 v (svs l)
theorem Ssl.none_ (w : World) (base : Nat) : Ssl w base (.slice none 0 0) [] := Row.none_ w base _
theorem Ssl.keep {w w' : World} {base : Nat} {v : Value} {l : List (List UInt8)} (h : Ssl w base v l) (hf : Fr w w') : Ssl w' base v l := Row.keep h hf
theorem wpl_ss_lit {ops : Array Oper} {rest : List Oper} {o : Oper} {a : Act} {w : World} {Q : Exit → Act → World → Prop} {cs : Array Value} {ad : Addr} {n m : Nat}
  (hgd : o.guard = none) (s x : Operand) (ho : o.op = .call { callee := .builtin .append, args := #[s, x], argTypes := #[29, 29] })
  (w0 : World) (hfr : Fr w0 w) (v : Value) (l : List (List UInt8)) (hs : a.eval s = v) (hown : Ssl w w0.heap.size v l)
  (news : List (List UInt8)) (hx : a.eval x = .slice (some ad) n m) (had : ad = ⟨w.heap.size, 0, none⟩) (hn : n = news.length) (hm : m = news.length) (hcs : cs = (svs news).toArray) (h63 : (l.length + news.length) * 16 ≤ 140737488355328)
  (h : ∀ v' w', Ssl w' w0.heap.size v' (l ++ news) → Fr w0 w' → wpList Tryz.prog ops Q rest (a.put o.dst v') w') :
  wpList Tryz.prog ops Q (o :: rest) a (w.alloc (.cells cs 9)) := by
 subst hn; subst hm; subst hcs; subst had
 refine wpl_app_lit el_st hgd s x ho w0 hfr v (svs l) hs hown (svs news) (by rw [svs_len]; exact hx) (svs_one _) (by rw [svs_len, svs_len]; omega) (by rw [svs_len, svs_len]; omega) ?_
 intro v' w' h2 h3
 exact h v' w' (by unfold Ssl; rw [svs_app]; exact h2) h3
def PsC (w : World) (A : Option Addr) (l : List (List UInt8)) : Prop := l ≠ [] → ∃ b o, A = some ⟨b, o, none⟩ ∧ b < w.heap.size ∧ ∀ i (h : i < l.length), w.cell? ⟨b, o + i, none⟩ = some (.string ⟨l[i].toArray⟩)
theorem PsC.keep {w w' : World} {A : Option Addr} {l : List (List UInt8)} (h : PsC w A l) (hf : Fr w w') : PsC w' A l := by
 intro hne
 obtain ⟨b, o, hA, hb, hc⟩ := h hne
 exact ⟨b, o, hA, Nat.lt_of_lt_of_le hb hf.size, fun i hi => (hf.cell hb).trans (hc i hi)⟩
theorem PsC.tail {w : World} {b o : Nat} {p : List UInt8} {l : List (List UInt8)} (h : PsC w (some ⟨b, o, none⟩) (p :: l)) : PsC w (some ⟨b, o + 1, none⟩) l := by
 intro hne
 obtain ⟨b', o', hA, hb, hc⟩ := h (by simp)
 simp only [Option.some.injEq, Addr.mk.injEq, and_true] at hA
 obtain ⟨rfl, rfl⟩ := hA
 refine ⟨b, o + 1, rfl, hb, fun i hi => ?_⟩
 have := hc (i + 1) (by simpa using hi)
 rw [show o + (i + 1) = o + 1 + i by omega] at this
 simpa using this
theorem Ssl.shows {w : World} {base : Nat} {v : Value} {l : List (List UInt8)} (h : Ssl w base v l) : ∃ A c, v = .slice A l.length c ∧ PsC w A l := by
 rcases Row.form h with ⟨rfl, he⟩ | ⟨g, cap, rfl, hb, hlt, _, _, hcells⟩
 ·have : l = [] := by simpa [svs] using he
  subst this
  exact ⟨none, 0, rfl, fun h => absurd rfl h⟩
 ·refine ⟨some ⟨g, 0, none⟩, cap, by rw [svs_len], fun _ => ⟨g, 0, rfl, hlt, fun i hi => ?_⟩⟩
  have := hcells i (.string ⟨l[i].toArray⟩) (by simp [svs, List.getElem?_eq_getElem hi])
  rw [Nat.zero_add]; exact this

def MxL (w : World) : Prop := ∃ m : Int, w.cell? ⟨0, 0, none⟩ = some (.int .i64 m)
theorem MxL.keep {w w' : World} (h : MxL w) (hf : Fr w w') : MxL w' := by
 obtain ⟨m, hm⟩ := h
 have hb := World.block_lt_of_cell? w ⟨0, 0, none⟩ hm
 exact ⟨m, (hf.cell hb).trans hm⟩
namespace Pt
theorem cut_len : ∀ (l : List UInt8), (cut l).length ≤ l.length + 1
 | [] => by simp [cut]
 | c :: r => by
  have := cut_len r
  unfold cut
  split
  ·simp; omega
  ·split
   ·simp
   ·rename_i h; rw [h] at this; simp at this ⊢; omega
theorem cut_each : ∀ (l : List UInt8), ∀ q ∈ cut l, q.length ≤ l.length
 | [], q, h => by simp [cut] at h; subst h; simp
 | c :: r, q, h => by
  have ih := cut_each r
  unfold cut at h
  split at h
  ·rcases List.mem_cons.1 h with rfl | h
   ·simp
   ·have := ih q h; simp; omega
  ·split at h
   ·simp at h; subst h; simp
   ·rename_i h2
    rcases List.mem_cons.1 h with rfl | h
    ·have := ih _ (by rw [h2]; exact List.mem_cons_self); simp at this ⊢; omega
    ·have := ih q (by rw [h2]; exact List.mem_cons_of_mem _ h); simp at this ⊢; omega
end Pt
structure PsI (qs : List (List UInt8)) (R : Option (List (List UInt8))) (i : Nat) (acc : List (List UInt8)) : Prop where
 eq : R = (Pt.allP (qs.drop i)).map (acc ++ ·)
 len : acc.length = i
theorem PsI.start (qs : List (List UInt8)) : PsI qs (Pt.allP qs) 0 [] := ⟨by simp, rfl⟩
theorem PsI.stop {qs : List (List UInt8)} {R : Option (List (List UInt8))} {i : Nat} {acc : List (List UInt8)} (h : PsI qs R i acc) (hi : qs.length ≤ i) : R = some acc := by
 rw [h.eq, List.drop_eq_nil_of_le hi]; simp [Pt.allP]
theorem PsI.bad {qs : List (List UInt8)} {R : Option (List (List UInt8))} {i : Nat} {acc : List (List UInt8)} (h : PsI qs R i acc) (hi : i < qs.length) {q : List UInt8} (hq : qs[i] = q) (hp : Pt.plain q = none) : R = none := by
 rw [h.eq, List.drop_eq_getElem_cons hi, hq, Pt.allP_def, hp]; rfl
theorem PsI.next {qs : List (List UInt8)} {R : Option (List (List UInt8))} {i : Nat} {acc : List (List UInt8)} (h : PsI qs R i acc) (hi : i < qs.length) {q t : List UInt8} (hq : qs[i] = q) (hp : Pt.plain q = some t) : PsI qs R (i + 1) (acc ++ [t]) := by
 refine ⟨?_, by rw [List.length_append, h.len]; rfl⟩
 rw [h.eq, List.drop_eq_getElem_cons hi, hq, Pt.allP_def, hp]
 cases Pt.allP (qs.drop (i + 1)) <;> simp
def PtsP (w : World) : Option (List (List UInt8)) → Ending → World → Prop
 | none, e, w' => e = .returned (.tuple #[.slice none 0 0, .int .i64 80]) ∧ Fr w w'
 | some ps, e, w' => ∃ v, e = .returned (.tuple #[v, .int .i64 0]) ∧ Ssl w' w.heap.size v ps ∧ Fr w w'

/- The walk of point.Text. -/

theorem conv_sb (w : World) (q : List UInt8) : ∃ cap W, (convert 9 62 (.string ⟨q.toArray⟩)).run Tryz.prog w = .ok (.slice (some ⟨w.heap.size, 0, none⟩) q.length cap) W ∧ Fr w W ∧ w.heap.size < W.heap.size ∧ ∀ j (h : j < q.length), W.cell? ⟨w.heap.size, j, none⟩ = some (.int .u8 (q[j].toNat : Nat)) := by
 have hr := run_bytes_of_string (P := Tryz.prog) w 9 62 5 ⟨q.toArray⟩ Tryz.underlying9 Tryz.underlying62 Tryz.underlying5
 have hz : (⟨q.toArray⟩ : ByteArray).size = q.length := List.size_toArray
 rw [hz] at hr
 obtain ⟨C, hC⟩ : ∃ C, bytesRow ⟨q.toArray⟩ (grownCap w q.length 0 5) = C := ⟨_, rfl⟩
 rw [hC] at hr
 refine ⟨_, _, hr, ((Fr.refl w).drew).alloc _, ?_, fun j hj => ?_⟩
 ·show w.heap.size < (w.heap.push _).size
  rw [Array.size_push]; omega
 ·have hb : (w.drew.alloc (.cells C 5 (C.size, C.size + 1))).heap[w.heap.size]? = some (.cells C 5 (C.size, C.size + 1)) := by
   show (w.heap.push _)[w.heap.size]? = _
   rw [Array.getElem?_push, if_pos rfl]
  rw [cell_of_row _ _ j C _ _ hb, ← hC, bytesRow_at _ _ _ (by show j < q.toArray.size; rw [List.size_toArray]; exact hj)]
  congr 2
theorem wpl_bs_o {ops : Array Oper} {rest : List Oper} {o : Oper} {a : Act} {w : World} {Q : Exit → Act → World → Prop} {cs : Array Value} {ad : Addr} {n m : Nat}
  (hgd : o.guard = none) (s x : Operand) (ho : o.op = .call { callee := .builtin .append, args := #[s, x], argTypes := #[62, 62] })
  (w0 : World) (hfr : Fr w0 w) (v : Value) (l : List UInt8) (hs : a.eval s = v) (hown : Bs w w0.heap.size v l)
  (news : List UInt8) (hx : a.eval x = .slice (some ad) n m) (had : ad = ⟨w.heap.size, 0, none⟩) (hn : n = news.length) (hm : m = news.length) (hcs : cs = (bvs news).toArray) (h63 : l.length + news.length ≤ 140737488355328)
  (h : ∀ v' w', Bs w' w0.heap.size v' (l ++ news) → Fr w0 w' → (w.heap.size ≤ w'.heap.size ∧ (∀ k, k < w.heap.size → v.ownBlock ≠ some k → w'.heap[k]? = w.heap[k]?) ∧ ∀ k, v'.ownBlock = some k → v.ownBlock = some k ∨ w.heap.size ≤ k) → wpList Tryz.prog ops Q rest (a.put o.dst v') w') :
  wpList Tryz.prog ops Q (o :: rest) a (w.alloc (.cells cs 5)) := by
 subst hn; subst hm; subst hcs; subst had
 obtain ⟨i, hi, hz, hsz, hby⟩ := info_parts el_u8.info
 have h2 := Bs.made w news (by unfold maxLen; omega)
 refine wpList_append_own_at (w.alloc _) hgd s x 62 ho w0.heap.size 5 i _ 1 1 el_u8.sl hi hz hsz hby el_u8.one (by omega) v _ (bvs l) hs (hown.keep ((Fr.refl w).alloc _)) ⟨w.heap.size, 0, none⟩ news.length news.length (bvs news) hx (by rw [bvs_len]; omega) ?_ (bvs_one _) (by rw [bvs_len]; unfold maxLen; omega) (by rw [bvs_len]; omega) (by have := hfr.size; simp; omega) ?_
 ·intro j u hu
  have e1 : (Addr.mk w.heap.size 0 none).add j = ⟨w.heap.size, j, none⟩ := by
   by_cases h0 : j = 0
   ·subst h0; simp [Addr.add]
   ·simp [Addr.add, h0]
  rw [e1, World.cell?_alloc_at _ _ _ _ rfl]
  simpa using hu
 ·intro v' w' h3 h4 _ h6
  have hsz2 : w.heap.size + 1 ≤ w'.heap.size := by have := h4.size; simpa using this
  refine h v' w' ?_ (Below.grown (hfr.alloc _) h4 (hfr.alloc _).size (fun k hk => Row.own_ge hown k hk)) ⟨by omega, fun k hk hne => ?_, fun k hk => ?_⟩
  ·unfold Bs Row
   rw [bvs_app, List.length_append]
   simpa [bvs_len] using h3
  ·rw [h4.block k (by simp; omega) (fun e => hne e.symm), Below.heap_alloc _ _ _ hk]
  ·rcases h6 with h6 | h6
   ·exact .inl (h6.symm.trans hk)
   ·rw [h6] at hk
    have := Option.some.inj hk
    simp at this
    exact .inr (by omega)
def Aside (W wr : World) (X : Nat) (v : Value) : Prop := wr.heap[X]? = W.heap[X]? ∧ v.ownBlock ≠ some X ∧ X < W.heap.size ∧ W.heap.size ≤ wr.heap.size
theorem Aside.next {W wr w' : World} {X : Nat} {v v' : Value} (h : Aside W wr X v) (k : wr.heap.size ≤ w'.heap.size ∧ (∀ k, k < wr.heap.size → v.ownBlock ≠ some k → w'.heap[k]? = wr.heap[k]?) ∧ ∀ k, v'.ownBlock = some k → v.ownBlock = some k ∨ wr.heap.size ≤ k) : Aside W w' X v' := by
 obtain ⟨h1, h2, h3, h4⟩ := h
 obtain ⟨k1, k2, k3⟩ := k
 refine ⟨(k2 X (by omega) h2).trans h1, fun e => ?_, h3, by omega⟩
 rcases k3 X e with e | e
 ·exact h2 e
 ·omega
theorem Aside.cell {W wr : World} {X : Nat} {v : Value} (h : Aside W wr X v) (j : Nat) : wr.cell? ⟨X, j, none⟩ = W.cell? ⟨X, j, none⟩ := by
 unfold World.cell?; rw [h.1]

/- The walks of the document's Parts, Text, SameParts. -/

theorem bl_beq' (a b : List UInt8) : ((⟨a.toArray⟩ : ByteArray).toList == (⟨b.toArray⟩ : ByteArray).toList) = decide (a = b) := by
 rw [ByteArray.toList_eq, ByteArray.toList_eq, Bool.eq_iff_iff]; simp

theorem sameparts_is (ps : List (List UInt8)) (A B : Option Addr) (c d : Nat) (w : World) (h : PsC w A ps) (k : PsC w B ps) (hl : ps.length ≤ 140737488351232) :
  Calls Tryz.prog 10 #[.slice A ps.length c, .slice B ps.length d] w fun e w' => e = .returned (.bool true) ∧ Fr w w' := by
 have HA := Lib.hid h
 have HB := Lib.hid k
 have hl' : (ps.length : Int) ≤ 140737488351232 := by omega
 clear h k
 go_enter Tryz.func10, Tryz.ntmps10
 go_wp2_with fail
 go_loopw [5] (fun j wr => ∃ (i : Nat), i ≤ ps.length ∧ j = .int .i64 i ∧ Hid (Fr w wr)) (fun j _ => ps.length - (intOf j).toNat)
 case atStart => exact ⟨0, by omega, rfl, Lib.hid (Fr.refl _)⟩
 case round =>
  obtain ⟨i, hi, rfl, hfr⟩ := hrel
  by_cases hlt : i < ps.length
  ·have hlt' : (i : Int) < (ps.length : Int) := by omega
   obtain ⟨b, o, rfl, hb, hcl⟩ := HA.out (by intro e; rw [e] at hlt; simp at hlt)
   obtain ⟨b2, o2, rfl, hb2, hcl2⟩ := HB.out (by intro e; rw [e] at hlt; simp at hlt)
   have c0 := (hfr.out.cell hb).trans (hcl i hlt)
   have c1 := (hfr.out.cell hb2).trans (hcl2 i hlt)
   obtain ⟨q, hq⟩ : ∃ q, ps[i] = q := ⟨_, rfl⟩
   rw [hq] at c0 c1
   clear hcl hcl2 hq
   go_wp2_with fail
   go_quiet (fail)
   go_wp2_with fail
   exact ⟨⟨i + 1, by omega, by go_num, Lib.hid (hfr.out.drewN _)⟩, by simp [intOf]; omega⟩
  ·go_wp2_with fail
   go_ret
   exact ⟨rfl, hfr.out⟩

theorem Ssl.kt {w w' : World} {base : Nat} {v : Value} {l : List (List UInt8)} (h : Ssl w base v l) (k : Kt w w') : Ssl w' base v l := by
 refine ⟨h.1, ?_⟩
 rcases h.2 with hn | ⟨g, cap, cur, rfl, hb, hg, rest⟩
 ·exact .inl hn
 ·exact .inr ⟨g, cap, cur, rfl, hb, k.obj hg (by decide), rest⟩
structure RpI (s : ByteArray) (R : Option (List (List UInt8))) (k : Nat) (acc : List (List UInt8)) (cur : List UInt8) : Prop where
 eq : (k = 0 ∧ acc = [] ∧ cur = [] ∧ R = Pt.go [] [] (s.data.toList.drop 1)) ∨ (1 ≤ k ∧ R = Pt.go acc cur (s.data.toList.drop k))
 l1 : acc.length ≤ k
 l2 : cur.length ≤ k
theorem RpI.stop {s : ByteArray} {R : Option (List (List UInt8))} {k : Nat} {acc : List (List UInt8)} {cur : List UInt8} (h : RpI s R k acc cur) (hk : s.size ≤ k) (h0 : 0 < s.size) : R = some (acc ++ [cur]) := by
 rcases h.eq with ⟨rfl, _⟩ | ⟨_, h⟩
 ·omega
 ·rw [h, drop_out hk]; simp [Pt.go]
theorem RpI.first {s : ByteArray} {R : Option (List (List UInt8))} {acc : List (List UInt8)} {cur : List UInt8} (h : RpI s R 0 acc cur) : acc = [] ∧ cur = [] ∧ RpI s R 1 [] [] := by
 rcases h.eq with ⟨_, h1, h2, h3⟩ | ⟨h, _⟩
 ·exact ⟨h1, h2, .inr ⟨Nat.le_refl _, h3⟩, by simp, by simp⟩
 ·omega
theorem RpI.eq1 {s : ByteArray} {R : Option (List (List UInt8))} {k : Nat} {acc : List (List UInt8)} {cur : List UInt8} (h : RpI s R k acc cur) (h1 : 1 ≤ k) : R = Pt.go acc cur (s.data.toList.drop k) := by
 rcases h.eq with ⟨rfl, _⟩ | ⟨_, h⟩
 ·omega
 ·exact h
theorem RpI.slash {s : ByteArray} {R : Option (List (List UInt8))} {k : Nat} {acc : List (List UInt8)} {cur : List UInt8} (h : RpI s R k acc cur) (h1 : 1 ≤ k) (hk : k < s.size) (hc : s[k] = 47) : RpI s R (k + 1) (acc ++ [cur]) [] :=
 ⟨.inr ⟨by omega, by rw [h.eq1 h1, drop_at hk hc, Pt.go_slash]⟩, by have := h.l1; simp; omega, by simp⟩
theorem RpI.other {s : ByteArray} {R : Option (List (List UInt8))} {k : Nat} {acc : List (List UInt8)} {cur : List UInt8} (h : RpI s R k acc cur) (h1 : 1 ≤ k) (hk : k < s.size) {c : UInt8} (hc : s[k] = c) (hn : c ≠ 47) (hn2 : c ≠ 126) : RpI s R (k + 1) acc (cur ++ [c]) :=
 ⟨.inr ⟨by omega, by rw [h.eq1 h1, drop_at hk hc, Pt.go_ne _ _ _ hn hn2]⟩, by have := h.l1; omega, by have := h.l2; simp; omega⟩
theorem RpI.last {s : ByteArray} {R : Option (List (List UInt8))} {k : Nat} {acc : List (List UInt8)} {cur : List UInt8} (h : RpI s R k acc cur) (h1 : 1 ≤ k) (hk : k < s.size) (hc : s[k] = 126) (h2 : s.size ≤ k + 1) : R = none := by
 rw [h.eq1 h1, drop_at hk hc, drop_out h2]; simp [Pt.go]
theorem RpI.two {s : ByteArray} {R : Option (List (List UInt8))} {k : Nat} {acc : List (List UInt8)} {cur : List UInt8} (h : RpI s R k acc cur) (h1 : 1 ≤ k) (hk : k < s.size) (hc : s[k] = 126) (h2 : k + 1 < s.size) {d : UInt8} (hd : s[k + 1] = d) :
  (d = 48 → RpI s R (k + 2) acc (cur ++ [126])) ∧ (d = 49 → RpI s R (k + 2) acc (cur ++ [47])) ∧ (d ≠ 48 → d ≠ 49 → R = none) := by
 have e : R = if d = 48 then Pt.go acc (cur ++ [126]) (s.data.toList.drop (k + 2)) else if d = 49 then Pt.go acc (cur ++ [47]) (s.data.toList.drop (k + 2)) else none := by
  rw [h.eq1 h1, drop_at hk hc, drop_at h2 hd, Pt.go_two, if_neg (by decide), if_pos rfl]
 have l1 := h.l1
 have l2 := h.l2
 refine ⟨fun hd => ⟨.inr ⟨by omega, ?_⟩, by omega, by simp; omega⟩, fun hd => ⟨.inr ⟨by omega, ?_⟩, by omega, by simp; omega⟩, fun h1 h2 => ?_⟩
 ·rw [e, if_pos hd]
 ·rw [e, if_neg (by rw [hd]; decide), if_pos hd]
 ·rw [e, if_neg h1, if_neg h2]
theorem ne47 {c : UInt8} (h : c ≠ 47) : ((c.toNat : Int) == 47) = false := by
 rw [beq_eq_false_iff_ne]; intro x; apply h; apply UInt8.toNat_inj.1; simp only [UInt8.reduceToNat]; omega
theorem ne126 {c : UInt8} (h : c ≠ 126) : ((c.toNat : Int) == 126) = false := by
 rw [beq_eq_false_iff_ne]; intro x; apply h; apply UInt8.toNat_inj.1; simp only [UInt8.reduceToNat]; omega

end Go.Proofs.YtgaiepficjiclaaGreatDoor
