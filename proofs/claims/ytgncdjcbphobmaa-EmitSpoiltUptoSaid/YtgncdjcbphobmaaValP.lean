/- Plain mathematics of values and their texts: no program in sight. -/
import Derived.Test.YtgncdjcbphobmaaCharsQ
import Derived.Test.YtgncdjcbphobmaaNumsR
namespace Go.Proofs.Ytgncdjcbphobmaa
set_option linter.unusedVariables false
set_option linter.unusedSimpArgs false

/-- A value: kind, number, text, values, members. -/
inductive JV where
  | mk (k n : Int) (s : List UInt8) (l : List JV) (m : List (List UInt8 × JV))
namespace JV
def kd : JV → Int | .mk k _ _ _ _ => k
def nm : JV → Int | .mk _ n _ _ _ => n
def tx : JV → List UInt8 | .mk _ _ s _ _ => s
def ls : JV → List JV | .mk _ _ _ l _ => l
def ms : JV → List (List UInt8 × JV) | .mk _ _ _ _ m => m
theorem ind {P : JV → Prop} (h : ∀ k n s l m, (∀ v ∈ l, P v) → (∀ p ∈ m, P p.2) → P (.mk k n s l m)) (v : JV) : P v := by
  refine JV.rec (motive_1 := P) (motive_2 := fun l => ∀ v ∈ l, P v) (motive_3 := fun m => ∀ p ∈ m, P p.2) (motive_4 := fun p => P p.2) ?_ ?_ ?_ ?_ ?_ ?_ v
  · intro k n s l m h1 h2; exact h k n s l m h1 h2
  · intro v hv; cases hv
  · intro v l h1 h2 u hu
    rcases List.mem_cons.1 hu with rfl | hu
    · exact h1
    · exact h2 u hu
  · intro v hv; cases hv
  · intro v l h1 h2 u hu
    rcases List.mem_cons.1 hu with rfl | hu
    · exact h1
    · exact h2 u hu
  · intro s v h; exact h

def nullV : JV := .mk 1 0 [] [] []
def zeroV : JV := .mk 0 0 [] [] []
def boolV (n : Int) : JV := .mk 2 n [] [] []
def intV (n : Int) : JV := .mk 3 n [] [] []
def textV (s : List UInt8) : JV := .mk 4 0 s [] []
def listV (l : List JV) : JV := .mk 5 0 [] l []
def mapV (m : List (List UInt8 × JV)) : JV := .mk 6 0 [] [] m

def tNull : List UInt8 := [110, 117, 108, 108]
def tTrue : List UInt8 := [116, 114, 117, 101]
def tFalse : List UInt8 := [102, 97, 108, 115, 101]
def q (s : List UInt8) : List UInt8 := (Chr.quoteO s).1
mutual
/-- A value's text. -/
def wrt : JV → List UInt8
  | .mk k n s l m => if k = 1 then tNull else if k = 2 then (if n = 1 then tTrue else tFalse) else if k = 3 then Nm.put n else if k = 4 then q s else if k = 5 then 91 :: (wrtL l true ++ [93]) else 123 :: (wrtM m true ++ [125])
termination_by structural v => v
def wrtL : List JV → Bool → List UInt8
  | [], _ => []
  | v :: l, b => (if b then [] else [44]) ++ wrt v ++ wrtL l false
termination_by structural v => v
def wrtM : List (List UInt8 × JV) → Bool → List UInt8
  | [], _ => []
  | p :: m, b => (if b then [] else [44]) ++ wrtP p ++ wrtM m false
termination_by structural v => v
def wrtP : List UInt8 × JV → List UInt8
  | (s, v) => q s ++ 58 :: wrt v
termination_by structural v => v
end

/-- Names are right, and no two are the same. -/
def namesB (m : List (List UInt8 × JV)) : Bool := (m.all fun p => Utf.bad p.1 == p.1.length) && decide (m.map (·.1)).Nodup
def bareB : JV → Bool
  | .mk k n s l m => (n == 0 || k == 2 || k == 3) && (s.length == 0 || k == 4) && (l.length == 0 || k == 5) && (m.length == 0 || k == 6)
/-- Is a value right by itself? -/
def rightB : JV → Bool
  | .mk k n s l m =>
  decide (1 ≤ k) && decide (k ≤ 6) && bareB (.mk k n s l m) && (Utf.bad s == s.length) &&
  (if k = 2 then (n == 0 || n == 1) else if k = 3 then decide (-9007199254740991 ≤ n) && decide (n ≤ 9007199254740991) else if k = 6 then decide (8192 < m.length) || namesB m else true)
mutual
/-- Why a value isn't right (0: it is), and how many there are with those that were counted ahead. -/
def chk : JV → Nat → Nat → Nat × Nat
  | .mk k n s l m, d, p =>
    if 16 < d then (51, p) else if 8192 ≤ p then (53, p) else if rightB (.mk k n s l m) = false then (1, p)
    else (let r := chkL l (d + 1) (p + 1); if r.1 ≠ 0 then r else chkM m (d + 1) r.2)
termination_by structural v => v
def chkL : List JV → Nat → Nat → Nat × Nat
  | [], _, p => (0, p)
  | v :: l, d, p => let r := chk v d p; if r.1 ≠ 0 then r else chkL l d r.2
termination_by structural v => v
def chkM : List (List UInt8 × JV) → Nat → Nat → Nat × Nat
  | [], _, p => (0, p)
  | x :: m, d, p => let r := chkP x d p; if r.1 ≠ 0 then r else chkM m d r.2
termination_by structural v => v
def chkP : List UInt8 × JV → Nat → Nat → Nat × Nat
  | (_, v), d, p => chk v d p
termination_by structural v => v
end
mutual
/-- Are all values right by themselves? -/
def allB : JV → Bool
  | .mk k n s l m => allL l && allM m && rightB (.mk k n s l m)
termination_by structural v => v
def allL : List JV → Bool
  | [] => true
  | v :: l => allB v && allL l
termination_by structural v => v
def allM : List (List UInt8 × JV) → Bool
  | [] => true
  | x :: m => allP x && allM m
termination_by structural v => v
def allP : List UInt8 × JV → Bool
  | (_, v) => allB v
termination_by structural v => v
end
mutual
/-- How much there is in a value. -/
def bulk : JV → Nat
  | .mk k n s l m => 3 + s.length + bulkL l + bulkM m
termination_by structural v => v
def bulkL : List JV → Nat
  | [] => 0
  | v :: l => bulk v + bulkL l
termination_by structural v => v
def bulkM : List (List UInt8 × JV) → Nat
  | [] => 0
  | x :: m => bulkP x + bulkM m
termination_by structural v => v
def bulkP : List UInt8 × JV → Nat
  | (s, v) => 1 + s.length + bulk v
termination_by structural v => v
end

theorem bulk_pos (v : JV) : 3 ≤ bulk v := by cases v; unfold bulk; omega
theorem q_len (s : List UInt8) : (q s).length ≤ 6 * s.length + 2 := by
  unfold q Chr.quoteO
  split
  · simp only
    unfold Chr.quote
    have : ∀ l : List UInt8, (l.flatMap Chr.esc).length ≤ 6 * l.length := by
      intro l
      induction l with
      | nil => simp
      | cons x l ih =>
        rw [List.flatMap_cons, List.length_append, List.length_cons]
        have : (Chr.esc x).length ≤ 6 := by unfold Chr.esc; repeat' split
                                            all_goals simp
        omega
    have := this s
    simp only [List.length_cons, List.length_append, List.length_nil]
    omega
  · simp
end JV
end Go.Proofs.Ytgncdjcbphobmaa
