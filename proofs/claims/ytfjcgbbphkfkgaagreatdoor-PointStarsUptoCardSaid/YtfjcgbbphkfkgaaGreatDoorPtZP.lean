/- Plain mathematics of pointers that are put together: paths within a value, and a star in the place of a number. -/
import Derived.Test.YtfjcgbbphkfkgaaGreatDoorPtS
import Derived.Test.YtfjcgbbphkfkgaaGreatDoorPa
namespace Go.Proofs.YtfjcgbbphkfkgaaGreatDoor.Pt
set_option linter.unusedVariables false
set_option linter.unusedSimpArgs false
open JV

theorem cut_slash (b : List UInt8) : ∀ a : List UInt8, cut (a ++ 47 :: b) = cut a ++ cut b
  | [] => by show cut (47 :: b) = _; conv => lhs; unfold cut
             rw [if_pos rfl]; rfl
  | c :: r => by
    have ih := cut_slash b r
    rw [List.cons_append]
    conv => lhs; unfold cut
    conv => rhs; arg 1; unfold cut
    by_cases h : c = 47
    · rw [if_pos h, if_pos h, ih]; rfl
    · rw [if_neg h, if_neg h, ih]
      cases hc : cut r with
      | nil => exact absurd hc (cut_ne_nil r)
      | cons x t => rfl
theorem cut_none : ∀ s : List UInt8, (47 : UInt8) ∉ s → cut s = [s]
  | [], _ => rfl
  | c :: r, h => by
    have h1 : c ≠ 47 := fun e => h (by rw [e]; exact List.mem_cons_self)
    have ih := cut_none r (fun e => h (List.mem_cons_of_mem _ e))
    unfold cut
    rw [if_neg h1, ih]
/-- The texts between the slashes. -/
def cutP : List UInt8 → List (List UInt8)
  | [] => []
  | _ :: r => cut r
/-- Nothing, or something behind a slash. -/
def pth (s : List UInt8) : Prop := s = [] ∨ ∃ r, s = 47 :: r
theorem parts_cutP {s : List UInt8} (h : pth s) : parts s = allP (cutP s) := by
  rcases h with rfl | ⟨r, rfl⟩
  · rfl
  · unfold parts; exact if_pos rfl
theorem pth_app {a : List UInt8} (h : pth a) (b : List UInt8) : pth (a ++ 47 :: b) := by
  rcases h with rfl | ⟨r, rfl⟩
  · exact .inr ⟨b, rfl⟩
  · exact .inr ⟨r ++ 47 :: b, rfl⟩
theorem cut_tail {x t : List UInt8} (hx : (47 : UInt8) ∉ x) (ht : pth t) : cut (x ++ t) = x :: cutP t := by
  rcases ht with rfl | ⟨r, rfl⟩
  · rw [List.append_nil, cut_none x hx]; rfl
  · rw [cut_slash, cut_none x hx]; rfl
theorem cutP_mid {a x t : List UInt8} (ha : pth a) (hx : (47 : UInt8) ∉ x) (ht : pth t) : cutP (a ++ 47 :: (x ++ t)) = cutP a ++ x :: cutP t := by
  rcases ha with rfl | ⟨r, rfl⟩
  · exact cut_tail hx ht
  · show cut (r ++ 47 :: (x ++ t)) = cut r ++ x :: cutP t
    rw [cut_slash, cut_tail hx ht]
theorem allP_app : ∀ a b : List (List UInt8), allP (a ++ b) = (allP a).bind fun p => (allP b).map (p ++ ·)
  | [], b => by cases h : allP b <;> simp [allP, h]
  | s :: a, b => by
    rw [List.cons_append, allP_def, allP_def, allP_app a b]
    cases plain s with
    | none => rfl
    | some p =>
      cases allP a with
      | none => rfl
      | some q => cases allP b <;> simp
theorem plain_none : ∀ s : List UInt8, (126 : UInt8) ∉ s → plain s = some s
  | [], _ => rfl
  | c :: r, h => by
    rw [plain_ne r (fun e => h (by rw [e]; exact List.mem_cons_self)), plain_none r (fun e => h (List.mem_cons_of_mem _ e))]
    rfl
/-- A part between a head and a tail. -/
theorem parts_mid {a x t : List UInt8} (ha : pth a) (hx : (47 : UInt8) ∉ x) (hx2 : (126 : UInt8) ∉ x) (ht : pth t) {pa : List (List UInt8)} (hpa : parts a = some pa) :
    parts (a ++ 47 :: (x ++ t)) = (parts t).map fun pt => pa ++ x :: pt := by
  rw [parts_cutP (pth_app ha _), cutP_mid ha hx ht, allP_app, ← parts_cutP ha, hpa, allP_def, plain_none x hx2, ← parts_cutP ht]
  cases parts t <;> rfl
theorem find_app_nostar (b : List (List UInt8)) : ∀ (a : List (List UInt8)) (v : JV), (∀ p ∈ a, (42 : UInt8) ∉ p) → find true (a ++ b) v = (find false a v).bind (find true b)
  | [], v, _ => rfl
  | p :: a, v, h => by
    rw [List.cons_append, find_cons, find_cons, if_neg (fun e => h p List.mem_cons_self (by rw [e.2.1]; simp)), if_neg (by simp)]
    cases step v p with
    | none => rfl
    | some x => exact find_app_nostar b a x (fun q hq => h q (List.mem_cons_of_mem _ hq))
theorem put_dig (i : Nat) : ∀ c ∈ Nm.put (i : Int), Nm.isDig c = true := by
  unfold Nm.put
  rw [if_neg (by omega)]
  exact Nm.putNat_dig _
theorem put_no (i : Nat) {c : UInt8} (h : Nm.isDig c = false) : c ∉ Nm.put (i : Int) := fun hc => by
  have := put_dig i c hc
  rw [h] at this; cases this
theorem step_put {l : JV} (h5 : l.kd = 5) {i : Nat} (hi : i < l.ls.length) (h63 : l.ls.length ≤ 9007199254740991) : step l (Nm.put (i : Int)) = some l.ls[i] := by
  unfold step
  rw [if_pos h5]
  have hn : num (Nm.put (i : Int)) l.ls.length = some i := by
    unfold num
    rw [Nm.allNum_put, if_pos (by omega)]
    show (if (0 : Int) ≤ ((i : Nat) : Int) ∧ ((i : Nat) : Int) < (l.ls.length : Nat) then some ((i : Nat) : Int).toNat else none) = some i
    rw [if_pos (by omega)]; simp
  rw [hn]
  exact List.getElem?_eq_getElem hi
theorem step_name {x : JV} (h6 : x.kd = 6) {i : Nat} (hi : i < x.ms.length) (hnd : (x.ms.map (·.1)).Nodup) : step x x.ms[i].1 = some x.ms[i].2 := by
  unfold step
  rw [if_neg (by omega)]
  unfold get
  rw [if_pos h6]
  obtain ⟨_, h⟩ := (@placeM_get x.ms x.ms[i].1).2 i (placeM_hit hi (fun y hy hyi e => by
    have := List.pairwise_iff_getElem.1 hnd y i (by simpa using hy) (by simpa using hi) hyi
    simp at this
    exact this e) rfl)
  exact h
/-- One part more. -/
theorem find_snoc {ps : List (List UInt8)} {v x y : JV} {s : List UInt8} (h : find false ps v = some x) (hs : step x s = some y) : find false (ps ++ [s]) v = some y := by
  rw [find_app, h]
  show find false [s] x = some y
  rw [find_cons, if_neg (by simp), hs]
  rfl
theorem ans_text {ps : List (List UInt8)} {v x : JV} (h : find false ps v = some x) : ans false (parts (text ps)) v = (x, 0) := by
  rw [parts_text]
  unfold ans
  simp only [h]
/-- What is right of a right value. -/
theorem ok_open {k n : Int} {s : List UInt8} {l : List JV} {m : List (List UInt8 × JV)} (h : okB (.mk k n s l m) = true) :
    (l ≠ [] → k = 5) ∧ (m ≠ [] → k = 6 ∧ (m.map (·.1)).Nodup) ∧ (∀ u ∈ l, okB u = true) ∧ ∀ p ∈ m, okB p.2 = true := by
  conv at h => lhs; unfold okB
  rw [okL_all, okM_all] at h
  simp only [Bool.and_eq_true, List.all_eq_true] at h
  obtain ⟨⟨h1, h2⟩, h3, h4⟩ := h
  have hb : bareB (.mk k n s l m) = true := by
    unfold rightB at h3
    simp only [Bool.and_eq_true] at h3
    exact h3.1.1.2
  unfold bareB at hb
  simp only [Bool.and_eq_true, Bool.or_eq_true, beq_iff_eq] at hb
  obtain ⟨⟨_, hb3⟩, hb4⟩ := hb
  have h6 : m ≠ [] → k = 6 := fun hm => hb4.resolve_left (fun e => hm (List.eq_nil_of_length_eq_zero e))
  refine ⟨fun hl => hb3.resolve_left (fun e => hl (List.eq_nil_of_length_eq_zero e)), fun hm => ⟨h6 hm, ?_⟩, h1, h2⟩
  have hk := h6 hm
  subst hk
  have : namesB m = true := by simpa using h4
  unfold namesB at this
  simp only [Bool.and_eq_true, decide_eq_true_eq] at this
  exact this.2
/-- A star in the place of a number. -/
theorem ans_star {a t : List UInt8} {v l : JV} (ha : pth a) (ht : pth t) (hna : (42 : UInt8) ∉ a) (hl : ans false (parts a) v = (l, 0)) (h5 : l.kd = 5) :
    ans true (parts (a ++ 47 :: ([42] ++ t))) v = (match parts t with | none => (zeroV, 80) | some pt => match gather (find true pt) l.ls with | none => (zeroV, 81) | some r => (listV r, 0)) ∧
    ∀ i (hi : i < l.ls.length), l.ls.length ≤ 9007199254740991 → ans true (parts (a ++ 47 :: (Nm.put (i : Int) ++ t))) v = (match parts t with | none => (zeroV, 80) | some pt => match find true pt l.ls[i] with | none => (zeroV, 81) | some y => (y, 0)) := by
  unfold ans at hl
  cases hpa : parts a with
  | none => rw [hpa] at hl; simp at hl
  | some pa =>
    rw [hpa] at hl
    simp only at hl
    have hst := parts_star hpa hna
    cases hf : find false pa v with
    | none => rw [hf] at hl; simp at hl
    | some l2 =>
      rw [hf] at hl
      obtain rfl : l2 = l := by simpa using hl
      constructor
      · rw [parts_mid ha (by decide) (by decide) ht hpa]
        cases parts t with
        | none => rfl
        | some pt =>
          show (match find true (pa ++ [42] :: pt) v with | none => _ | some y => _) = _
          rw [find_app_nostar _ pa v hst, hf]
          show (match find true ([42] :: pt) l2 with | none => _ | some y => _) = _
          rw [find_cons, if_pos ⟨rfl, rfl, h5⟩]
          show _ = (match gather (find true pt) l2.ls with | none => _ | some r => _)
          cases gather (find true pt) l2.ls <;> rfl
      · intro i hi h63
        rw [parts_mid ha (put_no i (by decide)) (put_no i (by decide)) ht hpa]
        cases parts t with
        | none => rfl
        | some pt =>
          show (match find true (pa ++ Nm.put (i : Int) :: pt) v with | none => _ | some y => _) = _
          rw [find_app_nostar _ pa v hst, hf]
          show (match find true (Nm.put (i : Int) :: pt) l2 with | none => _ | some y => _) = _
          rw [find_cons, if_neg (fun e => put_no i (c := 42) (by decide) (by rw [e.2.1]; simp)), step_put h5 hi h63]
          rfl
end Go.Proofs.YtfjcgbbphkfkgaaGreatDoor.Pt
