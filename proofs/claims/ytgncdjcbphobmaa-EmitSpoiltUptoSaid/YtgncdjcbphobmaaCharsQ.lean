/- Plain laws of texts between quotes. -/
import Derived.Test.YtgncdjcbphobmaaCharsP
namespace Go.Proofs.Ytgncdjcbphobmaa.Chr
set_option linter.unusedVariables false
set_option linter.unusedSimpArgs false
open Utf

/-- What the document writes for a point. -/
def escP (p : Nat) : List UInt8 :=
  if letter (UInt8.ofNat p) ≠ 0 ∧ p < 128 then [92, letter (UInt8.ofNat p)] else if p < 32 then [92, 117, 48, 48, hexd (p / 16), hexd (p % 16)] else bytes p

theorem letter_lt {c : UInt8} (h : letter c ≠ 0) : c.toNat < 128 := by
  unfold letter at h
  repeat' split at h
  all_goals first | (subst c; decide) | exact absurd rfl h
theorem esc_high {c : UInt8} (h : 128 ≤ c.toNat) : esc c = [c] := by
  unfold esc
  rw [if_neg (fun e => by have := letter_lt e; omega), if_neg (by omega)]
theorem flat_high : ∀ {l : List UInt8}, (∀ c ∈ l, 128 ≤ c.toNat) → l.flatMap esc = l
  | [], _ => rfl
  | c :: l, h => by rw [List.flatMap_cons, esc_high (h c (by simp)), flat_high (fun d hd => h d (by simp [hd]))]; rfl
theorem bytes_high {p : Nat} (h : isPt p = true) (h' : 128 ≤ p) : ∀ c ∈ bytes p, 128 ≤ c.toNat := by
  have h := isPt_iff.1 h
  unfold bytes
  rw [if_neg (by omega)]
  split
  · intro c hc
    simp only [List.mem_cons, List.not_mem_nil, or_false] at hc
    rcases hc with rfl | rfl <;> rw [toNat_ofNat (by omega)] <;> omega
  split
  · intro c hc
    simp only [List.mem_cons, List.not_mem_nil, or_false] at hc
    rcases hc with rfl | rfl | rfl <;> rw [toNat_ofNat (by omega)] <;> omega
  · intro c hc
    simp only [List.mem_cons, List.not_mem_nil, or_false] at hc
    rcases hc with rfl | rfl | rfl | rfl <;> rw [toNat_ofNat (by omega)] <;> omega
theorem esc_bytes {p : Nat} (h : isPt p = true) : (bytes p).flatMap esc = escP p := by
  by_cases h1 : p < 128
  · have e : bytes p = [UInt8.ofNat p] := by unfold bytes; rw [if_pos h1]
    have e2 := toNat_ofNat (n := p) (by omega)
    rw [e]
    simp only [List.flatMap_cons, List.flatMap_nil, List.append_nil]
    unfold esc escP
    rw [e2, e]
    by_cases h2 : letter (UInt8.ofNat p) ≠ 0
    · rw [if_pos h2, if_pos ⟨h2, h1⟩]
    · rw [if_neg h2]
      conv => rhs; rw [if_neg (fun x => h2 x.1)]
  · rw [flat_high (bytes_high h (by omega))]
    unfold escP
    rw [if_neg (by omega), if_neg (by omega)]
theorem quote_pts {l : List UInt8} (h : bad l = l.length) : l.flatMap esc = (pts l).flatMap escP := by
  have h1 := pts_sound _ l (Nat.le_refl _) h
  conv => lhs; rw [h1.1]
  have : ∀ (ps : List Nat), (∀ p ∈ ps, isPt p = true) → (ps.flatMap bytes).flatMap esc = ps.flatMap escP := by
    intro ps
    induction ps with
    | nil => simp
    | cons p ps ih =>
      intro h
      rw [List.flatMap_cons, List.flatMap_append, List.flatMap_cons, esc_bytes (h p (by simp)), ih (fun q hq => h q (by simp [hq]))]
  exact this _ h1.2

theorem low_all : ∀ p : Fin 128, ∀ t : List UInt8, letter (UInt8.ofNat p) ≠ 0 → plain (letter (UInt8.ofNat p)) = some (UInt8.ofNat p) := by
  have h : ∀ p : Fin 128, letter (UInt8.ofNat p) ≠ 0 → plain (letter (UInt8.ofNat p)) = some (UInt8.ofNat p) := by decide +kernel
  exact fun p _ => h p
theorem low_hex : ∀ p : Fin 32, hexs 0 [48, 48, hexd (p / 16), hexd (p % 16)] = some p.val := by decide +kernel

theorem tok_escP {p : Nat} (h : isPt p = true) (t : List UInt8) : tok (escP p ++ t) = .pc p (escP p).length := by
  have hp := isPt_iff.1 h
  unfold escP
  by_cases h1 : letter (UInt8.ofNat p) ≠ 0 ∧ p < 128
  · rw [if_pos h1]
    have h2 := low_all ⟨p, h1.2⟩ [] h1.1
    simp only at h2
    simp only [List.cons_append, List.nil_append]
    rw [tok_cons]
    rw [if_neg (by decide), if_neg (by decide), if_pos rfl]
    unfold escd
    rw [show List.getD (92 :: letter (UInt8.ofNat p) :: t) 1 0 = letter (UInt8.ofNat p) from rfl, h2]
    simp only [toNat_ofNat (n := p) (by omega)]
    rfl
  rw [if_neg h1]
  by_cases h2 : p < 32
  · rw [if_pos h2]
    simp only [List.cons_append, List.nil_append]
    rw [tok_cons]
    rw [if_neg (by decide), if_neg (by decide), if_pos rfl]
    unfold escd
    rw [show List.getD (92 :: 117 :: 48 :: 48 :: hexd (p / 16) :: hexd (p % 16) :: t) 1 0 = 117 from rfl, show plain 117 = none from rfl]
    simp only
    unfold escu
    have h3 : unitv (92 :: 117 :: 48 :: 48 :: hexd (p / 16) :: hexd (p % 16) :: t) = some p := by
      exact low_hex ⟨p, h2⟩
    rw [h3]
    simp only
    rw [if_pos (by omega)]
    rfl
  rw [if_neg h2]
  have h3 := one_bytes h t
  have h4 := bytes_pos p
  obtain ⟨c, r, hc, hlo⟩ : ∃ c r, bytes p ++ t = c :: r ∧ (c = UInt8.ofNat p ∧ p < 128 ∨ 128 ≤ c.toNat) := by
    rcases hb : bytes p with _ | ⟨c, r⟩
    · rw [hb] at h4; simp at h4
    · refine ⟨c, r ++ t, rfl, ?_⟩
      by_cases h5 : p < 128
      · left
        unfold bytes at hb
        rw [if_pos h5] at hb
        exact ⟨(List.cons.inj hb).1.symm, h5⟩
      · right
        exact bytes_high h (by omega) c (by rw [hb]; simp)
  rw [hc] at h3 ⊢
  have e34 : c ≠ 34 := by
    intro e
    rcases hlo with ⟨e2, h5⟩ | h5
    · apply h1; refine ⟨?_, h5⟩; rw [← e2, e]; decide
    · subst e; simp at h5
  have e92 : c ≠ 92 := by
    intro e
    rcases hlo with ⟨e2, h5⟩ | h5
    · apply h1; refine ⟨?_, h5⟩; rw [← e2, e]; decide
    · subst e; simp at h5
  have e32 : ¬ c.toNat < 32 := by
    rcases hlo with ⟨e2, h5⟩ | h5
    · rw [e2, toNat_ofNat (by omega)]; exact h2
    · omega
  rw [tok_cons]
  rw [if_neg e34, if_neg e32, if_neg e92, h3, if_neg (by show ¬ (bytes p).length = 0; omega)]

theorem rd_back : ∀ (ps : List Nat) (t : List UInt8), (∀ p ∈ ps, isPt p = true) → rd (ps.flatMap escP ++ 34 :: t) = (ps, (ps.flatMap escP).length + 1, 0)
  | [], t, h => by rw [List.flatMap_nil, List.nil_append, rd_fin (by simp [tok])]; rfl
  | p :: ps, t, h => by
    rw [List.flatMap_cons, List.append_assoc, rd_pc (tok_escP (h p (by simp)) _), List.drop_left, rd_back ps t (fun q hq => h q (by simp [hq]))]
    simp only [List.length_append, Prod.mk.injEq, true_and, and_true]
    omega

/-- What is quoted is read as it was. -/
theorem read_back {h s t : List UInt8} (hs : bad s = s.length) : read (h ++ (quote s ++ t)) (h.length : Nat) = (s, (h.length : Int) + (quote s).length, 0) := by
  have e1 : (h ++ (quote s ++ t)).getD h.length 0 = 34 := by simp [quote, List.getD_eq_getElem?_getD]
  have e2 : (h ++ (quote s ++ t)).drop (h.length + 1) = (pts s).flatMap escP ++ 34 :: t := by
    rw [List.drop_append, List.drop_of_length_le (by omega), show h.length + 1 - h.length = 1 by omega]
    simp [quote, quote_pts hs]
  have h1 := pts_sound _ s (Nat.le_refl _) hs
  rw [read_in (by simp [quote]) e1, e2, rd_back _ _ h1.2]
  simp only [if_true]
  rw [← h1.1]
  simp only [quote, quote_pts hs, List.length_cons, List.length_append, List.length_nil, Prod.mk.injEq, true_and, and_true]
  omega

/-- What is read has right bytes. -/
theorem read_right {l : List UInt8} {a : Int} (h : (read l a).2.2 = 0) : bad (read l a).1 = (read l a).1.length ∧ 0 ≤ a ∧ a < (read l a).2.1 ∧ (read l a).2.1 ≤ l.length ∧ l.getD ((read l a).2.1.toNat - 1) 0 = 34 := by
  unfold read at *
  split at h
  · simp at h
  rename_i hc
  rw [if_neg hc]
  have h0 : ¬ a < 0 := fun e => hc (.inl e)
  have h1 : ¬ (l.length : Int) ≤ a := fun e => hc (.inr (.inl e))
  obtain ⟨k, rfl⟩ : ∃ k : Nat, a = k := ⟨a.toNat, by omega⟩
  simp only [Int.toNat_natCast] at *
  have h : (rd (l.drop (k + 1))).2.2 = 0 := by omega
  have h2 := rd_all _ (l.drop (k + 1)) (Nat.le_refl _)
  obtain ⟨a1, a2, a3, a4, a5, a6⟩ := h2
  have a4 := a4 h
  rw [List.length_drop] at a2
  rw [if_pos h]
  have h3 := pts_complete _ [] a1
  simp only [List.append_nil, bad_nil, Nat.add_zero] at h3
  refine ⟨h3.2, by omega, by omega, by omega, ?_⟩
  have e := a4.2
  simp only [List.getD_eq_getElem?_getD, List.getElem?_drop] at e ⊢
  rw [← e]
  congr 2
  omega
theorem read_code (l : List UInt8) (a : Int) : ((read l a).2.2 = 0 ∨ (read l a).2.2 = 10 ∨ (read l a).2.2 = 20) ∧ ((read l a).2.2 ≠ 0 → (read l a).1 = []) := by
  unfold read
  split
  · simp
  · have h2 := rd_all _ (l.drop (a.toNat + 1)) (Nat.le_refl _)
    obtain ⟨a1, a2, a3, a4, a5, a6⟩ := h2
    simp only
    refine ⟨by omega, ?_⟩
    intro h
    rw [if_neg (by omega)]

theorem one_cut {l : List UInt8} (h : (one l).2 ≠ 0) (m : Nat) (hm : (one l).2 ≤ m) (t : List UInt8) : one (l.take m ++ t) = one l := by
  have h1 := one_sound' h
  have h2 := one_bytes h1.1 (((l.drop (one l).2).take (m - (one l).2)) ++ t)
  have e : l.take m ++ t = bytes (one l).1 ++ ((l.drop (one l).2).take (m - (one l).2) ++ t) := by
    conv => lhs; rw [h1.2.2]
    rw [List.take_append, List.append_assoc, ← h1.2.1, List.take_of_length_le (by omega)]
  rw [e, h2, ← h1.2.1]
theorem unitv_cut {l : List UInt8} {a : Nat} (h : unitv l = some a) (m : Nat) (hm : 6 ≤ m) (t : List UInt8) : unitv (l.take m ++ t) = some a := by
  unfold unitv at h
  split at h
  · rename_i a b d0 d1 d2 d3 r
    obtain ⟨m, rfl⟩ : ∃ k, m = k + 6 := ⟨m - 6, by omega⟩
    simp only [List.take_succ_cons, List.cons_append]
    unfold unitv
    exact h
  · cases h
theorem tok_take {l : List UInt8} {p n : Nat} (h : tok l = .pc p n) (m : Nat) (hm : n ≤ m) (t : List UInt8) : tok (l.take m ++ t) = .pc p n := by
  have h0 := tok_pc h
  rcases l with _ | ⟨c, r⟩
  · simp [tok] at h
  obtain ⟨m, rfl⟩ : ∃ k, m = k + 1 := ⟨m - 1, by omega⟩
  have e : (c :: r).take (m + 1) ++ t = c :: (r.take m ++ t) := rfl
  rw [tok_cons] at h
  split at h
  · cases h
  rename_i c1
  split at h
  · cases h
  rename_i c2
  split at h
  · rename_i c3
    rw [e]
    rw [tok_cons]
    rw [if_neg c1, if_neg c2, if_pos c3, ← e]
    rcases he : escd (c :: r) with _ | ⟨q, k⟩
    · rw [he] at h; cases h
    rw [he] at h
    simp only [Tok.pc.injEq] at h
    obtain ⟨rfl, rfl⟩ := h
    have hg : ((c :: r).take (m + 1) ++ t).getD 1 0 = (c :: r).getD 1 0 := by
      rcases r with _ | ⟨d, r⟩
      · simp at h0; have := escd_pt he; simp at this; omega
      · have := escd_pt he
        obtain ⟨m', rfl⟩ : ∃ k, m = k + 1 := ⟨m - 1, by omega⟩
        rfl
    have : escd ((c :: r).take (m + 1) ++ t) = some (q, k) := by
      unfold escd at he ⊢
      rw [hg]
      rcases hp : plain ((c :: r).getD 1 0) with _ | x
      · rw [hp] at he
        simp only at he ⊢
        unfold escu at he ⊢
        rcases ha : unitv (c :: r) with _ | a
        · rw [ha] at he; cases he
        rw [ha] at he
        simp only at he
        have h6 : 6 ≤ m + 1 := by
          split at he
          · simp at he; omega
          · rcases hb : unitv ((c :: r).drop 6) with _ | b
            · rw [hb] at he; cases he
            · rw [hb] at he; simp only at he; split at he
              · simp at he; omega
              · cases he
        rw [unitv_cut ha _ h6]
        simp only
        split at he
        · rename_i c4; rw [if_pos c4]; exact he
        · rename_i c4
          rw [if_neg c4]
          rcases hb : unitv ((c :: r).drop 6) with _ | b
          · rw [hb] at he; cases he
          rw [hb] at he
          simp only at he
          have h12 : 12 ≤ m + 1 := by
            split at he
            · simp at he; omega
            · cases he
          have e6 : ((c :: r).take (m + 1) ++ t).drop 6 = ((c :: r).drop 6).take (m + 1 - 6) ++ t := by
            have hl := unitv_len ha
            rw [List.drop_append, List.drop_take]
            congr 1
            rw [List.length_take, show 6 - min (m + 1) (c :: r).length = 0 by omega]
            rfl
          rw [e6, unitv_cut hb _ (by omega)]
          exact he
      · rw [hp] at he
        exact he
    rw [this]
  · rename_i c3
    split at h
    · cases h
    rename_i c4
    simp only [Tok.pc.injEq] at h
    obtain ⟨rfl, rfl⟩ := h
    have := one_cut c4 (m + 1) hm t
    rw [e] at this ⊢
    rw [tok_cons]
    rw [if_neg c1, if_neg c2, if_neg c3, this, if_neg c4]

theorem rd_take : ∀ (k : Nat) (l t : List UInt8), l.length ≤ k → (rd l).2.2 = 0 → rd (l.take (rd l).2.1 ++ t) = rd l
  | k, l, t, hk, h => by
    rcases ht : tok l with _ | e | ⟨p, n⟩
    · obtain ⟨r, rfl⟩ := tok_cut ht
      rw [rd_fin ht]
      exact rd_fin (by simp [tok])
    · rw [rd_bad ht] at h
      have := tok_bad ht
      simp at h
      omega
    · have h1 := tok_pc ht
      cases k with
      | zero => omega
      | succ k =>
        rw [rd_pc ht] at h
        have ih := rd_take k (l.drop n) t (by simp; omega) h
        have h2 := rd_all _ (l.drop n) (Nat.le_refl _)
        rw [List.length_drop] at h2
        rw [rd_pc (l := l.take (rd l).2.1 ++ t) (tok_take ht _ (by rw [rd_pc ht]; simp only; omega) t)]
        have e : ((l.take (rd l).2.1 ++ t).drop n) = (l.drop n).take (rd (l.drop n)).2.1 ++ t := by
          rw [rd_pc ht]
          rw [List.drop_append, List.drop_take, List.length_take]
          simp only
          rw [show n - min (n + (rd (l.drop n)).2.1) l.length = 0 by omega, show n + (rd (l.drop n)).2.1 - n = (rd (l.drop n)).2.1 by omega]
          rfl
        rw [e, ih, ← rd_pc ht]

/-- What stands behind the closing quote means nothing. -/
theorem read_take {l : List UInt8} {a : Int} (t : List UInt8) (h : (read l a).2.2 = 0) : read (l.take (read l a).2.1.toNat ++ t) a = read l a := by
  have hr := read_right h
  unfold read at h
  split at h
  · simp at h
  rename_i hc
  have h0 : ¬ a < 0 := fun e => hc (.inl e)
  have h1 : ¬ (l.length : Int) ≤ a := fun e => hc (.inr (.inl e))
  obtain ⟨k, rfl⟩ : ∃ k : Nat, a = k := ⟨a.toNat, by omega⟩
  simp only [Int.toNat_natCast] at *
  have h34 : l.getD k 0 = 34 := Classical.byContradiction fun e => hc (.inr (.inr e))
  have h : (rd (l.drop (k + 1))).2.2 = 0 := by omega
  have h2 := rd_all _ (l.drop (k + 1)) (Nat.le_refl _)
  obtain ⟨a1, a2, a3, a4, a5, a6⟩ := h2
  have a4 := a4 h
  rw [List.length_drop] at a2
  have e1 : (read l k).2.1.toNat = k + 1 + (rd (l.drop (k + 1))).2.1 := by
    rw [read_in (by omega) h34]; simp only; omega
  rw [e1]
  have e2 : (l.take (k + 1 + (rd (l.drop (k + 1))).2.1) ++ t).drop (k + 1) = (l.drop (k + 1)).take (rd (l.drop (k + 1))).2.1 ++ t := by
    rw [List.drop_append, List.drop_take, List.length_take, show k + 1 - min (k + 1 + (rd (l.drop (k + 1))).2.1) l.length = 0 by omega, show k + 1 + (rd (l.drop (k + 1))).2.1 - (k + 1) = (rd (l.drop (k + 1))).2.1 by omega]
    rfl
  have e3 : (l.take (k + 1 + (rd (l.drop (k + 1))).2.1) ++ t).getD k 0 = 34 := by
    rw [← h34]
    simp only [List.getD_eq_getElem?_getD]
    rw [List.getElem?_append_left (by rw [List.length_take]; omega), List.getElem?_take_of_lt (by omega)]
  rw [read_in (l := l.take (k + 1 + (rd (l.drop (k + 1))).2.1) ++ t) (by rw [List.length_append, List.length_take]; omega) e3, e2, rd_take _ _ t (Nat.le_refl _) h, read_in (by omega) h34]

end Go.Proofs.Ytgncdjcbphobmaa.Chr
