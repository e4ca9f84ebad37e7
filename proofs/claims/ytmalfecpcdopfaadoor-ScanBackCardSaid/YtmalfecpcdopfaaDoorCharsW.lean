/- What is read is quoted again in no more bytes. -/
import Derived.Test.YtmalfecpcdopfaaDoorCharsQ
namespace Go.Proofs.YtmalfecpcdopfaaDoor.Chr
set_option linter.unusedVariables false
set_option linter.unusedSimpArgs false
open Utf

theorem plain_len : ∀ i : Fin 256, ((plain (UInt8.ofNat i.val)).all fun x => decide ((escP x.toNat).length ≤ 2)) = true := by decide +kernel
theorem plain_len' {c x : UInt8} (h : plain c = some x) : (escP x.toNat).length ≤ 2 := by
  have h1 := plain_len ⟨c.toNat, c.toNat_lt⟩
  simp only [UInt8.ofNat_toNat, h, Option.all_some, decide_eq_true_eq] at h1
  exact h1
theorem escP_le (p : Nat) : (escP p).length ≤ 6 := by
  unfold escP
  have := bytes_le p
  split
  · simp
  split
  · simp
  · omega
theorem letter_low : ∀ i : Fin 128, 32 ≤ i.val → i.val ≠ 34 → i.val ≠ 92 → letter (UInt8.ofNat i.val) = 0 := by decide +kernel
theorem escP_len {l : List UInt8} {p n : Nat} (h : tok l = .pc p n) : (escP p).length ≤ n := by
  rcases l with _ | ⟨c, r⟩
  · simp [tok] at h
  rw [tok_cons] at h
  split at h
  · cases h
  rename_i h34
  split at h
  · cases h
  rename_i h32
  split at h
  · rcases he : escd (c :: r) with _ | ⟨q, m⟩
    · rw [he] at h; cases h
    · rw [he] at h
      simp only [Tok.pc.injEq] at h
      obtain ⟨rfl, rfl⟩ := h
      unfold escd at he
      rcases hp : plain ((c :: r).getD 1 0) with _ | x
      · rw [hp] at he
        have h1 := escu_pt he
        have h2 := escP_le q
        omega
      · rw [hp] at he
        simp at he
        obtain ⟨rfl, rfl⟩ := he
        exact plain_len' hp
  rename_i h92
  split at h
  · cases h
  · rename_i h0
    simp only [Tok.pc.injEq] at h
    obtain ⟨rfl, rfl⟩ := h
    have h1 := one_sound' h0
    have hpt := isPt_iff.1 h1.1
    generalize (one (c :: r)).1 = p at h1 hpt ⊢
    generalize (one (c :: r)).2 = n at h1 ⊢
    have hb : escP p = bytes p := by
      unfold escP
      by_cases hp : p < 128
      · have e : bytes p = [UInt8.ofNat p] := by unfold bytes; rw [if_pos hp]
        have hc := h1.2.2
        rw [e] at hc
        have hc1 : c = UInt8.ofNat p := (List.cons.inj hc).1
        have hcn : c.toNat = p := by rw [hc1]; exact toNat_ofNat (by omega)
        rw [if_neg, if_neg (by omega)]
        intro hx
        apply hx.1
        exact letter_low ⟨p, hp⟩ (by simp only; omega) (by
          simp only
          intro e2
          apply h34
          rw [hc1, e2]; rfl) (by
          simp only
          intro e2
          apply h92
          rw [hc1, e2]; rfl)
      · rw [if_neg (fun x => hp x.2), if_neg (by omega)]
    rw [hb]
    omega
theorem rd_escP : ∀ (k : Nat) (l : List UInt8), l.length ≤ k → (rd l).2.2 = 0 → ((rd l).1.flatMap escP).length + 1 ≤ (rd l).2.1
  | k, l, hk, h => by
    rcases ht : tok l with _ | e | ⟨p, n⟩
    · rw [rd_fin ht]; simp
    · rw [rd_bad ht] at h
      have := tok_bad ht
      simp at h
      omega
    · have h1 := tok_pc ht
      have h2 := escP_len ht
      cases k with
      | zero => omega
      | succ k =>
        rw [rd_pc ht] at h ⊢
        have ih := rd_escP k (l.drop n) (by simp; omega) h
        simp only [List.flatMap_cons, List.length_append]
        omega
theorem read_quote {l : List UInt8} {a : Int} (h : (read l a).2.2 = 0) : (quote (read l a).1).length ≤ l.length := by
  unfold read at *
  split at h
  · simp at h
  rename_i hc
  rw [if_neg hc]
  have h0 : ¬ a < 0 := fun e => hc (.inl e)
  have h1 : ¬ (l.length : Int) ≤ a := fun e => hc (.inr (.inl e))
  obtain ⟨k, rfl⟩ : ∃ k : Nat, a = k := ⟨a.toNat, by omega⟩
  simp only [Int.toNat_natCast] at *
  have h : (rd (l.drop (k + 1))).2.2 = 0 := by omega
  have h2 := rd_all _ (l.drop (k + 1)) (Nat.le_refl _)
  obtain ⟨a1, a2, a3, a4, a5, a6⟩ := h2
  have h3 := pts_complete _ [] a1
  simp only [List.append_nil, bad_nil, Nat.add_zero, pts_nil] at h3
  have h4 := rd_escP _ (l.drop (k + 1)) (Nat.le_refl _) h
  rw [List.length_drop] at a2
  rw [if_pos h]
  unfold quote
  rw [quote_pts h3.2, h3.1]
  simp only [List.length_cons, List.length_append, List.length_nil]
  omega

end Go.Proofs.YtmalfecpcdopfaaDoor.Chr
