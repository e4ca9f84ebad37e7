/- How far a text between quotes has been read: plain, over a text's bytes. -/
import Derived.Test.YtmalfecpcdopfaaDoorUtfB
import Derived.Test.YtmalfecpcdopfaaDoorCharsQ
namespace Go.Proofs.YtmalfecpcdopfaaDoor
set_option linter.unusedVariables false
set_option linter.unusedSimpArgs false

theorem escu_len {l : List UInt8} {p n : Nat} (h : Chr.escu l = some (p, n)) : (Utf.bytes p).length ≤ n := by
  have h1 := Chr.escu_pt h
  have := Utf.bytes_le p
  omega
theorem tok_len {l : List UInt8} {p n : Nat} (h : Chr.tok l = .pc p n) : (Utf.bytes p).length ≤ n := by
  rcases l with _ | ⟨c, r⟩
  · simp [Chr.tok] at h
  rw [Chr.tok_cons] at h
  split at h
  · cases h
  split at h
  · cases h
  split at h
  · rcases he : Chr.escd (c :: r) with _ | ⟨q, m⟩
    · rw [he] at h; cases h
    · rw [he] at h
      simp only [Chr.Tok.pc.injEq] at h
      obtain ⟨rfl, rfl⟩ := h
      unfold Chr.escd at he
      rcases hp : Chr.plain ((c :: r).getD 1 0) with _ | x
      · rw [hp] at he; exact escu_len he
      · rw [hp] at he
        simp at he
        obtain ⟨rfl, rfl⟩ := he
        have := Chr.plain_lt hp
        unfold Utf.bytes
        rw [if_pos this]
        simp
  split at h
  · cases h
  · rename_i h0
    simp only [Chr.Tok.pc.injEq] at h
    obtain ⟨rfl, rfl⟩ := h
    have h1 := Utf.one_sound' h0
    omega

structure RdInv (s : ByteArray) (k i : Nat) (ps : List Nat) : Prop where
  lo : k + 1 ≤ i
  hi : i ≤ s.size
  eq : Chr.rd (s.data.toList.drop (k + 1)) = (ps ++ (Chr.rd (s.data.toList.drop i)).1, (i - (k + 1)) + (Chr.rd (s.data.toList.drop i)).2.1, (Chr.rd (s.data.toList.drop i)).2.2)
  len : (ps.flatMap Utf.bytes).length ≤ i - (k + 1)
theorem RdInv.start {s : ByteArray} {k : Nat} (hk : k < s.size) : RdInv s k (k + 1) [] := ⟨by omega, by omega, by simp, by simp⟩
theorem RdInv.step {s : ByteArray} {k i p n : Nat} {ps : List Nat} (h : RdInv s k i ps) (ht : Chr.tok (s.data.toList.drop i) = .pc p n) : RdInv s k (i + n) (ps ++ [p]) := by
  have h1 := Chr.tok_pc ht
  have h2 := tok_len ht
  have h3 := h.lo
  have h4 := h.hi
  have h5 := h.len
  simp only [List.length_drop, Array.length_toList] at h1
  have h6 : s.data.size = s.size := rfl
  refine ⟨by omega, by omega, ?_, ?_⟩
  · rw [h.eq, Chr.rd_pc ht, List.drop_drop]
    simp only [Prod.mk.injEq, List.append_assoc, List.cons_append, List.nil_append, true_and, and_true]
    omega
  · rw [List.flatMap_append, List.length_append]
    simp only [List.flatMap_cons, List.flatMap_nil, List.append_nil]
    omega
theorem RdInv.fin {s : ByteArray} {k i : Nat} {ps : List Nat} (h : RdInv s k i ps) (hk : k < s.size) (h34 : s.data.toList.getD k 0 = 34) (ht : Chr.tok (s.data.toList.drop i) = .fin) :
    Chr.read s.data.toList k = (ps.flatMap Utf.bytes, (i : Int) + 1, 0) := by
  have := h.lo
  rw [Chr.read_in (by simpa using hk) h34, h.eq, Chr.rd_fin ht]
  simp only [List.append_nil, if_true, Prod.mk.injEq, true_and]
  omega
theorem RdInv.bad {s : ByteArray} {k i e : Nat} {ps : List Nat} (h : RdInv s k i ps) (hk : k < s.size) (h34 : s.data.toList.getD k 0 = 34) (ht : Chr.tok (s.data.toList.drop i) = .bad e) :
    Chr.read s.data.toList k = ([], (i : Int), (e : Int)) := by
  have := h.lo
  have he := Chr.tok_bad ht
  rw [Chr.read_in (by simpa using hk) h34, h.eq, Chr.rd_bad ht]
  simp only
  rw [if_neg (by omega)]
  simp only [Prod.mk.injEq, true_and, and_true]
  omega
theorem RdInv.room {s : ByteArray} {k i p n : Nat} {ps : List Nat} (h : RdInv s k i ps) (ht : Chr.tok (s.data.toList.drop i) = .pc p n) : (ps.flatMap Utf.bytes).length + (Utf.bytes p).length ≤ s.size := by
  have h1 := (h.step ht).len
  have h2 := (h.step ht).hi
  rw [List.flatMap_append, List.length_append] at h1
  simp only [List.flatMap_cons, List.flatMap_nil, List.append_nil] at h1
  omega
theorem flat_snoc (ps : List Nat) (p : Nat) : (ps ++ [p]).flatMap Utf.bytes = ps.flatMap Utf.bytes ++ Utf.bytes p := by simp

/-- What stands at a place. -/
theorem tok_at {s : ByteArray} {i : Nat} {c : UInt8} (hi : i < s.size) (hc : s[i] = c) : Chr.tok (s.data.toList.drop i) = if c = 34 then .fin else if c.toNat < 32 then .bad 20 else
    if c = 92 then (match Chr.escd (s.data.toList.drop i) with | none => .bad 20 | some (p, n) => .pc p n) else
    if (Utf.one (s.data.toList.drop i)).2 = 0 then .bad 10 else .pc (Utf.one (s.data.toList.drop i)).1 (Utf.one (s.data.toList.drop i)).2 := by
  have e := toList_drop s i hi
  rw [hc] at e
  rw [e, Chr.tok_cons]
  repeat' (first | rfl | split)
theorem tok_fin_at {s : ByteArray} {i : Nat} (hi : i < s.size) (hc : s[i] = 34) : Chr.tok (s.data.toList.drop i) = .fin := by rw [tok_at hi hc, if_pos rfl]
theorem tok_low_at {s : ByteArray} {i : Nat} {c : UInt8} (hi : i < s.size) (hc : s[i] = c) (h34 : c ≠ 34) (h32 : c.toNat < 32) : Chr.tok (s.data.toList.drop i) = .bad 20 := by rw [tok_at hi hc, if_neg h34, if_pos h32]
theorem tok_esc_none {s : ByteArray} {i : Nat} (hi : i < s.size) (hc : s[i] = 92) (h : Chr.escd (s.data.toList.drop i) = none) : Chr.tok (s.data.toList.drop i) = .bad 20 := by
  rw [tok_at hi hc, if_neg (by decide), if_neg (by decide), if_pos rfl, h]
theorem tok_esc_some {s : ByteArray} {i p n : Nat} (hi : i < s.size) (hc : s[i] = 92) (h : Chr.escd (s.data.toList.drop i) = some (p, n)) : Chr.tok (s.data.toList.drop i) = .pc p n := by
  rw [tok_at hi hc, if_neg (by decide), if_neg (by decide), if_pos rfl, h]
theorem tok_one_none {s : ByteArray} {i p : Nat} {c : UInt8} (hi : i < s.size) (hc : s[i] = c) (h34 : c ≠ 34) (h32 : ¬ c.toNat < 32) (h92 : c ≠ 92) (h : Utf.one (s.data.toList.drop i) = (p, 0)) : Chr.tok (s.data.toList.drop i) = .bad 10 := by
  rw [tok_at hi hc, if_neg h34, if_neg h32, if_neg h92, h, if_pos rfl]
theorem tok_one_some {s : ByteArray} {i p n : Nat} {c : UInt8} (hi : i < s.size) (hc : s[i] = c) (h34 : c ≠ 34) (h32 : ¬ c.toNat < 32) (h92 : c ≠ 92) (h : Utf.one (s.data.toList.drop i) = (p, n)) (hn : n ≠ 0) : Chr.tok (s.data.toList.drop i) = .pc p n := by
  rw [tok_at hi hc, if_neg h34, if_neg h32, if_neg h92, h, if_neg hn]
theorem tok_end {s : ByteArray} {i : Nat} (hi : ¬ i < s.size) : Chr.tok (s.data.toList.drop i) = .bad 20 := by
  rw [List.drop_of_length_le (by simp; omega)]; rfl
theorem one_bytes_at {s : ByteArray} {i p n : Nat} (h : Utf.one (s.data.toList.drop i) = (p, n)) (hn : n ≠ 0) : (s.data.toList.drop i).take n = Utf.bytes p ∧ Utf.isPt p = true := by
  have h1 := Utf.one_sound h hn
  refine ⟨?_, h1.1⟩
  have e := h1.2.2
  rw [List.drop_drop] at e
  rw [e, h1.2.1, List.take_left]

/-- What Read hands back. -/
def readV (x : List UInt8 × Int × Int) : Value := .tuple #[.string ⟨x.1.toArray⟩, .int .i64 x.2.1, .int .i64 x.2.2]

end Go.Proofs.YtmalfecpcdopfaaDoor
