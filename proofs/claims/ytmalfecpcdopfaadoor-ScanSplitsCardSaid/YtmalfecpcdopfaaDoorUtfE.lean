/- Walks: the document's One, Points. -/
import Derived.Test.YtmalfecpcdopfaaDoorUtfDb
namespace Go.Proofs.YtmalfecpcdopfaaDoor
set_option linter.unusedVariables false
set_option linter.unusedSimpArgs false
open Go.RowKit

theorem rone_is (s : ByteArray) (k p n : Nat) (w : World) (hs : s.size ≤ maxLen) (hk : k < s.size) (h : Utf.one (s.data.toList.drop k) = (p, n)) :
    Calls Tryd.prog 27 #[.string s, .int .i64 k] w fun e w' => e = .returned (.tuple #[.int .i64 p, .int .i64 n]) ∧ Fr w w' := by
  obtain ⟨a, ha⟩ : ∃ a, s[k] = a := ⟨_, rfl⟩
  by_cases c1 : a.toNat < 192
  · exact rone_1 s k p n a w hs hk ha c1 h
  by_cases c2 : a.toNat < 224
  · exact rone_2 s k p n a w hs hk ha (by omega) c2 h
  by_cases c3 : a.toNat < 240
  · exact rone_3 s k p n a w hs hk ha (by omega) c3 h
  · exact rone_4 s k p n a w hs hk ha (by omega) h

theorem one_at {s : ByteArray} {k : Nat} (hk : k < s.size) : ∃ p n, Utf.one (s.data.toList.drop k) = (p, n) ∧ k + n ≤ s.size ∧ p ≤ 1114111 := by
  refine ⟨(Utf.one (s.data.toList.drop k)).1, (Utf.one (s.data.toList.drop k)).2, rfl, ?_, Utf.one_bound _⟩
  have := (Utf.one_len (l := s.data.toList.drop k)).1
  simp at this
  omega
theorem bad_at_stop {s : ByteArray} {k p : Nat} (h : Utf.one (s.data.toList.drop k) = (p, 0)) : Utf.bad (s.data.toList.drop k) = 0 := Utf.bad_stop (by rw [h])
theorem bad_at_step {s : ByteArray} {k p n : Nat} (h : Utf.one (s.data.toList.drop k) = (p, n)) (hn : n ≠ 0) : Utf.bad (s.data.toList.drop k) = n + Utf.bad (s.data.toList.drop (k + n)) := by
  rw [Utf.bad_step (by rw [h]; exact hn), h, List.drop_drop]
theorem pts_at_stop {s : ByteArray} {k p : Nat} (h : Utf.one (s.data.toList.drop k) = (p, 0)) : Utf.pts (s.data.toList.drop k) = [] := Utf.pts_stop (by rw [h])
theorem pts_at_step {s : ByteArray} {k p n : Nat} (h : Utf.one (s.data.toList.drop k) = (p, n)) (hn : n ≠ 0) : Utf.pts (s.data.toList.drop k) = p :: Utf.pts (s.data.toList.drop (k + n)) := by
  rw [Utf.pts_step (by rw [h]; exact hn), h, List.drop_drop]
theorem drop_end {s : ByteArray} {k : Nat} (h : ¬ k < s.size) : s.data.toList.drop k = [] := List.drop_of_length_le (by simp; omega)

theorem el_i64 : El 61 2 (.int .i64 0) 8 := ⟨Tryd.underlying61, by kernel_rfl, rfl⟩
def pvs (l : List Nat) : List Value := l.map fun (p : Nat) => .int .i64 p
theorem pvs_len (l : List Nat) : (pvs l).length = l.length := by simp [pvs]
theorem pvs_app (a b : List Nat) : pvs (a ++ b) = pvs a ++ pvs b := by simp [pvs]
/-- The slice v holds the points l. -/
def Ps (w : World) (base : Nat) (v : Value) (l : List Nat) : Prop := Row w base 2 v (pvs l)
theorem wpl_ps_lit {ops : Array Oper} {rest : List Oper} {o : Oper} {a : Act} {w : World} {Q : Exit → Act → World → Prop} {cs : Array Value}
    (hgd : o.guard = none) (s x : Operand) (ho : o.op = .call { callee := .builtin .append, args := #[s, x], argTypes := #[61, 61] })
    (w0 : World) (hfr : Fr w0 w) (v : Value) (l : List Nat) (hs : a.eval s = v) (hown : Ps w w0.heap.size v l)
    (p : Nat) (hx : a.eval x = .slice (some ⟨w.heap.size, 0, none⟩) 1 1) (hcs : cs = #[.int .i64 p]) (h63 : (l.length + 1) * 8 ≤ 140737488355328)
    (h : ∀ v' w', Ps w' w0.heap.size v' (l ++ [p]) → Fr w0 w' → wpList Tryd.prog ops Q rest (a.put o.dst v') w') :
    wpList Tryd.prog ops Q (o :: rest) a (w.alloc (.cells cs 2)) := by
  subst hcs
  exact wpl_app_lit el_i64 hgd s x ho w0 hfr v (pvs l) hs hown [.int .i64 p] hx (by intro u hu; simp at hu; subst hu; rfl) (by rw [pvs_len]; simp; omega) (by rw [pvs_len]; simpa using h63)
    fun v' w' h3 h4 => h v' w' (by unfold Ps; rw [pvs_app]; exact h3) h4

set_option maxHeartbeats 1000000 in
set_option maxRecDepth 100000 in
/-- The document's Points: of texts not too great. -/
theorem points_is (s : ByteArray) (w : World) (hs : s.size ≤ 17592186044415) :
    Calls Tryd.prog 31 #[.string s] w fun e w' => ∃ v, e = .returned (.tuple #[v, .int .i64 (Utf.bad s.data.toList)]) ∧ Ps w' w.heap.size v (Utf.pts s.data.toList) ∧ Fr w w' := by
  have hsm : Hid (s.size ≤ maxLen) := by show _ ≤ _; unfold maxLen; omega
  go_enter Tryd.func31, Tryd.ntmps31
  go_wp2_with fail
  go_loopw [4, 5] (fun v j wr => ∃ (k : Nat) (l : List Nat), k ≤ s.size ∧ j = .int .i64 k ∧ Hid (Utf.bad s.data.toList = k + Utf.bad (s.data.toList.drop k)) ∧ Hid (Utf.pts s.data.toList = l ++ Utf.pts (s.data.toList.drop k)) ∧ l.length ≤ k ∧ Hid (Ps wr w.heap.size v l) ∧ Hid (Fr w wr)) (fun _ j _ => s.size - (intOf j).toNat)
  case atStart => exact ⟨0, [], by omega, rfl, by show _ = _; simp, by show _ = _; simp, by simp, Lib.hid (Row.none_ _ _ _), Lib.hid (Fr.refl _)⟩
  case round =>
    obtain ⟨k, l, hk, rfl, he, hp, hl, hps, hfr⟩ := hrel
    by_cases hlt : k < s.size
    · obtain ⟨p, n, ho, hle, hpp⟩ := one_at hlt
      have HO := Lib.hid ho
      clear ho
      by_cases hn : n = 0
      · subst hn
        have hb := Lib.hid (bad_at_stop HO.out)
        have hb2 := Lib.hid (pts_at_stop HO.out)
        go_wp2_with (go_at_call 27; refine (rone_is s k p 0 _ hsm.out hlt HO.out).mono ?_; rintro e w1 ⟨rfl, hf1⟩)
        go_ret2
        refine ⟨_, by rw [he.out, hb.out]; rfl, ?_, hfr.out.trans hf1⟩
        rw [hp.out, hb2.out, List.append_nil]
        exact Row.keep hps.out hf1
      · have hb := Lib.hid (bad_at_step HO.out hn)
        have hb2 := Lib.hid (pts_at_step HO.out hn)
        have e0 : ((n : Int) == 0) = false := by rw [beq_eq_false_iff_ne]; omega
        go_wp2_with (first
          | (go_at_call 27; refine (rone_is s k p n _ hsm.out hlt HO.out).mono ?_; rintro e w1 ⟨rfl, hf1⟩; have HF1 := Lib.hid hf1; clear hf1)
          | (at_builtin; refine wpl_ps_lit rfl (.tmp 22) (.tmp 24) rfl w (hfr.out.trans HF1.out) _ l rfl (Row.keep hps.out HF1.out) p rfl rfl (by omega) ?_; intro v' w2 hps2 hfr2; have HP2 := Lib.hid hps2; have HF2 := Lib.hid hfr2; clear hps2 hfr2))
        refine ⟨⟨k + n, l ++ [p], hle, by go_num, by show _ = _; rw [he.out, hb.out]; omega, by show _ = _; rw [hp.out, hb2.out]; simp, by simp; omega, HP2, HF2⟩, by simp [intOf]; omega⟩
    · have hb : Hid (Utf.bad (s.data.toList.drop k) = 0) := by show _ = _; rw [drop_end hlt]; rfl
      have hb2 : Hid (Utf.pts (s.data.toList.drop k) = []) := by show _ = _; rw [drop_end hlt]; rfl
      go_wp2_with fail
      go_ret2
      refine ⟨_, by rw [he.out, hb.out]; rfl, ?_, hfr.out⟩
      rw [hp.out, hb2.out, List.append_nil]
      exact hps.out

end Go.Proofs.YtmalfecpcdopfaaDoor
