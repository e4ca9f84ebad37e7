/- Walks of ident's small functions: Is, letter, may, and the reference's Is and digit. -/
import Derived.Test.YtfjcgbbphkfkgaaDoorKa
import Derived.Test.YtfjcgbbphkfkgaaDoorIdentP
namespace Go.Proofs.YtfjcgbbphkfkgaaDoor
set_option linter.unusedVariables false
set_option linter.unusedSimpArgs false
open Go.RowKit

theorem okc_cases (c : UInt8) : (Idn.okc c = true ∧ ((97 ≤ (c.toNat : Int) ∧ (c.toNat : Int) ≤ 122) ∨ (65 ≤ (c.toNat : Int) ∧ (c.toNat : Int) ≤ 90) ∨ (48 ≤ (c.toNat : Int) ∧ (c.toNat : Int) ≤ 57) ∨ (c.toNat : Int) = 45 ∨ (c.toNat : Int) = 95))
    ∨ (Idn.okc c = false ∧ ((c.toNat : Int) < 45 ∨ (45 < (c.toNat : Int) ∧ (c.toNat : Int) < 48) ∨ (57 < (c.toNat : Int) ∧ (c.toNat : Int) < 65) ∨ (90 < (c.toNat : Int) ∧ (c.toNat : Int) < 95) ∨ (c.toNat : Int) = 96 ∨ 122 < (c.toNat : Int))) := by
  cases h : Idn.okc c
  · right; refine ⟨rfl, ?_⟩; have := Idn.okc_false h; omega
  · left; refine ⟨rfl, ?_⟩; have := Idn.okc_true h; omega

theorem all_drop (l : List UInt8) (k : Nat) (h : k < l.length) : (l.drop k).all Idn.okc = (Idn.okc l[k] && (l.drop (k + 1)).all Idn.okc) := by
  rw [Nm.drop_cons l k h, List.all_cons]

set_option maxHeartbeats 1000000 in
theorem is_id_any (s : ByteArray) (w : World) (hs : s.size ≤ maxLen) :
    Calls Tryd.prog 50 #[.string s] w fun e w' => e = .returned (.bool (Idn.isId s.data.toList)) ∧ w = w' := by
  unfold maxLen at hs
  have hl : s.data.toList.length = s.size := by simp
  by_cases h1 : s.size < 1
  · have hr : Hid (Idn.isId s.data.toList = false) := by show _ = _; simp [Idn.isId, hl]; omega
    clear hl
    go_enter Tryd.func50, Tryd.ntmps50
    go_wp2
    go_ret
    exact ⟨by rw [hr.out]; rfl, rfl⟩
  · by_cases h2 : 255 < s.size
    · have hr : Hid (Idn.isId s.data.toList = false) := by show _ = _; simp [Idn.isId, hl]; omega
      clear hl
      go_enter Tryd.func50, Tryd.ntmps50
      go_wp2
      go_ret
      exact ⟨by rw [hr.out]; rfl, rfl⟩
    · have hr : Hid (Idn.isId s.data.toList = (s.data.toList.drop 0).all Idn.okc) := by
        show _ = _
        rw [List.drop_zero]
        unfold Idn.isId
        rw [hl, decide_eq_true (by omega : 1 ≤ s.size), decide_eq_true (by omega : s.size ≤ 255)]
        rfl
      clear hl
      have h1' : 1 ≤ s.size := by omega
      have h2' : s.size ≤ 255 := by omega
      have hd1 : decide ((s.size : Int) < 1) = false := decide_eq_false (by omega)
      have hd2 : decide ((255 : Int) < (s.size : Int)) = false := decide_eq_false (by omega)
      clear h1 h2
      go_enter Tryd.func50, Tryd.ntmps50
      go_wp2
      go_loop [15] (fun i => ∃ k : Nat, k ≤ s.size ∧ i = .int .i64 k ∧ Hid ((s.data.toList.drop 0).all Idn.okc = (s.data.toList.drop k).all Idn.okc)) (fun i => s.size - (intOf i).toNat)
      case atStart => exact ⟨0, by omega, rfl, rfl⟩
      case round =>
        obtain ⟨k, hk, rfl, he⟩ := hrel
        by_cases hlt : k < s.size
        · obtain ⟨c, hc⟩ : ∃ c, s[k] = c := ⟨_, rfl⟩
          have hda : Hid ((s.data.toList.drop k).all Idn.okc = (Idn.okc c && (s.data.toList.drop (k + 1)).all Idn.okc)) := by
            show _ = _
            rw [all_drop _ k (by simpa using hlt), ← hc]; rfl
          rcases okc_cases c with ⟨ho, hcs⟩ | ⟨ho, hcs⟩
          · have hn : Hid ((s.data.toList.drop 0).all Idn.okc = (s.data.toList.drop (k + 1)).all Idn.okc) := by show _ = _; rw [he.out, hda.out, ho]; rfl
            clear ho hda he
            rcases hcs with ⟨h1, h2⟩ | ⟨h1, h2⟩ | ⟨h1, h2⟩ | h1 | h1
            · go_wp2
              exact ⟨⟨k + 1, by omega, by go_num, hn⟩, by simp [intOf]; omega⟩
            · go_wp2
              exact ⟨⟨k + 1, by omega, by go_num, hn⟩, by simp [intOf]; omega⟩
            · go_wp2
              exact ⟨⟨k + 1, by omega, by go_num, hn⟩, by simp [intOf]; omega⟩
            · have hx : ((c.toNat : Int) == 45) = true := by rw [beq_iff_eq]; exact h1
              have ha : (c.toNat : Int) < 48 := by omega
              clear h1
              go_wp2
              exact ⟨⟨k + 1, by omega, by go_num, hn⟩, by simp [intOf]; omega⟩
            · have hx : ((c.toNat : Int) == 95) = true := by rw [beq_iff_eq]; exact h1
              have hx2 : ((c.toNat : Int) == 45) = false := by rw [beq_eq_false_iff_ne]; omega
              have ha : (90 : Int) < c.toNat := by omega
              have hb : (c.toNat : Int) < 97 := by omega
              clear h1
              go_wp2
              exact ⟨⟨k + 1, by omega, by go_num, hn⟩, by simp [intOf]; omega⟩
          · have hn : Hid (Idn.isId s.data.toList = false) := by show _ = _; rw [hr.out, he.out, hda.out, ho]; rfl
            have hx : ((c.toNat : Int) == 45) = false := by rw [beq_eq_false_iff_ne]; omega
            have hx2 : ((c.toNat : Int) == 95) = false := by rw [beq_eq_false_iff_ne]; omega
            clear ho hda he
            rcases hcs with h1 | ⟨h1, h2⟩ | ⟨h1, h2⟩ | ⟨h1, h2⟩ | h1 | h1
            · skip
              go_wp2
              go_ret
              exact ⟨by rw [hn.out]; rfl, rfl⟩
            · skip
              go_wp2
              go_ret
              exact ⟨by rw [hn.out]; rfl, rfl⟩
            · skip
              have d57 : decide ((c.toNat : Int) ≤ 57) = false := decide_eq_false (by omega)
              go_wp2
              go_ret
              exact ⟨by rw [hn.out]; rfl, rfl⟩
            · skip
              have d57 : decide ((c.toNat : Int) ≤ 57) = false := decide_eq_false (by omega)
              have d90 : decide ((c.toNat : Int) ≤ 90) = false := decide_eq_false (by omega)
              go_wp2
              go_ret
              exact ⟨by rw [hn.out]; rfl, rfl⟩
            · have ha : (90 : Int) < c.toNat := by omega
              have hb : (c.toNat : Int) < 97 := by omega
              have d57 : decide ((c.toNat : Int) ≤ 57) = false := decide_eq_false (by omega)
              have d90 : decide ((c.toNat : Int) ≤ 90) = false := decide_eq_false (by omega)
              clear h1
              go_wp2
              go_ret
              exact ⟨by rw [hn.out]; rfl, rfl⟩
            · skip
              have d57 : decide ((c.toNat : Int) ≤ 57) = false := decide_eq_false (by omega)
              have d90 : decide ((c.toNat : Int) ≤ 90) = false := decide_eq_false (by omega)
              have d122 : decide ((c.toNat : Int) ≤ 122) = false := decide_eq_false (by omega)
              go_wp2
              go_ret
              exact ⟨by rw [hn.out]; rfl, rfl⟩
        · have hn : Hid (Idn.isId s.data.toList = true) := by show _ = _; rw [hr.out, he.out, List.drop_of_length_le (by simp; omega)]; rfl
          go_wp2
          go_ret
          exact ⟨by rw [hn.out]; rfl, rfl⟩

end Go.Proofs.YtfjcgbbphkfkgaaDoor
