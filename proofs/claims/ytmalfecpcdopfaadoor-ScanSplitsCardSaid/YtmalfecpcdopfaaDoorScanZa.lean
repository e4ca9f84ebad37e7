/- Walk of the law ScanKeeps. -/
import Derived.Test.YtmalfecpcdopfaaDoorScanL
import Derived.Laws.AppendOwnNone
namespace Go.Proofs.YtmalfecpcdopfaaDoor
set_option linter.unusedVariables false
set_option linter.unusedSimpArgs false
open Go.RowKit

/-- The texts in a row of tokens may be written. -/
def Sp (w : World) (g n : Nat) : Prop := g < w.heap.size ∧ ∀ i, i < n → (∃ u, w.cell? ⟨g, i * 4 + 2, none⟩ = some u) ∧ w.frozen? ⟨g, i * 4 + 2, none⟩ = false
theorem Sp.keep {w w' : World} {g n : Nat} (h : Sp w g n) (hf : Fr w w') : Sp w' g n :=
  ⟨Nat.lt_of_lt_of_le h.1 hf.size, fun i hi => ⟨by rw [hf.cell h.1]; exact (h.2 i hi).1, by rw [hf.frozen h.1]; exact (h.2 i hi).2⟩⟩
theorem Sp.store {w : World} {g n : Nat} (h : Sp w g n) (j : Nat) (u : Value) : Sp (w.setCell ⟨g, j, none⟩ u) g n := by
  refine ⟨by simpa using h.1, fun i hi => ⟨?_, by rw [World.frozen?_setCell]; exact (h.2 i hi).2⟩⟩
  obtain ⟨x, hx⟩ := (h.2 i hi).1
  by_cases hj : i * 4 + 2 = j
  · subst hj; exact ⟨u, by rw [World.cell?_setCell_same _ _ _ hx]⟩
  · exact ⟨x, by rw [World.cell?_setCell_other _ _ _ _ (by intro hh; exact hj (Addr.mk.inj hh).2.1.symm)]; exact hx⟩
theorem Tks.sp {w : World} {b : Nat} {v : Value} {ts : List Scn.Tok} (h : Tks w b v ts) : ∃ a c, v = .slice a ts.length c ∧ (ts ≠ [] → ∃ g, a = some ⟨g, 0, none⟩ ∧ b ≤ g ∧ Sp w g ts.length) := by
  rcases h.2 with ⟨hv, hn⟩ | ⟨g, cap, cur, rfl, hb, hg, hc, hm, hs, ht⟩
  · rw [List.eq_nil_of_length_eq_zero hn]; exact ⟨_, _, hv, fun h => absurd rfl h⟩
  · refine ⟨_, _, rfl, fun _ => ⟨g, rfl, hb, (Array.getElem?_eq_some_iff.1 hg).1, fun i hi => ⟨?_, by simp [World.frozen?, hg]⟩⟩⟩
    rcases h.form with ⟨hx, _⟩ | ⟨g', cap', hx, _, _, hcells⟩
    · cases hx
    · cases hx
      exact ⟨_, (hcells i hi).2.2.1⟩
theorem tks_apart {w : World} {g b j : Nat} {v u : Value} {ts : List Scn.Tok} (h : Tks w b v ts) (hg : g < b) : Tks (w.setCell ⟨g, j, none⟩ u) b v ts := by
  refine ⟨h.1, ?_⟩
  rcases h.2 with hn | ⟨g', cap, cur, rfl, hb, hg', rest⟩
  · exact .inl hn
  · exact .inr ⟨g', cap, cur, rfl, hb, by rw [Below.heap_setCell _ _ _ _ (by simp; omega)]; exact hg', rest⟩

set_option maxHeartbeats 4000000 in
set_option maxRecDepth 100000 in
theorem keeps_law (s : ByteArray) (w : World) (hs : s.size ≤ 140737488355328) (hT : LowTabs w) :
    Calls Tryd.prog 7 #[.string s] w fun e w' => e = .returned (.bool true) ∧ Fr w w' := by
  rcases h : Scn.tokens s.data.toList with ⟨ts, p, x⟩
  have hlen : ts.length ≤ s.size := by
    have := Scn.tokens_len s.data.toList
    rw [h] at this
    simpa using this
  have H := Lib.hid h
  have HT := Lib.hid hT
  obtain ⟨n, hn⟩ : ∃ n, ts.length = n := ⟨_, rfl⟩
  rw [hn] at hlen
  have HN := Lib.hid hn
  have HLT : Hid (ts.length ≤ 140737488355328) := by show _ ≤ _; omega
  clear h hT hn
  go_enter Tryd.func7, Tryd.ntmps7
  go_wp2_with (first
    | (go_at_call 8; have hm := HF1.out; refine (tokens_at s ts p x _ (by omega) (HT.out.keep hm) H.out).mono ?_; rintro e w2 ⟨v2, rfl, ht, hf⟩; obtain ⟨a2, k2, rfl, ha2⟩ := ht.sp; have HV2 := Lib.hid ht; rw [HN.out] at HV2 ⊢; have HA2 : Hid (ts ≠ [] → ∃ g, a = some ⟨g, 0, none⟩ ∧ w.heap.size ≤ g ∧ g < w1.heap.size ∧ Sp w2 g n) := (fun hne => (HA.out hne).elim fun g h => ⟨g, h.1, h.2.1, h.2.2.1, h.2.2.keep hf⟩); have HF2 := Lib.hid (hm.trans hf); clear hf ht ha2 hm)
    | (go_at_call 8; refine (tokens_at s ts p x _ (by omega) HT.out H.out).mono ?_; rintro e w1 ⟨v1, rfl, ht, hf⟩; obtain ⟨a, c, rfl, ha⟩ := ht.sp; rw [HN.out] at ha ⊢; have HF1 := Lib.hid hf; have HA := Lib.hid ha; clear hf ht ha)
    | (go_at_call 10; refine (awake04 _ (HT.out.keep HF2.out)).mono ?_; rintro e w3 ⟨rfl, hf⟩; have HF3 := Lib.hid (HF2.out.trans hf); have HV3 := Lib.hid (HV2.out.keep hf); have HA3 : Hid (ts ≠ [] → ∃ g, a = some ⟨g, 0, none⟩ ∧ w.heap.size ≤ g ∧ g < w1.heap.size ∧ Sp w3 g n) := (fun hne => (HA2.out hne).elim fun g h => ⟨g, h.1, h.2.1, h.2.2.1, h.2.2.2.keep hf⟩); clear hf))
  go_loopw [9] (fun j wr => ∃ i : Nat, i ≤ n ∧ j = .int .i64 i ∧ Hid (Fr w wr) ∧ Hid (Tks wr w1.heap.size (.slice a2 n k2) ts) ∧ Hid (ts ≠ [] → ∃ g, a = some ⟨g, 0, none⟩ ∧ w.heap.size ≤ g ∧ g < w1.heap.size ∧ Sp wr g n)) (fun j _ => n - (intOf j).toNat)
  case atStart => exact ⟨0, by omega, rfl, HF3, HV3, HA3⟩
  case round =>
    obtain ⟨i, hi, rfl, hfr, hv, ha⟩ := hrel
    by_cases hlt : i < n
    · obtain ⟨g, hg, hb1, hb2, hsp⟩ := ha.out (by intro h; have := HN.out; rw [h] at this; simp at this; omega)
      subst hg
      obtain ⟨⟨u, hu⟩, hz⟩ := hsp.2 i hlt
      have b3 : (0 : Int) ≤ (i : Int) := by omega
      have b4 : (i : Int) < (n : Int) := by omega
      have HSP := Lib.hid hsp
      clear hsp
      go_wp2_with fail
      exact ⟨⟨i + 1, by omega, by go_num, Lib.hid (hfr.out.setCell hb1 _), Lib.hid (tks_apart hv.out hb2), Lib.hid (fun _ => ⟨g, rfl, hb1, hb2, HSP.out.store _ _⟩)⟩, by simp [intOf]; omega⟩
    · obtain rfl : i = n := by omega
      clear ha hlt
      go_wp2_with (first
        | (go_at_call 8; refine (tokens_at s ts p x _ (by omega) (HT.out.keep hfr.out) H.out).mono ?_; rintro e w5 ⟨v5, rfl, ht, hf⟩; have HV5 := Lib.hid ht; have HV6 := Lib.hid (hv.out.keep hf); have HF5 := Lib.hid (hfr.out.trans hf); clear hf ht)
        | (go_at_call 11; refine (rsame_yes true ts ts _ _ _ _ _ (alike_refl _ _) HV6.out HV5.out HLT.out).mono ?_; rintro e w7 ⟨rfl, hf⟩; have HF7 := Lib.hid (HF5.out.trans hf); clear hf))
      go_ret
      exact ⟨rfl, HF7.out⟩
end Go.Proofs.YtmalfecpcdopfaaDoor
/- append of a row of tokens; tokens that are set further on. -/
namespace Go.Proofs.YtmalfecpcdopfaaDoor
set_option linter.unusedVariables false
set_option linter.unusedSimpArgs false
open Go.RowKit

theorem tkC_one (ts : List Scn.Tok) : ∀ u ∈ tkC ts, u.oneCell' = true := by
  intro u hu
  simp only [tkC, List.mem_flatMap] at hu
  obtain ⟨t, _, h⟩ := hu
  exact tkV_one t u h
theorem TkAt.cells {w : World} {g : Nat} {ts : List Scn.Tok} (h : TkAt w g ts) : ∀ j u, (tkC ts)[j]? = some u → w.cell? ⟨g, j, none⟩ = some u := by
  intro j u hu
  have hj : j < ts.length * 4 := by
    rcases Nat.lt_or_ge j (tkC ts).length with h | h
    · rwa [tkC_len] at h
    · rw [List.getElem?_eq_none h] at hu; cases hu
  have hi : j / 4 < ts.length := by omega
  have e : j = j / 4 * 4 + j % 4 := by omega
  rw [e] at hu ⊢
  have hr : j % 4 < 4 := by omega
  rw [tkC_at ts (j / 4) hi (j % 4) hr] at hu
  obtain ⟨a, b, c, d⟩ := h.2 (j / 4) hi
  rcases (by omega : j % 4 = 0 ∨ j % 4 = 1 ∨ j % 4 = 2 ∨ j % 4 = 3) with h | h | h | h <;> rw [h] at hu ⊢ <;> simp [tkV] at hu <;> subst hu <;> assumption

/-- append of a row of tokens, behind a guard that says yes. -/
theorem wpl_tks {ops : Array Oper} {rest : List Oper} {o : Oper} {a : Act} {w : World} {Q : Exit → Act → World → Prop}
    (s x : Operand) (ho : o.op = .call { callee := .builtin .append, args := #[s, x], argTypes := #[22, 22] })
    (hwd : Region.wanted o (yielded ops a.tmps) = true)
    (w0 : World) (hfr : Fr w0 w) (v : Value) (ts : List Scn.Tok) (hs : a.eval s = v) (hown : Tks w w0.heap.size v ts)
    (us : List Scn.Tok) (ad : Option Addr) (n c : Nat) (hx : a.eval x = .slice ad n c) (hn : n = us.length) (had : us ≠ [] → ∃ g, ad = some ⟨g, 0, none⟩ ∧ TkAt w g us) (hnil : us = [] → ad = none ∧ c = 0 ∨ ∃ g, ad = some ⟨g, 0, none⟩) (h63 : (ts.length + us.length) * 40 ≤ 140737488355328)
    (h : ∀ v' w', Tks w' w0.heap.size v' (ts ++ us) → Fr w0 w' → w.grownBy w' v.ownBlock → wpList Tryd.prog ops Q rest (a.put o.dst v') w') :
    wpList Tryd.prog ops Q (o :: rest) a w := by
  obtain ⟨i, hi, hz, hsz, hby⟩ := info_parts tk_info
  subst hn
  refine wpList_step fun K hK => ?_
  rw [if_pos hwd]
  have main : ∃ v' w', (Builtin.append_ #[22, 22] o.type #[v, .slice ad us.length c]).run Tryd.prog w = .ok v' w' ∧ Tks w' w0.heap.size v' (ts ++ us) ∧ Fr w0 w' ∧ w.grownBy w' v.ownBlock := by
    have some_case : ∀ g, ad = some ⟨g, 0, none⟩ → (∀ j u, (tkC us)[j]? = some u → w.cell? ⟨g, j, none⟩ = some u) → ∃ v' w', (Builtin.append_ #[22, 22] o.type #[v, .slice ad us.length c]).run Tryd.prog w = .ok v' w' ∧ Tks w' w0.heap.size v' (ts ++ us) ∧ Fr w0 w' ∧ w.grownBy w' v.ownBlock := by
      intro g hg hcells
      subst hg
      obtain ⟨v', w', hr, h2, h3, _, _⟩ := run_append_own_at (P := Tryd.prog) w w0.heap.size 22 o.type 34 i _ 4 40 Tryd.underlying22 hi hz hsz hby rfl (by omega) v ts.length (tkC ts) hown ⟨g, 0, none⟩ us.length c (tkC us) (tkC_len us) (by
        intro j u hu
        have e1 : (Addr.mk g 0 none).add j = ⟨g, j, none⟩ := by
          by_cases h0 : j = 0
          · subst h0; simp [Addr.add]
          · simp [Addr.add, h0]
        rw [e1]
        exact hcells j u hu) (tkC_one us) (by unfold maxLen; omega) h63 hfr.size
      refine ⟨v', w', hr, ?_, Below.grown hfr h3 hfr.size (fun k hk => (World.ownsRow.lt hown k hk).1), h3⟩
      unfold Tks
      rw [tkC_app, List.length_append]
      exact h2
    by_cases hne : us = []
    · rcases hnil hne with ⟨rfl, rfl⟩ | ⟨g, hg⟩
      · subst hne
        exact ⟨v, w, run_append_owned_none (P := Tryd.prog) (w := w) w0.heap.size 22 o.type 34 i 4 Tryd.underlying22 hi v ts.length (tkC ts) hown, by rw [List.append_nil]; exact hown, hfr, ⟨rfl, rfl, rfl, Nat.le_refl _, fun _ _ _ => rfl⟩⟩
      · exact some_case g hg (by subst hne; intro j u hu; simp [tkC] at hu)
    · obtain ⟨g, hg, hat⟩ := had hne
      exact some_case g hg hat.cells
  obtain ⟨v', w', hr, h2, h3, h4⟩ := main
  unfold Oper.wp execOp
  simp only [ho, resolve, invoke, builtin, Sem.run_bind, Sem.run_pure, Result.andThen_ok, List.map_toArray, List.map_cons, List.map_nil, hs, hx, hr]
  exact hK _ _ (h v' w' h2 h3 h4)

/-- Another row of tokens, behind a growth. -/
theorem Tks.grown {w w' : World} {row : Option Nat} {b : Nat} {v : Value} {ts : List Scn.Tok} (h : Tks w b v ts) (hg : w.grownBy w' row) (hr : ∀ k, row = some k → k < b) : Tks w' b v ts := by
  refine ⟨h.1, ?_⟩
  rcases h.2 with hn | ⟨g, cap, cur, rfl, hb, hgg, rest⟩
  · exact .inl hn
  · exact .inr ⟨g, cap, cur, rfl, hb, by rw [hg.block g (Array.getElem?_eq_some_iff.1 hgg).1 (fun e => by have := hr g e.symm; omega)]; exact hgg, rest⟩
/-- The first i tokens are set further on. -/
def upd (m i : Nat) (us : List Scn.Tok) : List Scn.Tok := (us.take i).map (Scn.shTok m) ++ us.drop i
theorem upd_len (m i : Nat) (us : List Scn.Tok) : (upd m i us).length = us.length := by simp [upd]; omega
theorem upd_zero (m : Nat) (us : List Scn.Tok) : upd m 0 us = us := by simp [upd]
theorem upd_all (m : Nat) (us : List Scn.Tok) : upd m us.length us = us.map (Scn.shTok m) := by simp [upd]
theorem upd_at (m i : Nat) (us : List Scn.Tok) (h : i < us.length) (h2 : i < (upd m i us).length) : (upd m i us)[i] = us[i] := by
  rw [← Option.some_inj, ← List.getElem?_eq_getElem h2, ← List.getElem?_eq_getElem h]
  unfold upd
  rw [List.getElem?_append_right (by simp; omega)]
  simp only [List.length_map, List.length_take, List.getElem?_drop]
  congr 1
  omega
theorem upd_next (m i : Nat) (us : List Scn.Tok) (h : i < us.length) (j : Nat) (hj : j < (upd m (i + 1) us).length) (hj2 : j < (upd m i us).length) : (upd m (i + 1) us)[j] = if j = i then Scn.shTok m us[i] else (upd m i us)[j] := by
  rw [← Option.some_inj, ← List.getElem?_eq_getElem hj]
  split
  · rename_i e
    subst e
    unfold upd
    rw [List.getElem?_append_left (by simp; omega)]
    simp [List.getElem?_take, List.getElem?_eq_getElem h]
  · rename_i e
    rw [← List.getElem?_eq_getElem hj2]
    unfold upd
    rcases Nat.lt_or_ge j i with hlt | hge
    · rw [List.getElem?_append_left (by simp; omega), List.getElem?_append_left (by simp; omega)]
      simp [List.getElem?_take, hlt, Nat.lt_succ_of_lt hlt]
    · rw [List.getElem?_append_right (by simp; omega), List.getElem?_append_right (by simp; omega)]
      simp only [List.length_map, List.length_take, List.getElem?_drop]
      congr 1
      omega
theorem TkAt.upd {w : World} {g m i : Nat} {us : List Scn.Tok} (h : TkAt w g (upd m i us)) (hi : i < us.length) : TkAt (w.setCell ⟨g, i * 4 + 3, none⟩ (.int .i64 ((us[i].at_ + m : Nat) : Int))) g (Go.Proofs.YtmalfecpcdopfaaDoor.upd m (i + 1) us) := by
  refine ⟨by simpa using h.1, fun j hj => ?_⟩
  have hj' : j < us.length := by rwa [upd_len] at hj
  have hj2 : j < (Go.Proofs.YtmalfecpcdopfaaDoor.upd m i us).length := by rw [upd_len]; exact hj'
  obtain ⟨a, b, c, d⟩ := h.2 j hj2
  rw [upd_next m i us hi j hj hj2]
  by_cases e : j = i
  · subst e
    rw [if_pos rfl]
    rw [upd_at m j us hi hj2] at a b c
    refine ⟨?_, ?_, ?_, ?_⟩
    · rw [World.cell?_setCell_other _ _ _ _ (by simp)]; exact a
    · rw [World.cell?_setCell_other _ _ _ _ (by simp)]; exact b
    · rw [World.cell?_setCell_other _ _ _ _ (by simp)]; exact c
    · rw [World.cell?_setCell_same _ _ _ d]; rfl
  · rw [if_neg e]
    refine ⟨?_, ?_, ?_, ?_⟩
    · rw [World.cell?_setCell_other _ _ _ _ (by intro hh; have := (Addr.mk.inj hh).2.1; omega)]; exact a
    · rw [World.cell?_setCell_other _ _ _ _ (by intro hh; have := (Addr.mk.inj hh).2.1; omega)]; exact b
    · rw [World.cell?_setCell_other _ _ _ _ (by intro hh; have := (Addr.mk.inj hh).2.1; omega)]; exact c
    · rw [World.cell?_setCell_other _ _ _ _ (by intro hh; have := (Addr.mk.inj hh).2.1; omega)]; exact d
/-- A row of tokens that may be written. -/
theorem Tks.free {w : World} {b : Nat} {v : Value} {ts : List Scn.Tok} (h : Tks w b v ts) : ∃ a c, v = .slice a ts.length c ∧ (ts = [] → a = none ∧ c = 0 ∨ ∃ g, a = some ⟨g, 0, none⟩) ∧ (ts ≠ [] → ∃ g, a = some ⟨g, 0, none⟩ ∧ b ≤ g ∧ TkAt w g ts ∧ ∀ j, w.frozen? ⟨g, j, none⟩ = false) := by
  rcases h.2 with ⟨hv, hn⟩ | ⟨g, cap, cur, rfl, hb, hg, hc, hm, hs, ht⟩
  · have := List.eq_nil_of_length_eq_zero hn
    subst this
    exact ⟨_, _, hv, fun _ => .inl ⟨rfl, rfl⟩, fun h => absurd rfl h⟩
  · refine ⟨_, _, rfl, fun _ => .inr ⟨g, rfl⟩, fun _ => ⟨g, rfl, hb, ?_, fun j => by simp [World.frozen?, hg]⟩⟩
    rcases h.form with ⟨hx, _⟩ | ⟨g', cap', hx, _, hlt, hcells⟩
    · cases hx
    · cases hx
      exact ⟨hlt, hcells⟩
theorem tokens_split {s t : List UInt8} {ts us : List Scn.Tok} {p q y : Nat} (h : Scn.tokens s = (ts, p, 0)) (h2 : Scn.tokens t = (us, q, y)) (hs : s.length ≤ 30000) (ht : t.length ≤ 30000) :
    Scn.tokens (s ++ 32 :: t) = if y = 0 then (ts ++ us.map (Scn.shTok (s.length + 1)), 0, 0) else ([], q + (s.length + 1), y) := by
  rw [Scn.tokens_short (by omega)] at h h2
  rw [Scn.tokens_short (by simp; omega), Scn.tk_split (g := 32) rfl (by rw [h]), h, h2]
end Go.Proofs.YtmalfecpcdopfaaDoor
/- Walk of the law ScanSplits. -/
namespace Go.Proofs.YtmalfecpcdopfaaDoor
set_option linter.unusedVariables false
set_option linter.unusedSimpArgs false
open Go.RowKit

set_option maxHeartbeats 4000000 in
set_option maxRecDepth 100000 in
theorem splits_out (s t : ByteArray) (w : World) (hs : s.size ≤ 140737488355328) (hs2 : t.size ≤ 140737488355328) (hT : LowTabs w) (ts : List Scn.Tok) (p x : Nat) (h : Scn.tokens s.data.toList = (ts, p, x)) (ho : x ≠ 0 ∨ 30000 < s.size ∨ 30000 < t.size) :
    Calls Tryd.prog 5 #[.string s, .string t] w fun e w' => e = .returned (.bool true) ∧ Fr w w' := by
  have H := Lib.hid h
  have HT := Lib.hid hT
  clear h hT
  have hc : ((x : Int) != 0) = true ∨ (((x : Int) != 0) = false ∧ decide ((30000 : Int) < (s.size : Int)) = true) ∨ (((x : Int) != 0) = false ∧ decide ((30000 : Int) < (s.size : Int)) = false ∧ decide ((30000 : Int) < (t.size : Int)) = true) := by
    by_cases h0 : x = 0
    · have e0 : ((x : Int) != 0) = false := by rw [bne_eq_false_iff_eq]; omega
      by_cases h1 : 30000 < s.size
      · exact .inr (.inl ⟨e0, decide_eq_true (by omega)⟩)
      · exact .inr (.inr ⟨e0, decide_eq_false (by omega), decide_eq_true (by omega)⟩)
    · left; rw [bne_iff_ne]; omega
  clear ho
  rcases hc with h1 | ⟨h1, h2⟩ | ⟨h1, h2, h3⟩
  all_goals
    go_enter Tryd.func5, Tryd.ntmps5
    go_wp2_with (first
      | (go_at_call 8; refine (tokens_at s ts p x _ (by omega) HT.out H.out).mono ?_; rintro e w1 ⟨v1, rfl, ht, hf⟩; have HF1 := Lib.hid hf; clear hf ht)
      | (go_at_call 10; have hm := HF3.out; refine (awake04 _ (HT.out.keep hm)).mono ?_; rintro e w5 ⟨rfl, hf⟩; have HF5 := Lib.hid (hm.trans hf); clear hf hm)
      | (go_at_call 10; refine (awake04 _ (HT.out.keep HF1.out)).mono ?_; rintro e w3 ⟨rfl, hf⟩; have HF3 := Lib.hid (HF1.out.trans hf); clear hf))
    go_ret
    exact ⟨rfl, HF5.out⟩

set_option maxHeartbeats 4000000 in
set_option maxRecDepth 100000 in
theorem splits_in (s t : ByteArray) (w : World) (hs : s.size ≤ 30000) (hs2 : t.size ≤ 30000) (hT : LowTabs w) (ts : List Scn.Tok) (p : Nat) (h : Scn.tokens s.data.toList = (ts, p, 0)) :
    Calls Tryd.prog 5 #[.string s, .string t] w fun e w' => e = .returned (.bool true) ∧ Fr w w' := by
  rcases h2 : Scn.tokens t.data.toList with ⟨us, q, y⟩
  have hl : s.data.toList.length = s.size := by simp
  have hl2 : t.data.toList.length = t.size := by simp
  have hsp := tokens_split h h2 (by rw [hl]; exact hs) (by rw [hl2]; exact hs2)
  have hlen : ts.length ≤ s.size := by
    have := Scn.tokens_len s.data.toList
    rw [h] at this
    simpa using this
  have hlen2 : us.length ≤ t.size := by
    have := Scn.tokens_len t.data.toList
    rw [h2] at this
    simpa using this
  have hq : q ≤ t.size := by
    by_cases hy : y = 0
    · subst hy; have := (tokens_ok h2).1; omega
    · have := (tokens_bad h2 hy).2; simpa using this
  have HE : Hid ((s ++ ⟨#[32]⟩ ++ t).data.toList = s.data.toList ++ 32 :: t.data.toList) := by show _ = _; rw [data_app, data_app]; simp
  have H := Lib.hid h
  have H2 := Lib.hid h2
  have HT := Lib.hid hT
  clear h h2 hT
  have d1 : decide ((30000 : Int) < (s.size : Int)) = false := decide_eq_false (by omega)
  have d2 : decide ((30000 : Int) < (t.size : Int)) = false := decide_eq_false (by omega)
  rw [hl] at hsp
  clear hl hl2
  by_cases hy : y = 0
  · subst hy
    rw [if_pos rfl] at hsp
    have HSP := Lib.hid hsp
    clear hsp
    obtain ⟨n, hn⟩ : ∃ n, us.length = n := ⟨_, rfl⟩
    rw [hn] at hlen2
    have HN := Lib.hid hn
    have HLT : Hid ((ts.length + n) * 40 ≤ 140737488355328) := by show _ ≤ _; omega
    clear hn hlen
    have hz : Hid ((s ++ ⟨#[32]⟩ ++ t).size ≤ 9223372036854775807) := by show _ ≤ _; rw [ByteArray.size_append, ByteArray.size_append]; show s.size + 1 + t.size ≤ _; omega
    go_enter Tryd.func5, Tryd.ntmps5
    go_wp2_with (first
      | (go_at_call 8; have hm := HF3.out; refine (tokens_at _ (ts ++ us.map (Scn.shTok (s.size + 1))) 0 0 _ hz.out (HT.out.keep (HF1.out.trans hm)) (by rw [HE.out]; exact HSP.out)).mono ?_; rintro e w4 ⟨v3, rfl, ht, hf⟩; have HV3 := Lib.hid ht; have HA4 : Hid (us ≠ [] → ∃ g, a2 = some ⟨g, 0, none⟩ ∧ w1.heap.size ≤ g ∧ g < w3.heap.size ∧ (∀ j, w4.frozen? ⟨g, j, none⟩ = false) ∧ TkAt w4 g us) := (fun hne => (HA2.out hne).elim fun g h => ⟨g, h.1, Nat.le_trans HF2.out.size h.2.1, h.2.2.1.1, fun j => by rw [hf.frozen h.2.2.1.1]; exact h.2.2.2 j, h.2.2.1.keep hf⟩); have HF4 := Lib.hid (hm.trans hf); clear hf ht hm)
      | (go_at_call 8; have hm := HF2.out; refine (tokens_at t us q 0 _ (by omega) (HT.out.keep (HF1.out.trans hm)) H2.out).mono ?_; rintro e w3 ⟨v2, rfl, ht, hf⟩; obtain ⟨a2, k2, rfl, hnil, ha2⟩ := ht.free; rw [HN.out]; have HA2 := Lib.hid ha2; have HNIL := Lib.hid hnil; have HF3 := Lib.hid (hm.trans hf); clear hf ht ha2 hnil hm)
      | (go_at_call 8; refine (tokens_at s ts p 0 _ (by omega) HT.out H.out).mono ?_; rintro e w1 ⟨v1, rfl, ht, hf⟩; have HF1 := Lib.hid hf; have HV1 := Lib.hid ht; clear hf ht)
      | (go_at_call 10; refine (awake04 _ (HT.out.keep HF1.out)).mono ?_; rintro e w2 ⟨rfl, hf⟩; have HF2 := Lib.hid hf; clear hf))
    go_loopw [14] (fun j wr => ∃ i : Nat, i ≤ n ∧ j = .int .i64 i ∧ Hid (Fr w1 wr) ∧ Hid (Tks wr w3.heap.size v3 (ts ++ us.map (Scn.shTok (s.size + 1)))) ∧ Hid (us ≠ [] → ∃ g, a2 = some ⟨g, 0, none⟩ ∧ w1.heap.size ≤ g ∧ g < w3.heap.size ∧ (∀ j, wr.frozen? ⟨g, j, none⟩ = false) ∧ TkAt wr g (upd (s.size + 1) i us))) (fun j _ => n - (intOf j).toNat)
    case atStart => exact ⟨0, by omega, rfl, HF4, HV3, by rw [upd_zero]; exact HA4⟩
    case round =>
      obtain ⟨i, hi, rfl, hfr, hv, ha⟩ := hrel
      by_cases hlt : i < n
      · obtain ⟨g, hg, hb1, hb2, hfz, hat⟩ := ha.out (by intro h; have := HN.out; rw [h] at this; simp at this; omega)
        subst hg
        have hit : i < us.length := by rw [HN.out]; exact hlt
        have hit2 : i < (upd (s.size + 1) i us).length := by rw [upd_len]; exact hit
        obtain ⟨_, _, _, c3⟩ := hat.2 i hit2
        rw [upd_at _ i us hit hit2] at c3
        have hA := (tokens_ok H2.out).2.1 us[i] (List.getElem_mem hit)
        have hA1 := hA.1
        have e2 : t.data.toList.length = t.size := by simp
        rw [e2] at hA1
        have HX := Lib.hid (hat.upd hit)
        obtain ⟨A, hAe⟩ : ∃ A, us[i].at_ = A := ⟨_, rfl⟩
        rw [hAe] at c3 hA1 HX
        have z1 := hfz (i * 4 + 3)
        have HFZ := Lib.hid hfz
        have eA : Hid (((A + (s.size + 1) : Nat) : Int) = (A : Int) + (s.size : Int) + 1) := by show _ = _; omega
        rw [eA.out] at HX
        have b3 : (0 : Int) ≤ (i : Int) := by omega
        have b4 : (i : Int) < (n : Int) := by omega
        have b5 : (A : Int) ≤ 30000 := by omega
        have b6 : (0 : Int) ≤ (A : Int) := by omega
        clear hat hA e2 hAe hfz
        go_wp2_with fail
        exact ⟨⟨i + 1, by omega, by go_num, Lib.hid (hfr.out.setCell hb1 _), Lib.hid (tks_apart hv.out hb2), Lib.hid (fun _ => ⟨g, rfl, hb1, hb2, fun j => by rw [World.frozen?_setCell]; exact HFZ.out j, HX.out⟩)⟩, by simp [intOf]; omega⟩
      · obtain rfl : i = n := by omega
        have HM : Hid (us.map (Scn.shTok (s.size + 1)) ≠ [] → ∃ g, a2 = some ⟨g, 0, none⟩ ∧ TkAt wr g (us.map (Scn.shTok (s.size + 1)))) := by
          intro hne
          obtain ⟨g, h1, _, _, _, h5⟩ := ha.out (by intro h; rw [h] at hne; exact hne rfl)
          refine ⟨g, h1, ?_⟩
          rw [← HN.out, upd_all] at h5
          exact h5
        have HM2 : Hid (us.map (Scn.shTok (s.size + 1)) = [] → a2 = none ∧ k2 = 0 ∨ ∃ g, a2 = some ⟨g, 0, none⟩) := fun h => HNIL.out (by simpa using h)
        have HM3 : Hid (i = (us.map (Scn.shTok (s.size + 1))).length) := by show _ = _; rw [List.length_map, HN.out]
        have HM4 : Hid ((ts.length + (us.map (Scn.shTok (s.size + 1))).length) * 40 ≤ 140737488355328) := by show _ ≤ _; rw [← HM3.out]; exact HLT.out
        have HM5 : Hid ((ts ++ us.map (Scn.shTok (s.size + 1))).length ≤ 140737488355328) := by show _ ≤ _; rw [List.length_append]; have := HM4.out; omega
        clear ha hlt
        go_wp2_with (first
          | (at_builtin; refine wpl_tks (.tmp 95) (.tmp 96) rfl (by rfl) w (HF1.out.trans hfr.out) v1 ts rfl (HV1.out.keep hfr.out) (us.map (Scn.shTok (s.size + 1))) a2 i k2 rfl HM3.out HM.out HM2.out HM4.out ?_; intro v' w6 ht6 hf6 hg6; have HT6 := Lib.hid ht6; have HF6 := Lib.hid hf6; have HV6 := Lib.hid (hv.out.grown hg6 (fun k hk => by have := (World.ownsRow.lt HV1.out k hk).2; have := HF2.out.size; have := HF3.out.size; omega)); clear ht6 hf6 hg6)
          | (go_at_call 11; refine (rsame_yes true _ _ _ _ _ _ _ (alike_refl _ _) HV6.out HT6.out HM5.out).mono ?_; rintro e w7 ⟨rfl, hf⟩; have HF7 := Lib.hid (HF6.out.trans hf); clear hf))
        go_ret
        exact ⟨rfl, HF7.out⟩
  · rw [if_neg hy] at hsp
    have HSP := Lib.hid hsp
    clear hsp
    have hyy : ((y : Int) != 0) = true := by rw [bne_iff_ne]; omega
    have hz : Hid ((s ++ ⟨#[32]⟩ ++ t).size ≤ 9223372036854775807) := by show _ ≤ _; rw [ByteArray.size_append, ByteArray.size_append]; show s.size + 1 + t.size ≤ _; omega
    go_enter Tryd.func5, Tryd.ntmps5
    go_wp2_with (first
      | (go_at_call 8; have hm := HF3.out; refine (tokens_at _ [] (q + (s.size + 1)) y _ hz.out (HT.out.keep hm) (by rw [HE.out]; exact HSP.out)).mono ?_; rintro e w4 ⟨v3, rfl, ht, hf⟩; obtain ⟨a3, k3, rfl, _⟩ := ht.shape; have HF4 := Lib.hid (hm.trans hf); clear hf ht hm)
      | (go_at_call 8; have hm := HF2.out; refine (tokens_at t us q y _ (by omega) (HT.out.keep hm) H2.out).mono ?_; rintro e w3 ⟨v2, rfl, ht, hf⟩; have HF3 := Lib.hid (hm.trans hf); clear hf ht hm)
      | (go_at_call 8; refine (tokens_at s ts p 0 _ (by omega) HT.out H.out).mono ?_; rintro e w1 ⟨v1, rfl, ht, hf⟩; have HF1 := Lib.hid hf; clear hf ht)
      | (go_at_call 10; refine (awake04 _ (HT.out.keep HF1.out)).mono ?_; rintro e w2 ⟨rfl, hf⟩; have HF2 := Lib.hid (HF1.out.trans hf); clear hf))
    go_ret
    exact ⟨rfl, HF4.out⟩

theorem splits_law (s t : ByteArray) (w : World) (hs : s.size ≤ 140737488355328) (hs2 : t.size ≤ 140737488355328) (hT : LowTabs w) :
    Calls Tryd.prog 5 #[.string s, .string t] w fun e w' => e = .returned (.bool true) ∧ Fr w w' := by
  rcases h : Scn.tokens s.data.toList with ⟨ts, p, x⟩
  by_cases ho : x ≠ 0 ∨ 30000 < s.size ∨ 30000 < t.size
  · exact splits_out s t w hs hs2 hT ts p x h ho
  · obtain rfl : x = 0 := by omega
    exact splits_in s t w (by omega) (by omega) hT ts p h
end Go.Proofs.YtmalfecpcdopfaaDoor
