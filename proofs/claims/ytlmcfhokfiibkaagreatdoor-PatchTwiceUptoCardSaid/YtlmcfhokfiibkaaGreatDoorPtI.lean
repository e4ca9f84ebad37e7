/- The walk of point.find. -/
import Derived.Test.YtlmcfhokfiibkaaGreatDoorPte
namespace Go.Proofs.YtlmcfhokfiibkaaGreatDoor
set_option maxRecDepth 100000
set_option maxHeartbeats 4000000
set_option linter.unusedVariables false
set_option linter.unusedSimpArgs false
open Go.RowKit

theorem psc_cut {w:World} {b o c:Nat} {p:List UInt8} {ps:List (List UInt8)} (h:PsC w (some ⟨b,o,none⟩) (p::ps)) (hc:(p::ps).length≤c) (h63:c≤9223372036854775807):
  ∃ A',(∀ W,(Instr.slice 44 (.slice (some ⟨b,o,none⟩) (ps.length+1) c) (some (.int .i64 1)) none none).run Tryz.prog W=.ok (.slice A' ps.length (c - 1)) W)∧(∀ W,Fr w W→PsC W A' ps)∧ps.length≤c - 1:=by
 simp only [List.length_cons] at hc
 refine ⟨if c=1 then some ⟨b,o,none⟩ else some ⟨b,o+1,none⟩,fun W=>?_,fun W hW=>?_,by omega⟩
 ·rw [run_slice_l W 44 (some ⟨b,o,none⟩) (ps.length+1) c Tryz.underlying44 .i64 1 (by omega) (by omega)]
  have hs:(sizeOf (Tryz.prog.elem 44)).run Tryz.prog W=.ok 1 W:=by kernel_rfl
  rw [hs]
  simp only [Result.andThen,sliced]
  by_cases h1:c=1
  ·rw [if_pos h1,if_pos (by simpa using h1)];simp
  ·rw [if_neg h1,if_neg (by simpa using h1)];simp [Addr.add]
 ·by_cases h1:c=1
  ·have:ps=[]:=List.eq_nil_of_length_eq_zero (by omega)
   subst this
   exact fun h=>absurd rfl h
  ·rw [if_neg h1]
   exact h.tail.keep hW

end Go.Proofs.YtlmcfhokfiibkaaGreatDoor
