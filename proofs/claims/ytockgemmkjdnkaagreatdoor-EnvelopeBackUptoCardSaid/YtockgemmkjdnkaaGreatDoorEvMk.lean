/- Chapter 25: what the last laws share. -/
import Derived.Test.YtockgemmkjdnkaaGreatDoorEvZ
import Derived.Test.YtockgemmkjdnkaaGreatDoorPtt
namespace Go.Proofs.YtockgemmkjdnkaaGreatDoor
set_option maxRecDepth 100000
set_option linter.unusedVariables false
set_option linter.unusedSimpArgs false
open Go.RowKit

theorem InV.go {w w':World} {v:JV} {x:Value} (h:InV w (Lo w.heap.size) v x) (hf:Fr w w'):InV w' (Lo w'.heap.size) v x:=(h.keep (Nat.le_refl _) hf).lo hf.size
theorem Pt.bulkC_nm {cs:List CallV} (h:Pt.bulkC cs≤1048576):∀ p∈cs,p.1.1.length≤140737488355328∧p.2.length≤140737488355328:=fun p hp=>by
 have:=Pt.bulkC_mem hp
 exact ⟨by omega,by omega⟩
end Go.Proofs.YtockgemmkjdnkaaGreatDoor
