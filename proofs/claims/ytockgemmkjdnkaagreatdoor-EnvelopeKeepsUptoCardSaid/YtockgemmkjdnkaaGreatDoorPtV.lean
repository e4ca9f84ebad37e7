/- The walks of the document's Get, Lead (cardboxref07, cardboxref08). -/
import Derived.Test.YtockgemmkjdnkaaGreatDoorPtS
set_option maxRecDepth 100000
set_option maxHeartbeats 2000000
set_option linter.unusedVariables false
set_option linter.unusedSimpArgs false
namespace Go.Proofs.YtockgemmkjdnkaaGreatDoor
open Go.RowKit

namespace Pt
theorem getM_hit {m:List (List UInt8 × JV)} {s:List UInt8} {i:Nat} (hi:i<m.length) (h:∀ y (hy:y<m.length),y<i->m[y].1≠s) (h2:m[i].1=s):getM m s=some m[i].2:=by
 obtain ⟨_,h4⟩:=(@placeM_get m s).2 i (placeM_hit hi h h2);exact h4
theorem getM_none {m:List (List UInt8 × JV)} {s:List UInt8} (h:∀ y (hy:y<m.length),m[y].1≠s):getM m s=none:=(@placeM_get m s).1 (placeM_none h)
end Pt

end Go.Proofs.YtockgemmkjdnkaaGreatDoor
