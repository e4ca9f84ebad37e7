/- The walk of chapter 08's law of what stays. -/
import Derived.Test.YtockgemmkjdnkaaGreatDoorPtj
import Derived.Test.YtockgemmkjdnkaaGreatDoorPta
import Derived.Test.YtockgemmkjdnkaaGreatDoorRl
set_option maxRecDepth 100000
set_option linter.unusedVariables false
set_option linter.unusedSimpArgs false
namespace Go.Proofs.YtockgemmkjdnkaaGreatDoor
open Go.RowKit

namespace Pt
def ans (st:Bool) (ps:Option (List (List UInt8))) (v:JV):JV × Int:=match ps with
 | none=>(JV.zeroV,80)
 | some ps=>match find st ps v with
  | none=>(JV.zeroV,81)
  | some y=>(y,0)
end Pt
theorem nv_bulk (v:JV):Rd.nv v<=JV.bulk v:=by
 induction v using JV.ind with
 | h k n s l m ihl ihm=>
  have hL:∀ l:List JV,(∀ v∈l,Rd.nv v<=JV.bulk v)->Rd.nvL l<=JV.bulkL l:=by
   intro l
   induction l with
   | nil=>intro _;rw [Rd.nvL_nil];exact Nat.zero_le _
   | cons v l ih=>
    intro h;rw [Rd.nvL_cons,JV.bulkL_cons];have:=h v List.mem_cons_self;have:=ih (λu hu=>h u (List.mem_cons_of_mem _ hu));omega
  have hM:∀ m:List (List UInt8 × JV),(∀ p∈m,Rd.nv p.2<=JV.bulk p.2)->Rd.nvM m<=JV.bulkM m:=by
   intro l
   induction l with
   | nil=>intro _;rw [Rd.nvM_nil];exact Nat.zero_le _
   | cons v l ih=>
    intro h;rw [Rd.nvM_cons,JV.bulkM_cons];have:=h v List.mem_cons_self;have:=ih (λu hu=>h u (List.mem_cons_of_mem _ hu));omega
  have h1:=hL l ihl;have h2:=hM m ihm;rw [Rd.nv_mk,JV.bulk_mk];omega

end Go.Proofs.YtockgemmkjdnkaaGreatDoor
