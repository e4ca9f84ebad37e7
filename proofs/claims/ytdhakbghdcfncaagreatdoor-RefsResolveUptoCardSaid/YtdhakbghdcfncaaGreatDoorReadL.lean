/- The walk of the laws' count. -/
import Derived.Test.YtdhakbghdcfncaaGreatDoorRdd
namespace Go.Proofs.YtdhakbghdcfncaaGreatDoor
set_option maxRecDepth 100000
set_option linter.unusedVariables false
set_option linter.unusedSimpArgs false
open Go.RowKit

namespace Rd
open JV
theorem nvL_take {l:List JV} {i:Nat} (h:i<l.length):nvL (l.take (i+1))=nvL (l.take i)+nv l[i]:=by
 rw [List.take_succ_eq_append_getElem h,nvL_app,nvL_cons,nvL_nil];rfl
theorem nvM_take {l:List (List UInt8 × JV)} {i:Nat} (h:i<l.length):nvM (l.take (i+1))=nvM (l.take i)+nv l[i].2:=by
 rw [List.take_succ_eq_append_getElem h,nvM_app,nvM_cons,nvM_nil];rfl
theorem nvL_take_le (l:List JV) (i:Nat):nvL (l.take i)≤nvL l:=by
 have:nvL l=nvL (l.take i)+nvL (l.drop i):=by rw [← nvL_app,List.take_append_drop]
 omega
theorem nvM_take_le (l:List (List UInt8 × JV)) (i:Nat):nvM (l.take i)≤nvM l:=by
 have:nvM l=nvM (l.take i)+nvM (l.drop i):=by rw [← nvM_app,List.take_append_drop]
 omega
theorem nvL_mem {v:JV} {l:List JV} (h:v∈l):nv v≤nvL l:=by
 induction l with
 | nil=>simp at h
 | cons u l ih=>
  rw [nvL_cons]
  rcases List.mem_cons.1 h with rfl | h
  ·omega
  ·have:=ih h;omega
theorem nvM_mem {v:List UInt8 × JV} {l:List (List UInt8 × JV)} (h:v∈l):nv v.2≤nvM l:=by
 induction l with
 | nil=>simp at h
 | cons u l ih=>
  rw [nvM_cons]
  rcases List.mem_cons.1 h with rfl | h
  ·omega
  ·have:=ih h;omega
end Rd
end Go.Proofs.YtdhakbghdcfncaaGreatDoor
