/-
  NARROWER THAN 'FOR EVERY INPUT', by the rows' own cells (each row's printed sentence says how): EmitWrapped: loops · EmitSpoilt: loops · EmitUnlike: loops.
  DERIVED. THE GIVEN ROWS OF THIS SEAT. 3 by the template 'for every input the law returns true; each argument reads behind the call as it read before'; 0 by the template 'total and deterministic' (their statements: YtgncdjcbphobmaaTotals.lean).
  GIVEN WITH THE SEED: the statements are not yours to turn. If you find one false, say at which input.
  Laid BY PROGRAM, IN A SANDBOX (cutbox-rows.mjs): the forced cells as the released guide's own fill.sh prints them over the translation d3c07773f73bcfed… (all of the seat's roots in one cut). By AI agents, Wed Nov 11 2026. No macro, syntax, notation, axiom, sorry.
-/
import Derived.Test.YtgncdjcbphobmaaChecked
import GoSem.Claim
import GoSem.ClaimJoined
import GoSem.ClaimMapViews
import Derived.JoinedTies
import Derived.KernelRfl
namespace Go.Proofs.Ytgncdjcbphobmaa
/- THE CELL 'sum', in the pinned program and in every row, IS THE sha256 OF THE DUMP (.gsa) THAT YtgncdjcbphobmaaProg.lean LOADS. Nothing in Lean hashes anything: it is a label: what it is worth is what the hold of that sum in a sandbox is worth. -/
noncomputable def Try.pinned : Pinned := { name := "ytgncdjcbphobmaa", sum := "d3c07773f73bcfed77593b5fc12eed36e6faa2eabb2c7b3214ad3f61852854c5", checked := Try.checked }
namespace Rows
def none {H : Type} : Left H := { results := [], args := [] }

/-- 'cardboxlaw06.EmitWrapped': WHATEVER THE INPUT: true; the input reads as it did. -/
def emitWrappedSpec : ChangeSpec := { name := "emitWrapped", fn := fun _ => fun
  | [d] => { results := [.lit (.bool true)], args := [d] }
  | _ => none }
def emitWrappedRow : OpenClaim := { program := "ytgncdjcbphobmaa", sum := "d3c07773f73bcfed77593b5fc12eed36e6faa2eabb2c7b3214ad3f61852854c5", func := "cardbox/cardboxlaw06.EmitWrapped", spec := "emitWrapped", recurses := true, loops := true, apart := false }
def EmitWrappedSaid : Prop := emitWrappedRow.holds Try.pinned (OpenSpec.ofChange emitWrappedSpec)

/-- ITS FALSE NEIGHBOUR: 'it returns false'. Refute it at one input. -/
def emitWrappedWrong : ChangeSpec := { name := "emitWrapped", fn := fun _ => fun
  | [d] => { results := [.lit (.bool false)], args := [d] }
  | _ => none }
def EmitWrappedWrongFalsely : Prop := emitWrappedRow.holds Try.pinned (OpenSpec.ofChange emitWrappedWrong)

/-- 'cardboxlaw06.EmitSpoilt': WHATEVER THE INPUT: true; the input reads as it did. -/
def emitSpoiltSpec : ChangeSpec := { name := "emitSpoilt", fn := fun _ => fun
  | [d1, d2] => { results := [.lit (.bool true)], args := [d1, d2] }
  | _ => none }
def emitSpoiltRow : OpenClaim := { program := "ytgncdjcbphobmaa", sum := "d3c07773f73bcfed77593b5fc12eed36e6faa2eabb2c7b3214ad3f61852854c5", func := "cardbox/cardboxlaw06.EmitSpoilt", spec := "emitSpoilt", recurses := true, loops := true, apart := false }
def EmitSpoiltSaid : Prop := emitSpoiltRow.holds Try.pinned (OpenSpec.ofChange emitSpoiltSpec)

/-- ITS FALSE NEIGHBOUR: 'it returns false'. Refute it at one input. -/
def emitSpoiltWrong : ChangeSpec := { name := "emitSpoilt", fn := fun _ => fun
  | [d1, d2] => { results := [.lit (.bool false)], args := [d1, d2] }
  | _ => none }
def EmitSpoiltWrongFalsely : Prop := emitSpoiltRow.holds Try.pinned (OpenSpec.ofChange emitSpoiltWrong)

/-- 'cardboxlaw06.EmitUnlike': WHATEVER THE INPUT: true; the input reads as it did. -/
def emitUnlikeSpec : ChangeSpec := { name := "emitUnlike", fn := fun _ => fun
  | [d1, d2] => { results := [.lit (.bool true)], args := [d1, d2] }
  | _ => none }
def emitUnlikeRow : OpenClaim := { program := "ytgncdjcbphobmaa", sum := "d3c07773f73bcfed77593b5fc12eed36e6faa2eabb2c7b3214ad3f61852854c5", func := "cardbox/cardboxlaw06.EmitUnlike", spec := "emitUnlike", recurses := true, loops := true, apart := false }
def EmitUnlikeSaid : Prop := emitUnlikeRow.holds Try.pinned (OpenSpec.ofChange emitUnlikeSpec)

/-- ITS FALSE NEIGHBOUR: 'it returns false'. Refute it at one input. -/
def emitUnlikeWrong : ChangeSpec := { name := "emitUnlike", fn := fun _ => fun
  | [d1, d2] => { results := [.lit (.bool false)], args := [d1, d2] }
  | _ => none }
def EmitUnlikeWrongFalsely : Prop := emitUnlikeRow.holds Try.pinned (OpenSpec.ofChange emitUnlikeWrong)

/- THE SECOND FORM. 'bulk': how many values and letters a reading holds, each counted each time it is reached (what is shared counts as often as it is met; a slice's spare places count too). A statement '..UptoSaid' is the law's where the arguments, and the package variables that the reading takes, are together of bulk at most 1048576: NARROWER than '..Said'. Prove '..Said' where nothing that the law and all that it calls make is longer than what came in: it says more and counts as full. Else prove '..UptoSaid'. A law counts once. -/
mutual
def uptoBulk {H : Type} : DataW H → Nat
  | .lit (.string bytes) => bytes.length + 1
  | .lit _ => 1
  | .nil => 1
  | .ptr d => uptoBulk d + 1
  | .slice elems spare => uptoBulkAll elems + uptoBulkAll spare + 1
  | .agg parts => uptoBulkAll parts + 1
  | .iface _ d => uptoBulk d + 1
  | .map entries => uptoBulkEntries entries + 1
  | .held _ => 1
def uptoBulkAll {H : Type} : List (DataW H) → Nat
  | [] => 0
  | d :: r => uptoBulk d + uptoBulkAll r
def uptoBulkEntries {H : Type} : List (Lit × DataW H) → Nat
  | [] => 0
  | x :: r => uptoBulkEntry x + uptoBulkEntries r
def uptoBulkEntry {H : Type} : Lit × DataW H → Nat
  | (.string bytes, d) => bytes.length + uptoBulk d + 1
  | (_, d) => uptoBulk d + 1
 end
def uptoSmall : (H : Type) → List (DataW H) → Bool := fun _ ds => decide (uptoBulkAll ds ≤ 1048576)
def OpenSpec.upto (s : _root_.Go.ChangeSpec) : _root_.Go.OpenSpec := { _root_.Go.OpenSpec.ofChange s with cond := some uptoSmall }

/-- 'cardboxlaw06.EmitWrapped', WHERE WHAT IT READS IS OF BULK AT MOST 1048576: true; the input reads as it did. -/
def emitWrappedUptoRow : OpenClaim := { program := "ytgncdjcbphobmaa", sum := "d3c07773f73bcfed77593b5fc12eed36e6faa2eabb2c7b3214ad3f61852854c5", func := "cardbox/cardboxlaw06.EmitWrapped", spec := "emitWrapped", recurses := true, loops := true, apart := false, narrowed := true }
def EmitWrappedUptoSaid : Prop := emitWrappedUptoRow.holds Try.pinned (OpenSpec.upto emitWrappedSpec)

/-- 'cardboxlaw06.EmitSpoilt', WHERE WHAT IT READS IS OF BULK AT MOST 1048576: true; the input reads as it did. -/
def emitSpoiltUptoRow : OpenClaim := { program := "ytgncdjcbphobmaa", sum := "d3c07773f73bcfed77593b5fc12eed36e6faa2eabb2c7b3214ad3f61852854c5", func := "cardbox/cardboxlaw06.EmitSpoilt", spec := "emitSpoilt", recurses := true, loops := true, apart := false, narrowed := true }
def EmitSpoiltUptoSaid : Prop := emitSpoiltUptoRow.holds Try.pinned (OpenSpec.upto emitSpoiltSpec)

/-- 'cardboxlaw06.EmitUnlike', WHERE WHAT IT READS IS OF BULK AT MOST 1048576: true; the input reads as it did. -/
def emitUnlikeUptoRow : OpenClaim := { program := "ytgncdjcbphobmaa", sum := "d3c07773f73bcfed77593b5fc12eed36e6faa2eabb2c7b3214ad3f61852854c5", func := "cardbox/cardboxlaw06.EmitUnlike", spec := "emitUnlike", recurses := true, loops := true, apart := false, narrowed := true }
def EmitUnlikeUptoSaid : Prop := emitUnlikeUptoRow.holds Try.pinned (OpenSpec.upto emitUnlikeSpec)

end Rows
end Go.Proofs.Ytgncdjcbphobmaa
