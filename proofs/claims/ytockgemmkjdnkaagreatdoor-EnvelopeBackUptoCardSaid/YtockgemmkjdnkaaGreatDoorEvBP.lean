/- Chapter 25, plain: what is read of a request that is written. -/
import Derived.Test.YtockgemmkjdnkaaGreatDoorEvp
import Derived.Test.YtockgemmkjdnkaaGreatDoorEvo
namespace Go.Proofs.YtockgemmkjdnkaaGreatDoor
set_option maxRecDepth 100000
set_option linter.unusedVariables false
set_option linter.unusedSimpArgs false
open Go.RowKit

namespace Pt
def kUrn:List UInt8:=[117,114,110,58,105,101,116,102,58,112,97,114,97,109,115,58,106,109,97,112,58,99,111,110,116,97,99,116,115]
def backM (cs:List CallV):List (List UInt8 × JV):=[(nUsing,JV.listV [JV.textV kUrn]),(nCalls,JV.listV (cs.map respC))]
def backV (cs:List CallV) (ms:List (List UInt8 × JV)) (has:Bool):JV:=JV.mapV (if has then backM cs++[(nIds,JV.mapV ms)] else backM cs)
def noMap (cs:List CallV):Bool:=cs.any fun c=>c.1.2.kd != 6
theorem goodC_resp (c:CallV):goodC (respC c)=(c.1.2.kd == 6):=by
 unfold respC
 rw [goodC_3 rfl]
 simp [JV.listV,JV.textV,JV.kd]
theorem callC_resp (c:CallV):callC (respC c)=c:=by
 unfold respC
 rw [callC_3 rfl]
 rfl
theorem allC_resp (cs:List CallV):allC (cs.map respC) = !noMap cs:=by
 unfold allC noMap
 induction cs with
 | nil=>rfl
 | cons c r ih=>
  rw [List.map_cons,List.all_cons,ih,goodC_resp,List.any_cons,Bool.not_or]
  simp [bne]
theorem map_resp (cs:List CallV):(cs.map respC).map callC=cs:=by
 rw [List.map_map]
 have:callC ∘ respC=id:=funext fun c=>callC_resp c
 rw [this,List.map_id]
theorem back_get (cs:List CallV) (ms:List (List UInt8 × JV)) (has:Bool):get (backV cs ms has) nUsing=some (JV.listV [JV.textV kUrn])∧get (backV cs ms has) nCalls=some (JV.listV (cs.map respC))∧get (backV cs ms has) nIds=if has then some (JV.mapV ms) else none:=by
 have h1:nUsing≠nCalls:=by decide
 have h2:nUsing≠nIds:=by decide
 have h3:nCalls≠nIds:=by decide
 cases has
 ·refine ⟨?_,?_,?_⟩ <;> simp [backV,backM,get,getM,JV.mapV,JV.kd,JV.ms,h1,h2,h3]
 ·refine ⟨?_,?_,?_⟩ <;> simp [backV,backM,get,getM,JV.mapV,JV.kd,JV.ms,h1,h2,h3]
theorem cap_urn:cap ⟨kUrn.toArray⟩=true:=by kernel_rfl
def backP (cs:List CallV) (ms:List (List UInt8 × JV)) (has:Bool):Pa:=
 if noMap cs=true then .bad kReq []
 else if (has && !okM1 (JV.mapV ms))=true then .bad kReq []
 else if 16<cs.length then .bad kLim kCalls
 else .ok (([kUrn],cs),(if has then ms else [],has))
theorem parseV_back (cs:List CallV) (ms:List (List UInt8 × JV)) (has:Bool):parseV (backV cs ms has)=backP cs ms has:=by
 obtain ⟨g1,g2,g3⟩:=back_get cs ms has
 have hf:fine (backV cs ms has)=(!noMap cs && !(has && !okM1 (JV.mapV ms))):=by
  unfold fine okU okC okM
  rw [getZ_of g1,getZ_of g2,g3]
  have e1:allT (JV.listV [JV.textV kUrn]).ls=true:=by kernel_rfl
  have e2:allC (JV.listV (cs.map respC)).ls = !noMap cs:=allC_resp cs
  rw [e1,e2]
  cases has <;> simp [backV,JV.mapV,JV.listV,JV.kd]
 unfold parseV backP
 rw [hf]
 unfold reqOf
 rw [getZ_of g1,getZ_of g2,g3]
 have e3:(JV.listV [JV.textV kUrn]).ls.map JV.tx=[kUrn]:=rfl
 have e4:odd [kUrn]=false:=by
  unfold odd
  simp [cap_urn]
 have e5:(JV.listV (cs.map respC)).ls.length=cs.length:=by simp [JV.listV,JV.ls]
 have e6:(JV.listV (cs.map respC)).ls.map callC=cs:=map_resp cs
 rw [e3,e4,e5,e6]
 cases hm:noMap cs
 ·cases has
  ·have:getZ (backV cs ms false) nIds=JV.zeroV:=getZ_no g3
   rw [this]
   simp [JV.zeroV,JV.ms]
  ·have:getZ (backV cs ms true) nIds=JV.mapV ms:=getZ_of g3
   rw [this]
   cases okM1 (JV.mapV ms) <;> simp [JV.mapV,JV.ms]
 ·simp
theorem parse_back (cs:List CallV) (ms:List (List UInt8 × JV)) (has:Bool) (h:(JV.chk (backV cs ms has) 1 0).1=0) (hl:(JV.wrt (backV cs ms has)).length≤65536):parse (JV.wrt (backV cs ms has))=backP cs ms has:=by
 unfold parse
 rw [if_neg (by omega),Rd.rdS_back h hl]
 exact parseV_back cs ms has
end Pt
end Go.Proofs.YtockgemmkjdnkaaGreatDoor
