/- Chapter 24, plain: the law of references. -/
import Derived.Test.YtdhakbghdcfncaaGreatDoorRfq
import Derived.Test.YtdhakbghdcfncaaGreatDoorEe
namespace Go.Proofs.YtdhakbghdcfncaaGreatDoor
set_option maxRecDepth 100000
set_option linter.unusedVariables false
set_option linter.unusedSimpArgs false
open Go.RowKit

namespace Rf
theorem map_form2 {v:JV} (hv:JV.okB v=true) (h6:v.kd=6):v=JV.mapV v.ms:=by
 rcases JV.right_form ((JV.ok_iff v).1 hv).1 with rfl | ⟨_,_,rfl⟩ | ⟨_,_,_,rfl⟩ | ⟨_,_,rfl⟩ | ⟨_,rfl⟩ | ⟨_,rfl⟩
 all_goals first | rfl | (exfalso;simp [JV.nullV,JV.boolV,JV.intV,JV.textV,JV.listV,JV.kd] at h6)
theorem ok_names {v:JV} (h:JV.okB v=true) (h6:v.kd=6):(v.ms.map (·.1)).Nodup:=by
 have:=((JV.ok_iff v).1 h).2.1 h6
 unfold JV.namesB at this
 simp only [Bool.and_eq_true,decide_eq_true_eq] at this
 exact this.2
def plainN (m:List (Tx × JV)):Prop:=∀ x∈m,(bare x.1).2=false
theorem bares_plain {m:List (Tx × JV)} (h:plainN m):bares m=m.map (·.1):=by
 unfold bares
 refine List.map_congr_left (fun x hx=>bare_no (h x hx))
theorem resolve_plain {v:JV} (done:List CallP) (hv:JV.okB v=true) (h6:v.kd=6) (h:plainN v.ms):resolve v done=.ok v:=by
 unfold resolve
 rw [if_pos ⟨h6,by unfold twice;rw [bares_plain h];simpa using ok_names hv h6⟩,resM_none done v.ms 0 0 h]
 show Except.ok (JV.mapV v.ms)=_
 rw [← map_form2 hv h6]
theorem resM_app (done:List CallP) (b:List (Tx × JV)):∀ (m:List (Tx × JV)) (p z:Nat),plainN m→resM done (m++b) p z=pre m (resM done b p z)
 | [],p,z,_=>by rw [List.nil_append,pre_nil]
 | x::m,p,z,h=>by
  rw [List.cons_append,resM_bare done x _ p z (h x (by simp)),resM_app done b m p z (fun y hy=>h y (by simp [hy])),pre_pre];rfl
def withR (m:List (Tx × JV)) (nm:Tx) (r:JV):List (Tx × JV):=m++[(35::nm,r)]
theorem resolve_ref {m:List (Tx × JV)} {nm:Tx} {r:JV} (done:List CallP) (hn:(m.map (·.1)).Nodup) (h:plainN m) (hnm:nm ∉ m.map (·.1)):
  resolve (JV.mapV (withR m nm r)) done=(match lead r done with
   | .error e=>.error e
   | .ok y=>if Rd.nv y > 8192∨size y > 65536∨deep y > 12 then .error 2 else .ok (JV.mapV (m++[(nm,y)]))):=by
 have ht:twice (withR m nm r)=false:=by
  unfold twice withR
  have e:bares (m++[(35::nm,r)])=m.map (·.1)++[nm]:=by
   show (m++[(35::nm,r)]).map (fun x=>(bare x.1).1)=_
   rw [List.map_append]
   have:=bares_plain h
   unfold bares at this
   rw [this];rfl
  rw [e]
  have h2:(m.map (·.1)++[nm]).Nodup:=by
   rw [List.nodup_append]
   exact ⟨hn,by simp,fun a ha b hb e=>hnm (by simp at hb;rw [← hb,← e];exact ha)⟩
  simpa using h2
 unfold resolve
 rw [if_pos ⟨rfl,ht⟩]
 show (match resM done (withR m nm r) 0 0 with | .error e=>_ | .ok l=>_)=_
 unfold withR
 rw [resM_app done _ m 0 0 h]
 have hb:(bare (35::nm)).2=true:=rfl
 cases hl:lead r done with
 | error e=>rw [resM_no done _ _ _ _ hb hl];rfl
 | ok y=>
  by_cases hc:Rd.nv y > 8192∨size y > 65536∨deep y > 12
  ·rw [resM_long done _ _ _ _ hb hl (by simpa using hc)]
   show _=if _ then _ else _
   rw [if_pos hc];rfl
  ·rw [resM_yes done _ _ _ _ hb hl (by simpa using hc)]
   show _=if _ then _ else _
   rw [if_neg hc];rfl
def refV (a b p:Tx):JV:=JV.mapV [(nOf,JV.textV a),(nName,JV.textV b),(nPath,JV.textV p)]
theorem three_ref (a b p:Tx):three (refV a b p)=some (a,b,p):=by kernel_rfl
theorem refV_bulk (a b p:Tx):JV.bulk (refV a b p)=31+a.length+b.length+p.length:=by
 unfold refV JV.mapV JV.textV
 simp only [JV.bulk_mk,JV.bulkM_cons,JV.bulkL,JV.bulkM,JV.bulkP,nOf,nName,nPath,List.length_cons,List.length_nil]
 omega
theorem lead_ref (a b p:Tx) (done:List CallP):lead (refV a b p) done=(match look done a with
  | none=>.error 240
  | some d=>if d.1.1=b then (match Pt.parts p with
   | none=>.error 240
   | some ps=>match Pt.find true ps d.1.2 with
    | none=>.error 240
    | some x=>.ok x) else .error 240):=by
 unfold lead
 rw [three_ref];rfl
theorem look_take {l:List CallP} {a:Tx} {i:Nat} (h:∀ y (hy:y<l.length),y<i→l[y].2≠a):look (l.take i) a=none:=by
 refine look_none (fun y hy=>?_)
 have h1:y<l.length:=by rw [List.length_take] at hy;omega
 have h2:y<i:=by rw [List.length_take] at hy;omega
 rw [List.getElem_take]
 exact h y h1 h2
theorem withM_new {m:List (Tx × JV)} {s:Tx} {x:JV} (h:s ∉ m.map (·.1)):Pt.withM m s x=m++[(s,x)]:=by
 induction m with
 | nil=>rfl
 | cons q m ih=>
  rw [List.map_cons,List.mem_cons,not_or] at h
  unfold Pt.withM
  rw [if_neg (fun e=>h.1 e.symm),ih h.2];rfl
theorem hash_new {m:List (Tx × JV)} {nm:Tx} (h:plainN m):(35::nm) ∉ m.map (·.1):=by
 intro hm
 obtain ⟨x,hx,e⟩:=List.mem_map.1 hm
 have:=h x hx
 rw [e] at this
 cases this
theorem plain_of {m:List (Tx × JV)} (h:∀ x∈m,∀ r,x.1≠35::r):plainN m:=fun x hx=>by
 have h:=h x hx
 cases hs:x.1 with
 | nil=>rfl
 | cons c r=>
  show (if c=35 then (r,true) else (c::r,false)).2=false
  rw [if_neg (fun e=>h r (by rw [hs,e]))]
end Rf
end Go.Proofs.YtdhakbghdcfncaaGreatDoor
