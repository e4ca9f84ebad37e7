/- Plain mathematics of reading: no program in sight. -/
import Derived.Test.YtdhakbghdcfncaaGreatDoorPa
namespace Go.Proofs.YtdhakbghdcfncaaGreatDoor.Rd
set_option maxRecDepth 100000
set_option linter.unusedVariables false
set_option linter.unusedSimpArgs false
open JV Scn

inductive R where
 | out
 | bad (at_ why:Nat)
 | ok (v:JV) (l:List Tok) (p:Nat)

def next (e:Nat) (l:List Tok):Tok:=l.headD ⟨0,0,[],e⟩
def isM (t:Tok) (c:UInt8):Bool:=t.kind == 1 && t.s == [c]
def leaf (t:Tok):Option JV:=if t.kind=4 then some (textV t.s) else if t.kind=3 then some (intV t.n) else if t.kind=2 then (if t.s=tNull then some nullV else if t.s=tTrue then some (boolV 1) else some (boolV 0)) else none
mutual
def rdV:Nat→Nat→Tok→List Tok→Nat→Nat→R
 | 0,_,_,_,_,_=>.out
 | f+1,e,t,l,d,p=>
  if leaf t=none∧isM t 91=false∧isM t 123=false then .bad t.at_ 50
  else if 16<d then .bad t.at_ 51
  else if 8192≤p then .bad t.at_ 53
  else match leaf t with
   | some v=>.ok v l (p+1)
   | none=>if isM t 91 then (if isM (next e l) 93 then .ok (listV []) l.tail (p+1) else rdL f e l d (p+1) []) else (if isM (next e l) 125 then .ok (mapV []) l.tail (p+1) else rdM f e l d (p+1) [])
termination_by structural f=>f
def rdL:Nat→Nat→List Tok→Nat→Nat→List JV→R
 | 0,_,_,_,_,_=>.out
 | f+1,e,l,d,p,acc=>
  match rdV f e (next e l) l.tail (d+1) p with
  | .out=>.out
  | .bad a w=>.bad a w
  | .ok v l' p'=>if isM (next e l') 93 then .ok (listV (acc++[v])) l'.tail p' else if isM (next e l') 44 then rdL f e l'.tail d p' (acc++[v]) else .bad (next e l').at_ 50
termination_by structural f=>f
def rdM:Nat→Nat→List Tok→Nat→Nat→List (List UInt8 × JV)→R
 | 0,_,_,_,_,_=>.out
 | f+1,e,l,d,p,acc=>
  if (next e l).kind≠4 then .bad (next e l).at_ 50
  else if (next e l).s∈acc.map (·.1) then .bad (next e l).at_ 52
  else if isM (next e l.tail) 58=false then .bad (next e l.tail).at_ 50
  else match rdV f e (next e l.tail.tail) l.tail.tail.tail (d+1) p with
   | .out=>.out
   | .bad a w=>.bad a w
   | .ok v l' p'=>if isM (next e l') 125 then .ok (mapV (acc++[((next e l).s,v)])) l'.tail p' else if isM (next e l') 44 then rdM f e l'.tail d p' (acc++[((next e l).s,v)]) else .bad (next e l').at_ 50
termination_by structural f=>f
end
theorem rdV_succ (f e:Nat) (t:Tok) (l:List Tok) (d p:Nat):rdV (f+1) e t l d p =
  if leaf t=none∧isM t 91=false∧isM t 123=false then .bad t.at_ 50
  else if 16<d then .bad t.at_ 51
  else if 8192≤p then .bad t.at_ 53
  else match leaf t with
   | some v=>.ok v l (p+1)
   | none=>if isM t 91 then (if isM (next e l) 93 then .ok (listV []) l.tail (p+1) else rdL f e l d (p+1) []) else (if isM (next e l) 125 then .ok (mapV []) l.tail (p+1) else rdM f e l d (p+1) []):=by
 conv=>lhs;unfold rdV
theorem rdL_succ (f e:Nat) (l:List Tok) (d p:Nat) (acc:List JV):rdL (f+1) e l d p acc =
  match rdV f e (next e l) l.tail (d+1) p with
  | .out=>.out
  | .bad a w=>.bad a w
  | .ok v l' p'=>if isM (next e l') 93 then .ok (listV (acc++[v])) l'.tail p' else if isM (next e l') 44 then rdL f e l'.tail d p' (acc++[v]) else .bad (next e l').at_ 50:=by
 conv=>lhs;unfold rdL
theorem rdM_succ (f e:Nat) (l:List Tok) (d p:Nat) (acc:List (List UInt8 × JV)):rdM (f+1) e l d p acc =
  if (next e l).kind≠4 then .bad (next e l).at_ 50
  else if (next e l).s∈acc.map (·.1) then .bad (next e l).at_ 52
  else if isM (next e l.tail) 58=false then .bad (next e l.tail).at_ 50
  else match rdV f e (next e l.tail.tail) l.tail.tail.tail (d+1) p with
   | .out=>.out
   | .bad a w=>.bad a w
   | .ok v l' p'=>if isM (next e l') 125 then .ok (mapV (acc++[((next e l).s,v)])) l'.tail p' else if isM (next e l') 44 then rdM f e l'.tail d p' (acc++[((next e l).s,v)]) else .bad (next e l').at_ 50:=by
 conv=>lhs;unfold rdM

def Le (r:R) (n:Nat):Prop:=match r with | .ok _ l _=>l.length≤n | _=>True
theorem rd_le:∀ f,(∀ e t l d p,Le (rdV f e t l d p) l.length)∧(∀ e l d p acc,Le (rdL f e l d p acc) (l.length - 1))∧(∀ e l d p acc,Le (rdM f e l d p acc) (l.length - 1)):=by
 intro f
 induction f with
 | zero=>exact ⟨fun _ _ _ _ _=>by unfold rdV;trivial,fun _ _ _ _ _=>by unfold rdL;trivial,fun _ _ _ _ _=>by unfold rdM;trivial⟩
 | succ f ih=>
  obtain ⟨ihV,ihL,ihM⟩:=ih
  refine ⟨fun e t l d p=>?_,fun e l d p acc=>?_,fun e l d p acc=>?_⟩
  ·rw [rdV_succ]
   repeat' split
   all_goals first
    | trivial
    | exact Nat.le_refl _
    | (show l.tail.length≤_;rw [List.length_tail];omega)
    | (have:=ihL e l d (p+1) [];revert this;generalize rdL f e l d (p+1) []=r;intro h;cases r <;> first | trivial | (simp only [Le] at h ⊢;omega))
    | (have:=ihM e l d (p+1) [];revert this;generalize rdM f e l d (p+1) []=r;intro h;cases r <;> first | trivial | (simp only [Le] at h ⊢;omega))
  ·rw [rdL_succ]
   have hv:=ihV e (next e l) l.tail (d+1) p
   revert hv
   generalize rdV f e (next e l) l.tail (d+1) p=r
   intro hv
   cases r with
   | out=>trivial
   | bad a w=>trivial
   | ok v l' p'=>
    simp only [Le,List.length_tail] at hv
    simp only
    split
    ·simp only [Le,List.length_tail];omega
    split
    ·have:=ihL e l'.tail d p' (acc++[v]);revert this;generalize rdL f e l'.tail d p' (acc++[v])=r;intro h;cases r <;> first | trivial | (simp only [Le,List.length_tail] at h ⊢;omega)
    ·trivial
  ·rw [rdM_succ]
   split
   ·trivial
   split
   ·trivial
   split
   ·trivial
   have hv:=ihV e (next e l.tail.tail) l.tail.tail.tail (d+1) p
   revert hv
   generalize rdV f e (next e l.tail.tail) l.tail.tail.tail (d+1) p=r
   intro hv
   cases r with
   | out=>trivial
   | bad a w=>trivial
   | ok v l' p'=>
    simp only [Le,List.length_tail] at hv
    simp only
    split
    ·simp only [Le,List.length_tail];omega
    split
    ·have:=ihM e l'.tail d p' (acc++[((next e l).s,v)]);revert this;generalize rdM f e l'.tail d p' (acc++[((next e l).s,v)])=r;intro h;cases r <;> first | trivial | (simp only [Le,List.length_tail] at h ⊢;omega)
    ·trivial

theorem next_end {e:Nat} {l:List Tok} {c:UInt8} (h:isM (next e l) c=true):0<l.length:=by
 cases l with
 | nil=>simp [next,isM] at h
 | cons t l=>simp
theorem rdV_end (f e d p:Nat) (l:List Tok):rdV (f+1) e (next e []) l d p=.bad e 50:=by
 rw [rdV_succ];simp [next,leaf,isM]
theorem rd_fuel:∀ f,(∀ e t l d p,2*l.length+3≤f→rdV f e t l d p≠.out)∧(∀ e l d p acc,2*l.length+2≤f→rdL f e l d p acc≠.out)∧(∀ e l d p acc,2*l.length+2≤f→rdM f e l d p acc≠.out):=by
 intro f
 induction f with
 | zero=>exact ⟨fun _ _ _ _ _ h=>by omega,fun _ _ _ _ _ h=>by omega,fun _ _ _ _ _ h=>by omega⟩
 | succ f ih=>
  obtain ⟨ihV,ihL,ihM⟩:=ih
  refine ⟨fun e t l d p h=>?_,fun e l d p acc h=>?_,fun e l d p acc h=>?_⟩
  ·rw [rdV_succ]
   repeat' split
   all_goals first
    | (intro h;cases h;done)
    | exact ihL e l d _ _ (by omega)
    | exact ihM e l d _ _ (by omega)
  ·rw [rdL_succ]
   have hv:rdV f e (next e l) l.tail (d+1) p≠.out:=by
    cases l with
    | nil=>
     obtain ⟨g,rfl⟩:∃ g,f=g+1:=⟨f - 1,by simp at h;omega⟩
     rw [rdV_end];simp
    | cons t l=>exact ihV _ _ _ _ _ (by simp at h ⊢;omega)
   have hle:=(rd_le f).1 e (next e l) l.tail (d+1) p
   revert hv hle
   generalize rdV f e (next e l) l.tail (d+1) p=r
   intro hv hle
   cases r with
   | out=>exact absurd rfl hv
   | bad a w=>simp
   | ok v l' p'=>
    simp only [Le,List.length_tail] at hle
    simp only
    split
    ·simp
    split
    ·rename_i hc
     have:=next_end hc
     exact ihL _ _ _ _ _ (by rw [List.length_tail];omega)
    ·simp
  ·rw [rdM_succ]
   split
   ·simp
   rename_i hk
   have hl:0<l.length:=by
    cases l with
    | nil=>simp [next] at hk
    | cons t l=>simp
   split
   ·simp
   split
   ·simp
   rename_i hc
   have hl1:0<l.tail.length:=next_end (by simpa using hc)
   rw [List.length_tail] at hl1
   have hv:rdV f e (next e l.tail.tail) l.tail.tail.tail (d+1) p≠.out:=by
    exact ihV _ _ _ _ _ (by simp only [List.length_tail];omega)
   have hle:=(rd_le f).1 e (next e l.tail.tail) l.tail.tail.tail (d+1) p
   revert hv hle
   generalize rdV f e (next e l.tail.tail) l.tail.tail.tail (d+1) p=r
   intro hv hle
   cases r with
   | out=>exact absurd rfl hv
   | bad a w=>simp
   | ok v l' p'=>
    simp only [Le,List.length_tail] at hle
    simp only
    split
    ·simp
    split
    ·rename_i hc
     have:=next_end hc
     exact ihM _ _ _ _ _ (by rw [List.length_tail];omega)
    ·simp
end Go.Proofs.YtdhakbghdcfncaaGreatDoor.Rd
/- Plain laws of reading: how much, how deep, where faults lie; tokens further on. -/
namespace Go.Proofs.YtdhakbghdcfncaaGreatDoor.Rd
set_option linter.unusedVariables false
set_option linter.unusedSimpArgs false
open JV Scn

mutual
def nv:JV→Nat
 | .mk _ _ _ l m=>1+nvL l+nvM m
termination_by structural v=>v
def nvL:List JV→Nat
 | []=>0
 | v::l=>nv v+nvL l
termination_by structural v=>v
def nvM:List (List UInt8 × JV)→Nat
 | []=>0
 | x::m=>nvP x+nvM m
termination_by structural v=>v
def nvP:List UInt8 × JV→Nat
 | (_,v)=>nv v
termination_by structural v=>v
end
mutual
def dp:JV→Nat→Nat
 | .mk _ _ _ l m,d=>max d (max (dpL l (d+1)) (dpM m (d+1)))
termination_by structural v=>v
def dpL:List JV→Nat→Nat
 | [],_=>0
 | v::l,d=>max (dp v d) (dpL l d)
termination_by structural v=>v
def dpM:List (List UInt8 × JV)→Nat→Nat
 | [],_=>0
 | x::m,d=>max (dpP x d) (dpM m d)
termination_by structural v=>v
def dpP:List UInt8 × JV→Nat→Nat
 | (_,v),d=>dp v d
termination_by structural v=>v
end
mutual
def uq:JV→Bool
 | .mk _ _ _ l m=>uqL l && uqM m && decide (m.map (·.1)).Nodup
termination_by structural v=>v
def uqL:List JV→Bool
 | []=>true
 | v::l=>uq v && uqL l
termination_by structural v=>v
def uqM:List (List UInt8 × JV)→Bool
 | []=>true
 | x::m=>uqP x && uqM m
termination_by structural v=>v
def uqP:List UInt8 × JV→Bool
 | (_,v)=>uq v
termination_by structural v=>v
end
theorem nv_mk (k n:Int) (s:List UInt8) (l:List JV) (m:List (List UInt8 × JV)):nv (.mk k n s l m)=1+nvL l+nvM m:=by conv=>lhs;unfold nv
theorem nvL_cons (v:JV) (l:List JV):nvL (v::l)=nv v+nvL l:=by conv=>lhs;unfold nvL
theorem nvM_cons (x:List UInt8 × JV) (m:List (List UInt8 × JV)):nvM (x::m)=nv x.2+nvM m:=by conv=>lhs;unfold nvM nvP
theorem dp_mk (k n:Int) (s:List UInt8) (l:List JV) (m:List (List UInt8 × JV)) (d:Nat):dp (.mk k n s l m) d=max d (max (dpL l (d+1)) (dpM m (d+1))):=by conv=>lhs;unfold dp
theorem dpL_cons (v:JV) (l:List JV) (d:Nat):dpL (v::l) d=max (dp v d) (dpL l d):=by conv=>lhs;unfold dpL
theorem dpM_cons (x:List UInt8 × JV) (m:List (List UInt8 × JV)) (d:Nat):dpM (x::m) d=max (dp x.2 d) (dpM m d):=by conv=>lhs;unfold dpM dpP
theorem uq_mk (k n:Int) (s:List UInt8) (l:List JV) (m:List (List UInt8 × JV)):uq (.mk k n s l m)=(uqL l && uqM m && decide (m.map (·.1)).Nodup):=by conv=>lhs;unfold uq
theorem uqL_all (l:List JV):uqL l=l.all uq:=by
 induction l with
 | nil=>unfold uqL;rfl
 | cons v l ih=>unfold uqL;rw [ih];rfl
theorem uqM_all (l:List (List UInt8 × JV)):uqM l=l.all fun x=>uq x.2:=by
 induction l with
 | nil=>unfold uqM;rfl
 | cons v l ih=>unfold uqM uqP;rw [ih];rfl
theorem nvL_nil:nvL []=0:=by unfold nvL;rfl
theorem nvM_nil:nvM []=0:=by unfold nvM;rfl
theorem dpL_nil (d:Nat):dpL [] d=0:=by unfold dpL;rfl
theorem dpM_nil (d:Nat):dpM [] d=0:=by unfold dpM;rfl
theorem nvL_app (a b:List JV):nvL (a++b)=nvL a+nvL b:=by
 induction a with
 | nil=>simp [nvL_nil]
 | cons v a ih=>rw [List.cons_append,nvL_cons,nvL_cons,ih];omega
theorem nvM_app (a b:List (List UInt8 × JV)):nvM (a++b)=nvM a+nvM b:=by
 induction a with
 | nil=>simp [nvM_nil]
 | cons v a ih=>rw [List.cons_append,nvM_cons,nvM_cons,ih];omega
theorem dpL_le {l:List JV} {d n:Nat}:dpL l d≤n ↔ ∀ v∈l,dp v d≤n:=by
 induction l with
 | nil=>simp [dpL_nil]
 | cons v l ih=>rw [dpL_cons];simp only [List.mem_cons,forall_eq_or_imp,← ih];omega
theorem dpM_le {l:List (List UInt8 × JV)} {d n:Nat}:dpM l d≤n ↔ ∀ v∈l,dp v.2 d≤n:=by
 induction l with
 | nil=>simp [dpM_nil]
 | cons v l ih=>rw [dpM_cons];simp only [List.mem_cons,forall_eq_or_imp,← ih];omega

theorem leaf_is {t:Tok} {v:JV} (h:leaf t=some v):nv v=1∧uq v=true ∧ ∀ d,dp v d=d:=by
 unfold leaf at h
 repeat' split at h
 all_goals first
  | (cases h;done)
  | (obtain rfl:=Option.some.inj h;simp [textV,intV,nullV,boolV,nv_mk,uq_mk,dp_mk,nvL_nil,nvM_nil,dpL_nil,dpM_nil,uqL_all,uqM_all])

theorem rd_sorts:∀ f,(∀ e t l d p v l' p',rdV f e t l d p=.ok v l' p'→uq v=true∧p'=p+nv v∧p'≤8192∧dp v d≤16) ∧
  (∀ e l d p acc v l' p',rdL f e l d p acc=.ok v l' p' → ∃ new,v=listV (acc++new)∧(∀ u∈new,uq u=true∧dp u (d+1)≤16)∧p'=p+nvL new∧p'≤8192) ∧
  (∀ e l d p acc v l' p',(acc.map (·.1)).Nodup→rdM f e l d p acc=.ok v l' p' → ∃ new,v=mapV (acc++new)∧(∀ u∈new,uq u.2=true∧dp u.2 (d+1)≤16)∧p'=p+nvM new∧p'≤8192∧((acc++new).map (·.1)).Nodup):=by
 intro f
 induction f with
 | zero=>exact ⟨fun _ _ _ _ _ _ _ _ h=>(by unfold rdV at h;cases h),fun _ _ _ _ _ _ _ _ h=>(by unfold rdL at h;cases h),fun _ _ _ _ _ _ _ _ _ h=>(by unfold rdM at h;cases h)⟩
 | succ f ih=>
  obtain ⟨ihV,ihL,ihM⟩:=ih
  refine ⟨fun e t l d p v l' p' h=>?_,fun e l d p acc v l' p' h=>?_,fun e l d p acc v l' p' hnd h=>?_⟩
  ·rw [rdV_succ] at h
   split at h
   ·cases h
   split at h
   ·cases h
   split at h
   ·cases h
   split at h
   ·rename_i u hu
    simp only [R.ok.injEq] at h
    obtain ⟨rfl,rfl,rfl⟩:=h
    obtain ⟨h1,h2,h3⟩:=leaf_is hu
    rw [h1,h3]
    exact ⟨h2,rfl,by omega,by omega⟩
   ·split at h
    ·split at h
     ·simp only [R.ok.injEq] at h
      obtain ⟨rfl,rfl,rfl⟩:=h
      simp [listV,nv_mk,uq_mk,dp_mk,nvL_nil,nvM_nil,dpL_nil,dpM_nil,uqL_all,uqM_all]
      omega
     ·obtain ⟨new,rfl,h1,h2,h3⟩:=ihL e l d (p+1) [] v l' p' h
      rw [List.nil_append]
      refine ⟨?_,?_,h3,?_⟩
      ·simp only [listV,uq_mk,uqL_all,uqM_all,List.all_nil,List.map_nil,List.nodup_nil,decide_true,Bool.and_true,List.all_eq_true]
       exact fun u hu=>(h1 u hu).1
      ·simp only [listV,nv_mk,nvM_nil];omega
      ·simp only [listV,dp_mk,dpM_nil]
       have:=dpL_le.2 (fun u hu=>(h1 u hu).2)
       omega
    ·split at h
     ·simp only [R.ok.injEq] at h
      obtain ⟨rfl,rfl,rfl⟩:=h
      simp [mapV,nv_mk,uq_mk,dp_mk,nvL_nil,nvM_nil,dpL_nil,dpM_nil,uqL_all,uqM_all]
      omega
     ·obtain ⟨new,rfl,h1,h2,h3,h4⟩:=ihM e l d (p+1) [] v l' p' (by simp) h
      rw [List.nil_append] at h4 ⊢
      refine ⟨?_,?_,h3,?_⟩
      ·simp only [mapV,uq_mk,uqL_all,uqM_all,List.all_nil,h4,decide_true,Bool.and_true,Bool.true_and,List.all_eq_true]
       exact fun u hu=>(h1 u hu).1
      ·simp only [mapV,nv_mk,nvL_nil];omega
      ·simp only [mapV,dp_mk,dpL_nil]
       have:=dpM_le.2 (fun u hu=>(h1 u hu).2)
       omega
  ·rw [rdL_succ] at h
   rcases hr:rdV f e (next e l) l.tail (d+1) p with _ | ⟨a,w⟩ | ⟨u,r,q⟩
   ·rw [hr] at h;cases h
   ·rw [hr] at h;cases h
   ·rw [hr] at h
    simp only at h
    obtain ⟨g1,g2,g3,g4⟩:=ihV _ _ _ _ _ _ _ _ hr
    split at h
    ·simp only [R.ok.injEq] at h
     obtain ⟨rfl,rfl,rfl⟩:=h
     exact ⟨[u],rfl,by simp [g1,g4],by rw [nvL_cons,nvL_nil];omega,g3⟩
    split at h
    ·obtain ⟨new,rfl,k1,k2,k3⟩:=ihL _ _ _ _ _ _ _ _ h
     refine ⟨u::new,by simp,?_,by rw [nvL_cons];omega,k3⟩
     intro x hx
     rcases List.mem_cons.1 hx with rfl | hx
     ·exact ⟨g1,g4⟩
     ·exact k1 x hx
    ·cases h
  ·rw [rdM_succ] at h
   split at h
   ·cases h
   split at h
   ·cases h
   rename_i hnot
   split at h
   ·cases h
   rcases hr:rdV f e (next e l.tail.tail) l.tail.tail.tail (d+1) p with _ | ⟨a,w⟩ | ⟨u,r,q⟩
   ·rw [hr] at h;cases h
   ·rw [hr] at h;cases h
   ·rw [hr] at h
    simp only at h
    obtain ⟨g1,g2,g3,g4⟩:=ihV _ _ _ _ _ _ _ _ hr
    have hnd2:((acc++[((next e l).s,u)]).map (·.1)).Nodup:=by
     rw [List.map_append,List.nodup_append]
     refine ⟨hnd,by simp,fun a ha b hb=>?_⟩
     simp at hb
     subst hb
     intro e2
     subst e2
     exact hnot ha
    split at h
    ·simp only [R.ok.injEq] at h
     obtain ⟨rfl,rfl,rfl⟩:=h
     exact ⟨[_],rfl,by simp [g1,g4],by rw [nvM_cons,nvM_nil];simp only;omega,g3,hnd2⟩
    split at h
    ·obtain ⟨new,rfl,k1,k2,k3,k4⟩:=ihM _ _ _ _ _ _ _ _ hnd2 h
     refine ⟨((next e l).s,u)::new,by simp,?_,by rw [nvM_cons];simp only;omega,k3,by simpa using k4⟩
     intro x hx
     rcases List.mem_cons.1 hx with rfl | hx
     ·exact ⟨g1,g4⟩
     ·exact k1 x hx
    ·cases h

def Sfx (r:R) (l0:List Tok) (e:Nat):Prop:=match r with | .out=>True | .bad a w=>a≤e∧w≠0 | .ok _ l _=>∀ t∈l,t∈l0
end Go.Proofs.YtdhakbghdcfncaaGreatDoor.Rd
/- A token is told by its own bytes and by a sign behind them; tokens further on, and deeper. -/
namespace Go.Proofs.YtdhakbghdcfncaaGreatDoor.Scn
set_option linter.unusedVariables false
set_option linter.unusedSimpArgs false

def cut (g:UInt8):Bool:=white g || mark g
end Go.Proofs.YtdhakbghdcfncaaGreatDoor.Scn
namespace Go.Proofs.YtdhakbghdcfncaaGreatDoor.Rd
set_option linter.unusedVariables false
set_option linter.unusedSimpArgs false
open JV Scn

def shR (m:Nat):R→R
 | .out=>.out
 | .bad a w=>.bad (a+m) w
 | .ok v l p=>.ok v (l.map (shTok m)) p
def ext (m:Nat) (xs l:List Tok):List Tok:=l.map (shTok m)++xs
theorem nv_pos (v:JV):1≤nv v:=by cases v;rw [nv_mk];omega
def Wr (c:Nat) (x:R) (v:JV) (l:List Tok) (p:Nat):Prop:=if c=0 then x=.ok v l (p+1) else ∃ a,x=.bad a c
def Cd (c depth p:Nat):Prop:=c=0∨(c=51∧16≤depth)∨(c=53∧8192≤p)
end Go.Proofs.YtdhakbghdcfncaaGreatDoor.Rd
/- Plain laws of reading: a right value's text is read as it was. -/
namespace Go.Proofs.YtdhakbghdcfncaaGreatDoor.Rd
set_option linter.unusedVariables false
set_option linter.unusedSimpArgs false
open JV Scn

def Ct (u:List UInt8):Prop:=u=[] ∨ ∃ g r,u=g::r∧cut g=true
def Gv (p x u:List UInt8) (ts:List Tok):Prop:=
 (tk (p++(x++u)) (p.length+x.length)).2.2=0→tk (p++(x++u)) p.length=(ts++(tk (p++(x++u)) (p.length+x.length)).1,0,0)
def Rv (v:JV) (t:Tok) (ts:List Tok):Prop:=(isM t 93=false∧isM t 125=false) ∧ ∀ e d q q' rest,chk v d q=(0,q') → ∃ f,rdV f e t (ts++rest) d q=.ok v rest q'
def rdS (s:List UInt8):R:=match tokens s with
 | (ts,p,x)=>if x=0 then (match rdV (2*ts.length+3) s.length (next s.length ts) ts.tail 1 0 with | .ok v l q=>if l=[] then .ok v [] q else .bad (next s.length l).at_ 50 | r=>r) else .bad p x
end Go.Proofs.YtdhakbghdcfncaaGreatDoor.Rd
/- Plain laws of reading: what is read is right. -/
namespace Go.Proofs.YtdhakbghdcfncaaGreatDoor.Rd
set_option linter.unusedVariables false
set_option linter.unusedSimpArgs false
open JV Scn

def G0 (t:Tok):Prop:=Good t∨t.kind=0
end Go.Proofs.YtdhakbghdcfncaaGreatDoor.Rd
/- Plain laws of reading: what is left was there. -/
namespace Go.Proofs.YtdhakbghdcfncaaGreatDoor.Rd
set_option linter.unusedVariables false
set_option linter.unusedSimpArgs false
open JV Scn

theorem rd_toks:∀ f,(∀ e t l d p v l' p',rdV f e t l d p=.ok v l' p' → ∀ x∈l',x∈l) ∧
  (∀ e l d p acc v l' p',rdL f e l d p acc=.ok v l' p' → ∀ x∈l',x∈l) ∧
  (∀ e l d p acc v l' p',rdM f e l d p acc=.ok v l' p' → ∀ x∈l',x∈l):=by
 intro f
 induction f with
 | zero=>exact ⟨fun _ _ _ _ _ _ _ _ h=>(by unfold rdV at h;cases h),fun _ _ _ _ _ _ _ _ h=>(by unfold rdL at h;cases h),fun _ _ _ _ _ _ _ _ h=>(by unfold rdM at h;cases h)⟩
 | succ f ih=>
  obtain ⟨ihV,ihL,ihM⟩:=ih
  refine ⟨fun e t l d p v l' p' h=>?_,fun e l d p acc v l' p' h=>?_,fun e l d p acc v l' p' h=>?_⟩
  ·rw [rdV_succ] at h
   split at h
   ·cases h
   split at h
   ·cases h
   split at h
   ·cases h
   split at h
   ·simp only [R.ok.injEq] at h
    obtain ⟨rfl,rfl,rfl⟩:=h
    exact fun x hx=>hx
   ·split at h
    ·split at h
     ·simp only [R.ok.injEq] at h
      obtain ⟨rfl,rfl,rfl⟩:=h
      exact fun x hx=>List.mem_of_mem_tail hx
     ·exact ihL _ _ _ _ _ _ _ _ h
    ·split at h
     ·simp only [R.ok.injEq] at h
      obtain ⟨rfl,rfl,rfl⟩:=h
      exact fun x hx=>List.mem_of_mem_tail hx
     ·exact ihM _ _ _ _ _ _ _ _ h
  ·rw [rdL_succ] at h
   have hv:=ihV e (next e l) l.tail (d+1) p
   revert hv h
   generalize rdV f e (next e l) l.tail (d+1) p=r
   intro h hv
   cases r with
   | out=>cases h
   | bad a w=>cases h
   | ok u l2 p2=>
    have h2:=hv _ _ _ rfl
    simp only at h
    split at h
    ·simp only [R.ok.injEq] at h
     obtain ⟨rfl,rfl,rfl⟩:=h
     exact fun x hx=>List.mem_of_mem_tail (h2 x (List.mem_of_mem_tail hx))
    split at h
    ·exact fun x hx=>List.mem_of_mem_tail (h2 x (List.mem_of_mem_tail (ihL _ _ _ _ _ _ _ _ h x hx)))
    ·cases h
  ·rw [rdM_succ] at h
   split at h
   ·cases h
   split at h
   ·cases h
   split at h
   ·cases h
   have hv:=ihV e (next e l.tail.tail) l.tail.tail.tail (d+1) p
   revert hv h
   generalize rdV f e (next e l.tail.tail) l.tail.tail.tail (d+1) p=r
   intro h hv
   cases r with
   | out=>cases h
   | bad a w=>cases h
   | ok u l2 p2=>
    have h2:∀ x∈l2,x∈l:=fun x hx=>List.mem_of_mem_tail (List.mem_of_mem_tail (List.mem_of_mem_tail (hv _ _ _ rfl x hx)))
    simp only at h
    split at h
    ·simp only [R.ok.injEq] at h
     obtain ⟨rfl,rfl,rfl⟩:=h
     exact fun x hx=>h2 x (List.mem_of_mem_tail hx)
    split at h
    ·exact fun x hx=>h2 x (List.mem_of_mem_tail (ihM _ _ _ _ _ _ _ _ h x hx))
    ·cases h
end Go.Proofs.YtdhakbghdcfncaaGreatDoor.Rd
/- Plain laws of reading: white space around a text. -/
namespace Go.Proofs.YtdhakbghdcfncaaGreatDoor.Rd
set_option linter.unusedVariables false
set_option linter.unusedSimpArgs false
open JV Scn

def Al (t t':Tok):Prop:=t.kind=t'.kind∧t.n=t'.n∧t.s=t'.s
end Go.Proofs.YtdhakbghdcfncaaGreatDoor.Rd
/- Plain laws of reading: a text as the only value of a list, and of a map. -/
namespace Go.Proofs.YtdhakbghdcfncaaGreatDoor.Rd
set_option linter.unusedVariables false
set_option linter.unusedSimpArgs false
open JV Scn

def finR (e:Nat):R→R
 | .ok v l q=>if l=[] then .ok v [] q else .bad (next e l).at_ 50
 | .bad a c=>.bad a c
 | .out=>.out
end Go.Proofs.YtdhakbghdcfncaaGreatDoor.Rd
/- Plain laws of reading: how much is read. -/
namespace Go.Proofs.YtdhakbghdcfncaaGreatDoor.Rd
set_option linter.unusedVariables false
set_option linter.unusedSimpArgs false
open JV Scn

def BkV (K:Nat) (v:JV):Prop:=bulk v+1+K≤(4+2*K)*nv v
def BkL (K:Nat) (l:List JV):Prop:=bulkL l≤(4+2*K)*nvL l
def BkM (K:Nat) (m:List (List UInt8 × JV)):Prop:=bulkM m≤(4+2*K)*nvM m
end Go.Proofs.YtdhakbghdcfncaaGreatDoor.Rd
