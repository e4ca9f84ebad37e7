/- Plain mathematics of reading: no program in sight. -/
import Derived.Test.YtockgemmkjdnkaaGreatDoorPa
set_option maxRecDepth 100000
set_option linter.unusedVariables false
set_option linter.unusedSimpArgs false
namespace Go.Proofs.YtockgemmkjdnkaaGreatDoor.Rd
open JV Scn

inductive R where
 | out
 | bad (at_ why:Nat)
 | ok (v:JV) (l:List Tok) (p:Nat)

def next (e:Nat) (l:List Tok):Tok:=l.headD ⟨0,0,[],e⟩
def isM (t:Tok) (c:UInt8):Bool:=t.kind == 1 && t.s == [c]
def leaf (t:Tok):Option JV:=if t.kind=4 then some (textV t.s) else if t.kind=3 then some (intV t.n) else if t.kind=2 then (if t.s=tNull then some nullV else if t.s=tTrue then some (boolV 1) else some (boolV 0)) else none
mutual
def rdV:Nat->Nat->Tok->List Tok->Nat->Nat->R
 | 0,_,_,_,_,_=>.out
 | f+1,e,t,l,d,p=>
  if leaf t=none/\isM t 91=false/\isM t 123=false then .bad t.at_ 50
  else if 16<d then .bad t.at_ 51
  else if 8192<=p then .bad t.at_ 53
  else match leaf t with
   | some v=>.ok v l (p+1)
   | none=>if isM t 91 then (if isM (next e l) 93 then .ok (listV []) l.tail (p+1) else rdL f e l d (p+1) []) else (if isM (next e l) 125 then .ok (mapV []) l.tail (p+1) else rdM f e l d (p+1) [])
termination_by structural f=>f
def rdL:Nat->Nat->List Tok->Nat->Nat->List JV->R
 | 0,_,_,_,_,_=>.out
 | f+1,e,l,d,p,acc=>
  match rdV f e (next e l) l.tail (d+1) p with
  | .out=>.out
  | .bad a w=>.bad a w
  | .ok v l' p'=>if isM (next e l') 93 then .ok (listV (acc++[v])) l'.tail p' else if isM (next e l') 44 then rdL f e l'.tail d p' (acc++[v]) else .bad (next e l').at_ 50
termination_by structural f=>f
def rdM:Nat->Nat->List Tok->Nat->Nat->List (List UInt8 × JV)->R
 | 0,_,_,_,_,_=>.out
 | f+1,e,l,d,p,acc=>
  if (next e l).kind≠4 then .bad (next e l).at_ 50
  else if (next e l).s∈acc.map (·.1) then .bad (next e l).at_ 52
  else if isM (next e l.tail) 58=false then .bad (next e l.tail).at_ 50
  else match rdV f e (next e l.tail.tail) l.tail.tail.tail (d+1) p with
   | .out=>.out
   | .bad a w=>.bad a w
   | .ok v l' p'=>if isM (next e l') 125 then .ok (mapV (acc++[((next e l).s,v)])) l'.tail p' else if isM (next e l') 44 then rdM f e l'.tail d p' (acc++[((next e l).s,v)]) else .bad (next e l').at_ 50
termination_by structural f=>f
end
theorem rdV_succ (f e:Nat) (t:Tok) (l:List Tok) (d p:Nat):rdV (f+1) e t l d p =
  if leaf t=none/\isM t 91=false/\isM t 123=false then .bad t.at_ 50
  else if 16<d then .bad t.at_ 51
  else if 8192<=p then .bad t.at_ 53
  else match leaf t with
   | some v=>.ok v l (p+1)
   | none=>if isM t 91 then (if isM (next e l) 93 then .ok (listV []) l.tail (p+1) else rdL f e l d (p+1) []) else (if isM (next e l) 125 then .ok (mapV []) l.tail (p+1) else rdM f e l d (p+1) []):=by
 conv=>lhs;unfold rdV
theorem rdL_succ (f e:Nat) (l:List Tok) (d p:Nat) (acc:List JV):rdL (f+1) e l d p acc =
  match rdV f e (next e l) l.tail (d+1) p with
  | .out=>.out
  | .bad a w=>.bad a w
  | .ok v l' p'=>if isM (next e l') 93 then .ok (listV (acc++[v])) l'.tail p' else if isM (next e l') 44 then rdL f e l'.tail d p' (acc++[v]) else .bad (next e l').at_ 50:=by
 conv=>lhs;unfold rdL
theorem rdM_succ (f e:Nat) (l:List Tok) (d p:Nat) (acc:List (List UInt8 × JV)):rdM (f+1) e l d p acc =
  if (next e l).kind≠4 then .bad (next e l).at_ 50
  else if (next e l).s∈acc.map (·.1) then .bad (next e l).at_ 52
  else if isM (next e l.tail) 58=false then .bad (next e l.tail).at_ 50
  else match rdV f e (next e l.tail.tail) l.tail.tail.tail (d+1) p with
   | .out=>.out
   | .bad a w=>.bad a w
   | .ok v l' p'=>if isM (next e l') 125 then .ok (mapV (acc++[((next e l).s,v)])) l'.tail p' else if isM (next e l') 44 then rdM f e l'.tail d p' (acc++[((next e l).s,v)]) else .bad (next e l').at_ 50:=by
 conv=>lhs;unfold rdM

def Le (r:R) (n:Nat):Prop:=match r with | .ok _ l _=>l.length<=n | _=>True
theorem rd_le:∀ f,(∀ e t l d p,Le (rdV f e t l d p) l.length)/\(∀ e l d p acc,Le (rdL f e l d p acc) (l.length - 1))/\(∀ e l d p acc,Le (rdM f e l d p acc) (l.length - 1)):=by
 intro f
 induction f with
 | zero=>exact ⟨λ_ _ _ _ _=>by unfold rdV;trivial,λ_ _ _ _ _=>by unfold rdL;trivial,λ_ _ _ _ _=>by unfold rdM;trivial⟩
 | succ f ih=>
  obtain ⟨ihV,ihL,ihM⟩:=ih;refine ⟨λe t l d p=>?_,λe l d p acc=>?_,λe l d p acc=>?_⟩
  ·rw [rdV_succ];repeat' split
   all_goals first
    | trivial
    | exact Nat.le_refl _
    | (show l.tail.length<=_;rw [List.length_tail];omega)
    | (have:=ihL e l d (p+1) [];revert this;generalize rdL f e l d (p+1) []=r;intro h;cases r <;> first | trivial | (simp only [Le] at h ⊢;omega))
    | (have:=ihM e l d (p+1) [];revert this;generalize rdM f e l d (p+1) []=r;intro h;cases r <;> first | trivial | (simp only [Le] at h ⊢;omega))
  ·rw [rdL_succ];have hv:=ihV e (next e l) l.tail (d+1) p;revert hv;generalize rdV f e (next e l) l.tail (d+1) p=r;intro hv
   cases r with
   | out=>trivial
   | bad a w=>trivial
   | ok v l' p'=>
    simp only [Le,List.length_tail] at hv;simp only;split
    ·simp only [Le,List.length_tail];omega
    split
    ·have:=ihL e l'.tail d p' (acc++[v]);revert this;generalize rdL f e l'.tail d p' (acc++[v])=r;intro h;cases r <;> first | trivial | (simp only [Le,List.length_tail] at h ⊢;omega)
    ·trivial
  ·rw [rdM_succ];split
   ·trivial
   split
   ·trivial
   split
   ·trivial
   have hv:=ihV e (next e l.tail.tail) l.tail.tail.tail (d+1) p;revert hv;generalize rdV f e (next e l.tail.tail) l.tail.tail.tail (d+1) p=r;intro hv
   cases r with
   | out=>trivial
   | bad a w=>trivial
   | ok v l' p'=>
    simp only [Le,List.length_tail] at hv;simp only;split
    ·simp only [Le,List.length_tail];omega
    split
    ·have:=ihM e l'.tail d p' (acc++[((next e l).s,v)]);revert this;generalize rdM f e l'.tail d p' (acc++[((next e l).s,v)])=r;intro h;cases r <;> first | trivial | (simp only [Le,List.length_tail] at h ⊢;omega)
    ·trivial

theorem next_end {e:Nat} {l:List Tok} {c:UInt8} (h:isM (next e l) c=true):0<l.length:=by
 cases l with
 | nil=>simp [next,isM] at h
 | cons t l=>simp
theorem rdV_end (f e d p:Nat) (l:List Tok):rdV (f+1) e (next e []) l d p=.bad e 50:=by
 rw [rdV_succ];simp [next,leaf,isM]
theorem rd_fuel:∀ f,(∀ e t l d p,2*l.length+3<=f->rdV f e t l d p≠.out)/\(∀ e l d p acc,2*l.length+2<=f->rdL f e l d p acc≠.out)/\(∀ e l d p acc,2*l.length+2<=f->rdM f e l d p acc≠.out):=by
 intro f
 induction f with
 | zero=>exact ⟨λ_ _ _ _ _ h=>by omega,λ_ _ _ _ _ h=>by omega,λ_ _ _ _ _ h=>by omega⟩
 | succ f ih=>
  obtain ⟨ihV,ihL,ihM⟩:=ih;refine ⟨λe t l d p h=>?_,λe l d p acc h=>?_,λe l d p acc h=>?_⟩
  ·rw [rdV_succ];repeat' split
   all_goals first
    | (intro h;cases h;done)
    | exact ihL e l d _ _ (by omega)
    | exact ihM e l d _ _ (by omega)
  ·rw [rdL_succ];have hv:rdV f e (next e l) l.tail (d+1) p≠.out:=by
    cases l with
    | nil=>
     obtain ⟨g,rfl⟩:∃ g,f=g+1:=⟨f - 1,by simp at h;omega⟩;rw [rdV_end];simp
    | cons t l=>exact ihV _ _ _ _ _ (by simp at h ⊢;omega)
   have hle:=(rd_le f).1 e (next e l) l.tail (d+1) p;revert hv hle;generalize rdV f e (next e l) l.tail (d+1) p=r;intro hv hle
   cases r with
   | out=>exact absurd rfl hv
   | bad a w=>simp
   | ok v l' p'=>
    simp only [Le,List.length_tail] at hle;simp only;split
    ·simp
    split
    ·rename_i hc
     have:=next_end hc;exact ihL _ _ _ _ _ (by rw [List.length_tail];omega)
    ·simp
  ·rw [rdM_succ];split
   ·simp
   rename_i hk
   have hl:0<l.length:=by
    cases l with
    | nil=>simp [next] at hk
    | cons t l=>simp
   split
   ·simp
   split
   ·simp
   rename_i hc
   have hl1:0<l.tail.length:=next_end (by simpa using hc);rw [List.length_tail] at hl1;have hv:rdV f e (next e l.tail.tail) l.tail.tail.tail (d+1) p≠.out:=by
    exact ihV _ _ _ _ _ (by simp only [List.length_tail];omega)
   have hle:=(rd_le f).1 e (next e l.tail.tail) l.tail.tail.tail (d+1) p;revert hv hle;generalize rdV f e (next e l.tail.tail) l.tail.tail.tail (d+1) p=r;intro hv hle
   cases r with
   | out=>exact absurd rfl hv
   | bad a w=>simp
   | ok v l' p'=>
    simp only [Le,List.length_tail] at hle;simp only;split
    ·simp
    split
    ·rename_i hc
     have:=next_end hc;exact ihM _ _ _ _ _ (by rw [List.length_tail];omega)
    ·simp
end Go.Proofs.YtockgemmkjdnkaaGreatDoor.Rd
/- Plain laws of reading: how much, how deep, where faults lie; tokens further on. -/
namespace Go.Proofs.YtockgemmkjdnkaaGreatDoor.Rd
open JV Scn

mutual
def nv:JV->Nat
 | .mk _ _ _ l m=>1+nvL l+nvM m
termination_by structural v=>v
def nvL:List JV->Nat
 | []=>0
 | v::l=>nv v+nvL l
termination_by structural v=>v
def nvM:List (List UInt8 × JV)->Nat
 | []=>0
 | x::m=>nvP x+nvM m
termination_by structural v=>v
def nvP:List UInt8 × JV->Nat
 | (_,v)=>nv v
termination_by structural v=>v
end
mutual
def dp:JV->Nat->Nat
 | .mk _ _ _ l m,d=>max d (max (dpL l (d+1)) (dpM m (d+1)))
termination_by structural v=>v
def dpL:List JV->Nat->Nat
 | [],_=>0
 | v::l,d=>max (dp v d) (dpL l d)
termination_by structural v=>v
def dpM:List (List UInt8 × JV)->Nat->Nat
 | [],_=>0
 | x::m,d=>max (dpP x d) (dpM m d)
termination_by structural v=>v
def dpP:List UInt8 × JV->Nat->Nat
 | (_,v),d=>dp v d
termination_by structural v=>v
end
mutual
def uq:JV->Bool
 | .mk _ _ _ l m=>uqL l && uqM m && decide (m.map (·.1)).Nodup
termination_by structural v=>v
def uqL:List JV->Bool
 | []=>true
 | v::l=>uq v && uqL l
termination_by structural v=>v
def uqM:List (List UInt8 × JV)->Bool
 | []=>true
 | x::m=>uqP x && uqM m
termination_by structural v=>v
def uqP:List UInt8 × JV->Bool
 | (_,v)=>uq v
termination_by structural v=>v
end
theorem nv_mk (k n:Int) (s:List UInt8) (l:List JV) (m:List (List UInt8 × JV)):nv (.mk k n s l m)=1+nvL l+nvM m:=by conv=>lhs;unfold nv
theorem nvL_cons (v:JV) (l:List JV):nvL (v::l)=nv v+nvL l:=by conv=>lhs;unfold nvL
theorem nvM_cons (x:List UInt8 × JV) (m:List (List UInt8 × JV)):nvM (x::m)=nv x.2+nvM m:=by conv=>lhs;unfold nvM nvP
theorem dp_mk (k n:Int) (s:List UInt8) (l:List JV) (m:List (List UInt8 × JV)) (d:Nat):dp (.mk k n s l m) d=max d (max (dpL l (d+1)) (dpM m (d+1))):=by conv=>lhs;unfold dp
theorem dpL_cons (v:JV) (l:List JV) (d:Nat):dpL (v::l) d=max (dp v d) (dpL l d):=by conv=>lhs;unfold dpL
theorem dpM_cons (x:List UInt8 × JV) (m:List (List UInt8 × JV)) (d:Nat):dpM (x::m) d=max (dp x.2 d) (dpM m d):=by conv=>lhs;unfold dpM dpP
theorem uq_mk (k n:Int) (s:List UInt8) (l:List JV) (m:List (List UInt8 × JV)):uq (.mk k n s l m)=(uqL l && uqM m && decide (m.map (·.1)).Nodup):=by conv=>lhs;unfold uq
theorem uqL_all (l:List JV):uqL l=l.all uq:=by
 induction l with
 | nil=>unfold uqL;rfl
 | cons v l ih=>unfold uqL;rw [ih];rfl
theorem uqM_all (l:List (List UInt8 × JV)):uqM l=l.all λx=>uq x.2:=by
 induction l with
 | nil=>unfold uqM;rfl
 | cons v l ih=>unfold uqM uqP;rw [ih];rfl
theorem nvL_nil:nvL []=0:=by unfold nvL;rfl
theorem nvM_nil:nvM []=0:=by unfold nvM;rfl
theorem dpL_nil (d:Nat):dpL [] d=0:=by unfold dpL;rfl
theorem dpM_nil (d:Nat):dpM [] d=0:=by unfold dpM;rfl
theorem nvL_app (a b:List JV):nvL (a++b)=nvL a+nvL b:=by
 induction a with
 | nil=>simp [nvL_nil]
 | cons v a ih=>rw [List.cons_append,nvL_cons,nvL_cons,ih];omega
theorem nvM_app (a b:List (List UInt8 × JV)):nvM (a++b)=nvM a+nvM b:=by
 induction a with
 | nil=>simp [nvM_nil]
 | cons v a ih=>rw [List.cons_append,nvM_cons,nvM_cons,ih];omega
theorem dpL_le {l:List JV} {d n:Nat}:dpL l d<=n ↔ ∀ v∈l,dp v d<=n:=by
 induction l with
 | nil=>simp [dpL_nil]
 | cons v l ih=>rw [dpL_cons];simp only [List.mem_cons,forall_eq_or_imp,<- ih];omega
theorem dpM_le {l:List (List UInt8 × JV)} {d n:Nat}:dpM l d<=n ↔ ∀ v∈l,dp v.2 d<=n:=by
 induction l with
 | nil=>simp [dpM_nil]
 | cons v l ih=>rw [dpM_cons];simp only [List.mem_cons,forall_eq_or_imp,<- ih];omega

theorem leaf_is {t:Tok} {v:JV} (h:leaf t=some v):nv v=1/\uq v=true /\ ∀ d,dp v d=d:=by
 unfold leaf at h;repeat' split at h
 all_goals first
  | (cases h;done)
  | (obtain rfl:=Option.some.inj h;simp [textV,intV,nullV,boolV,nv_mk,uq_mk,dp_mk,nvL_nil,nvM_nil,dpL_nil,dpM_nil,uqL_all,uqM_all])

theorem rd_sorts:∀ f,(∀ e t l d p v l' p',rdV f e t l d p=.ok v l' p'->uq v=true/\p'=p+nv v/\p'<=8192/\dp v d<=16) /\
  (∀ e l d p acc v l' p',rdL f e l d p acc=.ok v l' p' -> ∃ new,v=listV (acc++new)/\(∀ u∈new,uq u=true/\dp u (d+1)<=16)/\p'=p+nvL new/\p'<=8192) /\
  (∀ e l d p acc v l' p',(acc.map (·.1)).Nodup->rdM f e l d p acc=.ok v l' p' -> ∃ new,v=mapV (acc++new)/\(∀ u∈new,uq u.2=true/\dp u.2 (d+1)<=16)/\p'=p+nvM new/\p'<=8192/\((acc++new).map (·.1)).Nodup):=by
 intro f
 induction f with
 | zero=>exact ⟨λ_ _ _ _ _ _ _ _ h=>(by unfold rdV at h;cases h),λ_ _ _ _ _ _ _ _ h=>(by unfold rdL at h;cases h),λ_ _ _ _ _ _ _ _ _ h=>(by unfold rdM at h;cases h)⟩
 | succ f ih=>
  obtain ⟨ihV,ihL,ihM⟩:=ih;refine ⟨λe t l d p v l' p' h=>?_,λe l d p acc v l' p' h=>?_,λe l d p acc v l' p' hnd h=>?_⟩
  ·rw [rdV_succ] at h;split at h
   ·cases h
   split at h
   ·cases h
   split at h
   ·cases h
   split at h
   ·rename_i u hu
    simp only [R.ok.injEq] at h;obtain ⟨rfl,rfl,rfl⟩:=h;obtain ⟨h1,h2,h3⟩:=leaf_is hu;rw [h1,h3];exact ⟨h2,rfl,by omega,by omega⟩
   ·split at h
    ·split at h
     ·simp only [R.ok.injEq] at h;obtain ⟨rfl,rfl,rfl⟩:=h;simp [listV,nv_mk,uq_mk,dp_mk,nvL_nil,nvM_nil,dpL_nil,dpM_nil,uqL_all,uqM_all]
      omega
     ·obtain ⟨new,rfl,h1,h2,h3⟩:=ihL e l d (p+1) [] v l' p' h;rw [List.nil_append];refine ⟨?_,?_,h3,?_⟩
      ·simp only [listV,uq_mk,uqL_all,uqM_all,List.all_nil,List.map_nil,List.nodup_nil,decide_true,Bool.and_true,List.all_eq_true];exact λu hu=>(h1 u hu).1
      ·simp only [listV,nv_mk,nvM_nil];omega
      ·simp only [listV,dp_mk,dpM_nil];have:=dpL_le.2 (λu hu=>(h1 u hu).2);omega
    ·split at h
     ·simp only [R.ok.injEq] at h;obtain ⟨rfl,rfl,rfl⟩:=h;simp [mapV,nv_mk,uq_mk,dp_mk,nvL_nil,nvM_nil,dpL_nil,dpM_nil,uqL_all,uqM_all]
      omega
     ·obtain ⟨new,rfl,h1,h2,h3,h4⟩:=ihM e l d (p+1) [] v l' p' (by simp) h;rw [List.nil_append] at h4 ⊢;refine ⟨?_,?_,h3,?_⟩
      ·simp only [mapV,uq_mk,uqL_all,uqM_all,List.all_nil,h4,decide_true,Bool.and_true,Bool.true_and,List.all_eq_true];exact λu hu=>(h1 u hu).1
      ·simp only [mapV,nv_mk,nvL_nil];omega
      ·simp only [mapV,dp_mk,dpL_nil];have:=dpM_le.2 (λu hu=>(h1 u hu).2);omega
  ·rw [rdL_succ] at h;rcases hr:rdV f e (next e l) l.tail (d+1) p with _ | ⟨a,w⟩ | ⟨u,r,q⟩
   ·rw [hr] at h;cases h
   ·rw [hr] at h;cases h
   ·rw [hr] at h;simp only at h;obtain ⟨g1,g2,g3,g4⟩:=ihV _ _ _ _ _ _ _ _ hr;split at h
    ·simp only [R.ok.injEq] at h;obtain ⟨rfl,rfl,rfl⟩:=h;exact ⟨[u],rfl,by simp [g1,g4],by rw [nvL_cons,nvL_nil];omega,g3⟩
    split at h
    ·obtain ⟨new,rfl,k1,k2,k3⟩:=ihL _ _ _ _ _ _ _ _ h;refine ⟨u::new,by simp,?_,by rw [nvL_cons];omega,k3⟩;intro x hx;rcases List.mem_cons.1 hx with rfl | hx
     ·exact ⟨g1,g4⟩
     ·exact k1 x hx
    ·cases h
  ·rw [rdM_succ] at h;split at h
   ·cases h
   split at h
   ·cases h
   rename_i hnot
   split at h
   ·cases h
   rcases hr:rdV f e (next e l.tail.tail) l.tail.tail.tail (d+1) p with _ | ⟨a,w⟩ | ⟨u,r,q⟩
   ·rw [hr] at h;cases h
   ·rw [hr] at h;cases h
   ·rw [hr] at h;simp only at h;obtain ⟨g1,g2,g3,g4⟩:=ihV _ _ _ _ _ _ _ _ hr;have hnd2:((acc++[((next e l).s,u)]).map (·.1)).Nodup:=by
     rw [List.map_append,List.nodup_append];refine ⟨hnd,by simp,λa ha b hb=>?_⟩;simp at hb;subst hb;intro e2;subst e2;exact hnot ha
    split at h
    ·simp only [R.ok.injEq] at h;obtain ⟨rfl,rfl,rfl⟩:=h;exact ⟨[_],rfl,by simp [g1,g4],by rw [nvM_cons,nvM_nil];simp only;omega,g3,hnd2⟩
    split at h
    ·obtain ⟨new,rfl,k1,k2,k3,k4⟩:=ihM _ _ _ _ _ _ _ _ hnd2 h;refine ⟨((next e l).s,u)::new,by simp,?_,by rw [nvM_cons];simp only;omega,k3,by simpa using k4⟩;intro x hx;rcases List.mem_cons.1 hx with rfl | hx
     ·exact ⟨g1,g4⟩
     ·exact k1 x hx
    ·cases h

theorem next_at {e:Nat} {l:List Tok} (h:∀ t∈l,t.at_<=e):(next e l).at_<=e:=by
 cases l with
 | nil=>exact Nat.le_refl _
 | cons t l=>exact h t (by simp)
def Sfx (r:R) (l0:List Tok) (e:Nat):Prop:=match r with | .out=>True | .bad a w=>a<=e/\w≠0 | .ok _ l _=>∀ t∈l,t∈l0
theorem mem_tail2 {t:Tok} {l:List Tok} (h:t∈l.tail):t∈l:=List.mem_of_mem_tail h
theorem rd_place:∀ f,(∀ e t l d p,t.at_<=e->(∀ x∈l,x.at_<=e)->Sfx (rdV f e t l d p) l e) /\
  (∀ e l d p acc,(∀ x∈l,x.at_<=e)->Sfx (rdL f e l d p acc) l e)/\(∀ e l d p acc,(∀ x∈l,x.at_<=e)->Sfx (rdM f e l d p acc) l e):=by
 intro f
 induction f with
 | zero=>exact ⟨λ_ _ _ _ _ _ _=>by unfold rdV;trivial,λ_ _ _ _ _ _=>by unfold rdL;trivial,λ_ _ _ _ _ _=>by unfold rdM;trivial⟩
 | succ f ih=>
  obtain ⟨ihV,ihL,ihM⟩:=ih;refine ⟨λe t l d p ht hl=>?_,λe l d p acc hl=>?_,λe l d p acc hl=>?_⟩
  ·rw [rdV_succ];repeat' split
   all_goals first
    | exact ⟨ht,by decide⟩
    | exact λ_ h=>h
    | exact λ_ h=>mem_tail2 h
    | exact ihL e l d _ _ hl
    | exact ihM e l d _ _ hl
  ·rw [rdL_succ];have hl1:∀ x∈l.tail,x.at_<=e:=λx hx=>hl x (mem_tail2 hx)
   have hv:=ihV e (next e l) l.tail (d+1) p (next_at hl) hl1;revert hv;generalize rdV f e (next e l) l.tail (d+1) p=r;intro hv
   cases r with
   | out=>trivial
   | bad a w=>exact hv
   | ok v l' p'=>
    have hl2:∀ x∈l',x.at_<=e:=λx hx=>hl1 x (hv x hx)
    simp only;split
    ·exact λx hx=>mem_tail2 (hv x (mem_tail2 hx))
    split
    ·have:=ihL e l'.tail d p' (acc++[v]) (λx hx=>hl2 x (mem_tail2 hx));revert this;generalize rdL f e l'.tail d p' (acc++[v])=r;intro h
     cases r with
     | out=>trivial
     | bad a w=>exact h
     | ok v2 l2 p2=>exact λx hx=>mem_tail2 (hv x (mem_tail2 (h x hx)))
    ·exact ⟨next_at hl2,by decide⟩
  ·rw [rdM_succ];have hl1:∀ x∈l.tail,x.at_<=e:=λx hx=>hl x (mem_tail2 hx)
   have hl2:∀ x∈l.tail.tail,x.at_<=e:=λx hx=>hl1 x (mem_tail2 hx)
   have hl3:∀ x∈l.tail.tail.tail,x.at_<=e:=λx hx=>hl2 x (mem_tail2 hx)
   split
   ·exact ⟨next_at hl,by decide⟩
   split
   ·exact ⟨next_at hl,by decide⟩
   split
   ·exact ⟨next_at hl1,by decide⟩
   have hv:=ihV e (next e l.tail.tail) l.tail.tail.tail (d+1) p (next_at hl2) hl3;revert hv;generalize rdV f e (next e l.tail.tail) l.tail.tail.tail (d+1) p=r;intro hv
   cases r with
   | out=>trivial
   | bad a w=>exact hv
   | ok v l' p'=>
    have hl4:∀ x∈l',x.at_<=e:=λx hx=>hl3 x (hv x hx)
    simp only;split
    ·exact λx hx=>mem_tail2 (mem_tail2 (mem_tail2 (hv x (mem_tail2 hx))))
    split
    ·have:=ihM e l'.tail d p' (acc++[((next e l).s,v)]) (λx hx=>hl4 x (mem_tail2 hx));revert this;generalize rdM f e l'.tail d p' (acc++[((next e l).s,v)])=r;intro h
     cases r with
     | out=>trivial
     | bad a w=>exact h
     | ok v2 l2 p2=>exact λx hx=>mem_tail2 (mem_tail2 (mem_tail2 (hv x (mem_tail2 (h x hx)))))
    ·exact ⟨next_at hl4,by decide⟩

end Go.Proofs.YtockgemmkjdnkaaGreatDoor.Rd
/- A token is told by its own bytes and by a sign behind them; tokens further on, and deeper. -/
namespace Go.Proofs.YtockgemmkjdnkaaGreatDoor.Scn

def cut (g:UInt8):Bool:=white g || mark g
end Go.Proofs.YtockgemmkjdnkaaGreatDoor.Scn
namespace Go.Proofs.YtockgemmkjdnkaaGreatDoor.Rd
open JV Scn

def shR (m:Nat):R->R
 | .out=>.out
 | .bad a w=>.bad (a+m) w
 | .ok v l p=>.ok v (l.map (shTok m)) p
def ext (m:Nat) (xs l:List Tok):List Tok:=l.map (shTok m)++xs
theorem nv_pos (v:JV):1<=nv v:=by cases v;rw [nv_mk];omega
def Wr (c:Nat) (x:R) (v:JV) (l:List Tok) (p:Nat):Prop:=if c=0 then x=.ok v l (p+1) else ∃ a,x=.bad a c
def Cd (c depth p:Nat):Prop:=c=0\/(c=51/\16<=depth)\/(c=53/\8192<=p)
end Go.Proofs.YtockgemmkjdnkaaGreatDoor.Rd
/- Plain laws of reading: a right value's text is read as it was. -/
namespace Go.Proofs.YtockgemmkjdnkaaGreatDoor.Rd
open JV Scn

def Ct (u:List UInt8):Prop:=u=[] \/ ∃ g r,u=g::r/\cut g=true
def Gv (p x u:List UInt8) (ts:List Tok):Prop:=
 (tk (p++(x++u)) (p.length+x.length)).2.2=0->tk (p++(x++u)) p.length=(ts++(tk (p++(x++u)) (p.length+x.length)).1,0,0)
def Rv (v:JV) (t:Tok) (ts:List Tok):Prop:=(isM t 93=false/\isM t 125=false) /\ ∀ e d q q' rest,chk v d q=(0,q') -> ∃ f,rdV f e t (ts++rest) d q=.ok v rest q'
def rdS (s:List UInt8):R:=match tokens s with
 | (ts,p,x)=>if x=0 then (match rdV (2*ts.length+3) s.length (next s.length ts) ts.tail 1 0 with | .ok v l q=>if l=[] then .ok v [] q else .bad (next s.length l).at_ 50 | r=>r) else .bad p x
end Go.Proofs.YtockgemmkjdnkaaGreatDoor.Rd
/- Plain laws of reading: what is read is right. -/
namespace Go.Proofs.YtockgemmkjdnkaaGreatDoor.Rd
open JV Scn

def G0 (t:Tok):Prop:=Good t\/t.kind=0
theorem next_g0 {e:Nat} {l:List Tok} (h:∀ t∈l,Good t):G0 (next e l):=by
 cases l with
 | nil=>exact .inr rfl
 | cons t l=>exact .inl (h t (by simp))
theorem leaf_ok {t:Tok} {v:JV} (h:leaf t=some v) (hg:G0 t):okB v=true:=by
 rcases hg with hg | h0
 ·cases hg with
  | mark c a hm=>simp [leaf] at h
  | word w a hw=>
   rcases hw with rfl | rfl | rfl
   ·have:v=boolV 1:=by injection h with h;exact h.symm
    subst this;rfl
   ·have:v=boolV 0:=by injection h with h;exact h.symm
    subst this;rfl
   ·have:v=nullV:=by injection h with h;exact h.symm
    subst this;rfl
  | num n a h1 h2=>
   have:v=intV n:=by injection h with h;exact h.symm
   subst this;rw [ok_iff];refine ⟨?_,by simp [intV,kd],by simp [intV,ls],by simp [intV,ms]⟩;simp [rightB,intV,bareB,h1,h2];decide
  | text s a hs=>
   have:v=textV s:=by injection h with h;exact h.symm
   subst this;rw [ok_iff];refine ⟨?_,by simp [textV,kd],by simp [textV,ls],by simp [textV,ms]⟩;simp [rightB,textV,bareB,hs]
 ·simp [leaf,h0] at h
theorem ok_list {l:List JV} (h:∀ u∈l,okB u=true):okB (listV l)=true:=by
 rw [ok_iff];exact ⟨by simp [rightB,listV,bareB];decide,by simp [listV,kd],h,by simp [listV,ms]⟩
theorem ok_map {m:List (List UInt8 × JV)} (h:∀ x∈m,okB x.2=true) (hn:namesB m=true):okB (mapV m)=true:=by
 rw [ok_iff];exact ⟨by simp [rightB,mapV,bareB,hn];decide,λ_=>hn,by simp [mapV,ls],h⟩
theorem rd_ok:∀ f,(∀ e t l d p v l' p',G0 t->(∀ x∈l,Good x)->rdV f e t l d p=.ok v l' p'->okB v=true /\ ∀ x∈l',Good x) /\
  (∀ e l d p acc v l' p',(∀ x∈l,Good x)->(∀ u∈acc,okB u=true)->rdL f e l d p acc=.ok v l' p'->okB v=true /\ ∀ x∈l',Good x) /\
  (∀ e l d p acc v l' p',(∀ x∈l,Good x)->(∀ u∈acc,okB u.2=true)->namesB acc=true->rdM f e l d p acc=.ok v l' p'->okB v=true /\ ∀ x∈l',Good x):=by
 intro f
 induction f with
 | zero=>exact ⟨λ_ _ _ _ _ _ _ _ _ _ h=>(by unfold rdV at h;cases h),λ_ _ _ _ _ _ _ _ _ _ h=>(by unfold rdL at h;cases h),λ_ _ _ _ _ _ _ _ _ _ _ h=>(by unfold rdM at h;cases h)⟩
 | succ f ih=>
  obtain ⟨ihV,ihL,ihM⟩:=ih;refine ⟨λe t l d p v l' p' hg hl h=>?_,λe l d p acc v l' p' hl ha h=>?_,λe l d p acc v l' p' hl ha hn h=>?_⟩
  ·rw [rdV_succ] at h;split at h
   ·cases h
   split at h
   ·cases h
   split at h
   ·cases h
   split at h
   ·rename_i u hu
    simp only [R.ok.injEq] at h;obtain ⟨rfl,rfl,rfl⟩:=h;exact ⟨leaf_ok hu hg,hl⟩
   ·split at h
    ·split at h
     ·simp only [R.ok.injEq] at h;obtain ⟨rfl,rfl,rfl⟩:=h;exact ⟨ok_list (by simp),λx hx=>hl x (List.mem_of_mem_tail hx)⟩
     ·exact ihL _ _ _ _ _ _ _ _ hl (by simp) h
    ·split at h
     ·simp only [R.ok.injEq] at h;obtain ⟨rfl,rfl,rfl⟩:=h;exact ⟨ok_map (by simp) (by decide),λx hx=>hl x (List.mem_of_mem_tail hx)⟩
     ·exact ihM _ _ _ _ _ _ _ _ hl (by simp) (by decide) h
  ·rw [rdL_succ] at h;have hv:=ihV e (next e l) l.tail (d+1) p;revert hv h;generalize rdV f e (next e l) l.tail (d+1) p=r;intro h hv
   cases r with
   | out=>cases h
   | bad a w=>cases h
   | ok u l2 p2=>
    obtain ⟨h1,h2⟩:=hv _ _ _ (next_g0 hl) (λx hx=>hl x (List.mem_of_mem_tail hx)) rfl;have h3:∀ w∈acc++[u],okB w=true:=by
     intro w hw;rcases List.mem_append.1 hw with hw | hw
     ·exact ha w hw
     ·simp at hw;subst hw;exact h1
    simp only at h;split at h
    ·simp only [R.ok.injEq] at h;obtain ⟨rfl,rfl,rfl⟩:=h;exact ⟨ok_list h3,λx hx=>h2 x (List.mem_of_mem_tail hx)⟩
    split at h
    ·exact ihL _ _ _ _ _ _ _ _ (λx hx=>h2 x (List.mem_of_mem_tail hx)) h3 h
    ·cases h
  ·rw [rdM_succ] at h;split at h
   ·cases h
   rename_i hk
   split at h
   ·cases h
   rename_i hnew
   split at h
   ·cases h
   have hs:Utf.bad (next e l).s=(next e l).s.length:=by
    rcases next_g0 (e:=e) hl with hg | h0
    ·revert hk;generalize next e l=t at hg;intro hk
     cases hg with
     | mark c a hm=>simp at hk
     | word w a hw=>simp at hk
     | num n a h1 h2=>simp at hk
     | text s a hs=>exact hs
    ·rw [h0] at hk;simp at hk
   have hl3:∀ x∈l.tail.tail,Good x:=λx hx=>hl x (List.mem_of_mem_tail (List.mem_of_mem_tail hx))
   have hv:=ihV e (next e l.tail.tail) l.tail.tail.tail (d+1) p;revert hv h;generalize rdV f e (next e l.tail.tail) l.tail.tail.tail (d+1) p=r;intro h hv
   cases r with
   | out=>cases h
   | bad a w=>cases h
   | ok u l2 p2=>
    obtain ⟨h1,h2⟩:=hv _ _ _ (next_g0 hl3) (λx hx=>hl3 x (List.mem_of_mem_tail hx)) rfl;have h3:∀ w∈acc++[((next e l).s,u)],okB w.2=true:=by
     intro w hw;rcases List.mem_append.1 hw with hw | hw
     ·exact ha w hw
     ·simp at hw;subst hw;exact h1
    have h4:namesB (acc++[((next e l).s,u)])=true:=by
     simp only [namesB,Bool.and_eq_true,List.all_eq_true,beq_iff_eq,decide_eq_true_eq] at hn ⊢;refine ⟨λx hx=>?_,?_⟩
     ·rcases List.mem_append.1 hx with hx | hx
      ·exact hn.1 x hx
      ·simp at hx;subst hx;exact hs
     ·rw [List.map_append,List.nodup_append];refine ⟨hn.2,by simp,?_⟩;intro a ha' b hb;simp at hb;subst hb;rintro rfl;exact hnew ha'
    simp only at h;split at h
    ·simp only [R.ok.injEq] at h;obtain ⟨rfl,rfl,rfl⟩:=h;exact ⟨ok_map h3 h4,λx hx=>h2 x (List.mem_of_mem_tail hx)⟩
    split at h
    ·exact ihM _ _ _ _ _ _ _ _ (λx hx=>h2 x (List.mem_of_mem_tail hx)) h3 h4 h
    ·cases h
theorem chk_total (v:JV):∀ d p,okB v=true->dp v d<=16->p+nv v<=8192->chk v d p=(0,p+nv v):=by
 induction v using JV.ind with
 | h k n s l m ihl ihm=>
  intro d p hok hd hp;obtain ⟨hr,_,hokl,hokm⟩:=(ok_iff _).1 hok;simp only [ls,ms] at hokl hokm;rw [dp_mk] at hd;rw [nv_mk] at hp ⊢;have hL:∀ (l:List JV) (d p:Nat),(∀ v∈l,∀ d p,okB v=true->dp v d<=16->p+nv v<=8192->chk v d p=(0,p+nv v))->(∀ u∈l,okB u=true)->dpL l d<=16->p+nvL l<=8192->chkL l d p=(0,p+nvL l):=by
   intro l
   induction l with
   | nil=>intro d p _ _ _ _;rw [chkL_nil,nvL_nil];rfl
   | cons v l ih=>
    intro d p h ho hd hp;rw [dpL_cons] at hd;rw [nvL_cons] at hp ⊢;rw [chkL_cons,h v (by simp) d p (ho v (by simp)) (by omega) (by omega)];simp only [ne_eq,not_true_eq_false,if_false];rw [ih d (p+nv v) (λu hu=>h u (by simp [hu])) (λu hu=>ho u (by simp [hu])) (by omega) (by omega),Nat.add_assoc]
  have hM:∀ (l:List (List UInt8 × JV)) (d p:Nat),(∀ v∈l,∀ d p,okB v.2=true->dp v.2 d<=16->p+nv v.2<=8192->chk v.2 d p=(0,p+nv v.2))->(∀ u∈l,okB u.2=true)->dpM l d<=16->p+nvM l<=8192->chkM l d p=(0,p+nvM l):=by
   intro l
   induction l with
   | nil=>intro d p _ _ _ _;rw [chkM_nil,nvM_nil];rfl
   | cons v l ih=>
    intro d p h ho hd hp;rw [dpM_cons] at hd;rw [nvM_cons] at hp ⊢;rw [chkM_cons,h v (by simp) d p (ho v (by simp)) (by omega) (by omega)];simp only [ne_eq,not_true_eq_false,if_false];rw [ih d (p+nv v.2) (λu hu=>h u (by simp [hu])) (λu hu=>ho u (by simp [hu])) (by omega) (by omega),Nat.add_assoc]
  rw [chk_mk,if_neg (by omega),if_neg (by omega),if_neg (by rw [hr];simp),hL l (d+1) (p+1) (λv hv=>ihl v hv) hokl (by omega) (by omega)];simp only [ne_eq,not_true_eq_false,if_false];rw [hM m (d+1) (p+1+nvL l) (λv hv=>ihm v hv) hokm (by omega) (by omega)];simp only [Prod.mk.injEq,true_and];omega
theorem rdS_right {s:List UInt8} {v:JV} {l:List Tok} {q:Nat} (h:rdS s=.ok v l q):okB v=true/\chk v 1 0=(0,nv v)/\q=nv v/\q<=8192/\dp v 1<=16/\uq v=true/\l=[]:=by
 unfold rdS at h;rcases ht:tokens s with ⟨ts,p,x⟩;rw [ht] at h;simp only at h;split at h
 ·have hg:∀ t∈ts,Good t:=by
   unfold tokens at ht;split at ht
   ·simp only [Prod.mk.injEq] at ht;rw [<- ht.1];simp
   ·have:=tk_good s.length s 0 (by omega);unfold tk at this;rw [ht] at this;exact this
  have h1:=(rd_ok (2*ts.length+3)).1 s.length (next s.length ts) ts.tail 1 0;have h2:=(rd_sorts (2*ts.length+3)).1 s.length (next s.length ts) ts.tail 1 0;revert h h1 h2;generalize rdV (2*ts.length+3) s.length (next s.length ts) ts.tail 1 0=r;intro h h1 h2
  cases r with
  | out=>cases h
  | bad a w=>cases h
  | ok u l2 p2=>
   simp only at h;split at h
   ·simp only [R.ok.injEq] at h;obtain ⟨rfl,rfl,rfl⟩:=h;obtain ⟨g1,_⟩:=h1 _ _ _ (next_g0 hg) (λx hx=>hg x (List.mem_of_mem_tail hx)) rfl;obtain ⟨k1,k2,k3,k4⟩:=h2 _ _ _ rfl;rw [Nat.zero_add] at k2;subst k2;refine ⟨g1,?_,rfl,k3,k4,k1,rfl⟩;have:=chk_total u 1 0 g1 k4 (by omega);rw [Nat.zero_add] at this;exact this
   ·cases h
 ·cases h
end Go.Proofs.YtockgemmkjdnkaaGreatDoor.Rd
/- Plain laws of reading: what is left was there. -/
namespace Go.Proofs.YtockgemmkjdnkaaGreatDoor.Rd
open JV Scn

theorem rd_toks:∀ f,(∀ e t l d p v l' p',rdV f e t l d p=.ok v l' p' -> ∀ x∈l',x∈l) /\
  (∀ e l d p acc v l' p',rdL f e l d p acc=.ok v l' p' -> ∀ x∈l',x∈l) /\
  (∀ e l d p acc v l' p',rdM f e l d p acc=.ok v l' p' -> ∀ x∈l',x∈l):=by
 intro f
 induction f with
 | zero=>exact ⟨λ_ _ _ _ _ _ _ _ h=>(by unfold rdV at h;cases h),λ_ _ _ _ _ _ _ _ h=>(by unfold rdL at h;cases h),λ_ _ _ _ _ _ _ _ h=>(by unfold rdM at h;cases h)⟩
 | succ f ih=>
  obtain ⟨ihV,ihL,ihM⟩:=ih;refine ⟨λe t l d p v l' p' h=>?_,λe l d p acc v l' p' h=>?_,λe l d p acc v l' p' h=>?_⟩
  ·rw [rdV_succ] at h;split at h
   ·cases h
   split at h
   ·cases h
   split at h
   ·cases h
   split at h
   ·simp only [R.ok.injEq] at h;obtain ⟨rfl,rfl,rfl⟩:=h;exact λx hx=>hx
   ·split at h
    ·split at h
     ·simp only [R.ok.injEq] at h;obtain ⟨rfl,rfl,rfl⟩:=h;exact λx hx=>List.mem_of_mem_tail hx
     ·exact ihL _ _ _ _ _ _ _ _ h
    ·split at h
     ·simp only [R.ok.injEq] at h;obtain ⟨rfl,rfl,rfl⟩:=h;exact λx hx=>List.mem_of_mem_tail hx
     ·exact ihM _ _ _ _ _ _ _ _ h
  ·rw [rdL_succ] at h;have hv:=ihV e (next e l) l.tail (d+1) p;revert hv h;generalize rdV f e (next e l) l.tail (d+1) p=r;intro h hv
   cases r with
   | out=>cases h
   | bad a w=>cases h
   | ok u l2 p2=>
    have h2:=hv _ _ _ rfl;simp only at h;split at h
    ·simp only [R.ok.injEq] at h;obtain ⟨rfl,rfl,rfl⟩:=h;exact λx hx=>List.mem_of_mem_tail (h2 x (List.mem_of_mem_tail hx))
    split at h
    ·exact λx hx=>List.mem_of_mem_tail (h2 x (List.mem_of_mem_tail (ihL _ _ _ _ _ _ _ _ h x hx)))
    ·cases h
  ·rw [rdM_succ] at h;split at h
   ·cases h
   split at h
   ·cases h
   split at h
   ·cases h
   have hv:=ihV e (next e l.tail.tail) l.tail.tail.tail (d+1) p;revert hv h;generalize rdV f e (next e l.tail.tail) l.tail.tail.tail (d+1) p=r;intro h hv
   cases r with
   | out=>cases h
   | bad a w=>cases h
   | ok u l2 p2=>
    have h2:∀ x∈l2,x∈l:=λx hx=>List.mem_of_mem_tail (List.mem_of_mem_tail (List.mem_of_mem_tail (hv _ _ _ rfl x hx)))
    simp only at h;split at h
    ·simp only [R.ok.injEq] at h;obtain ⟨rfl,rfl,rfl⟩:=h;exact λx hx=>h2 x (List.mem_of_mem_tail hx)
    split at h
    ·exact λx hx=>h2 x (List.mem_of_mem_tail (ihM _ _ _ _ _ _ _ _ h x hx))
    ·cases h
end Go.Proofs.YtockgemmkjdnkaaGreatDoor.Rd
/- Plain laws of reading: white space around a text. -/
namespace Go.Proofs.YtockgemmkjdnkaaGreatDoor.Rd
open JV Scn

def Al (t t':Tok):Prop:=t.kind=t'.kind/\t.n=t'.n/\t.s=t'.s
end Go.Proofs.YtockgemmkjdnkaaGreatDoor.Rd
/- Plain laws of reading: a text as the only value of a list, and of a map. -/
namespace Go.Proofs.YtockgemmkjdnkaaGreatDoor.Rd
open JV Scn

def finR (e:Nat):R->R
 | .ok v l q=>if l=[] then .ok v [] q else .bad (next e l).at_ 50
 | .bad a c=>.bad a c
 | .out=>.out
end Go.Proofs.YtockgemmkjdnkaaGreatDoor.Rd
/- Plain laws of reading: how much is read. -/
namespace Go.Proofs.YtockgemmkjdnkaaGreatDoor.Rd
open JV Scn

def BkV (K:Nat) (v:JV):Prop:=bulk v+1+K<=(4+2*K)*nv v
def BkL (K:Nat) (l:List JV):Prop:=bulkL l<=(4+2*K)*nvL l
def BkM (K:Nat) (m:List (List UInt8 × JV)):Prop:=bulkM m<=(4+2*K)*nvM m
end Go.Proofs.YtockgemmkjdnkaaGreatDoor.Rd
