/- Chapter 09, plain: what a patch's pointers lead to, and what other pointers lead to. -/
import Derived.Test.YtlmcfhokfiibkaaGreatDoorPcr
import Derived.Test.YtlmcfhokfiibkaaGreatDoorSms
namespace Go.Proofs.YtlmcfhokfiibkaaGreatDoor
set_option maxRecDepth 100000
set_option linter.unusedVariables false
set_option linter.unusedSimpArgs false
open Go.RowKit

namespace Pc
theorem step_map {v:JV} (h:v.kd=6) (s:List UInt8):Pt.step v s=Pt.get v s:=by
 unfold Pt.step
 rw [if_neg (by rw [h];decide)]
theorem find_map {v:JV} (h:v.kd=6) (s:List UInt8) (ps:List (List UInt8)):Pt.find false (s::ps) v=(Pt.get v s).bind (Pt.find false ps):=by
 rw [Pt.find_cons,if_neg (by simp),step_map h]
theorem find_put:∀ (p q:List (List UInt8)) (v x:JV),Off p q→leads v p=true→Pt.find false q (put v p x)=Pt.find false q v
 | [],q,v,x,h,_=>absurd rfl h.ne_nil.1
 | s::p,[],v,x,h,_=>absurd rfl h.ne_nil.2
 | s::p,t::q,v,x,h,hl=>by
  rw [find_map (put_kd v s p x),find_map (leads_kd hl)]
  by_cases e:t=s
  ·subst e
   cases p with
   | nil=>exact absurd (List.cons_prefix_cons.2 ⟨rfl,List.nil_prefix⟩) h.1
   | cons r p=>
    obtain ⟨_,y,hg,hy⟩:=leads_two.1 hl
    rw [get_put_eq v t r p x,hg]
    exact find_put (r::p) q y x h.tail hy
  ·rw [get_put_ne v p x e]
theorem find_putL:∀ (l:List Chg) (q:List (List UInt8)) (v:JV),l.Pairwise (fun a b=>Off a.1 b.1)→(∀ c∈l,leads v c.1=true)→(∀ c∈l,Off c.1 q)→Pt.find false q (putL v l)=Pt.find false q v
 | [],q,v,_,_,_=>rfl
 | c::l,q,v,hp,hl,ho=>by
  rw [List.pairwise_cons] at hp
  show Pt.find false q (putL (put v c.1 c.2) l)=_
  rw [find_putL l q (put v c.1 c.2) hp.2 (fun c' hc'=>leads_put c.1 c'.1 v c.2 (hp.1 c' hc') (hl c' (by simp [hc']))) (fun c' hc'=>ho c' (by simp [hc']))]
  exact find_put c.1 q v c.2 (ho c (by simp)) (hl c (by simp))
theorem Has.find:∀ {p:List (List UInt8)} {v x:JV},Has p v x→Pt.find false p v=if x.kd=1 then none else some x
 | [s],v,x,h=>by
  obtain ⟨⟨m,rfl⟩,hg⟩:=h
  rw [find_map rfl,hg]
  split <;> rfl
 | s::t::ps,v,x,h=>by
  obtain ⟨⟨m,rfl⟩,y,hg,hy⟩:=h
  rw [find_map rfl,hg]
  exact hy.find
theorem apply_some {v p w:JV} (h:apply v p=some w):∃ l,chg p=some l∧fits v l=true∧w=putL v l:=by
 unfold apply at h
 cases hc:chg p with
 | none=>rw [hc] at h;cases h
 | some l=>
  rw [hc] at h
  simp only at h
  by_cases hf:fits v l=true
  ·rw [if_pos hf] at h
   injection h with h
   exact ⟨l,rfl,hf,h.symm⟩
  ·rw [if_neg hf] at h;cases h
theorem alone_has {v p w:JV} {l:List Chg} (hc:chg p=some l) (hf:fits v l=true) (hw:w=putL v l) {i:Nat} (hi:i<l.length):Pt.find false l[i].1 w=if l[i].2.kd=1 then none else some l[i].2:=by
 obtain ⟨_,h2,_⟩:=fits_all hf
 rw [hw]
 exact (putL_has l v h2 (chg_ne hc) l[i] (List.getElem_mem _)).find
theorem alone_off {v p w:JV} {l:List Chg} (hc:chg p=some l) (hf:fits v l=true) (hw:w=putL v l) {q:List (List UInt8)} (ho:∀ i (h:i<l.length),Off l[i].1 q):Pt.find false q w=Pt.find false q v:=by
 obtain ⟨_,h2,h3⟩:=fits_all hf
 rw [hw]
 exact find_putL l q v h2 h3 (fun c hc=>by obtain ⟨i,hi,rfl⟩:=List.mem_iff_getElem.1 hc;exact ho i hi)
theorem alike_off {a b:List (List UInt8)} (h:¬ (∀ k (h1:k<a.length) (h2:k<b.length),a[k]=b[k])):Off b a:=by
 constructor
 ·rintro ⟨r,rfl⟩
  exact h (fun k h1 h2=>by rw [List.getElem_append_left h2])
 ·rintro ⟨r,rfl⟩
  exact h (fun k h1 h2=>by rw [List.getElem_append_left h1])
end Pc
/- Chapter 09, plain: in which order changes are made; what has each member of another one. -/

theorem sub_len {α:Type} [DecidableEq α]:∀ {a b:List α},a.Nodup→(∀ x∈a,x∈b)→a.length≤b.length
 | [],b,_,_=>Nat.zero_le _
 | x::a,b,hn,h=>by
  rw [List.nodup_cons] at hn
  have hx:=h x (by simp)
  have ih:=sub_len (a:=a) (b:=b.erase x) hn.2 (fun y hy=>(List.mem_erase_of_ne (fun e=>hn.1 (by rw [← e];exact hy))).2 (h y (by simp [hy])))
  have:=List.length_erase_of_mem hx
  have:=List.length_pos_of_mem hx
  simp only [List.length_cons]
  omega
namespace Pc
theorem getM_some_mem {m:List (Tx × JV)} {s:Tx}:(∃ y,Pt.getM m s=some y)↔s∈m.map (·.1):=by
 induction m with
 | nil=>simp [Pt.getM]
 | cons p m ih=>
  unfold Pt.getM
  by_cases e:p.1=s
  ·rw [if_pos e];simp [e]
  ·rw [if_neg e,ih,List.map_cons,List.mem_cons]
   exact ⟨.inr,fun h=>h.resolve_left (fun h=>e h.symm)⟩
inductive E7:JV→JV→Prop
 | same (v:JV) (h:JV.okB v=true):E7 v v
 | map (m m2:List (Tx × JV)) (n1:(m.map (·.1)).Nodup) (n2:(m2.map (·.1)).Nodup) (h0:∀ s,Pt.getM m s=none↔Pt.getM m2 s=none) (h1:∀ s x y,Pt.getM m s=some x→Pt.getM m2 s=some y→E7 x y):E7 (JV.mapV m) (JV.mapV m2)
theorem E7.seven {u v:JV} (h:E7 u v):S7 u v:=by
 induction h with
 | same v h=>exact S7.self v h
 | map m m2 n1 n2 h0 h1 ih=>
  have hs:∀ s,s∈m.map (·.1)↔s∈m2.map (·.1):=fun s=>by
   rw [← getM_some_mem,← getM_some_mem]
   have:=h0 s
   cases h1:Pt.getM m s <;> cases h2:Pt.getM m2 s <;> rw [h1,h2] at this <;> simp_all
  have hl:m.length=m2.length:=by
   have a:=sub_len n1 (fun x hx=>(hs x).1 hx)
   have b:=sub_len n2 (fun x hx=>(hs x).2 hx)
   simp only [List.length_map] at a b
   omega
  have hg:∀ i (h:i<m.length),∃ y,Pt.getM m2 m[i].1=some y:=fun i hi=>getM_some_mem.2 ((hs _).1 (List.mem_map.2 ⟨_,List.getElem_mem hi,rfl⟩))
  have he:∀ i (h:i<m.length),Pt.getM m2 m[i].1=some ((Pt.getM m2 (m.getD i ([],JV.zeroV)).1).getD JV.zeroV):=fun i hi=>by
   obtain ⟨y,hy⟩:=hg i hi
   rw [List.getD_eq_getElem?_getD,List.getElem?_eq_getElem hi]
   show Pt.getM m2 m[i].1=some ((Pt.getM m2 m[i].1).getD JV.zeroV)
   rw [hy];rfl
  exact .mk 6 0 [] [] [] m m2 (fun i=>(Pt.getM m2 (m.getD i ([],JV.zeroV)).1).getD JV.zeroV) rfl hl (fun i h _=>absurd h (by simp)) he (fun i hi=>ih _ _ _ (getM_nodup n1 i hi) (he i hi))

def sub (s:Tx) (l:List Chg):List Chg:=l.filterMap fun c=>match c.1 with
 | []=>none
 | t::ps=>if t=s then some (ps,c.2) else none
theorem sub_ne {s t:Tx} (ps:List Tx) (x:JV) (l:List Chg) (h:t≠s):sub s ((t::ps,x)::l)=sub s l:=by
 unfold sub
 rw [List.filterMap_cons_none]
 simp [h]
theorem sub_eq (s:Tx) (ps:List Tx) (x:JV) (l:List Chg):sub s ((s::ps,x)::l)=(ps,x)::sub s l:=by
 unfold sub
 rw [List.filterMap_cons_some (b:=(ps,x))]
 simp
theorem sub_mem {s:Tx} {l:List Chg} {c:Chg}:c∈sub s l↔(s::c.1,c.2)∈l:=by
 unfold sub
 rw [List.mem_filterMap]
 constructor
 ·rintro ⟨⟨p,x⟩,hd,h⟩
  cases p with
  | nil=>cases h
  | cons t ps=>
   simp only at h
   split at h
   ·next e=>injection h with h;subst h;subst e;exact hd
   ·cases h
 ·intro h
  exact ⟨_,h,by simp⟩
theorem sub_perm {s:Tx} {l l2:List Chg} (h:l.Perm l2):(sub s l).Perm (sub s l2):=h.filterMap _
theorem sub_pair {s:Tx} {l:List Chg} (h:l.Pairwise (fun a b=>Off a.1 b.1)):(sub s l).Pairwise (fun a b=>Off a.1 b.1):=by
 unfold sub
 rw [List.pairwise_filterMap]
 refine h.imp ?_
 rintro ⟨p,x⟩ ⟨q,y⟩ ho b hb b2 hb2
 cases p with
 | nil=>cases hb
 | cons t p=>
  cases q with
  | nil=>cases hb2
  | cons u q=>
   simp only at hb hb2
   split at hb
   ·split at hb2
    ·next e1 e2=>
     injection hb with hb;injection hb2 with hb2
     subst hb;subst hb2;subst e1;subst e2
     exact ho.tail
    ·cases hb2
   ·cases hb
def tot:List Chg→Nat
 | []=>0
 | c::l=>c.1.length+tot l
theorem tot_sub (s:Tx):∀ l:List Chg,tot (sub s l)≤tot l∧(sub s l≠[]→tot (sub s l)<tot l)
 | []=>⟨Nat.le_refl _,fun h=>absurd rfl h⟩
 | (p,x)::l=>by
  obtain ⟨h1,h2⟩:=tot_sub s l
  cases p with
  | nil=>
   have e:sub s (([],x)::l)=sub s l:=by unfold sub;rw [List.filterMap_cons_none rfl]
   rw [e]
   show tot (sub s l)≤0+tot l∧(_→tot (sub s l)<0+tot l)
   rw [Nat.zero_add]
   exact ⟨h1,h2⟩
  | cons t ps=>
   by_cases e:t=s
   ·subst e
    rw [sub_eq]
    show ps.length+tot (sub t l)≤(ps.length+1)+tot l∧(_→ps.length+tot (sub t l)<(ps.length+1)+tot l)
    exact ⟨by omega,fun _=>by omega⟩
   ·rw [sub_ne ps x l e]
    show tot (sub s l)≤(ps.length+1)+tot l∧(_→tot (sub s l)<(ps.length+1)+tot l)
    exact ⟨by omega,fun _=>by omega⟩
def below (y:Option JV):List Chg→Option JV
 | []=>y
 | (p,x)::l=>if p=[] then (if x.kd=1 then none else some x) else some (putL (y.getD JV.zeroV) ((p,x)::l))
theorem below_cons (y:Option JV) {c:Chg} {l:List Chg} (h:c.1≠[]):below y (c::l)=some (putL (y.getD JV.zeroV) (c::l)):=by
 obtain ⟨p,x⟩:=c
 have h:¬ p=[]:=h
 show (if p=[] then (if x.kd=1 then none else some x) else some (putL (y.getD JV.zeroV) ((p,x)::l)))=_
 rw [if_neg h]
theorem sub_off {s:Tx} {ps:List Tx} {l:List Chg} (h:∀ c∈l,Off (s::ps) c.1):∀ c∈sub s l,Off ps c.1:=fun c hc=>(h _ (sub_mem.1 hc)).tail
theorem get_putL (s:Tx):∀ (l:List Chg) (v:JV),l.Pairwise (fun a b=>Off a.1 b.1)→(∀ c∈l,c.1≠[])→Pt.get (putL v l) s=below (Pt.get v s) (sub s l)
 | [],v,_,_=>rfl
 | (p,x)::l,v,hp,hn=>by
  rw [List.pairwise_cons] at hp
  have ih:=get_putL s l (put v p x) hp.2 (fun c hc=>hn c (by simp [hc]))
  show Pt.get (putL (put v p x) l) s=_
  rw [ih]
  cases p with
  | nil=>exact absurd rfl (hn _ (List.mem_cons_self))
  | cons t ps=>
   by_cases e:t=s
   ·subst e
    rw [sub_eq]
    have ho:=sub_off (s:=t) (ps:=ps) (l:=l) (fun c hc=>hp.1 c hc)
    cases ps with
    | nil=>
     have:sub t l=[]:=by
      cases hs:sub t l with
      | nil=>rfl
      | cons c r=>exact absurd List.nil_prefix (ho c (by rw [hs];simp)).1
     rw [this,get_put_last]
     rfl
    | cons u ps=>
     rw [get_put_eq,below_cons _ (by simp)]
     cases hs:sub t l with
     | nil=>rfl
     | cons c r=>
      have hc:c.1≠[]:=(ho c (by rw [hs];simp)).ne_nil.2
      rw [below_cons _ hc]
      rfl
   ·rw [sub_ne ps x l e,get_put_ne v ps x (fun h=>e h.symm)]
theorem withM_keys (m:List (Tx × JV)) (s:Tx) (x:JV):(Pt.withM m s x).map (·.1)=if s∈m.map (·.1) then m.map (·.1) else m.map (·.1)++[s]:=by
 induction m with
 | nil=>simp [Pt.withM]
 | cons p m ih=>
  unfold Pt.withM
  by_cases e:p.1=s
  ·rw [if_pos e];simp [e]
  ·rw [if_neg e,List.map_cons,ih,List.map_cons]
   by_cases h:s∈m.map (·.1)
   ·rw [if_pos h,if_pos (List.mem_cons_of_mem _ h)]
   ·rw [if_neg h,if_neg (fun h2=>(List.mem_cons.1 h2).elim (fun h2=>e h2.symm) h)];rfl
theorem withM_nodup {m:List (Tx × JV)} (s:Tx) (x:JV) (h:(m.map (·.1)).Nodup):((Pt.withM m s x).map (·.1)).Nodup:=by
 rw [withM_keys]
 split
 ·exact h
 ·next hs=>
  rw [List.nodup_append]
  exact ⟨h,by simp,fun a ha b hb e=>hs (by rw [List.mem_singleton.1 hb] at e;exact e ▸ ha)⟩
theorem woM_nodup {m:List (Tx × JV)} (s:Tx) (h:(m.map (·.1)).Nodup):((Bk.woM m s).map (·.1)).Nodup:=by
 unfold Bk.woM
 exact h.sublist ((List.filter_sublist).map _)
theorem put_nodup (v:JV) (s:Tx) (ps:List Tx) (x:JV) (h:((mems v).map (·.1)).Nodup):((mems (put v (s::ps) x)).map (·.1)).Nodup:=by
 cases ps with
 | nil=>
  rw [put_one_eq,mems_map]
  split
  ·exact woM_nodup s h
  ·exact withM_nodup s _ h
 | cons t ps=>rw [put_two_eq,mems_map];exact withM_nodup s _ h
theorem putL_nodup:∀ (l:List Chg) (v:JV),(∀ c∈l,c.1≠[])→((mems v).map (·.1)).Nodup→((mems (putL v l)).map (·.1)).Nodup
 | [],v,_,h=>h
 | (p,x)::l,v,hn,h=>by
  cases p with
  | nil=>exact absurd rfl (hn _ (List.mem_cons_self))
  | cons s ps=>exact putL_nodup l _ (fun c hc=>hn c (by simp [hc])) (put_nodup v s ps x h)
theorem ok_mems {v:JV} (h:JV.okB v=true):((mems v).map (·.1)).Nodup:=by
 unfold mems
 split
 ·exact (ok_nodup h).1
 ·simp
theorem ok_get {v x:JV} {s:Tx} (h:JV.okB v=true) (hg:Pt.get v s=some x):JV.okB x=true:=by
 obtain ⟨_,_,_,h4⟩:=(JV.ok_iff v).1 h
 exact h4 _ (Bk.get_mem hg).2
theorem putL_map:∀ (l:List Chg) (v:JV),(∀ c∈l,c.1≠[])→(∃ m,v=JV.mapV m)∨l≠[] → ∃ m,putL v l=JV.mapV m
 | [],v,_,h=>h.elim id (fun h=>absurd rfl h)
 | (p,x)::l,v,hn,_=>by
  cases p with
  | nil=>exact absurd rfl (hn _ (List.mem_cons_self))
  | cons s ps=>exact putL_map l _ (fun c hc=>hn c (by simp [hc])) (.inl (put_is_map v s ps x))
theorem putL_perm:∀ (N:Nat) (l l2:List Chg) (v:JV),tot l≤N→l.Perm l2→l.Pairwise (fun a b=>Off a.1 b.1)→(∀ c∈l,c.1≠[])→(∀ c∈l,leads v c.1=true)→JV.okB v=true→(∀ c∈l,JV.okB c.2=true)→E7 (putL v l) (putL v l2):=by
 intro N
 induction N with
 | zero=>
  intro l l2 v hN hp hoff hne hld hv hc
  cases l with
  | nil=>rw [List.nil_perm.1 hp];exact .same v hv
  | cons c l=>
   exfalso
   have:=hne c (by simp)
   have:=List.length_pos_iff.2 this
   unfold tot at hN
   omega
 | succ N ih=>
  intro l l2 v hN hp hoff hne hld hv hc
  by_cases hl:l=[]
  ·subst hl
   rw [List.nil_perm.1 hp]
   exact .same v hv
  have hl2:l2≠[]:=fun e=>hl (by subst e;exact List.perm_nil.1 hp)
  have hne2:∀ c∈l2,c.1≠[]:=fun c h=>hne c (hp.mem_iff.2 h)
  have hoff2:l2.Pairwise (fun a b=>Off a.1 b.1):=(hp.pairwise_iff (fun {a b} h=>Off.symm h)).1 hoff
  obtain ⟨m,hm⟩:=putL_map l v hne (.inr hl)
  obtain ⟨m2,hm2⟩:=putL_map l2 v hne2 (.inr hl2)
  have n1:=putL_nodup l v hne (ok_mems hv)
  have n2:=putL_nodup l2 v hne2 (ok_mems hv)
  rw [hm,mems_map] at n1
  rw [hm2,mems_map] at n2
  have g1:∀ s,Pt.getM m s=below (Pt.get v s) (sub s l):=fun s=>by
   have:=get_putL s l v hoff hne
   rw [hm,get_mems,mems_map] at this
   exact this
  have g2:∀ s,Pt.getM m2 s=below (Pt.get v s) (sub s l2):=fun s=>by
   have:=get_putL s l2 v hoff2 hne2
   rw [hm2,get_mems,mems_map] at this
   exact this
  rw [hm,hm2]
  have key:∀ s,(Pt.getM m s=none↔Pt.getM m2 s=none) ∧ ∀ x y,Pt.getM m s=some x→Pt.getM m2 s=some y→E7 x y:=fun s=>by
   rw [g1 s,g2 s]
   have hsp:=sub_perm (s:=s) hp
   have hso:=sub_pair (s:=s) hoff
   have hto:=tot_sub s l
   cases hs:sub s l with
   | nil=>
    rw [hs] at hsp
    rw [List.nil_perm.1 hsp]
    refine ⟨Iff.rfl,fun x y h1 h2=>?_⟩
    have h1:Pt.get v s=some x:=h1
    have h2:Pt.get v s=some y:=h2
    rw [h1] at h2
    injection h2 with h2
    subst h2
    exact .same x (ok_get hv h1)
   | cons c r=>
    rw [hs] at hsp hso hto
    have hmem:(s::c.1,c.2)∈l:=sub_mem.1 (by rw [hs];simp)
    by_cases hc1:c.1=[]
    ·have hr:r=[]:=by
      cases r with
      | nil=>rfl
      | cons d r=>
       rw [List.pairwise_cons] at hso
       have:=(hso.1 d (by simp)).1
       rw [hc1] at this
       exact absurd List.nil_prefix this
     subst hr
     rw [← List.singleton_perm.1 hsp]
     obtain ⟨p,x⟩:=c
     simp only at hc1
     subst hc1
     refine ⟨Iff.rfl,fun x1 y1 h1 h2=>?_⟩
     rw [h1] at h2
     injection h2 with h2
     subst h2
     have h1:(if x.kd=1 then none else some x)=some x1:=h1
     split at h1
     ·cases h1
     ·injection h1 with h1
      subst h1
      exact .same x (hc _ hmem)
    ·have hcs:∀ d∈c::r,d.1≠[]:=by
      intro d hd
      rcases List.mem_cons.1 hd with rfl | hd
      ·exact hc1
      ·rw [List.pairwise_cons] at hso
       exact (hso.1 d hd).ne_nil.2
     obtain ⟨q,r2,hq⟩:∃ q r2,sub s l2=q::r2:=by
      cases hs2:sub s l2 with
      | nil=>rw [hs2] at hsp;exact absurd (List.perm_nil.1 hsp) (by simp)
      | cons q r2=>exact ⟨q,r2,rfl⟩
     rw [hq] at hsp ⊢
     have hq1:q.1≠[]:=hcs q (hsp.mem_iff.2 (by simp))
     rw [below_cons _ hc1,below_cons _ hq1]
     refine ⟨by simp,fun x y h1 h2=>?_⟩
     injection h1 with h1
     injection h2 with h2
     subst h1
     subst h2
     have hsub:∀ d∈c::r,(s::d.1,d.2)∈l:=fun d hd=>sub_mem.1 (by rw [hs];exact hd)
     have hy:∃ y,Pt.get v s=some y ∧ ∀ d∈c::r,leads y d.1=true:=by
      obtain ⟨t,ps,e⟩:∃ t ps,c.1=t::ps:=List.exists_cons_of_ne_nil hc1
      have h1:=hld _ hmem
      rw [show (s::c.1,c.2).1=s::t::ps from by rw [e]] at h1
      obtain ⟨_,y,hg,_⟩:=leads_two.1 h1
      refine ⟨y,hg,fun d hd=>?_⟩
      obtain ⟨t2,ps2,e2⟩:∃ t ps,d.1=t::ps:=List.exists_cons_of_ne_nil (hcs d hd)
      have h2:=hld _ (hsub d hd)
      rw [show (s::d.1,d.2).1=s::t2::ps2 from by rw [e2]] at h2
      obtain ⟨_,y2,hg2,hy2⟩:=leads_two.1 h2
      rw [hg] at hg2
      injection hg2 with hg2
      rw [e2,hg2]
      exact hy2
     obtain ⟨y,hg,hy⟩:=hy
     rw [hg]
     exact ih (c::r) (q::r2) y (by have:=hto.2 (by simp);omega) hsp hso hcs hy (ok_get hv hg) (fun d hd=>hc (s::d.1,d.2) (hsub d hd))
  exact .map m m2 n1 n2 (fun s=>(key s).1) (fun s x y h1 h2=>(key s).2 x y h1 h2)
end Pc
/- Chapter 09, plain: a turned patch; a patch that makes one object to another. -/

namespace Pc
theorem chgM_perm {m m2:List (Tx × JV)} (h:m.Perm m2):(chgM m=none∧chgM m2=none) ∨ ∃ l l2,chgM m=some l∧chgM m2=some l2∧l.Perm l2:=by
 induction h with
 | nil=>exact .inr ⟨[],[],rfl,rfl,.refl _⟩
 | @cons p m m2 _ ih=>
  unfold chgM
  cases Pt.parts (47::p.1) with
  | none=>exact .inl ⟨rfl,rfl⟩
  | some ps=>
   rcases ih with ⟨h1,h2⟩ | ⟨l,l2,h1,h2,h3⟩
   ·rw [h1,h2];exact .inl ⟨rfl,rfl⟩
   ·rw [h1,h2];exact .inr ⟨_,_,rfl,rfl,h3.cons _⟩
 | swap p q m=>
  unfold chgM chgM
  cases Pt.parts (47::p.1) with
  | none=>cases Pt.parts (47::q.1) <;> exact .inl ⟨rfl,rfl⟩
  | some ps=>
   cases Pt.parts (47::q.1) with
   | none=>exact .inl ⟨rfl,rfl⟩
   | some qs=>
    cases chgM m with
    | none=>exact .inl ⟨rfl,rfl⟩
    | some l=>exact .inr ⟨_,_,rfl,rfl,.swap _ _ _⟩
 | trans _ _ ih1 ih2=>
  rcases ih1 with ⟨h1,h2⟩ | ⟨l,l2,h1,h2,h3⟩
  ·rcases ih2 with ⟨h4,h5⟩ | ⟨l3,l4,h4,h5,h6⟩
   ·exact .inl ⟨h1,h5⟩
   ·rw [h2] at h4;cases h4
  ·rcases ih2 with ⟨h4,h5⟩ | ⟨l3,l4,h4,h5,h6⟩
   ·rw [h2] at h4;cases h4
   ·rw [h2] at h4
    injection h4 with h4
    subst h4
    exact .inr ⟨_,_,h1,h5,h3.trans h6⟩
theorem fits_perm {v:JV} {l l2:List Chg} (h:l.Perm l2) (hf:fits v l=true):fits v l2=true:=by
 obtain ⟨h1,h2,h3⟩:=fits_all hf
 unfold fits
 simp only [Bool.and_eq_true,beq_iff_eq,List.all_eq_true]
 exact ⟨h1,off_apart ((h.pairwise_iff (fun {a b} h=>Off.symm h)).1 h2),fun c hc=>h3 c (h.mem_iff.2 hc)⟩
theorem apply_turned {v p q:JV} (hk:p.kd=q.kd) (h:p.ms.Perm q.ms) (hv:JV.okB v=true) (hp:JV.okB p=true):
  (apply v p=none∧apply v q=none) ∨ ∃ x y,apply v p=some x∧apply v q=some y∧S7 x y:=by
 unfold apply chg
 rw [← hk,← h.length_eq]
 by_cases hc:p.kd=6∧p.ms.length≤400
 ·rw [if_pos hc,if_pos hc]
  rcases chgM_perm h with ⟨h1,h2⟩ | ⟨l,l2,h1,h2,h3⟩
  ·rw [h1,h2];exact .inl ⟨rfl,rfl⟩
  ·rw [h1,h2]
   show (if fits v l=true then some (putL v l) else none)=none∧(if fits v l2=true then some (putL v l2) else none)=none ∨ ∃ x y,(if fits v l=true then some (putL v l) else none)=some x∧(if fits v l2=true then some (putL v l2) else none)=some y∧S7 x y
   by_cases hf:fits v l=true
   ·rw [if_pos hf,if_pos (fits_perm h3 hf)]
    obtain ⟨_,g2,g3⟩:=fits_all hf
    have hok:∀ c∈l,JV.okB c.2=true:=fun c hc=>by
     obtain ⟨y,hy,_,he⟩:=chgM_mem h1 hc
     rw [he]
     exact ((JV.ok_iff p).1 hp).2.2.2 y hy
    have hne:∀ c∈l,c.1≠[]:=fun c hc=>by
     obtain ⟨y,_,hy,_⟩:=chgM_mem h1 hc
     exact parts_ne hy
    exact .inr ⟨_,_,rfl,rfl,(putL_perm _ l l2 v (Nat.le_refl _) h3 g2 hne g3 hv hok).seven⟩
   ·rw [if_neg hf,if_neg (fun h=>hf (fits_perm h3.symm h))]
    exact .inl ⟨rfl,rfl⟩
 ·rw [if_neg hc,if_neg hc]
  exact .inl ⟨rfl,rfl⟩
theorem apply_empty (v:JV):apply v (JV.mapV [])=if v.kd=6 then some v else none:=by
 have h1:chg (JV.mapV [])=some []:=rfl
 unfold apply
 rw [h1]
 show (if fits v []=true then some v else none)=_
 by_cases h:v.kd=6
 ·rw [if_pos h,if_pos]
  unfold fits apart
  simp [h]
 ·rw [if_neg h,if_neg]
  unfold fits
  simp [h]

def wholeA (m:List (Tx × JV)):List (Tx × JV):=m.map fun x=>(Pt.esc x.1,x.2)
def wholeB (v:JV) (m:List (Tx × JV)):List (Tx × JV):=(m.filter fun x=>(Pt.get v x.1).isNone).map fun x=>(Pt.esc x.1,JV.nullV)
def wholeP (v w:JV):JV:=JV.mapV (wholeA v.ms++wholeB v w.ms)
def wholeL (v:JV) (m n:List (Tx × JV)):List Chg:=(m.map fun x=>([x.1],x.2))++((n.filter fun x=>(Pt.get v x.1).isNone).map fun x=>([x.1],JV.nullV))
theorem parts_esc (s:Tx):Pt.parts (47::Pt.esc s)=some [s]:=by
 have:=Pt.parts_text [s]
 rwa [show Pt.text [s]=47::(Pt.esc s++Pt.text []) from rfl,show Pt.text []=[] from rfl,List.append_nil] at this
theorem chgM_app:∀ (a b:List (Tx × JV)) (l l2:List Chg),chgM a=some l→chgM b=some l2→chgM (a++b)=some (l++l2)
 | [],b,l,l2,h1,h2=>by injection h1 with h1;subst h1;exact h2
 | p::a,b,l,l2,h1,h2=>by
  unfold chgM at h1
  rw [List.cons_append]
  unfold chgM
  cases hp:Pt.parts (47::p.1) with
  | none=>rw [hp] at h1;cases h1
  | some ps=>
   rw [hp] at h1
   cases ha:chgM a with
   | none=>simp only [ha,Option.map_none] at h1;cases h1
   | some l3=>
    simp only [ha,Option.map_some,Option.some.injEq] at h1
    subst h1
    show (chgM (a++b)).map _=_
    rw [chgM_app a b l3 l2 ha h2]
    rfl
theorem chgM_esc (g:Tx × JV→JV):∀ m:List (Tx × JV),chgM (m.map fun x=>(Pt.esc x.1,g x))=some (m.map fun x=>([x.1],g x))
 | []=>rfl
 | p::m=>by
  rw [List.map_cons,List.map_cons]
  unfold chgM
  have h1:chgM (m.map fun (x:Tx × JV)=>(Pt.esc x.1,g x))=some (m.map fun (x:Tx × JV)=>([x.1],g x)):=chgM_esc g m
  have h2:=parts_esc p.1
  simp only [h1,h2]
  rfl
theorem chg_whole (v w:JV):chg (wholeP v w)=if (wholeP v w).ms.length≤400 then some (wholeL v v.ms w.ms) else none:=by
 unfold chg
 have h1:chgM (wholeP v w).ms=some (wholeL v v.ms w.ms):=chgM_app _ _ _ _ (chgM_esc (fun x=>x.2) _) (chgM_esc (fun _=>JV.nullV) _)
 rw [h1]
 have h6:(wholeP v w).kd=6:=rfl
 by_cases h:(wholeP v w).ms.length≤400
 ·rw [if_pos h,if_pos ⟨h6,h⟩]
 ·rw [if_neg h,if_neg (fun h2=>h h2.2)]
theorem off_one {s t:Tx} (h:s≠t):Off [s] [t]:=⟨fun e=>h (List.cons_prefix_cons.1 e).1,fun e=>h (List.cons_prefix_cons.1 e).1.symm⟩
theorem pair_one (g:Tx × JV→JV) {m:List (Tx × JV)} (h:(m.map (·.1)).Nodup):(m.map fun (x:Tx × JV)=>(([x.1],g x):Chg)).Pairwise (fun a b=>Off a.1 b.1):=by
 rw [List.pairwise_map]
 rw [List.Nodup,List.pairwise_map] at h
 exact h.imp (fun {a b} h=>off_one h)
theorem get_in {v:JV} (hv:JV.okB v=true) (h6:v.kd=6) {x:Tx × JV} (hx:x∈v.ms):Pt.get v x.1=some x.2:=by
 obtain ⟨i,hi,rfl⟩:=List.mem_iff_getElem.1 hx
 unfold Pt.get
 rw [if_pos h6]
 exact getM_nodup (ok_nodup hv).1 i hi
theorem whole_fits {v w:JV} (hv:JV.okB v=true) (hw:JV.okB w=true) (h6:v.kd=6) (h6w:w.kd=6):fits w (wholeL v v.ms w.ms)=true:=by
 unfold fits
 simp only [Bool.and_eq_true,beq_iff_eq,List.all_eq_true]
 refine ⟨h6w,off_apart ?_,?_⟩
 ·unfold wholeL
  rw [List.pairwise_append]
  refine ⟨pair_one (fun x=>x.2) (ok_nodup hv).1,pair_one (fun _=>JV.nullV) ((ok_nodup hw).1.sublist ((List.filter_sublist).map _)),?_⟩
  intro a ha b hb
  obtain ⟨x,hx,rfl⟩:=List.mem_map.1 ha
  obtain ⟨y,hy,rfl⟩:=List.mem_map.1 hb
  refine off_one (fun e=>?_)
  have h1:=(List.mem_filter.1 hy).2
  rw [← e,get_in hv h6 hx] at h1
  cases h1
 ·intro c hc
  unfold wholeL at hc
  rcases List.mem_append.1 hc with hc | hc
  ·obtain ⟨x,_,rfl⟩:=List.mem_map.1 hc;exact leads_1.2 h6w
  ·obtain ⟨x,_,rfl⟩:=List.mem_map.1 hc;exact leads_1.2 h6w
theorem whole_get {v w:JV} (hv:JV.okB v=true) (hw:JV.okB w=true) (h6:v.kd=6) (h6w:w.kd=6) (hn:∀ x∈v.ms,x.2.kd≠1) (s:Tx):Pt.get (putL w (wholeL v v.ms w.ms)) s=Pt.get v s:=by
 obtain ⟨_,h2,h3⟩:=fits_all (whole_fits hv hw h6 h6w)
 have hne:∀ c∈wholeL v v.ms w.ms,c.1≠[]:=fun c hc=>by
  unfold wholeL at hc
  rcases List.mem_append.1 hc with hc | hc
  ·obtain ⟨x,_,rfl⟩:=List.mem_map.1 hc;simp
  ·obtain ⟨x,_,rfl⟩:=List.mem_map.1 hc;simp
 have hh:=putL_has _ w h2 hne
 cases hg:Pt.get v s with
 | some x=>
  have hm:=(Bk.get_mem hg).2
  have:=hh ([s],x) (by unfold wholeL;exact List.mem_append_left _ (List.mem_map.2 ⟨_,hm,rfl⟩))
  have h5:=this.2
  rw [if_neg (hn _ hm)] at h5
  exact h5
 | none=>
  cases hgw:Pt.get w s with
  | some y=>
   have hm:=(Bk.get_mem hgw).2
   have:=hh ([s],JV.nullV) (by unfold wholeL;exact List.mem_append_right _ (List.mem_map.2 ⟨(s,y),List.mem_filter.2 ⟨hm,by rw [hg];rfl⟩,rfl⟩))
   exact this.2
  | none=>
   have h5:sub s (wholeL v v.ms w.ms)=[]:=by
    cases hs:sub s (wholeL v v.ms w.ms) with
    | nil=>rfl
    | cons c r=>
     exfalso
     have hc:(s::c.1,c.2)∈wholeL v v.ms w.ms:=sub_mem.1 (by rw [hs];simp)
     unfold wholeL at hc
     rcases List.mem_append.1 hc with hc | hc
     ·obtain ⟨x,hx,e⟩:=List.mem_map.1 hc
      have e1:x.1=s:=by injection e with e _;injection e with e _
      have:=get_in hv h6 hx
      rw [e1,hg] at this;cases this
     ·obtain ⟨x,hx,e⟩:=List.mem_map.1 hc
      have e1:x.1=s:=by injection e with e _;injection e with e _
      have:=get_in hw h6w (List.mem_filter.1 hx).1
      rw [e1,hgw] at this;cases this
   rw [get_putL s _ w h2 hne,h5]
   exact hgw
theorem map_form {v:JV} (hv:JV.okB v=true) (h6:v.kd=6):v=JV.mapV v.ms:=by
 rcases JV.right_form ((JV.ok_iff v).1 hv).1 with rfl | ⟨_,_,rfl⟩ | ⟨_,_,_,rfl⟩ | ⟨_,_,rfl⟩ | ⟨_,rfl⟩ | ⟨_,rfl⟩
 all_goals first | rfl | (exfalso;simp [JV.nullV,JV.boolV,JV.intV,JV.textV,JV.listV,JV.kd] at h6)
theorem whole_apply {v w:JV} (hv:JV.okB v=true) (hw:JV.okB w=true) (h6:v.kd=6) (h6w:w.kd=6) (hn:∀ x∈v.ms,x.2.kd≠1) (hl:(wholeP v w).ms.length≤400):∃ x,apply w (wholeP v w)=some x∧S7 x v:=by
 refine ⟨putL w (wholeL v v.ms w.ms),?_,?_⟩
 ·unfold apply
  rw [chg_whole,if_pos hl]
  show (if fits w (wholeL v v.ms w.ms)=true then some (putL w (wholeL v v.ms w.ms)) else none)=_
  rw [if_pos (whole_fits hv hw h6 h6w)]
 ·have hg:=whole_get hv hw h6 h6w hn
  have hne:∀ c∈wholeL v v.ms w.ms,c.1≠[]:=fun c hc=>by
   unfold wholeL at hc
   rcases List.mem_append.1 hc with hc | hc
   ·obtain ⟨x,_,rfl⟩:=List.mem_map.1 hc;simp
   ·obtain ⟨x,_,rfl⟩:=List.mem_map.1 hc;simp
  obtain ⟨m,hm⟩:=putL_map (wholeL v v.ms w.ms) w hne (.inl ⟨_,map_form hw h6w⟩)
  have n1:=putL_nodup (wholeL v v.ms w.ms) w hne (ok_mems hw)
  rw [hm,mems_map] at n1
  rw [hm] at hg ⊢
  have hg2:∀ s,Pt.getM m s=Pt.getM v.ms s:=fun s=>by
   have:=hg s
   rw [get_mems,mems_map] at this
   rw [this]
   unfold Pt.get
   rw [if_pos h6]
  have hE:E7 (JV.mapV m) (JV.mapV v.ms):=.map m v.ms n1 (ok_nodup hv).1 (fun s=>by rw [hg2 s]) (fun s x y h1 h2=>by
   rw [hg2 s,h2] at h1
   injection h1 with h1
   subst h1
   exact .same _ (((JV.ok_iff v).1 hv).2.2.2 _ (Pt.getM_mem h2)))
  have:=hE.seven
  rw [← map_form hv h6] at this
  exact this
theorem whole_many {v w:JV} (hl:¬ (wholeP v w).ms.length≤400):fitsP w (wholeP v w)=false:=by
 unfold fitsP
 rw [chg_whole,if_neg hl]
end Pc
end Go.Proofs.YtlmcfhokfiibkaaGreatDoor
