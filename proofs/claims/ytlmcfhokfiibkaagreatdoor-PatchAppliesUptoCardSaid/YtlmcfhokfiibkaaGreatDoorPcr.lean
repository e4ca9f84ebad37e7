/- Chapter 09, plain: how great what comes of a patch is; paths that are apart. -/
import Derived.Test.YtlmcfhokfiibkaaGreatDoorPca
import Derived.Test.YtlmcfhokfiibkaaGreatDoorPta
import Derived.Test.YtlmcfhokfiibkaaGreatDoorPcd
import Derived.Test.YtlmcfhokfiibkaaGreatDoorPtt
import Derived.Test.YtlmcfhokfiibkaaGreatDoorEe
import Derived.Test.YtlmcfhokfiibkaaGreatDoorRdd
namespace Go.Proofs.YtlmcfhokfiibkaaGreatDoor
set_option maxRecDepth 100000
set_option maxHeartbeats 4000000
set_option linter.unusedVariables false
set_option linter.unusedSimpArgs false
open Go.RowKit

namespace Pc
theorem wo_nv:∀ (m:List (List UInt8 × JV)) (s:List UInt8),Rd.nvM (Bk.woM m s)≤Rd.nvM m
 | [],s=>Nat.le_refl _
 | p::m,s=>by
  have ih:=wo_nv m s
  unfold Bk.woM at ih ⊢
  by_cases h:p.1=s
  ·rw [List.filter_cons_of_neg (by simp [h]),Rd.nvM_cons];omega
  ·rw [List.filter_cons_of_pos (by simp [h]),Rd.nvM_cons,Rd.nvM_cons];omega
theorem with_nv_some:∀ (m:List (List UInt8 × JV)) (s:List UInt8) (x y:JV),Pt.getM m s=some y→Rd.nvM (Pt.withM m s x)+Rd.nv y=Rd.nvM m+Rd.nv x
 | [],s,x,y,h=>by cases h
 | p::m,s,x,y,h=>by
  unfold Pt.getM at h
  unfold Pt.withM
  by_cases e:p.1=s
  ·rw [if_pos e] at h ⊢
   injection h with h
   subst h
   rw [Rd.nvM_cons,Rd.nvM_cons]
   simp only
   omega
  ·rw [if_neg e] at h ⊢
   have:=with_nv_some m s x y h
   rw [Rd.nvM_cons,Rd.nvM_cons]
   omega
theorem with_nv:∀ (m:List (List UInt8 × JV)) (s:List UInt8) (x:JV),Rd.nvM (Pt.withM m s x)≤Rd.nvM m+Rd.nv x
 | [],s,x=>by unfold Pt.withM;rw [Rd.nvM_cons,Rd.nvM_nil];simp only;omega
 | p::m,s,x=>by
  unfold Pt.withM
  by_cases e:p.1=s
  ·rw [if_pos e,Rd.nvM_cons,Rd.nvM_cons];simp only;omega
  ·rw [if_neg e,Rd.nvM_cons,Rd.nvM_cons];have:=with_nv m s x;omega
theorem nv_map (l:List (List UInt8 × JV)):Rd.nv (JV.mapV l)=1+Rd.nvM l:=by
 show Rd.nv (.mk 6 0 [] [] l)=_
 rw [Rd.nv_mk,Rd.nvL_nil]
theorem get_mems (v:JV) (s:List UInt8):Pt.get v s=Pt.getM (mems v) s:=by
 unfold Pt.get mems
 split
 ·rfl
 ·rfl
theorem mems_map (l:List (List UInt8 × JV)):mems (JV.mapV l)=l:=by unfold mems;rw [if_pos (show (JV.mapV l).kd=6 from rfl)];rfl
theorem mems_nv (v:JV):1+Rd.nvM (mems v)≤Rd.nv v:=by
 rw [Pt.nv_eq]
 unfold mems
 split
 ·omega
 ·rw [Rd.nvM_nil];omega
theorem leads_two {v:JV} {s t:List UInt8} {ps:List (List UInt8)}:leads v (s::t::ps)=true↔v.kd=6 ∧ ∃ y,Pt.get v s=some y∧leads y (t::ps)=true:=by
 conv=>lhs;unfold leads
 cases hg:Pt.get v s with
 | none=>simp
 | some y=>simp
theorem leads_1 {v:JV} {s:List UInt8}:leads v [s]=true↔v.kd=6:=by unfold leads;simp
theorem leads_kd {v:JV} {s:List UInt8} {ps:List (List UInt8)} (h:leads v (s::ps)=true):v.kd=6:=by
 cases ps with
 | nil=>exact leads_1.1 h
 | cons t ps=>exact (leads_two.1 h).1
theorem put_one_eq (v:JV) (s:List UInt8) (x:JV):put v [s] x=JV.mapV (if x.kd=1 then Bk.woM (mems v) s else Pt.withM (mems v) s x):=by
 show (if x.kd=1 then JV.mapV (Bk.woM (mems v) s) else JV.mapV (Pt.withM (mems v) s x))=_
 split <;> rfl
theorem put_two_eq (v:JV) (s t:List UInt8) (ps:List (List UInt8)) (x:JV):put v (s::t::ps) x=JV.mapV (Pt.withM (mems v) s (put ((Pt.get v s).getD JV.zeroV) (t::ps) x)):=rfl
theorem get_put_ne (v:JV) {s t:List UInt8} (ps:List (List UInt8)) (x:JV) (h:t≠s):Pt.get (put v (s::ps) x) t=Pt.get v t:=by
 rw [get_mems,get_mems]
 cases ps with
 | nil=>
  rw [put_one_eq,mems_map]
  split
  ·rw [Bk.get_woM,if_neg h]
  ·rw [Bk.get_withM,if_neg h]
 | cons r ps=>rw [put_two_eq,mems_map,Bk.get_withM,if_neg h]
theorem get_put_eq (v:JV) (s t:List UInt8) (ps:List (List UInt8)) (x:JV):Pt.get (put v (s::t::ps) x) s=some (put ((Pt.get v s).getD JV.zeroV) (t::ps) x):=by
 rw [get_mems,put_two_eq,mems_map,Bk.get_withM,if_pos rfl]
theorem get_put_last (v:JV) (s:List UInt8) (x:JV):Pt.get (put v [s] x) s=if x.kd=1 then none else some x:=by
 rw [get_mems,put_one_eq,mems_map]
 split
 ·rw [Bk.get_woM,if_pos rfl]
 ·rw [Bk.get_withM,if_pos rfl]
theorem put_kd (v:JV) (s:List UInt8) (ps:List (List UInt8)) (x:JV):(put v (s::ps) x).kd=6:=by
 cases ps with
 | nil=>rw [put_one_eq];rfl
 | cons t ps=>rw [put_two_eq];rfl
theorem put_nv:∀ (ps:List (List UInt8)) (v x:JV),leads v ps=true→Rd.nv (put v ps x)≤Rd.nv v+Rd.nv x
 | [],v,x,_=>Nat.le_add_right _ _
 | [s],v,x,h=>by
  have h1:=mems_nv v
  have h2:=wo_nv (mems v) s
  have h3:=with_nv (mems v) s x
  rw [put_one_eq,nv_map]
  split <;> omega
 | s::t::ps,v,x,h=>by
  obtain ⟨h6,y,hg,hl⟩:=leads_two.1 h
  have ih:=put_nv (t::ps) y x hl
  have h1:=mems_nv v
  rw [put_two_eq,nv_map,hg]
  have h2:=with_nv_some (mems v) s (put ((some y).getD JV.zeroV) (t::ps) x) y (by rw [← get_mems];exact hg)
  have h3:(some y).getD JV.zeroV=y:=rfl
  rw [h3] at h2 ⊢
  omega
theorem begins_iff {a b:List (List UInt8)}:begins a b=true↔a <+: b:=by
 unfold begins
 rw [List.prefix_iff_eq_take]
 simp only [Bool.and_eq_true,decide_eq_true_eq]
 constructor
 ·exact fun h=>h.2.symm
 ·intro h
  refine ⟨?_,h.symm⟩
  have:=congrArg List.length h
  rw [List.length_take] at this
  omega
def Off (a b:List (List UInt8)):Prop:=¬ a <+: b ∧ ¬ b <+: a
theorem Off.symm {a b:List (List UInt8)} (h:Off a b):Off b a:=⟨h.2,h.1⟩
theorem Off.tail {s:List UInt8} {a b:List (List UInt8)} (h:Off (s::a) (s::b)):Off a b:=⟨fun k=>h.1 (List.cons_prefix_cons.2 ⟨rfl,k⟩),fun k=>h.2 (List.cons_prefix_cons.2 ⟨rfl,k⟩)⟩
theorem Off.ne_nil {a b:List (List UInt8)} (h:Off a b):a≠[]∧b≠[]:=⟨fun e=>h.1 (by rw [e];exact List.nil_prefix),fun e=>h.2 (by rw [e];exact List.nil_prefix)⟩
theorem leads_put:∀ (p q:List (List UInt8)) (v x:JV),Off p q→leads v q=true→leads (put v p x) q=true
 | [],q,v,x,h,_=>absurd rfl h.ne_nil.1
 | s::p,[],v,x,h,_=>absurd rfl h.ne_nil.2
 | s::p,[t],v,x,h,hl=>leads_1.2 (put_kd v s p x)
 | s::p,t::u::q,v,x,h,hl=>by
  obtain ⟨h6,y,hg,hy⟩:=leads_two.1 hl
  refine leads_two.2 ⟨put_kd v s p x,?_⟩
  by_cases e:t=s
  ·subst e
   cases p with
   | nil=>exact absurd (List.cons_prefix_cons.2 ⟨rfl,List.nil_prefix⟩) h.1
   | cons r p=>
    refine ⟨_,get_put_eq v t r p x,?_⟩
    rw [hg]
    exact leads_put (r::p) (u::q) y x h.tail hy
  ·exact ⟨y,by rw [get_put_ne v p x e];exact hg,hy⟩
theorem apart_off {l:List Chg} (h:apart l=true):l.Pairwise (fun a b=>Off a.1 b.1):=by
 rw [List.pairwise_iff_getElem]
 intro i k hi hk hik
 have h1:begins l[i].1 l[k].1=false:=by
  cases hb:begins l[i].1 l[k].1 with
  | false=>rfl
  | true=>rw [apart_not hi hk (by omega) hb] at h;cases h
 have h2:begins l[k].1 l[i].1=false:=by
  cases hb:begins l[k].1 l[i].1 with
  | false=>rfl
  | true=>rw [apart_not hk hi (by omega) hb] at h;cases h
 exact ⟨fun k=>(by rw [begins_iff.2 k] at h1;cases h1),fun k=>(by rw [begins_iff.2 k] at h2;cases h2)⟩
theorem off_apart {l:List Chg} (h:l.Pairwise (fun a b=>Off a.1 b.1)):apart l=true:=by
 rw [List.pairwise_iff_getElem] at h
 refine apart_of (fun i hi k hk hne=>?_)
 cases hb:begins l[i].1 l[k].1 with
 | false=>rfl
 | true=>
  have hp:=begins_iff.1 hb
  rcases Nat.lt_or_gt_of_ne hne with h1 | h1
  ·exact absurd hp (h i k hi hk h1).1
  ·exact absurd hp (h k i hk hi h1).2
def sumL:List Chg→Nat
 | []=>0
 | c::l=>Rd.nv c.2+sumL l
theorem sumL_take:∀ (l:List Chg) (k:Nat),sumL (l.take k)≤sumL l
 | [],k=>by simp
 | c::l,0=>Nat.zero_le _
 | c::l,k+1=>by rw [List.take_succ_cons];unfold sumL;have:=sumL_take l k;omega
theorem sumL_chg:∀ {m:List (List UInt8 × JV)} {l:List Chg},chgM m=some l→sumL l=Rd.nvM m
 | [],l,h=>by injection h with h;rw [← h,Rd.nvM_nil];rfl
 | p::m,l,h=>by
  unfold chgM at h
  cases hp:Pt.parts (47::p.1) with
  | none=>rw [hp] at h;cases h
  | some ps=>
   rw [hp] at h
   cases hm:chgM m with
   | none=>simp only [hm,Option.map_none] at h;cases h
   | some l2=>
    simp only [hm,Option.map_some,Option.some.injEq] at h
    rw [← h,Rd.nvM_cons]
    show Rd.nv p.2+sumL l2=_
    rw [sumL_chg hm]
theorem putL_nv:∀ (l:List Chg) (v:JV),l.Pairwise (fun a b=>Off a.1 b.1)→(∀ c∈l,leads v c.1=true)→Rd.nv (putL v l)≤Rd.nv v+sumL l
 | [],v,_,_=>Nat.le_refl _
 | c::l,v,hp,hl=>by
  rw [List.pairwise_cons] at hp
  have h1:=put_nv c.1 v c.2 (hl c (by simp))
  have h2:=putL_nv l (put v c.1 c.2) hp.2 (fun c' hc'=>leads_put c.1 c'.1 v c.2 (hp.1 c' hc') (hl c' (by simp [hc'])))
  show Rd.nv (putL (put v c.1 c.2) l)≤Rd.nv v+(Rd.nv c.2+sumL l)
  omega
theorem fits_all {v:JV} {l:List Chg} (h:fits v l=true):v.kd=6∧l.Pairwise (fun a b=>Off a.1 b.1) ∧ ∀ c∈l,leads v c.1=true:=by
 unfold fits at h
 simp only [Bool.and_eq_true,beq_iff_eq,List.all_eq_true] at h
 exact ⟨h.1,apart_off h.2.1,h.2.2⟩
theorem nv3 (v:JV):3*Rd.nv v≤JV.bulk v:=by
 refine JV.ind (P:=fun v=>3*Rd.nv v≤JV.bulk v) (fun k n s l m hl hm=>?_) v
 rw [Rd.nv_mk,JV.bulk_mk]
 have h1:∀ l:List JV,(∀ x∈l,3*Rd.nv x≤JV.bulk x)→3*Rd.nvL l≤JV.bulkL l:=by
  intro l
  induction l with
  | nil=>intro _;rw [Rd.nvL_nil];omega
  | cons x l ih=>
   intro h
   rw [Rd.nvL_cons,JV.bulkL_cons]
   have:=h x (by simp)
   have:=ih (fun y hy=>h y (by simp [hy]))
   omega
 have h2:∀ m:List (List UInt8 × JV),(∀ x∈m,3*Rd.nv x.2≤JV.bulk x.2)→3*Rd.nvM m≤JV.bulkM m:=by
  intro m
  induction m with
  | nil=>intro _;rw [Rd.nvM_nil];omega
  | cons x m ih=>
   intro h
   rw [Rd.nvM_cons,JV.bulkM_cons]
   have:=h x (by simp)
   have:=ih (fun y hy=>h y (by simp [hy]))
   omega
 have:=h1 l hl
 have:=h2 m hm
 omega
theorem fits_nv {v p:JV} {l:List Chg} (hc:chg p=some l) (h:fits v l=true) (k:Nat):Rd.nv (putL v (l.take k))≤Rd.nv v+Rd.nv p:=by
 obtain ⟨_,h2,h3⟩:=fits_all h
 have h4:=putL_nv (l.take k) v (h2.sublist (List.take_sublist k l)) (fun c hc=>h3 c (List.mem_of_mem_take hc))
 have h5:=sumL_take l k
 have h6:=sumL_chg (chg_some hc).2.2
 have h7:=Pt.nv_eq p
 omega
end Pc
/- Chapter 09, plain: a patch that fits fits what comes of it, and changes it no more. -/

namespace Pc
def Has:List (List UInt8)→JV→JV→Prop
 | [],_,_=>False
 | [s],v,x=>(∃ m,v=JV.mapV m)∧Pt.get v s=if x.kd=1 then none else some x
 | s::t::ps,v,x=>(∃ m,v=JV.mapV m) ∧ ∃ y,Pt.get v s=some y∧Has (t::ps) y x
theorem put_is_map (v:JV) (s:List UInt8) (ps:List (List UInt8)) (x:JV):∃ m,put v (s::ps) x=JV.mapV m:=by
 cases ps with
 | nil=>exact ⟨_,put_one_eq v s x⟩
 | cons t ps=>exact ⟨_,put_two_eq v s t ps x⟩
theorem put_has:∀ (p:List (List UInt8)) (v x:JV),p≠[]→Has p (put v p x) x
 | [],v,x,h=>absurd rfl h
 | [s],v,x,_=>⟨put_is_map v s [] x,get_put_last v s x⟩
 | s::t::ps,v,x,_=>⟨put_is_map v s (t::ps) x,_,get_put_eq v s t ps x,put_has (t::ps) _ x (by simp)⟩
theorem Has.put:∀ (q p:List (List UInt8)) (v x z:JV),Off q p→Has p v x→Has p (Pc.put v q z) x
 | [],p,v,x,z,h,_=>absurd rfl h.ne_nil.1
 | s::q,[],v,x,z,h,_=>absurd rfl h.ne_nil.2
 | s::q,[t],v,x,z,h,hp=>by
  refine ⟨put_is_map v s q z,?_⟩
  have e:t≠s:=fun e=>h.2 (by rw [e];exact List.cons_prefix_cons.2 ⟨rfl,List.nil_prefix⟩)
  rw [get_put_ne v q z e]
  exact hp.2
 | s::q,t::u::p,v,x,z,h,hp=>by
  obtain ⟨hm,y,hg,hy⟩:=hp
  refine ⟨put_is_map v s q z,?_⟩
  by_cases e:t=s
  ·subst e
   cases q with
   | nil=>exact absurd (List.cons_prefix_cons.2 ⟨rfl,List.nil_prefix⟩) h.1
   | cons r q=>
    refine ⟨_,get_put_eq v t r q z,?_⟩
    rw [hg]
    exact Has.put (r::q) (u::p) y x z h.tail hy
  ·exact ⟨y,by rw [get_put_ne v q z e];exact hg,hy⟩
theorem Has.putL:∀ (l:List Chg) (p:List (List UInt8)) (v x:JV),(∀ c∈l,Off c.1 p)→Has p v x→Has p (Pc.putL v l) x
 | [],p,v,x,_,h=>h
 | c::l,p,v,x,ho,h=>Has.putL l p (Pc.put v c.1 c.2) x (fun c' hc'=>ho c' (by simp [hc'])) (Has.put c.1 p v x c.2 (ho c (by simp)) h)
theorem putL_has:∀ (l:List Chg) (v:JV),l.Pairwise (fun a b=>Off a.1 b.1)→(∀ c∈l,c.1≠[]) → ∀ c∈l,Has c.1 (putL v l) c.2
 | [],v,_,_,c,hc=>absurd hc (by simp)
 | d::l,v,hp,hn,c,hc=>by
  rw [List.pairwise_cons] at hp
  show Has c.1 (putL (put v d.1 d.2) l) c.2
  rcases List.mem_cons.1 hc with rfl | hc
  ·exact Has.putL l c.1 _ c.2 (fun c' hc'=>(hp.1 c' hc').symm) (put_has c.1 v c.2 (hn c (by simp)))
  ·exact putL_has l (put v d.1 d.2) hp.2 (fun c' hc'=>hn c' (by simp [hc'])) c hc
theorem chg_ne {p:JV} {l:List Chg} (h:chg p=some l):∀ c∈l,c.1≠[]:=fun c hc=>by
 obtain ⟨y,_,hp,_⟩:=chgM_mem (chg_some h).2.2 hc
 exact parts_ne hp
theorem apply_nv {v p w:JV} (h:apply v p=some w):Rd.nv w≤Rd.nv v+Rd.nv p:=by
 unfold apply at h
 cases hc:chg p with
 | none=>rw [hc] at h;cases h
 | some l=>
  rw [hc] at h
  simp only at h
  by_cases hf:fits v l=true
  ·rw [if_pos hf] at h
   injection h with h
   subst h
   have:=fits_nv hc hf l.length
   rwa [List.take_length] at this
  ·rw [if_neg hf] at h;cases h
end Pc
/- Chapter 09: few, awake. -/

theorem papply_w (v p:JV) (B:Option Addr) (d:Nat) (B':Option Addr) (d':Nat) (C:Option Addr) (f:Nat) (C':Option Addr) (f':Nat) (w:World) (hv:InV w (Lo w.heap.size) v (vA v B d B' d')) (hp:InV w (Lo w.heap.size) p (vA p C f C' f')) (hb:JV.bulk v≤1048576) (hbp:JV.bulk p≤1048576) (hM:MxL w):
  Calls Tryz.prog 11 #[.agg #[.int .i64 v.kd,.int .i64 v.nm,.string ⟨v.tx.toArray⟩,.slice B v.ls.length d,.slice B' v.ms.length d'],.agg #[.int .i64 p.kd,.int .i64 p.nm,.string ⟨p.tx.toArray⟩,.slice C p.ls.length f,.slice C' p.ms.length f']] w (ApP w (Pc.apply v p)):=
 papply_is v p B d B' d' C f C' f' w hv hp hbp hM (fun l hc hf k=>by
  have h1:=Pc.fits_nv hc hf k
  have h2:=Pc.nv3 v
  have h3:=Pc.nv3 p
  omega)
theorem few09_is (v p:JV) (B:Option Addr) (d:Nat) (B':Option Addr) (d':Nat) (C:Option Addr) (f:Nat) (C':Option Addr) (f':Nat) (w:World) (hv:InV w (Lo w.heap.size) v (vA v B d B' d')) (hp:InV w (Lo w.heap.size) p (vA p C f C' f')) (hb:JV.bulk v≤1048576) (hbp:JV.bulk p≤1048576):
  Calls Tryz.prog 10 #[.agg #[.int .i64 v.kd,.int .i64 v.nm,.string ⟨v.tx.toArray⟩,.slice B v.ls.length d,.slice B' v.ms.length d'],.agg #[.int .i64 p.kd,.int .i64 p.nm,.string ⟨p.tx.toArray⟩,.slice C p.ls.length f,.slice C' p.ms.length f']] w fun e w'=>(∃ b:Bool,e=.returned (.bool b))∧Fr w w':=by
 have n1:=nv_bulk v
 have n2:=nv_bulk p
 have HF7:Hid (∀ W,Fr w W→Calls Tryz.prog 25 #[.agg #[.int .i64 v.kd,.int .i64 v.nm,.string ⟨v.tx.toArray⟩,.slice B v.ls.length d,.slice B' v.ms.length d'],.int .i64 2000] W fun e w'=>(∃ b:Bool,e=.returned (.bool b))∧Fr W w'):=Lib.hid (fun W hW=>few7_is v B d B' d' W ((hv.keep (Nat.le_refl _) hW).lo hW.size) (by omega) 2000 (by decide) (by decide))
 have HF8:Hid (∀ W,Fr w W→Calls Tryz.prog 25 #[.agg #[.int .i64 p.kd,.int .i64 p.nm,.string ⟨p.tx.toArray⟩,.slice C p.ls.length f,.slice C' p.ms.length f'],.int .i64 2000] W fun e w'=>(∃ b:Bool,e=.returned (.bool b))∧Fr W w'):=Lib.hid (fun W hW=>few7_is p C f C' f' W ((hp.keep (Nat.le_refl _) hW).lo hW.size) (by omega) 2000 (by decide) (by decide))
 clear hv hp hb hbp n1 n2
 go_enter Tryz.func10,Tryz.ntmps10
 go_upto_region 1 with fail
 have hb1:Blk ((w.alloc (.cells #[.int .i64 v.kd,.int .i64 v.nm,.string ⟨v.tx.toArray⟩,.slice B v.ls.length d,.slice B' v.ms.length d'] 25)).alloc (.cells #[.int .i64 p.kd,.int .i64 p.nm,.string ⟨p.tx.toArray⟩,.slice C p.ls.length f,.slice C' p.ms.length f'] 25)) w.heap.size #[.int .i64 v.kd,.int .i64 v.nm,.string ⟨v.tx.toArray⟩,.slice B v.ls.length d,.slice B' v.ms.length d'] 25:=(Blk.made w _ _).keep ((Fr.refl _).alloc _)
 have hb2:Blk ((w.alloc (.cells #[.int .i64 v.kd,.int .i64 v.nm,.string ⟨v.tx.toArray⟩,.slice B v.ls.length d,.slice B' v.ms.length d'] 25)).alloc (.cells #[.int .i64 p.kd,.int .i64 p.nm,.string ⟨p.tx.toArray⟩,.slice C p.ls.length f,.slice C' p.ms.length f'] 25)) (w.heap.size+1) #[.int .i64 p.kd,.int .i64 p.nm,.string ⟨p.tx.toArray⟩,.slice C p.ls.length f,.slice C' p.ms.length f'] 25:=boxz (Blk.made (w.alloc _) _ _)
 have hf0:Fr w ((w.alloc (.cells #[.int .i64 v.kd,.int .i64 v.nm,.string ⟨v.tx.toArray⟩,.slice B v.ls.length d,.slice B' v.ms.length d'] 25)).alloc (.cells #[.int .i64 p.kd,.int .i64 p.nm,.string ⟨p.tx.toArray⟩,.slice C p.ls.length f,.slice C' p.ms.length f'] 25)):=((Fr.refl w).alloc _).alloc _
 generalize ((w.alloc (.cells #[.int .i64 v.kd,.int .i64 v.nm,.string ⟨v.tx.toArray⟩,.slice B v.ls.length d,.slice B' v.ms.length d'] 25)).alloc (.cells #[.int .i64 p.kd,.int .i64 p.nm,.string ⟨p.tx.toArray⟩,.slice C p.ls.length f,.slice C' p.ms.length f'] 25))=W0 at hb1 hb2 hf0 ⊢
 generalize w.heap.size+1=X2 at hb2 ⊢
 generalize w.heap.size=X1 at hb1 ⊢
 have HB2:=Lib.hid hb2
 have HF0:=Lib.hid hf0
 obtain ⟨⟨y0,y1,y2,y3,y4⟩,_⟩:=box5 hb1
 clear hb1 hb2 hf0
 go_wp2_with (first
  | (go_at_call 25;have hq:=HF1.out;refine (HF8.out _ (HF0.out.trans hq)).mono ?_;rintro e w2 ⟨⟨b2,rfl⟩,hf⟩;obtain ⟨⟨z0,z1,z2,z3,z4⟩,_⟩:=box5 (HB2.out.keep (hq.trans hf));have HF2:=Lib.hid (hq.trans hf);clear hf hq;cases b2)
  | (go_at_call 25;refine (HF7.out _ HF0.out).mono ?_;rintro e w1 ⟨⟨b1,rfl⟩,hf⟩;obtain ⟨⟨x0,x1,x2,x3,x4⟩,_⟩:=box5 (HB2.out.keep hf);have HF1:=Lib.hid hf;clear hf;cases b1))
 all_goals go_ret
 all_goals first
  | exact ⟨⟨_,rfl⟩,HF0.out.trans HF2.out⟩
  | exact ⟨⟨_,rfl⟩,HF0.out.trans HF1.out⟩
def aw9v:JV:=JV.mapV [([97],JV.mapV [([98],JV.intV 1)]),([99],JV.intV 2)]
def aw9p:JV:=JV.mapV [([97,47,98],.mk 1 0 [] [] []),([99],JV.intV 3),([100],JV.intV 4)]
def aw9q:JV:=JV.mapV [([97],JV.intV 1),([97,47,98],JV.intV 2)]
def aw9w:JV:=JV.mapV [([97],JV.mapV []),([99],JV.intV 3),([100],JV.intV 4)]
theorem aw9_1:Rd.rdS [123,34,97,34,58,123,34,98,34,58,49,125,44,34,99,34,58,50,125]=.ok aw9v [] 4:=by kernel_rfl
theorem aw9_2:Rd.rdS [123,34,97,47,98,34,58,110,117,108,108,44,34,99,34,58,51,44,34,100,34,58,52,125]=.ok aw9p [] 4:=by kernel_rfl
theorem aw9_3:Rd.rdS [123,34,97,34,58,49,44,34,97,47,98,34,58,50,125]=.ok aw9q [] 3:=by kernel_rfl
theorem aw9_a1:Pc.apply aw9v aw9p=some aw9w:=by kernel_rfl
theorem aw9_a2:Pc.apply aw9v aw9q=none:=by kernel_rfl
theorem aw9_f1:Pc.fitsP aw9v aw9p=true:=by kernel_rfl
theorem aw9_f2:Pc.fitsP aw9v aw9q=false:=by kernel_rfl
theorem aw9_chk:∃ q,JV.chk aw9w 1 0=(0,q):=⟨4,by kernel_rfl⟩
theorem aw9_w:JV.wrt aw9w=[123,34,97,34,58,123,125,44,34,99,34,58,51,44,34,100,34,58,52,125]:=by kernel_rfl

theorem awake09 (w:World) (hT:LowTabs w) (hM:MxL w):Calls Tryz.prog 9 #[] w fun e w'=>e=.returned (.bool true)∧Fr w w':=by
 have HT:=Lib.hid hT
 have HM:=Lib.hid hM
 clear hT hM
 go_enter Tryz.func9,Tryz.ntmps9
 go_upto_region 2 with (go_at_call 24;refine (rvalue_v _ aw9v [] 4 6 0 [] 0 2 ⟨rfl,rfl,rfl,rfl,rfl⟩ _ ?hs1 (HT.out) ?he1).mono ?_;(case hs1=>(show (19:Nat)≤_;omega));(case he1=>exact aw9_1);rintro e w1 ⟨B1,d1,B1',d1',rfl,hv,hf⟩;have HVa1:=Lib.hid hv.low;have HFa1:=Lib.hid hf;clear hv hf)
 have hb1:=Blk.made w1 #[.int .i64 6,.int .i64 0,.string ⟨#[]⟩,.slice B1 0 d1,.slice B1' 2 d1'] 25
 have hk1:Fr w1 (w1.alloc (.cells #[.int .i64 6,.int .i64 0,.string ⟨#[]⟩,.slice B1 0 d1,.slice B1' 2 d1'] 25)):=(Fr.refl w1).alloc _
 generalize (w1.alloc (.cells #[.int .i64 6,.int .i64 0,.string ⟨#[]⟩,.slice B1 0 d1,.slice B1' 2 d1'] 25))=W1 at hb1 hk1 ⊢
 generalize w1.heap.size=X1 at hb1 ⊢
 have HB1:=Lib.hid hb1
 have HF1:Hid (Fr w W1):=Lib.hid (HFa1.out.trans hk1)
 have HV1:Hid (InV W1 (Lo W1.heap.size) aw9v (vA aw9v B1 d1 B1' d1')):=Lib.hid ((HVa1.out.keep (Nat.le_refl _) hk1).lo hk1.size)
 clear hb1 hk1
 go_upto_region 3 with (go_at_call 24;refine (rvalue_v _ aw9p [] 4 6 0 [] 0 3 ⟨rfl,rfl,rfl,rfl,rfl⟩ _ ?hs1 (HT.out.keep (HF1.out)) ?he1).mono ?_;(case hs1=>(show (24:Nat)≤_;omega));(case he1=>exact aw9_2);rintro e w2 ⟨B2,d2,B2',d2',rfl,hv,hf⟩;have HVa2:=Lib.hid hv.low;have HFa2:=Lib.hid hf;clear hv hf)
 have hb2:=Blk.made w2 #[.int .i64 6,.int .i64 0,.string ⟨#[]⟩,.slice B2 0 d2,.slice B2' 3 d2'] 25
 have hk2:Fr w2 (w2.alloc (.cells #[.int .i64 6,.int .i64 0,.string ⟨#[]⟩,.slice B2 0 d2,.slice B2' 3 d2'] 25)):=(Fr.refl w2).alloc _
 generalize (w2.alloc (.cells #[.int .i64 6,.int .i64 0,.string ⟨#[]⟩,.slice B2 0 d2,.slice B2' 3 d2'] 25))=W2 at hb2 hk2 ⊢
 generalize w2.heap.size=X2 at hb2 ⊢
 have HB2:=Lib.hid hb2
 have HF2:Hid (Fr W1 W2):=Lib.hid (HFa2.out.trans hk2)
 have HV2:Hid (InV W2 (Lo W2.heap.size) aw9p (vA aw9p B2 d2 B2' d2')):=Lib.hid ((HVa2.out.keep (Nat.le_refl _) hk2).lo hk2.size)
 clear hb2 hk2
 go_upto_region 4 with (go_at_call 24;refine (rvalue_v _ aw9q [] 3 6 0 [] 0 2 ⟨rfl,rfl,rfl,rfl,rfl⟩ _ ?hs1 (HT.out.keep (HF1.out.trans HF2.out)) ?he1).mono ?_;(case hs1=>(show (15:Nat)≤_;omega));(case he1=>exact aw9_3);rintro e w3 ⟨B3,d3,B3',d3',rfl,hv,hf⟩;have HVa3:=Lib.hid hv.low;have HFa3:=Lib.hid hf;clear hv hf)
 have hb3:=Blk.made w3 #[.int .i64 6,.int .i64 0,.string ⟨#[]⟩,.slice B3 0 d3,.slice B3' 2 d3'] 25
 have hk3:Fr w3 (w3.alloc (.cells #[.int .i64 6,.int .i64 0,.string ⟨#[]⟩,.slice B3 0 d3,.slice B3' 2 d3'] 25)):=(Fr.refl w3).alloc _
 generalize (w3.alloc (.cells #[.int .i64 6,.int .i64 0,.string ⟨#[]⟩,.slice B3 0 d3,.slice B3' 2 d3'] 25))=W3 at hb3 hk3 ⊢
 generalize w3.heap.size=X3 at hb3 ⊢
 have HB3:=Lib.hid hb3
 have HF3:Hid (Fr W2 W3):=Lib.hid (HFa3.out.trans hk3)
 have HV3:Hid (InV W3 (Lo W3.heap.size) aw9q (vA aw9q B3 d3 B3' d3')):=Lib.hid ((HVa3.out.keep (Nat.le_refl _) hk3).lo hk3.size)
 clear hb3 hk3
 have HA1:Hid (∀ W,Fr W3 W→Calls Tryz.prog 11 #[.agg #[.int .i64 6,.int .i64 0,.string ⟨#[]⟩,.slice B1 0 d1,.slice B1' 2 d1'],.agg #[.int .i64 6,.int .i64 0,.string ⟨#[]⟩,.slice B2 0 d2,.slice B2' 3 d2']] W fun e w'=>(∃ (B4:Option Addr) (d4:Nat) (B4':Option Addr) (d4':Nat),e=.returned (.tuple #[.agg #[.int .i64 6,.int .i64 0,.string ⟨#[]⟩,.slice B4 0 d4,.slice B4' 3 d4'],.int .i64 0])∧InV w' (Lo w'.heap.size) aw9w (vA aw9w B4 d4 B4' d4'))∧Fr W w'):=Lib.hid (fun W hW=>by
  have h:=papply_w aw9v aw9p B1 d1 B1' d1' B2 d2 B2' d2' W ((HV1.out.keep (Nat.le_refl _) ((HF2.out.trans HF3.out).trans hW)).lo ((HF2.out.trans HF3.out).trans hW).size) ((HV2.out.keep (Nat.le_refl _) (HF3.out.trans hW)).lo (HF3.out.trans hW).size) (by decide) (by decide) (HM.out.keep (((HF1.out.trans HF2.out).trans HF3.out).trans hW))
  rw [aw9_a1] at h
  exact h.mono (by rintro e w' ⟨⟨B4,d4,B4',d4',rfl,hi⟩,hf⟩;exact ⟨⟨B4,d4,B4',d4',rfl,hi.more (fun b hb=>hb.2)⟩,hf⟩))
 have HA2:Hid (∀ W,Fr W3 W→Calls Tryz.prog 11 #[.agg #[.int .i64 6,.int .i64 0,.string ⟨#[]⟩,.slice B1 0 d1,.slice B1' 2 d1'],.agg #[.int .i64 6,.int .i64 0,.string ⟨#[]⟩,.slice B3 0 d3,.slice B3' 2 d3']] W fun e w'=>e=.returned (.tuple #[.agg #[.int .i64 0,.int .i64 0,.string ⟨#[]⟩,.slice none 0 0,.slice none 0 0],.int .i64 90])∧Fr W w'):=Lib.hid (fun W hW=>by
  have h:=papply_w aw9v aw9q B1 d1 B1' d1' B3 d3 B3' d3' W ((HV1.out.keep (Nat.le_refl _) ((HF2.out.trans HF3.out).trans hW)).lo ((HF2.out.trans HF3.out).trans hW).size) ((HV3.out.keep (Nat.le_refl _) (hW)).lo (hW).size) (by decide) (by decide) (HM.out.keep (((HF1.out.trans HF2.out).trans HF3.out).trans hW))
  rw [aw9_a2] at h
  exact h)
 have HG1:Hid (∀ W,Fr W3 W→Calls Tryz.prog 14 #[.agg #[.int .i64 6,.int .i64 0,.string ⟨#[]⟩,.slice B1 0 d1,.slice B1' 2 d1'],.agg #[.int .i64 6,.int .i64 0,.string ⟨#[]⟩,.slice B2 0 d2,.slice B2' 3 d2']] W fun e w'=>e=.returned (.bool true)∧Fr W w'):=Lib.hid (fun W hW=>by
  have h:=pFits_is aw9v aw9p B1 d1 B1' d1' B2 d2 B2' d2' W ((HV1.out.keep (Nat.le_refl _) ((HF2.out.trans HF3.out).trans hW)).lo ((HF2.out.trans HF3.out).trans hW).size) ((HV2.out.keep (Nat.le_refl _) (HF3.out.trans hW)).lo (HF3.out.trans hW).size) (by decide) (HM.out.keep (((HF1.out.trans HF2.out).trans HF3.out).trans hW))
  rw [aw9_f1] at h
  exact h)
 have HG2:Hid (∀ W,Fr W3 W→Calls Tryz.prog 14 #[.agg #[.int .i64 6,.int .i64 0,.string ⟨#[]⟩,.slice B1 0 d1,.slice B1' 2 d1'],.agg #[.int .i64 6,.int .i64 0,.string ⟨#[]⟩,.slice B3 0 d3,.slice B3' 2 d3']] W fun e w'=>e=.returned (.bool false)∧Fr W w'):=Lib.hid (fun W hW=>by
  have h:=pFits_is aw9v aw9q B1 d1 B1' d1' B3 d3 B3' d3' W ((HV1.out.keep (Nat.le_refl _) ((HF2.out.trans HF3.out).trans hW)).lo ((HF2.out.trans HF3.out).trans hW).size) ((HV3.out.keep (Nat.le_refl _) (hW)).lo (hW).size) (by decide) (HM.out.keep (((HF1.out.trans HF2.out).trans HF3.out).trans hW))
  rw [aw9_f2] at h
  exact h)
 have HC1:=Lib.hid (HB1.out.keep (HF2.out.trans HF3.out))
 have HC2:=Lib.hid (HB2.out.keep HF3.out)
 obtain ⟨⟨x0,x1,x2,x3,x4⟩,_⟩:=box5 HC1.out
 obtain ⟨⟨y0,y1,y2,y3,y4⟩,_⟩:=box5 HC2.out
 go_upto_region 5 with (go_at_call 11;refine (HA1.out _ (Fr.refl _)).mono ?_;rintro e w4 ⟨⟨B4,d4,B4',d4',rfl,hi⟩,hf⟩;have HVa4:=Lib.hid hi;have HFa4:=Lib.hid hf;clear hi hf)
 clear x0 x1 x2 x3 x4 y0 y1 y2 y3 y4
 have hb4:=Blk.made w4 #[.int .i64 6,.int .i64 0,.string ⟨#[]⟩,.slice B4 0 d4,.slice B4' 3 d4'] 25
 have hk4:Fr w4 (w4.alloc (.cells #[.int .i64 6,.int .i64 0,.string ⟨#[]⟩,.slice B4 0 d4,.slice B4' 3 d4'] 25)):=(Fr.refl w4).alloc _
 generalize (w4.alloc (.cells #[.int .i64 6,.int .i64 0,.string ⟨#[]⟩,.slice B4 0 d4,.slice B4' 3 d4'] 25))=W4 at hb4 hk4 ⊢
 generalize w4.heap.size=X4 at hb4 ⊢
 have HF4:Hid (Fr W3 W4):=Lib.hid (HFa4.out.trans hk4)
 have HTX:Hid (Calls Tryz.prog 19 #[.agg #[.int .i64 6,.int .i64 0,.string ⟨#[]⟩,.slice B4 0 d4,.slice B4' 3 d4']] W4 fun e w'=>e=.returned (.tuple #[.string ⟨#[123,34,97,34,58,123,125,44,34,99,34,58,51,44,34,100,34,58,52,125]⟩,.int .i64 0])∧Fr W4 w'):=Lib.hid (by
  obtain ⟨q,hq⟩:=aw9_chk
  exact text_is aw9w B4 d4 B4' d4' W4 0 q [123,34,97,34,58,123,125,44,34,99,34,58,51,44,34,100,34,58,52,125] ((HVa4.out.keep (Nat.le_refl _) hk4).lo hk4.size) hq (by rw [aw9_w];rfl) (by simp))
 obtain ⟨⟨x0,x1,x2,x3,x4⟩,_⟩:=box5 hb4
 clear hb4 hk4
 go_upto_region 6 with (go_at_call 19;refine HTX.out.mono ?_;rintro e w5 ⟨rfl,hf⟩;have HF5:=Lib.hid (HF4.out.trans hf);clear hf)
 clear x0 x1 x2 x3 x4
 obtain ⟨⟨x0,x1,x2,x3,x4⟩,_⟩:=box5 (HC1.out.keep HF5.out)
 obtain ⟨⟨y0,y1,y2,y3,y4⟩,_⟩:=box5 (HB3.out.keep HF5.out)
 go_upto_region 7 with (go_at_call 11;refine (HA2.out _ HF5.out).mono ?_;rintro e w6 ⟨rfl,hf⟩;have HFa6:=Lib.hid (HF5.out.trans hf);clear hf)
 clear x0 x1 x2 x3 x4 y0 y1 y2 y3 y4
 have hk6:Fr w6 (w6.alloc (.cells #[.int .i64 0,.int .i64 0,.string ⟨#[]⟩,.slice none 0 0,.slice none 0 0] 25)):=(Fr.refl w6).alloc _
 generalize (w6.alloc (.cells #[.int .i64 0,.int .i64 0,.string ⟨#[]⟩,.slice none 0 0,.slice none 0 0] 25))=W6 at hk6 ⊢
 generalize w6.heap.size=X6
 have HF6:Hid (Fr W3 W6):=Lib.hid (HFa6.out.trans hk6)
 clear hk6
 obtain ⟨⟨x0,x1,x2,x3,x4⟩,_⟩:=box5 (HC1.out.keep HF6.out)
 obtain ⟨⟨y0,y1,y2,y3,y4⟩,_⟩:=box5 (HC2.out.keep HF6.out)
 go_wp2_with (first
  | (go_at_call 14;have hq:=HF7.out;refine (HG2.out _ hq).mono ?_;rintro e w8 ⟨rfl,hf⟩;have HF8:=Lib.hid (hq.trans hf);clear hf hq)
  | (go_at_call 14;refine (HG1.out _ HF6.out).mono ?_;rintro e w7 ⟨rfl,hf⟩;obtain ⟨⟨z0,z1,z2,z3,z4⟩,_⟩:=box5 (HC1.out.keep (HF6.out.trans hf));obtain ⟨⟨r0,r1,r2,r3,r4⟩,_⟩:=box5 (HB3.out.keep (HF6.out.trans hf));have HF7:=Lib.hid (HF6.out.trans hf);clear hf))
 go_ret
 exact ⟨rfl,((HF1.out.trans HF2.out).trans HF3.out).trans HF8.out⟩
end Go.Proofs.YtlmcfhokfiibkaaGreatDoor
