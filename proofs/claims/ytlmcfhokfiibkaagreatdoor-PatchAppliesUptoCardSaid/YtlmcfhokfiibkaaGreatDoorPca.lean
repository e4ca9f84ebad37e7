/- Chapter 09, plain: changes, which fit, what comes of them. -/
import Derived.Test.YtlmcfhokfiibkaaGreatDoorBka
import Derived.Test.YtlmcfhokfiibkaaGreatDoorCpa
import Derived.Test.YtlmcfhokfiibkaaGreatDoorPta
import Derived.Deep.RegionHeld
import Derived.Test.YtlmcfhokfiibkaaGreatDoorPtj
import Derived.Test.YtlmcfhokfiibkaaGreatDoorPcx
namespace Go.Proofs.YtlmcfhokfiibkaaGreatDoor
set_option maxRecDepth 100000
set_option maxHeartbeats 4000000
set_option linter.unusedVariables false
set_option linter.unusedSimpArgs false
open Go.RowKit

namespace Pc
open Pt
abbrev Tx:=List UInt8
abbrev Chg:=List Tx × JV
def chgM:List (Tx × JV)→Option (List Chg)
 | []=>some []
 | p::m=>match Pt.parts (47::p.1) with
  | none=>none
  | some ps=>(chgM m).map ((ps,p.2) :: ·)
def chg (p:JV):Option (List Chg):=if p.kd=6∧p.ms.length≤400 then chgM p.ms else none
def begins (a b:List Tx):Bool:=decide (a.length≤b.length) && decide (b.take a.length=a)
def apart (l:List Chg):Bool:=(List.range l.length).all fun i=>(List.range l.length).all fun k=>i == k || !begins (l.getD i ([],JV.zeroV)).1 (l.getD k ([],JV.zeroV)).1
def leads (v:JV):List Tx→Bool
 | []=>true
 | [_]=>v.kd == 6
 | s::t::ps=>v.kd == 6 && (match Pt.get v s with | none=>false | some x=>leads x (t::ps))
def fits (v:JV) (l:List Chg):Bool:=v.kd == 6 && (apart l && l.all fun c=>leads v c.1)
def mems (v:JV):List (Tx × JV):=if v.kd=6 then v.ms else []
def put (v:JV):List Tx→JV→JV
 | [],_=>v
 | [s],x=>if x.kd=1 then JV.mapV (Bk.woM (mems v) s) else JV.mapV (Pt.withM (mems v) s x)
 | s::t::ps,x=>JV.mapV (Pt.withM (mems v) s (put ((Pt.get v s).getD JV.zeroV) (t::ps) x))
def putL (v:JV) (l:List Chg):JV:=l.foldl (fun v c=>put v c.1 c.2) v
def apply (v p:JV):Option JV:=match chg p with
 | none=>none
 | some l=>if fits v l then some (putL v l) else none

theorem chgM_none:∀ {m:List (Tx × JV)} {i:Nat} (hi:i<m.length),Pt.parts (47::m[i].1)=none→chgM m=none
 | p::m,0,_,h=>by
  unfold chgM
  rw [show Pt.parts (47::p.1)=none from h]
 | p::m,i+1,hi,h=>by
  unfold chgM
  cases Pt.parts (47::p.1) with
  | none=>rfl
  | some ps=>show (chgM m).map _=none;rw [chgM_none (i:=i) (by simpa using hi) (by simpa using h)];rfl
theorem chgM_some:∀ {m:List (Tx × JV)} {l:List Chg},l.length=m.length→(∀ i (h1:i<m.length) (h2:i<l.length),Pt.parts (47::m[i].1)=some l[i].1∧l[i].2=m[i].2)→chgM m=some l
 | [],[],_,_=>rfl
 | [],_::_,h,_=>by simp at h
 | _::_,[],h,_=>by simp at h
 | p::m,c::l,h,hi=>by
  have h0:=hi 0 (by simp) (by simp)
  simp only [List.getElem_cons_zero] at h0
  unfold chgM
  rw [h0.1]
  show (chgM m).map _=_
  rw [chgM_some (m:=m) (l:=l) (by simpa using h) (fun i h1 h2=>by have:=hi (i+1) (by simpa using h1) (by simpa using h2);simpa using this)]
  show some ((c.1,p.2)::l)=_
  rw [← h0.2]
end Pc
/- Chapter 09: slices of changes that a call made itself. -/

def hcs (xs:List (Value × Value)):List Value:=xs.flatMap fun p=>p.1::p.2.cells.toList
def Six (p:Value × Value):Prop:=p.1.oneCell'=true∧Five p.2
theorem hcs_len {xs:List (Value × Value)} (h:∀ p∈xs,Six p):(hcs xs).length=xs.length*6:=by
 induction xs with
 | nil=>rfl
 | cons p xs ih=>
  have:=five_cells (h p (by simp)).2
  have ih:=ih (fun q hq=>h q (by simp [hq]))
  simp only [hcs,List.flatMap_cons,List.length_append,List.length_cons] at ih ⊢
  rw [ih,this];omega
theorem hcs_at {xs:List (Value × Value)} (h:∀ p∈xs,Six p) {i:Nat} (hi:i<xs.length) {j:Nat} (hj:j<6):(hcs xs)[i*6+j]? = (xs[i].1::xs[i].2.cells.toList)[j]?:=by
 induction xs generalizing i with
 | nil=>simp at hi
 | cons p xs ih=>
  have h5:=five_cells (h p (by simp)).2
  have e:hcs (p::xs)=(p.1::p.2.cells.toList)++hcs xs:=by simp [hcs]
  have hl:(p.1::p.2.cells.toList).length=6:=by simp only [List.length_cons];omega
  rw [e]
  cases i with
  | zero=>rw [Nat.zero_mul,Nat.zero_add,List.getElem?_append_left (by omega)];rfl
  | succ i=>
   rw [List.getElem?_append_right (by omega),hl,show (i+1)*6+j - 6=i*6+j by omega]
   exact ih (fun q hq=>h q (by simp [hq])) (by simpa using hi)
theorem hcs_app (a b:List (Value × Value)):hcs (a++b)=hcs a++hcs b:=by simp [hcs]
theorem hcs_one {xs:List (Value × Value)} (h:∀ p∈xs,Six p):∀ u∈hcs xs,u.oneCell'=true:=by
 intro u hu
 simp only [hcs,List.mem_flatMap,List.mem_cons] at hu
 obtain ⟨p,hp,rfl | hu⟩:=hu
 ·exact (h p hp).1
 ·obtain ⟨a,b,c,d,e,he,h1,h2,h3,h4,h5⟩:=(h p hp).2
  rw [he] at hu
  have:u=a∨u=b∨u=c∨u=d∨u=e:=by simpa [Value.cells] using hu
  rcases this with rfl | rfl | rfl | rfl | rfl <;> assumption
theorem ch_info:(Tryz.prog.info? 57).map (fun i=>(i.zero,i.size,i.bytes))=some (some (.agg #[.slice none 0 0,.int .i64 0,.int .i64 0,.string ⟨#[]⟩,.slice none 0 0,.slice none 0 0]),6,104):=by kernel_rfl
def Hbs (w:World) (base:Nat) (v:Value) (xs:List (Value × Value)):Prop:=w.ownsRow base 57 6 v xs.length (hcs xs) ∧ ∀ p∈xs,Six p
theorem Hbs.none_ (w:World) (base:Nat):Hbs w base (.slice none 0 0) []:=⟨World.ownsRow_nil w base _ 6,by simp⟩
theorem Hbs.own {w:World} {base:Nat} {v:Value} {xs:List (Value × Value)} (h:Hbs w base v xs) {k:Nat} (hk:v.ownBlock=some k):base≤k∧k<w.heap.size:=World.ownsRow.lt h.1 k hk
theorem Hbs.keep {w w':World} {base:Nat} {v:Value} {xs:List (Value × Value)} (h:Hbs w base v xs) (hf:Fr w w'):Hbs w' base v xs:=by
 refine ⟨?_,h.2⟩
 refine ⟨h.1.1,?_⟩
 rcases h.1.2 with hn | ⟨g,cap,cur,rfl,hb,hg,rest⟩
 ·exact .inl hn
 ·exact .inr ⟨g,cap,cur,rfl,hb,(Below.block hf g (Array.getElem?_eq_some_iff.1 hg).1).trans hg,rest⟩
theorem Hbs.form {w:World} {base:Nat} {v:Value} {xs:List (Value × Value)} (h:Hbs w base v xs):(v=.slice none 0 0∧xs=[]) ∨ ∃ g cap,v=.slice (some ⟨g,0,none⟩) xs.length cap∧base≤g∧g<w.heap.size ∧ ∀ j u,(hcs xs)[j]? = some u→w.cell? ⟨g,j,none⟩=some u:=by
 rcases h.1.2 with ⟨hv,hn⟩ | ⟨g,cap,cur,rfl,hb,hg,hc,hm,hs,ht⟩
 ·exact .inl ⟨hv,List.eq_nil_of_length_eq_zero hn⟩
 ·refine .inr ⟨g,cap,rfl,hb,(Array.getElem?_eq_some_iff.1 hg).1,fun j u hu=>?_⟩
  rw [cell_of_row w g j cur _ (0,0) hg]
  rw [← ht,List.getElem?_take] at hu
  split at hu
  ·simpa using hu
  ·cases hu
def PsS (w:World) (S:Nat→Prop) (A:Option Addr) (l:List (List UInt8)):Prop:=l≠[] → ∃ b o,A=some ⟨b,o,none⟩∧S b ∧ ∀ i (h:i<l.length),w.cell? ⟨b,o+i,none⟩=some (.string ⟨l[i].toArray⟩)
theorem PsS.map {w w':World} {S S':Nat→Prop} {A:Option Addr} {l:List (List UInt8)} (h:PsS w S A l) (hS:∀ b,S b→S' b) (hw:∀ b o,S b→w'.cell? ⟨b,o,none⟩=w.cell? ⟨b,o,none⟩):PsS w' S' A l:=fun hne=>by
 obtain ⟨b,o,hA,hb,hc⟩:=h hne
 exact ⟨b,o,hA,hS b hb,fun i hi=>(hw b _ hb).trans (hc i hi)⟩
theorem PsS.toC {w:World} {S:Nat→Prop} {A:Option Addr} {l:List (List UInt8)} (h:PsS w S A l) (hS:∀ b,S b→b<w.heap.size):PsC w A l:=fun hne=>by
 obtain ⟨b,o,hA,hb,hc⟩:=h hne
 exact ⟨b,o,hA,hS b hb,hc⟩
def ChT (w:World) (S:Nat→Prop) (K:Nat) (v:Value) (m:List Pc.Chg):Prop:=((∀ b,S b→b<w.heap.size∧v.ownBlock≠some b)∧K≤w.heap.size) ∧ ∃ xs:List (Value × Value),Hbs w K v xs∧xs.length=m.length ∧ ∀ i (h1:i<xs.length) (h2:i<m.length),(∃ A c,xs[i].1=.slice A m[i].1.length c∧(m[i].1.length≤c∧c≤9223372036854775807)∧PsS w S A m[i].1)∧InV w S m[i].2 xs[i].2
theorem ChT.none_ (w:World) {S:Nat→Prop} {K:Nat} (h:(∀ b,S b→b<w.heap.size)∧K≤w.heap.size):ChT w S K (.slice none 0 0) []:=⟨⟨fun b hb=>⟨h.1 b hb,fun e=>by cases e⟩,h.2⟩,[],Hbs.none_ w K,rfl,fun i h=>absurd h (by simp)⟩
theorem ChT.keep {w w':World} {S:Nat→Prop} {K:Nat} {v:Value} {l:List Pc.Chg} (h:ChT w S K v l) (hf:Fr w w'):ChT w' S K v l:=by
 obtain ⟨h0,xs,h1,h2,h3⟩:=h
 refine ⟨⟨fun b hb=>⟨Nat.lt_of_lt_of_le (h0.1 b hb).1 hf.size,(h0.1 b hb).2⟩,Nat.le_trans h0.2 hf.size⟩,xs,h1.keep hf,h2,fun i a b=>?_⟩
 obtain ⟨⟨A,c,e,hcc,hp⟩,hv⟩:=h3 i a b
 exact ⟨⟨A,c,e,hcc,hp.map (fun _ h=>h) (fun b o hb=>hf.cell (h0.1 b hb).1)⟩,hv.map (fun _ h=>h) (fun b o hb=>hf.cell (h0.1 b hb).1)⟩
theorem ChT.more {w:World} {S S':Nat→Prop} {K:Nat} {v:Value} {l:List Pc.Chg} (h:ChT w S K v l) (hS:∀ b,S b→S' b) (hK:∀ b,S' b→b<w.heap.size∧v.ownBlock≠some b):ChT w S' K v l:=by
 obtain ⟨h0,xs,h1,h2,h3⟩:=h
 refine ⟨⟨hK,h0.2⟩,xs,h1,h2,fun i a b=>?_⟩
 obtain ⟨⟨A,c,e,hcc,hp⟩,hv⟩:=h3 i a b
 exact ⟨⟨A,c,e,hcc,hp.map hS (fun _ _ _=>rfl)⟩,hv.more hS⟩
theorem ChT.own_lt {w:World} {S:Nat→Prop} {K:Nat} {v:Value} {l:List Pc.Chg} (h:ChT w S K v l) {k:Nat} (hk:v.ownBlock=some k):K≤k∧k<w.heap.size:=by
 obtain ⟨_,xs,h1,_⟩:=h;exact h1.own hk
theorem ChT.is_slice {w:World} {S:Nat→Prop} {K:Nat} {v:Value} {l:List Pc.Chg} (h:ChT w S K v l):∃ a c,v=.slice a l.length c:=by
 obtain ⟨_,xs,h1,h2,_⟩:=h
 rcases h1.form with ⟨rfl,rfl⟩ | ⟨g,cap,rfl,_⟩
 ·exact ⟨none,0,by rw [← h2];rfl⟩
 ·exact ⟨_,_,by rw [h2]⟩
def ChC (w:World) (A:Option Addr) (m:List Pc.Chg):Prop:=∀ i (h:i<m.length),∃ b o P c B d B' d',A=some ⟨b,o,none⟩∧b<w.heap.size∧w.cell? ⟨b,o+i*6,none⟩=some (.slice P m[i].1.length c)∧(m[i].1.length≤c∧c≤9223372036854775807)∧PsC w P m[i].1∧VC w b (o+i*6+1) m[i].2 B d B' d'∧InV w (Lo w.heap.size) m[i].2 (vA m[i].2 B d B' d')
theorem ChC.keep {w w':World} {A:Option Addr} {m:List Pc.Chg} (h:ChC w A m) (hf:Fr w w'):ChC w' A m:=fun i hi=>by
 obtain ⟨b,o,P,c,B,d,B',d',hA,hb,h0,hcc,hp,hv,hin⟩:=h i hi
 exact ⟨b,o,P,c,B,d,B',d',hA,Nat.lt_of_lt_of_le hb hf.size,(hf.cell hb).trans h0,hcc,hp.keep hf,hv.keep (fun j=>hf.cell hb),(hin.keep (Nat.le_refl _) hf).lo hf.size⟩
theorem wpl_ch_lit {ops:Array Oper} {rest:List Oper} {o:Oper} {a:Act} {w:World} {Q:Exit→Act→World→Prop} {cs:Array Value} {ad:Addr}
  (hgd:o.guard=none) (s x:Operand) (ho:o.op=.call { callee:=.builtin .append,args:=#[s,x],argTypes:=#[52,52] })
  (S:Nat→Prop) (K:Nat) (v:Value) (l:List Pc.Chg) (hs:a.eval s=v) (hown:ChT w S K v l) (ps:List (List UInt8)) (A:Option Addr) (pc:Nat) (u:JV) (C:Option Addr) (f:Nat) (C':Option Addr) (f':Nat) (hcv:cs=#[.slice A ps.length pc,.int .i64 u.kd,.int .i64 u.nm,.string ⟨u.tx.toArray⟩,.slice C u.ls.length f,.slice C' u.ms.length f']) (hpc:ps.length≤pc∧pc≤9223372036854775807) (hp:PsS w S A ps) (hu:InV w S u (vA u C f C' f')) (hx:a.eval x=.slice (some ad) 1 1) (had:ad=⟨w.heap.size,0,none⟩) (h63:(l.length+1)*104≤140737488355328)
  (h:∀ v' w',ChT w' S K v' (l++[(ps,u)])→(w.alloc (.cells cs 57)).grownBy w' v.ownBlock→(v'.ownBlock=v.ownBlock∨v'.ownBlock=some (w.heap.size+1))→wpList Tryz.prog ops Q rest (a.put o.dst v') w'):
  wpList Tryz.prog ops Q (o::rest) a (w.alloc (.cells cs 57)):=by
 subst had
 have hal:=(Fr.refl w).alloc (.cells cs 57)
 have hb:=Blk.made w cs 57
 refine wpList_plain hgd fun K2 hK=>?_
 obtain ⟨h0,xs,hvb,hlen,hin⟩:=hown.keep hal
 obtain ⟨i,hi,hz,hsz,hby⟩:=info_parts ch_info
 have h5:∀ p∈[(Value.slice A ps.length pc,vA u C f C' f')],Six p:=fun p hp=>by simp at hp;subst hp;exact ⟨rfl,five_vA _ _ _ _ _⟩
 obtain ⟨v',w',hr,h3,h4,_,h6⟩:=run_append_own_at (P:=Tryz.prog) (w.alloc (.cells cs 57)) K 52 o.type 57 i _ 6 104 Tryz.underlying52 hi hz hsz hby rfl (by omega) v _ (hcs xs) hvb.1 ⟨w.heap.size,0,none⟩ 1 1 (hcs [(Value.slice A ps.length pc,vA u C f C' f')]) (by rw [hcs_len h5];rfl) (fun j y hy=>by
   have e:hcs [(Value.slice A ps.length pc,vA u C f C' f')]=cs.toList:=by subst hcv;simp [hcs,vA,Value.cells]
   rw [e] at hy
   have hj:(Addr.mk w.heap.size 0 none).add j=⟨w.heap.size,j,none⟩:=by
    by_cases h0:j=0
    ·subst h0;simp [Addr.add]
    ·simp [Addr.add,h0]
   rw [hj,hb.cell j]
   simpa using hy) (hcs_one h5) (by unfold maxLen;omega) (by omega) h0.2
 have hC:∀ b o,S b→w'.cell? ⟨b,o,none⟩=(w.alloc (.cells cs 57)).cell? ⟨b,o,none⟩:=fun b o hbz=>by
  have hk:=h0.1 b hbz
  unfold World.cell?
  rw [h4.block b hk.1 (fun e=>hk.2 e.symm)]
 have hCw:∀ b o,S b→(w.alloc (.cells cs 57)).cell? ⟨b,o,none⟩=w.cell? ⟨b,o,none⟩:=fun b o hbz=>hal.cell (hown.1.1 b hbz).1
 unfold Oper.wp execOp
 simp only [ho,resolve,invoke,builtin,Sem.run_bind,Sem.run_pure,Result.andThen_ok,List.map_toArray,List.map_cons,List.map_nil,hs,hx,hr]
 refine hK _ _ (h v' w' ⟨⟨fun b hb=>⟨Nat.lt_of_lt_of_le (h0.1 b hb).1 h4.size,fun e=>?_⟩,Nat.le_trans h0.2 h4.size⟩,xs++[(Value.slice A ps.length pc,vA u C f C' f')],⟨?_,?_⟩,by simp [hlen],fun i a b=>?_⟩ h4 (by simpa using h6))
 ·rcases h6 with h6 | h6
  ·exact (h0.1 b hb).2 (h6.symm.trans e)
  ·exact absurd (Option.some.inj (h6.symm.trans e)) (Nat.ne_of_gt (h0.1 b hb).1)
 ·rw [hcs_app,List.length_append];exact h3
 ·intro p hp
  rcases List.mem_append.1 hp with hp | hp
  ·exact hvb.2 p hp
  ·exact h5 p hp
 ·by_cases hil:i<l.length
  ·rw [List.getElem_append_left hil,List.getElem_append_left (by omega)]
   obtain ⟨⟨A2,c2,e1,ec,e2⟩,e3⟩:=hin i (by omega) hil
   exact ⟨⟨A2,c2,e1,ec,e2.map (fun _ h=>h) hC⟩,e3.map (fun _ h=>h) hC⟩
  ·have e:i=l.length:=by simp at b;omega
   subst e
   rw [List.getElem_append_right (by omega),List.getElem_append_right (by omega)]
   simp only [hlen,Nat.sub_self,List.getElem_cons_zero]
   exact ⟨⟨A,pc,rfl,hpc,hp.map (fun _ h=>h) (fun b o hb=>(hC b o hb).trans (hCw b o hb))⟩,hu.map (fun _ h=>h) (fun b o hb=>(hC b o hb).trans (hCw b o hb))⟩
/- Chapter 09: begins, leads. -/

theorem Pc.ba_inj {a b:List UInt8} (h:(⟨a.toArray⟩:ByteArray)=⟨b.toArray⟩):a=b:=by
 have:=congrArg (fun x:ByteArray=>x.data.toList) h
 simpa using this
theorem eqs_is (a b:List (List UInt8)) (A B:Option Addr) (c d:Nat) (w:World) (ha:PsC w A a) (hb:PsC w B b) (hl:a.length≤b.length) (h63:b.length≤1048577):
  Calls Tryz.prog 89 #[.slice A a.length c,.slice B a.length d] w fun e w'=>e=.returned (.bool (decide (b.take a.length=a)))∧Fr w w':=by
 by_cases h0:a=[]
 ·subst h0
  refine (Tryz.slices_Equal_string_empty A B c 0 d w (by decide)).mono ?_
  rintro e w' ⟨rfl,rfl⟩
  exact ⟨rfl,Fr.refl _⟩
 ·have hb0:b≠[]:=fun e=>by subst e;exact h0 (List.eq_nil_of_length_eq_zero (by simpa using hl))
  obtain ⟨b1,o1,rfl,_,h1⟩:=ha h0
  obtain ⟨b2,o2,rfl,_,h2⟩:=hb hb0
  have hg:∀ (l:List (List UInt8)) j,j<l.length→(l.map fun t=>(⟨t.toArray⟩:ByteArray)).getD j ByteArray.empty=⟨(l.getD j []).toArray⟩:=fun l j hj=>by
   rw [List.getD_eq_getElem?_getD,List.getD_eq_getElem?_getD,List.getElem?_map,List.getElem?_eq_getElem hj];rfl
  refine (Tryz.slices_Equal_string b1 o1 a.length c b2 o2 a.length d (a.map fun t=>⟨t.toArray⟩) (b.map fun t=>⟨t.toArray⟩) w (by simp) (by simpa using hl) (by omega) (by omega) (fun j hj=>?_) (fun j hj=>?_)).mono ?_
  ·have hj:j<a.length:=by simpa using hj
   rw [hg a j hj,h1 j hj,List.getD_eq_getElem?_getD,List.getElem?_eq_getElem hj];rfl
  ·have hj:j<b.length:=by simpa using hj
   rw [hg b j hj,h2 j hj,List.getD_eq_getElem?_getD,List.getElem?_eq_getElem hj];rfl
  ·rintro e w' ⟨rfl,q,rfl⟩
   refine ⟨?_,(Fr.refl w).drewN q⟩
   congr 2
   rw [← List.map_take,← List.map_take,List.take_length,Bool.eq_iff_iff,decide_eq_true_iff,decide_eq_true_iff]
   constructor
   ·intro h
    have hi:∀ (l m:List (List UInt8)),l.map (fun t=>(⟨t.toArray⟩:ByteArray))=m.map (fun t=>⟨t.toArray⟩)→l=m:=by
     intro l
     induction l with
     | nil=>intro m h;cases m with
      | nil=>rfl
      | cons=>simp at h
     | cons x l ih=>intro m h;cases m with
      | nil=>simp at h
      | cons y m=>simp only [List.map_cons,List.cons.injEq] at h;rw [Pc.ba_inj h.1,ih m h.2]
    exact (hi _ _ h).symm
   ·intro h;rw [h]
theorem begins_is (a b:List (List UInt8)) (A B:Option Addr) (c d:Nat) (w:World) (ha:PsC w A a) (hb:PsC w B b) (hd:b.length≤d∧d≤9223372036854775807) (ha63:a.length≤1048577) (h63:b.length≤1048577):
  Calls Tryz.prog 68 #[.slice A a.length c,.slice B b.length d] w fun e w'=>e=.returned (.bool (Pc.begins a b))∧Fr w w':=by
 by_cases hl:a.length≤b.length
 ·obtain ⟨eb,heb⟩:∃ x,decide (b.take a.length=a)=x:=⟨_,rfl⟩
  have HE:Hid (Calls Tryz.prog 89 #[.slice A a.length c,.slice B a.length d] w fun e w'=>e=.returned (.bool eb)∧Fr w w'):=Lib.hid (by rw [← heb];exact eqs_is a b A B c d w ha hb hl h63)
  have HB:Hid (Pc.begins a b=eb):=Lib.hid (by unfold Pc.begins;rw [heb,decide_eq_true hl];rfl)
  have hl':(a.length:Int)≤(b.length:Int):=by omega
  have hd1:(a.length:Int)≤(d:Int):=by omega
  have hd2:(d:Int)≤9223372036854775807:=by omega
  have hd3:a.length≤d:=by omega
  clear ha hb heb
  go_enter Tryz.func68,Tryz.ntmps68
  go_wp2_with (go_at_call 89;refine HE.out.mono ?_;rintro e w1 ⟨rfl,hf⟩;have HF:=Lib.hid hf;clear hf)
  go_ret
  exact ⟨by rw [HB.out];rfl,HF.out⟩
 ·have HB:Hid (Pc.begins a b=false):=Lib.hid (by unfold Pc.begins;rw [decide_eq_false hl];rfl)
  have hl':¬ (a.length:Int)≤(b.length:Int):=by omega
  clear ha hb
  go_enter Tryz.func68,Tryz.ntmps68
  go_wp2_with fail
  go_ret
  exact ⟨by rw [HB.out];rfl,Fr.refl w⟩
/- Chapter 09: leads. -/

theorem Pc.leads_no {x:JV} {l:List (List UInt8)} (h:l≠[]) (hk:x.kd≠6):Pc.leads x l=false:=by
 have hb:(x.kd == 6)=false:=(ikind hk).1
 match l,h with
 | [s],_=>exact hb
 | s::t::r,_=>show (x.kd == 6 && _)=false;rw [hb];rfl
theorem Pc.leads_one {x:JV} {l:List (List UInt8)} (h:l.length=1) (hk:x.kd=6):Pc.leads x l=true:=by
 match l,h with
 | [s],_=>show (x.kd == 6)=true;rw [hk];rfl
theorem Pc.leads_get {x:JV} {ps:List (List UInt8)} {i:Nat} (hi:i+1<ps.length) (hk:x.kd=6):Pc.leads x (ps.drop i)=(match Pt.get x ps[i] with | none=>false | some y=>Pc.leads y (ps.drop (i+1))):=by
 rw [List.drop_eq_getElem_cons (by omega:i<ps.length),List.drop_eq_getElem_cons hi]
 show (x.kd == 6 && _)=_
 rw [hk]
 rfl
theorem leads_is (v:JV) (B:Option Addr) (d:Nat) (B':Option Addr) (d':Nat) (ps:List (List UInt8)) (A:Option Addr) (c:Nat) (w:World) (hv:InV w (Lo w.heap.size) v (vA v B d B' d')) (hp:PsC w A ps) (h0:ps≠[]) (hl:ps.length≤1048577):
  Calls Tryz.prog 51 #[.agg #[.int .i64 v.kd,.int .i64 v.nm,.string ⟨v.tx.toArray⟩,.slice B v.ls.length d,.slice B' v.ms.length d'],.slice A ps.length c] w fun e w'=>e=.returned (.bool (Pc.leads v ps))∧Fr w w':=by
 have HV:=Lib.hid hv
 obtain ⟨bP,oP,rfl,hbP,hcP⟩:=hp h0
 have HBP:=Lib.hid hbP
 have HCP:=Lib.hid hcP
 have hl0:0<ps.length:=List.length_pos_iff.2 h0
 have hwr:IntKind.i64.wrap ((ps.length:Int) - 1)=(ps.length:Int) - 1:=by rw [IntKind.wrap_i64];omega
 obtain ⟨r,hr⟩:∃ r,Pc.leads v ps=r:=⟨_,rfl⟩
 have HR:=Lib.hid hr
 rw [hr]
 clear hv hp h0 hbP hcP hr
 go_enter Tryz.func51,Tryz.ntmps51
 go_upto_region 1 with fail
 have hb2:=Blk.made w #[.int .i64 v.kd,.int .i64 v.nm,.string ⟨v.tx.toArray⟩,.slice B v.ls.length d,.slice B' v.ms.length d'] 25
 have hf0:Fr w (w.alloc (.cells #[.int .i64 v.kd,.int .i64 v.nm,.string ⟨v.tx.toArray⟩,.slice B v.ls.length d,.slice B' v.ms.length d'] 25)):=(Fr.refl w).alloc _
 have hv0:InV (w.alloc (.cells #[.int .i64 v.kd,.int .i64 v.nm,.string ⟨v.tx.toArray⟩,.slice B v.ls.length d,.slice B' v.ms.length d'] 25)) (Lo w.heap.size) v (vA v B d B' d'):=HV.out.keep (Nat.le_refl _) hf0
 generalize (w.alloc (.cells #[.int .i64 v.kd,.int .i64 v.nm,.string ⟨v.tx.toArray⟩,.slice B v.ls.length d,.slice B' v.ms.length d'] 25))=W0 at hb2 hf0 hv0 ⊢
 have HX2:Hid (w.heap.size<W0.heap.size):=Lib.hid hb2.lt
 obtain ⟨X2,hX2⟩:∃ X,w.heap.size=X:=⟨_,rfl⟩
 have HXw:=Lib.hid hX2
 rw [hX2] at hb2 ⊢
 clear hX2
 have HB2:=Lib.hid hb2
 have HF0:=Lib.hid hf0
 have HV0:=Lib.hid hv0
 clear hb2 hf0 hv0
 go_wp2_with fail
 go_loopw [11] (fun j wr=>∃ (i:Nat) (x:JV) (C:Option Addr) (f:Nat) (C':Option Addr) (f':Nat),i<ps.length∧j=.int .i64 i∧Hid (FrX X2 W0 wr)∧Hid (Blk wr X2 #[.int .i64 x.kd,.int .i64 x.nm,.string ⟨x.tx.toArray⟩,.slice C x.ls.length f,.slice C' x.ms.length f'] 25)∧Hid (InV wr (Lo w.heap.size) x (vA x C f C' f'))∧Hid (Pc.leads x (ps.drop i)=r)) (fun j _=>ps.length - (intOf j).toNat)
 case atStart=>exact ⟨0,v,B,d,B',d',hl0,rfl,Lib.hid (FrX.refl X2 W0),HB2,HV0,HR⟩
 case round=>
  obtain ⟨i,x,C,f,C',f',hlt,rfl,hX,hB,hI,hL⟩:=hrel
  have hlt':(i:Int)<(ps.length:Int):=by omega
  have hfr:Fr w wr:=Fr.thenY HF0.out (Nat.le_of_eq HXw.out) (by have:=HX2.out;have:=HXw.out;omega) hX.out
  have c0:=(hfr.cell HBP.out).trans (HCP.out i hlt)
  obtain ⟨⟨y0,y1,y2,y3,y4⟩,yf0,yf1,yf2,yf3,yf4⟩:=box5 hB.out
  have HFR:=Lib.hid hfr
  obtain ⟨s,hs⟩:∃ s,ps[i]=s:=⟨_,rfl⟩
  rw [hs] at c0
  have HS:=Lib.hid hs
  clear hfr hs
  by_cases h6:x.kd=6
  ·have q6:(x.kd != 6)=false:=by rw [h6];rfl
   by_cases h1:i+1=ps.length
   ·have he:((i:Int) == (ps.length:Int) - 1)=true:=by rw [beq_iff_eq];omega
    have hrt:Hid (true=r):=Lib.hid (by rw [← hL.out,Pc.leads_one (by rw [List.length_drop];omega) h6])
    clear h6
    go_wp2_with fail
    go_ret
    exact ⟨by rw [← hrt.out];rfl,HFR.out⟩
   ·have he:((i:Int) == (ps.length:Int) - 1)=false:=by rw [beq_eq_false_iff_ne];omega
    have hi1:i+1<ps.length:=by omega
    have hlg:=Pc.leads_get hi1 h6
    rw [hL.out,HS.out] at hlg
    have HGT:Hid (∀ W,Fr wr W→Calls Tryz.prog 52 #[.agg #[.int .i64 x.kd,.int .i64 x.nm,.string ⟨x.tx.toArray⟩,.slice C x.ls.length f,.slice C' x.ms.length f'],.string ⟨s.toArray⟩] W (OpP w.heap.size W (Pt.get x s))):=Lib.hid (fun W hW=>get_is x C f C' f' s W w.heap.size (HFR.out.trans hW).size (hI.out.keep HFR.out.size hW))
    have HLG:=Lib.hid hlg
    clear h6 hlg
    cases hg:Pt.get x s with
    | none=>
     rw [hg] at HGT HLG
     have HLF:Hid (r=false):=HLG
     go_wp2_with (go_at_call 52;refine (HGT.out _ (Fr.refl wr)).mono ?_;rintro e w1 ⟨rfl,hf⟩;have HF1:=Lib.hid (HFR.out.trans hf);clear hf)
     go_ret
     exact ⟨by rw [HLF.out];rfl,HF1.out.alloc _⟩
    | some y=>
     rw [hg] at HGT HLG
     have HLY:Hid (r=Pc.leads y (ps.drop (i+1))):=HLG
     go_upto_region 8 with (go_at_call 52;refine (HGT.out _ (Fr.refl wr)).mono ?_;rintro e w1 ⟨D,g,D',g',rfl,hin,hf⟩;have HI1:=Lib.hid hin;have HF1:=Lib.hid hf;clear hf hin)
     have hb7:=Blk.made w1 #[.int .i64 y.kd,.int .i64 y.nm,.string ⟨y.tx.toArray⟩,.slice D y.ls.length g,.slice D' y.ms.length g'] 25
     have hf7:Fr wr (w1.alloc (.cells #[.int .i64 y.kd,.int .i64 y.nm,.string ⟨y.tx.toArray⟩,.slice D y.ls.length g,.slice D' y.ms.length g'] 25)):=HF1.out.alloc _
     have hx7:X2≠w1.heap.size:=by have:=HX2.out;have:=HXw.out;have:=hX.out.size;have:=HF1.out.size;omega
     have hi7:InV (w1.alloc (.cells #[.int .i64 y.kd,.int .i64 y.nm,.string ⟨y.tx.toArray⟩,.slice D y.ls.length g,.slice D' y.ms.length g'] 25)) (Lo w.heap.size) y (vA y D g D' g'):=HI1.out.keep (HFR.out.trans HF1.out).size ((Fr.refl w1).alloc _)
     generalize (w1.alloc (.cells #[.int .i64 y.kd,.int .i64 y.nm,.string ⟨y.tx.toArray⟩,.slice D y.ls.length g,.slice D' y.ms.length g'] 25))=W7 at hb7 hf7 hi7 ⊢
     generalize w1.heap.size=X7 at hb7 hx7 ⊢
     obtain ⟨⟨z0,z1,z2,z3,z4⟩,_⟩:=box5 hb7
     have hb27:=hB.out.keep hf7
     obtain ⟨⟨x0,x1,x2,x3,x4⟩,xf0,xf1,xf2,xf3,xf4⟩:=box5 hb27
     have HB27:=Lib.hid hb27
     have HI7:=Lib.hid hi7
     have HFX:=Lib.hid (hX.out.fr hf7)
     clear hb7 hf7 hi7 hb27 y0 y1 y2 y3 y4 yf0 yf1 yf2 yf3 yf4
     have nX:=hx7
     have nX2:¬ X7=X2:=fun e=>hx7 e.symm
     go_wp2_with fail
     exact ⟨⟨i+1,y,D,g,D',g',hi1,by go_num,Lib.hid (HFX.out.trans (st5_frx W7 X2 _ _ _ _ _)),Lib.hid (set5 HB27.out),Lib.hid (HI7.out.map (fun _ h=>h) (fun b o hb=>(st5_frx W7 X2 _ _ _ _ _).cell (by have:b<w.heap.size:=hb;have:=HB27.out.lt;have:=HXw.out;omega) (by have:b<w.heap.size:=hb;have:=HXw.out;omega))),Lib.hid HLY.out.symm⟩,by simp [intOf];omega⟩
  ·have q6:(x.kd != 6)=true:=(ikind h6).2
   have hrf:Hid (false=r):=Lib.hid (by rw [← hL.out,Pc.leads_no (by intro e;rw [List.drop_eq_nil_iff] at e;omega) h6])
   clear h6
   go_wp2_with fail
   go_ret
   exact ⟨by rw [← hrf.out];rfl,HFR.out⟩
/- Chapter 09: apart, fits. -/

theorem Pc.apart_of {l:List Pc.Chg} (h:∀ i (h1:i<l.length) k (h2:k<l.length),i≠k→Pc.begins l[i].1 l[k].1=false):Pc.apart l=true:=by
 unfold Pc.apart
 rw [List.all_eq_true]
 intro i hi
 rw [List.all_eq_true]
 intro k hk
 have hi:=List.mem_range.1 hi
 have hk:=List.mem_range.1 hk
 by_cases e:i=k
 ·subst e;simp
 ·have:=h i hi k hk e
  rw [List.getD_eq_getElem?_getD,List.getD_eq_getElem?_getD,List.getElem?_eq_getElem hi,List.getElem?_eq_getElem hk]
  simp [this]
theorem Pc.apart_not {l:List Pc.Chg} {i k:Nat} (h1:i<l.length) (h2:k<l.length) (hne:i≠k) (h:Pc.begins l[i].1 l[k].1=true):Pc.apart l=false:=by
 cases ha:Pc.apart l with
 | false=>rfl
 | true=>
  unfold Pc.apart at ha
  rw [List.all_eq_true] at ha
  have h3:=ha i (List.mem_range.2 h1)
  rw [List.all_eq_true] at h3
  have h4:=h3 k (List.mem_range.2 h2)
  rw [List.getD_eq_getElem?_getD,List.getD_eq_getElem?_getD,List.getElem?_eq_getElem h1,List.getElem?_eq_getElem h2] at h4
  simp [h,hne] at h4
theorem apart_is (l:List Pc.Chg) (A:Option Addr) (c:Nat) (w:World) (h:ChC w A l) (hl:l.length≤1048576) (hp:∀ x∈l,x.1.length≤1048577):
  Calls Tryz.prog 50 #[.slice A l.length c] w fun e w'=>e=.returned (.bool (Pc.apart l))∧Fr w w':=by
 have H:=Lib.hid h
 have HP:=Lib.hid hp
 have hl':(l.length:Int)≤1048576:=by omega
 obtain ⟨r,hr⟩:∃ r,Pc.apart l=r:=⟨_,rfl⟩
 have HR:=Lib.hid hr
 rw [hr]
 clear h hp hr
 go_enter Tryz.func50,Tryz.ntmps50
 go_wp2_with fail
 go_loopw [7] (fun j wr=>∃ (i:Nat),i≤l.length∧j=.int .i64 i∧Hid (∀ a (h1:a<l.length) b (h2:b<l.length),a<i→a≠b→Pc.begins l[a].1 l[b].1=false)∧Hid (Fr w wr)) (fun j _=>l.length - (intOf j).toNat)
 case atStart=>exact ⟨0,by omega,rfl,Lib.hid (fun a _ b _ h=>absurd h (by omega)),Lib.hid (Fr.refl w)⟩
 case round=>
  obtain ⟨i,hi,rfl,hO,hF⟩:=hrel
  by_cases hlt:i<l.length
  ·have hlt':(i:Int)<(l.length:Int):=by omega
   obtain ⟨Wr,hWr⟩:∃ W,W=wr:=⟨wr,rfl⟩
   subst hWr
   go_wp2_with fail
   go_loopw [12] (fun j wr=>∃ (k:Nat),k≤l.length∧j=.int .i64 k∧Hid (∀ b (h2:b<l.length),b<k→i≠b→Pc.begins l[i].1 l[b].1=false)∧Hid (Fr Wr wr)) (fun j _=>l.length - (intOf j).toNat)
   case atStart=>exact ⟨0,by omega,rfl,Lib.hid (fun b _ h=>absurd h (by omega)),Lib.hid (Fr.refl Wr)⟩
   case round=>
    obtain ⟨k,hk,rfl,hO2,hF2⟩:=hrel
    by_cases hlt2:k<l.length
    ·have hlt2':(k:Int)<(l.length:Int):=by omega
     by_cases hik:i=k
     ·have hne:((i:Int) != (k:Int))=false:=by rw [hik];simp
      go_upto_region 7 with fail
      refine wp_region_held_drew (S:=(fun W=>True)) (by kernel_rfl) ?_ (fun hHeld=>?_)
      ·exact trivial
      refine tk (i:=0) (v:=?_) rfl ⟨by rfl,?_⟩ hHeld ?_
      rotate_left
      ·(intro w' hSw;(try dsimp only at hSw);go_simp;try with_reducible rfl)
      try simp only [Act.put,fl]
      refine tk (i:=1) (v:=?_) rfl ⟨by rfl,?_⟩ hHeld ?_
      rotate_left
      ·(intro w' hSw;(try dsimp only at hSw);go_simp;try with_reducible rfl)
      try simp only [Act.put,fl]
      refine tk (i:=2) (v:=?_) rfl ⟨by rfl,?_⟩ hHeld ?_
      rotate_left
      ·(intro w' hSw;(try dsimp only at hSw);go_simp;try with_reducible rfl)
      try simp only [Act.put,fl]
      refine tk (i:=3) (v:=?_) rfl ⟨by rfl,?_⟩ hHeld ?_
      rotate_left
      ·(intro w' hSw;(try dsimp only at hSw);go_simp;try with_reducible rfl)
      try simp only [Act.put,fl]
      refine wpAnyH_take (i:=4) (v:=undef) rfl (by kernel_rfl) (by kernel_rfl) (by kernel_rfl) (fun _ _ _ h=>h) (Or.inr ⟨by rfl,rfl⟩) hHeld ?_
      try simp only [Act.put,fl]
      refine wpAnyH_take (i:=5) (v:=undef) rfl (by kernel_rfl) (by kernel_rfl) (by kernel_rfl) (fun _ _ _ h=>h) (Or.inr ⟨by rfl,rfl⟩) hHeld ?_
      try simp only [Act.put,fl]
      refine wpAnyH_take (i:=6) (v:=undef) rfl (by kernel_rfl) (by kernel_rfl) (by kernel_rfl) (fun _ _ _ h=>h) (Or.inr ⟨by rfl,rfl⟩) hHeld ?_
      try simp only [Act.put,fl]
      refine wpAnyH_take (i:=7) (v:=undef) rfl (by kernel_rfl) (by kernel_rfl) (by kernel_rfl) (fun _ _ _ h=>h) (Or.inr ⟨by rfl,rfl⟩) hHeld ?_
      try simp only [Act.put,fl]
      refine wpAnyH_take (i:=8) (v:=undef) rfl (by kernel_rfl) (by kernel_rfl) (by kernel_rfl) (fun _ _ _ h=>h) (Or.inr ⟨by rfl,rfl⟩) hHeld ?_
      try simp only [Act.put,fl]
      refine wpAnyH_take (i:=9) (v:=undef) rfl (by kernel_rfl) (by kernel_rfl) (by kernel_rfl) (fun _ _ _ h=>h) (Or.inr ⟨by rfl,rfl⟩) hHeld ?_
      try simp only [Act.put,fl]
      refine wpAnyH_take (i:=10) (v:=undef) rfl (by kernel_rfl) (by kernel_rfl) (by kernel_rfl) (fun _ _ _ h=>h) (Or.inr ⟨by rfl,rfl⟩) hHeld ?_
      try simp only [Act.put,fl]
      refine wpAnyH_take (i:=11) (v:=undef) rfl (by kernel_rfl) (by kernel_rfl) (by kernel_rfl) (fun _ _ _ h=>h) (Or.inr ⟨by rfl,rfl⟩) hHeld ?_
      try simp only [Act.put,fl]
      refine wpAnyH_take (i:=12) (v:=undef) rfl (by kernel_rfl) (by kernel_rfl) (by kernel_rfl) (fun _ _ _ h=>h) (Or.inr ⟨by rfl,rfl⟩) hHeld ?_
      try simp only [Act.put,fl]
      refine wpAnyH_take (i:=13) (v:=undef) rfl (by kernel_rfl) (by kernel_rfl) (by kernel_rfl) (fun _ _ _ h=>h) (Or.inr ⟨by rfl,rfl⟩) hHeld ?_
      try simp only [Act.put,fl]
      refine wpAnyH_take (i:=14) (v:=undef) rfl (by kernel_rfl) (by kernel_rfl) (by kernel_rfl) (fun _ _ _ h=>h) (Or.inr ⟨by rfl,rfl⟩) hHeld ?_
      try simp only [Act.put,fl]
      refine tk (i:=15) (v:=?_) rfl ⟨by rfl,?_⟩ hHeld ?_
      rotate_left
      ·(intro w' hSw;(try dsimp only at hSw);go_simp;try with_reducible rfl)
      try simp only [Act.put,fl]
      refine wpAnyH_done (by kernel_rfl) ?_ _
      clear hHeld
      go_wp2_with fail
      exact ⟨⟨k+1,by omega,by go_num,Lib.hid (fun b hb hbk hib=>hO2.out b hb (by omega) hib),Lib.hid (hF2.out.drew)⟩,by simp [intOf];omega⟩
     ·have hne:((i:Int) != (k:Int))=true:=by rw [bne_iff_ne];omega
      obtain ⟨b1,o1,P,c1,_,_,_,_,rfl,hb,m0,hcc1,hp1,_,_⟩:=(H.out.keep (hF.out.trans hF2.out)) i hlt
      obtain ⟨b2,o2,Q,c2,_,_,_,_,hbo,_,m1,hcc2,hp2,_,_⟩:=(H.out.keep (hF.out.trans hF2.out)) k hlt2
      have hbo2:b1=b2∧o1=o2:=by injection hbo with hbo;injection hbo with h1 h2 _;exact ⟨h1,h2⟩
      obtain ⟨rfl,rfl⟩:=hbo2
      have hz1:=HP.out _ (List.getElem_mem hlt)
      have hz2:=HP.out _ (List.getElem_mem hlt2)
      obtain ⟨cb,hcb⟩:∃ cb,Pc.begins l[i].1 l[k].1=cb:=⟨_,rfl⟩
      have HCB:=Lib.hid hcb
      obtain ⟨p1,hp1e⟩:∃ p1,l[i].1=p1:=⟨_,rfl⟩
      obtain ⟨p2,hp2e⟩:∃ p2,l[k].1=p2:=⟨_,rfl⟩
      rw [hp1e] at m0 hp1 hcc1 hz1 hcb
      rw [hp2e] at m1 hp2 hcc2 hz2 hcb
      have HBG:Hid (∀ W,Fr wr W→Calls Tryz.prog 68 #[.slice P p1.length c1,.slice Q p2.length c2] W fun e w'=>e=.returned (.bool cb)∧Fr W w'):=Lib.hid (fun W hW=>by rw [← hcb];exact begins_is p1 p2 P Q c1 c2 W (hp1.keep hW) (hp2.keep hW) hcc2 hz1 hz2)
      have HSW:Hid (∀ W,Fr wr W→W.cell? ⟨b1,o1+i*6,none⟩=some (.slice P p1.length c1)∧W.cell? ⟨b1,o1+k*6,none⟩=some (.slice Q p2.length c2)):=Lib.hid (fun W hW=>⟨(hW.cell hb).trans m0,(hW.cell hb).trans m1⟩)
      have HIK:=Lib.hid hik
      clear hbo hb m0 m1 hcc1 hcc2 hp1 hp2 hz1 hz2 hcb hp1e hp2e hik
      cases cb
      ·go_upto_region 7 with fail
       refine wp_region_held_drew (S:=(fun W=>W.cell? ⟨b1,o1+i*6,none⟩=some (.slice P p1.length c1)∧W.cell? ⟨b1,o1+k*6,none⟩=some (.slice Q p2.length c2))) (by kernel_rfl) ?_ (fun hHeld=>?_)
       ·exact HSW.out _ (Fr.refl _).drew
       refine tk (i:=0) (v:=?_) rfl ⟨by rfl,?_⟩ hHeld ?_
       rotate_left
       ·(intro w' hSw;(try dsimp only at hSw);go_simp;try with_reducible rfl)
       try simp only [Act.put,fl]
       refine tk (i:=1) (v:=?_) rfl ⟨by rfl,?_⟩ hHeld ?_
       rotate_left
       ·(intro w' hSw;(try dsimp only at hSw);go_simp;try with_reducible rfl)
       try simp only [Act.put,fl]
       refine tk (i:=2) (v:=?_) rfl ⟨by rfl,?_⟩ hHeld ?_
       rotate_left
       ·(intro w' hSw;(try dsimp only at hSw);go_simp;try with_reducible rfl)
       try simp only [Act.put,fl]
       refine tk (i:=3) (v:=?_) rfl ⟨by rfl,?_⟩ hHeld ?_
       rotate_left
       ·(intro w' hSw;(try dsimp only at hSw);go_simp;try with_reducible rfl)
       try simp only [Act.put,fl]
       refine tk (i:=4) (v:=?_) rfl ⟨by rfl,?_⟩ hHeld ?_
       rotate_left
       ·(intro w' hSw;(try dsimp only at hSw);go_simp;try with_reducible rfl)
       try simp only [Act.put,fl]
       refine tk (i:=5) (v:=?_) rfl ⟨by rfl,?_⟩ hHeld ?_
       rotate_left
       ·(intro w' hSw;(try dsimp only at hSw);go_simp;try with_reducible rfl)
       try simp only [Act.put,fl]
       refine tk (i:=6) (v:=?_) rfl ⟨by rfl,?_⟩ hHeld ?_
       rotate_left
       ·(intro w' hSw;(try dsimp only at hSw);go_simp;try with_reducible rfl)
       try simp only [Act.put,fl]
       refine tk (i:=7) (v:=?_) rfl ⟨by rfl,?_⟩ hHeld ?_
       rotate_left
       ·(intro w' hSw;(try dsimp only at hSw);go_simp;try with_reducible rfl)
       try simp only [Act.put,fl]
       refine tk (i:=8) (v:=?_) rfl ⟨by rfl,?_⟩ hHeld ?_
       rotate_left
       ·(intro w' hSw;(try dsimp only at hSw);go_simp;try with_reducible rfl)
       try simp only [Act.put,fl]
       refine tk (i:=9) (v:=?_) rfl ⟨by rfl,?_⟩ hHeld ?_
       rotate_left
       ·(intro w' hSw;(try dsimp only at hSw);go_simp;try with_reducible rfl)
       try simp only [Act.put,fl]
       refine tk (i:=10) (v:=?_) rfl ⟨by rfl,?_⟩ hHeld ?_
       rotate_left
       ·(intro w' hSw;(try dsimp only at hSw);go_simp;try with_reducible rfl)
       try simp only [Act.put,fl]
       refine tk (i:=11) (v:=?_) rfl ⟨by rfl,?_⟩ hHeld ?_
       rotate_left
       ·(intro w' hSw;(try dsimp only at hSw);go_simp;try with_reducible rfl)
       try simp only [Act.put,fl]
       refine tk (i:=12) (v:=?_) rfl ⟨by rfl,?_⟩ hHeld ?_
       rotate_left
       ·(intro w' hSw;(try dsimp only at hSw);go_simp;try with_reducible rfl)
       try simp only [Act.put,fl]
       refine tk (i:=13) (v:=?_) rfl ⟨by rfl,?_⟩ hHeld ?_
       rotate_left
       ·(intro w' hSw;(try dsimp only at hSw);go_simp;try with_reducible rfl)
       try simp only [Act.put,fl]
       refine wpAnyH_ready (rs:=[14]) (by kernel_rfl) (by simp) ?_
       refine AllReadyH.cons rfl (fun K hK=>?_) AllReadyH.nil
       go_simp
       (go_at_call 68;refine (HBG.out _ (Fr.refl wr).drew).mono ?_;rintro e w8 ⟨rfl,hf⟩;have HF8:Hid (Fr wr w8):=Lib.hid ((Fr.refl wr).drew.trans hf);clear hf)
       try (refine hK.out _ _ ?_ (fun hHeld2=>?_))
       ·exact HSW.out _ HF8.out
       clear hK K
       try simp only [Act.put,fl]
       refine tk (i:=15) (v:=?_) rfl ⟨by rfl,?_⟩ hHeld2 ?_
       rotate_left
       ·(intro w' hSw;(try dsimp only at hSw);go_simp;try with_reducible rfl)
       try simp only [Act.put,fl]
       refine wpAnyH_done (by kernel_rfl) ?_ _
       clear hHeld hHeld2
       go_wp2_with fail
       exact ⟨⟨k+1,by omega,by go_num,Lib.hid (fun b hb hbk hib=>by
        by_cases e:b=k
        ·subst e;exact HCB.out
        ·exact hO2.out b hb (by omega) hib),Lib.hid (hF2.out.trans HF8.out)⟩,by simp [intOf];omega⟩
      ·have hrf:Hid (r=false):=Lib.hid (by rw [← HR.out];exact Pc.apart_not hlt hlt2 HIK.out HCB.out)
       go_upto_region 7 with fail
       refine wp_region_held_drew (S:=(fun W=>W.cell? ⟨b1,o1+i*6,none⟩=some (.slice P p1.length c1)∧W.cell? ⟨b1,o1+k*6,none⟩=some (.slice Q p2.length c2))) (by kernel_rfl) ?_ (fun hHeld=>?_)
       ·exact HSW.out _ (Fr.refl _).drew
       refine tk (i:=0) (v:=?_) rfl ⟨by rfl,?_⟩ hHeld ?_
       rotate_left
       ·(intro w' hSw;(try dsimp only at hSw);go_simp;try with_reducible rfl)
       try simp only [Act.put,fl]
       refine tk (i:=1) (v:=?_) rfl ⟨by rfl,?_⟩ hHeld ?_
       rotate_left
       ·(intro w' hSw;(try dsimp only at hSw);go_simp;try with_reducible rfl)
       try simp only [Act.put,fl]
       refine tk (i:=2) (v:=?_) rfl ⟨by rfl,?_⟩ hHeld ?_
       rotate_left
       ·(intro w' hSw;(try dsimp only at hSw);go_simp;try with_reducible rfl)
       try simp only [Act.put,fl]
       refine tk (i:=3) (v:=?_) rfl ⟨by rfl,?_⟩ hHeld ?_
       rotate_left
       ·(intro w' hSw;(try dsimp only at hSw);go_simp;try with_reducible rfl)
       try simp only [Act.put,fl]
       refine tk (i:=4) (v:=?_) rfl ⟨by rfl,?_⟩ hHeld ?_
       rotate_left
       ·(intro w' hSw;(try dsimp only at hSw);go_simp;try with_reducible rfl)
       try simp only [Act.put,fl]
       refine tk (i:=5) (v:=?_) rfl ⟨by rfl,?_⟩ hHeld ?_
       rotate_left
       ·(intro w' hSw;(try dsimp only at hSw);go_simp;try with_reducible rfl)
       try simp only [Act.put,fl]
       refine tk (i:=6) (v:=?_) rfl ⟨by rfl,?_⟩ hHeld ?_
       rotate_left
       ·(intro w' hSw;(try dsimp only at hSw);go_simp;try with_reducible rfl)
       try simp only [Act.put,fl]
       refine tk (i:=7) (v:=?_) rfl ⟨by rfl,?_⟩ hHeld ?_
       rotate_left
       ·(intro w' hSw;(try dsimp only at hSw);go_simp;try with_reducible rfl)
       try simp only [Act.put,fl]
       refine tk (i:=8) (v:=?_) rfl ⟨by rfl,?_⟩ hHeld ?_
       rotate_left
       ·(intro w' hSw;(try dsimp only at hSw);go_simp;try with_reducible rfl)
       try simp only [Act.put,fl]
       refine tk (i:=9) (v:=?_) rfl ⟨by rfl,?_⟩ hHeld ?_
       rotate_left
       ·(intro w' hSw;(try dsimp only at hSw);go_simp;try with_reducible rfl)
       try simp only [Act.put,fl]
       refine tk (i:=10) (v:=?_) rfl ⟨by rfl,?_⟩ hHeld ?_
       rotate_left
       ·(intro w' hSw;(try dsimp only at hSw);go_simp;try with_reducible rfl)
       try simp only [Act.put,fl]
       refine tk (i:=11) (v:=?_) rfl ⟨by rfl,?_⟩ hHeld ?_
       rotate_left
       ·(intro w' hSw;(try dsimp only at hSw);go_simp;try with_reducible rfl)
       try simp only [Act.put,fl]
       refine tk (i:=12) (v:=?_) rfl ⟨by rfl,?_⟩ hHeld ?_
       rotate_left
       ·(intro w' hSw;(try dsimp only at hSw);go_simp;try with_reducible rfl)
       try simp only [Act.put,fl]
       refine tk (i:=13) (v:=?_) rfl ⟨by rfl,?_⟩ hHeld ?_
       rotate_left
       ·(intro w' hSw;(try dsimp only at hSw);go_simp;try with_reducible rfl)
       try simp only [Act.put,fl]
       refine wpAnyH_ready (rs:=[14]) (by kernel_rfl) (by simp) ?_
       refine AllReadyH.cons rfl (fun K hK=>?_) AllReadyH.nil
       go_simp
       (go_at_call 68;refine (HBG.out _ (Fr.refl wr).drew).mono ?_;rintro e w8 ⟨rfl,hf⟩;have HF8:Hid (Fr wr w8):=Lib.hid ((Fr.refl wr).drew.trans hf);clear hf)
       try (refine hK.out _ _ ?_ (fun hHeld2=>?_))
       ·exact HSW.out _ HF8.out
       clear hK K
       try simp only [Act.put,fl]
       refine tk (i:=15) (v:=?_) rfl ⟨by rfl,?_⟩ hHeld2 ?_
       rotate_left
       ·(intro w' hSw;(try dsimp only at hSw);go_simp;try with_reducible rfl)
       try simp only [Act.put,fl]
       refine wpAnyH_done (by kernel_rfl) ?_ _
       clear hHeld hHeld2
       go_wp2_with fail
       go_ret
       exact ⟨by rw [hrf.out];rfl,(hF.out.trans hF2.out).trans HF8.out⟩
    ·obtain rfl:k=l.length:=by omega
     go_wp2_with fail
     exact ⟨⟨i+1,by omega,by go_num,Lib.hid (fun a ha b hb hai hab=>by
      by_cases e:a=i
      ·subst e;exact hO2.out b hb hb hab
      ·exact hO.out a ha b hb (by omega) hab),Lib.hid (hF.out.trans hF2.out)⟩,by simp [intOf];omega⟩
  ·obtain rfl:i=l.length:=by omega
   have hrt:Hid (r=true):=Lib.hid (by rw [← HR.out];exact Pc.apart_of (fun a ha b hb hab=>hO.out a ha b hb ha hab))
   go_wp2_with fail
   go_ret
   exact ⟨by rw [hrt.out];rfl,hF.out⟩
theorem pfits_is (v:JV) (B:Option Addr) (d:Nat) (B':Option Addr) (d':Nat) (l:List Pc.Chg) (A:Option Addr) (c:Nat) (w:World) (hv:InV w (Lo w.heap.size) v (vA v B d B' d')) (h:ChC w A l) (hl:l.length≤1048576) (hp:∀ x∈l,x.1.length≤1048577∧x.1≠[]):
  Calls Tryz.prog 27 #[.agg #[.int .i64 v.kd,.int .i64 v.nm,.string ⟨v.tx.toArray⟩,.slice B v.ls.length d,.slice B' v.ms.length d'],.slice A l.length c] w fun e w'=>e=.returned (.bool (Pc.fits v l))∧Fr w w':=by
 have H:=Lib.hid h
 have HP:=Lib.hid hp
 have HV:=Lib.hid hv
 have hl':(l.length:Int)≤1048576:=by omega
 obtain ⟨r,hr⟩:∃ r,Pc.fits v l=r:=⟨_,rfl⟩
 obtain ⟨ba,hba⟩:∃ ba,Pc.apart l=ba:=⟨_,rfl⟩
 have HR:Hid ((v.kd == 6 && (ba && l.all fun c=>Pc.leads v c.1))=r):=Lib.hid (by rw [← hr,← hba];rfl)
 have HAP:Hid (∀ W,Fr w W→Calls Tryz.prog 50 #[.slice A l.length c] W fun e w'=>e=.returned (.bool ba)∧Fr W w'):=Lib.hid (fun W hW=>by rw [← hba];exact apart_is l A c W (H.out.keep hW) hl (fun x hx=>(hp x hx).1))
 rw [hr]
 clear hv h hp hr hba
 by_cases h6:v.kd=6
 ·have q6:(v.kd != 6)=false:=by rw [h6];rfl
  have HR2:Hid ((ba && l.all fun c=>Pc.leads v c.1)=r):=Lib.hid (by rw [← HR.out,h6];rfl)
  clear h6
  go_enter Tryz.func27,Tryz.ntmps27
  go_upto_region 1 with fail
  have hb2:=Blk.made w #[.int .i64 v.kd,.int .i64 v.nm,.string ⟨v.tx.toArray⟩,.slice B v.ls.length d,.slice B' v.ms.length d'] 25
  have hf0:Fr w (w.alloc (.cells #[.int .i64 v.kd,.int .i64 v.nm,.string ⟨v.tx.toArray⟩,.slice B v.ls.length d,.slice B' v.ms.length d'] 25)):=(Fr.refl w).alloc _
  generalize (w.alloc (.cells #[.int .i64 v.kd,.int .i64 v.nm,.string ⟨v.tx.toArray⟩,.slice B v.ls.length d,.slice B' v.ms.length d'] 25))=W0 at hb2 hf0 ⊢
  obtain ⟨X2,hX2⟩:∃ X,w.heap.size=X:=⟨_,rfl⟩
  rw [hX2] at hb2 ⊢
  clear hX2
  obtain ⟨⟨y0,y1,y2,y3,y4⟩,_⟩:=box5 hb2
  have HB2:=Lib.hid hb2
  have HF0:=Lib.hid hf0
  clear hb2 hf0
  cases ba
  ·have hrf:Hid (r=false):=Lib.hid (by rw [← HR2.out];rfl)
   go_wp2_with (go_at_call 50;refine (HAP.out _ HF0.out).mono ?_;rintro e w1 ⟨rfl,hf⟩;have HF1:=Lib.hid (HF0.out.trans hf);clear hf)
   go_ret
   exact ⟨by rw [hrf.out];rfl,HF1.out⟩
  ·have HR3:Hid ((l.all fun c=>Pc.leads v c.1)=r):=HR2
   go_upto_region 4 with (go_at_call 50;refine (HAP.out _ HF0.out).mono ?_;rintro e w1 ⟨rfl,hf⟩;have HF1:=Lib.hid hf;clear hf)
   clear y0 y1 y2 y3 y4
   obtain ⟨W1,hW1⟩:∃ W,W=w1:=⟨w1,rfl⟩
   subst hW1
   go_wp2_with fail
   go_loopw [17] (fun j wr=>∃ (i:Nat),i≤l.length∧j=.int .i64 i∧Hid (∀ a (h1:a<l.length),a<i→Pc.leads v l[a].1=true)∧Hid (Fr W1 wr)) (fun j _=>l.length - (intOf j).toNat)
   case atStart=>exact ⟨0,by omega,rfl,Lib.hid (fun a _ h=>absurd h (by omega)),Lib.hid (Fr.refl _)⟩
   case round=>
    obtain ⟨i,hi,rfl,hO,hF⟩:=hrel
    have HFR:=Lib.hid ((HF0.out.trans HF1.out).trans hF.out)
    by_cases hlt:i<l.length
    ·have hlt':(i:Int)<(l.length:Int):=by omega
     obtain ⟨b1,o1,P,c1,D,g,D',g',rfl,hb,m0,hcc1,hp1,⟨m1,m2,m3,m4,m5⟩,_⟩:=(H.out.keep HFR.out) i hlt
     have hz1:=HP.out _ (List.getElem_mem hlt)
     obtain ⟨cb,hcb⟩:∃ cb,Pc.leads v l[i].1=cb:=⟨_,rfl⟩
     have HCB:=Lib.hid hcb
     obtain ⟨p1,hp1e⟩:∃ p1,l[i].1=p1:=⟨_,rfl⟩
     obtain ⟨u,hue⟩:∃ u,l[i].2=u:=⟨_,rfl⟩
     rw [hp1e] at m0 hp1 hz1 hcb
     rw [hue] at m1 m2 m3 m4 m5
     have HLD:Hid (∀ W,Fr wr W→Calls Tryz.prog 51 #[.agg #[.int .i64 v.kd,.int .i64 v.nm,.string ⟨v.tx.toArray⟩,.slice B v.ls.length d,.slice B' v.ms.length d'],.slice P p1.length c1] W fun e w'=>e=.returned (.bool cb)∧Fr W w'):=Lib.hid (fun W hW=>by rw [← hcb];exact leads_is v B d B' d' p1 P c1 W ((HV.out.keep (Nat.le_refl _) (HFR.out.trans hW)).lo (HFR.out.trans hW).size) (hp1.keep hW) hz1.2 hz1.1)
     clear hb hcc1 hp1 hz1 hcb hp1e hue
     go_upto_region 6 with fail
     have hb6:=Blk.made wr #[.slice P p1.length c1,.int .i64 u.kd,.int .i64 u.nm,.string ⟨u.tx.toArray⟩,.slice D u.ls.length g,.slice D' u.ms.length g'] 57
     have hf6:Fr wr (wr.alloc (.cells #[.slice P p1.length c1,.int .i64 u.kd,.int .i64 u.nm,.string ⟨u.tx.toArray⟩,.slice D u.ls.length g,.slice D' u.ms.length g'] 57)):=(Fr.refl wr).alloc _
     generalize (wr.alloc (.cells #[.slice P p1.length c1,.int .i64 u.kd,.int .i64 u.nm,.string ⟨u.tx.toArray⟩,.slice D u.ls.length g,.slice D' u.ms.length g'] 57))=W6 at hb6 hf6 ⊢
     generalize wr.heap.size=X6 at hb6 ⊢
     obtain ⟨⟨z0,z1,z2,z3,z4,z5⟩,_⟩:=box6 hb6
     obtain ⟨⟨y0,y1,y2,y3,y4⟩,_⟩:=box5 (HB2.out.keep ((HF1.out.trans hF.out).trans hf6))
     have HF6:=Lib.hid hf6
     clear hb6 hf6 m0 m1 m2 m3 m4 m5
     cases cb
     ·have hrf:Hid (r=false):=Lib.hid (by
       rw [← HR3.out]
       cases ha:l.all fun c=>Pc.leads v c.1 with
       | false=>rfl
       | true=>
        rw [List.all_eq_true] at ha
        have:=ha _ (List.getElem_mem hlt)
        rw [HCB.out] at this;cases this)
      go_wp2_with (go_at_call 51;refine (HLD.out _ HF6.out).mono ?_;rintro e w8 ⟨rfl,hf⟩;have HF8:=Lib.hid (HF6.out.trans hf);clear hf)
      go_ret
      exact ⟨by rw [hrf.out];rfl,HFR.out.trans HF8.out⟩
     ·go_wp2_with (go_at_call 51;refine (HLD.out _ HF6.out).mono ?_;rintro e w8 ⟨rfl,hf⟩;have HF8:=Lib.hid (HF6.out.trans hf);clear hf)
      exact ⟨⟨i+1,by omega,by go_num,Lib.hid (fun a ha hai=>by
       by_cases e:a=i
       ·subst e;exact HCB.out
       ·exact hO.out a ha (by omega)),Lib.hid (hF.out.trans HF8.out)⟩,by simp [intOf];omega⟩
    ·obtain rfl:i=l.length:=by omega
     have hrt:Hid (r=true):=Lib.hid (by
      rw [← HR3.out,List.all_eq_true]
      intro x hx
      obtain ⟨a,ha,rfl⟩:=List.mem_iff_getElem.1 hx
      exact hO.out a ha ha)
     go_wp2_with fail
     go_ret
     exact ⟨by rw [hrt.out];rfl,HFR.out⟩
 ·have q6:(v.kd != 6)=true:=(ikind h6).2
  have hrf:Hid (r=false):=Lib.hid (by rw [← HR.out,(ikind h6).1];rfl)
  clear h6
  go_enter Tryz.func27,Tryz.ntmps27
  go_wp2_with fail
  go_ret
  exact ⟨by rw [hrf.out];rfl,(Fr.refl w).alloc _⟩
/- Chapter 09, plain: what a patch's changes are like. -/

namespace Pc
theorem parts_ne {r:List UInt8} {ps:List (List UInt8)} (h:Pt.parts (47::r)=some ps):ps≠[]:=by
 rw [Pt.parts,if_pos rfl] at h
 have h1:=(Pt.allP_each _ _ h).1
 intro e
 rw [e] at h1
 exact Pt.cut_ne_nil r (List.eq_nil_of_length_eq_zero h1.symm)
theorem chgM_len:∀ {m:List (List UInt8 × JV)} {l:List Chg},chgM m=some l→l.length=m.length
 | [],l,h=>by injection h with h;rw [← h];rfl
 | p::m,l,h=>by
  unfold chgM at h
  cases hp:Pt.parts (47::p.1) with
  | none=>rw [hp] at h;cases h
  | some ps=>
   rw [hp] at h
   cases hm:chgM m with
   | none=>simp only [hm,Option.map_none] at h;cases h
   | some l2=>simp only [hm,Option.map_some,Option.some.injEq] at h;rw [← h];simp [chgM_len hm]
theorem chgM_get:∀ {m:List (List UInt8 × JV)} {l:List Chg},chgM m=some l → ∀ i (h1:i<m.length) (h2:i<l.length),Pt.parts (47::m[i].1)=some l[i].1∧l[i].2=m[i].2
 | [],l,h,i,h1,_=>absurd h1 (by simp)
 | p::m,l,h,i,h1,h2=>by
  unfold chgM at h
  cases hp:Pt.parts (47::p.1) with
  | none=>rw [hp] at h;cases h
  | some ps=>
   rw [hp] at h
   cases hm:chgM m with
   | none=>simp only [hm,Option.map_none] at h;cases h
   | some l2=>
    simp only [hm,Option.map_some,Option.some.injEq] at h
    subst h
    cases i with
    | zero=>exact ⟨hp,rfl⟩
    | succ i=>
     have:=chgM_get hm i (by simpa using h1) (by simpa using h2)
     simpa using this
theorem chgM_mem {m:List (List UInt8 × JV)} {l:List Chg} (h:chgM m=some l) {x:Chg} (hx:x∈l):∃ y∈m,Pt.parts (47::y.1)=some x.1∧x.2=y.2:=by
 obtain ⟨i,hi,rfl⟩:=List.mem_iff_getElem.1 hx
 have hl:=chgM_len h
 have:=chgM_get h i (by omega) hi
 exact ⟨m[i],List.getElem_mem _,this⟩
theorem chg_some {p:JV} {l:List Chg} (h:chg p=some l):p.kd=6∧p.ms.length≤400∧chgM p.ms=some l:=by
 unfold chg at h
 split at h
 ·next hc=>exact ⟨hc.1,hc.2,h⟩
 ·cases h
theorem bulkM_mem {x:List UInt8 × JV}:∀ {m:List (List UInt8 × JV)},x∈m→1+x.1.length+JV.bulk x.2≤JV.bulkM m
 | y::m,h=>by
  rw [JV.bulkM_cons]
  rcases List.mem_cons.1 h with rfl | h
  ·omega
  ·have:=bulkM_mem h;omega
theorem bulk_mem {p:JV} {x:List UInt8 × JV} (h:x∈p.ms):7+x.1.length≤JV.bulk p∧4+JV.bulk x.2≤JV.bulk p:=by
 obtain ⟨k,n,s,l,m⟩:=p
 have h1:=bulkM_mem (m:=m) h
 have h2:=JV.bulk_pos x.2
 rw [JV.bulk_mk]
 constructor <;> omega
structure Likes (p:JV) (l:List Chg):Prop where
 len:l.length≤400
 ne:∀ x∈l,x.1≠[]
 short:∀ x∈l,x.1.length≤1048577
 texts:∀ x∈l,∀ s∈x.1,s.length≤1048577
 from_:∀ x∈l,∃ y∈p.ms,Pt.parts (47::y.1)=some x.1∧x.2=y.2
theorem likes {p:JV} {l:List Chg} (h:chg p=some l) (hb:JV.bulk p≤1048576):Likes p l:=by
 obtain ⟨h1,h2,h3⟩:=chg_some h
 have hz:∀ y∈p.ms,∀ ps,Pt.parts (47::y.1)=some ps→ps.length≤1048577 ∧ ∀ s∈ps,s.length≤1048577:=fun y hy ps hps=>by
  have a:=(bulk_mem hy).1
  have b:=Pt.parts_len hps
  simp only [List.length_cons] at b
  exact ⟨by omega,fun s hs=>by have:=b.2 s hs;omega⟩
 refine ⟨by rw [chgM_len h3];exact h2,fun x hx=>?_,fun x hx=>?_,fun x hx=>?_,fun x hx=>chgM_mem h3 hx⟩
 ·obtain ⟨y,hy,hp,_⟩:=chgM_mem h3 hx;exact parts_ne hp
 ·obtain ⟨y,hy,hp,_⟩:=chgM_mem h3 hx;exact (hz y hy _ hp).1
 ·obtain ⟨y,hy,hp,_⟩:=chgM_mem h3 hx;exact (hz y hy _ hp).2
def fitsP (v p:JV):Bool:=match chg p with
 | none=>false
 | some l=>fits v l
end Pc
/- Chapter 09: changes. -/

theorem Ssl.showsS {w:World} {base:Nat} {v:Value} {l:List (List UInt8)} (h:Ssl w base v l):∃ A c,v=.slice A l.length c∧PsS w (fun b=>base≤b∧b<w.heap.size) A l:=by
 rcases Row.form h with ⟨rfl,he⟩ | ⟨g,cap,rfl,hb,hlt,_,_,hcells⟩
 ·have:l=[]:=by simpa [svs] using he
  subst this
  exact ⟨none,0,rfl,fun h=>absurd rfl h⟩
 ·refine ⟨some ⟨g,0,none⟩,cap,by rw [svs_len],fun _=>⟨g,0,rfl,⟨hb,hlt⟩,fun i hi=>?_⟩⟩
  have:=hcells i (.string ⟨l[i].toArray⟩) (by simp [svs,List.getElem?_eq_getElem hi])
  rw [Nat.zero_add];exact this
def ChM (w:World) (O:Nat→Prop) (K0 K:Nat) (v:Value) (l:List Pc.Chg):Prop:=ChT w (fun b=>(O b∨(K0≤b∧b<w.heap.size))∧v.ownBlock≠some b) K v l
theorem ChT.toM {w:World} {S O:Nat→Prop} {K0 K:Nat} {v:Value} {l:List Pc.Chg} (h:ChT w S K v l) (hS:∀ b,S b→O b∨(K0≤b∧b<w.heap.size)) (hO:∀ b,O b→b<w.heap.size):ChM w O K0 K v l:=
 h.more (fun b hb=>⟨hS b hb,(h.1.1 b hb).2⟩) (fun b hb=>⟨by rcases hb.1 with h | h;exact hO b h;exact h.2,hb.2⟩)
theorem ChM.keep {w w':World} {O:Nat→Prop} {K0 K:Nat} {v:Value} {l:List Pc.Chg} (h:ChM w O K0 K v l) (hO:∀ b,O b→b<w.heap.size) (hf:Fr w w'):ChM w' O K0 K v l:=
 ChT.toM (ChT.keep h hf) (fun b hb=>hb.1.imp id (fun h=>⟨h.1,Nat.lt_of_lt_of_le h.2 hf.size⟩)) (ltS hO hf)
def ChS (w:World) (S:Nat→Prop) (A:Option Addr) (m:List Pc.Chg):Prop:=∀ i (h:i<m.length),∃ b o P c B d B' d',A=some ⟨b,o,none⟩∧S b∧w.cell? ⟨b,o+i*6,none⟩=some (.slice P m[i].1.length c)∧(m[i].1.length≤c∧c≤9223372036854775807)∧PsS w S P m[i].1∧VC w b (o+i*6+1) m[i].2 B d B' d'∧InV w S m[i].2 (vA m[i].2 B d B' d')
theorem ChS.map {w w':World} {S S':Nat→Prop} {A:Option Addr} {m:List Pc.Chg} (h:ChS w S A m) (hS:∀ b,S b→S' b) (hw:∀ b o,S b→w'.cell? ⟨b,o,none⟩=w.cell? ⟨b,o,none⟩):ChS w' S' A m:=fun i hi=>by
 obtain ⟨b,o,P,c,B,d,B',d',hA,hb,h0,hcc,hp,hv,hin⟩:=h i hi
 exact ⟨b,o,P,c,B,d,B',d',hA,hS b hb,(hw b _ hb).trans h0,hcc,hp.map hS hw,hv.keep (fun j=>hw b _ hb),hin.map hS hw⟩
theorem ChS.toC {w:World} {S:Nat→Prop} {A:Option Addr} {m:List Pc.Chg} (h:ChS w S A m) (hS:∀ b,S b→b<w.heap.size):ChC w A m:=fun i hi=>by
 obtain ⟨b,o,P,c,B,d,B',d',hA,hb,h0,hcc,hp,hv,hin⟩:=h i hi
 exact ⟨b,o,P,c,B,d,B',d',hA,hS b hb,h0,hcc,hp.toC hS,hv,hin.more hS⟩
theorem ChT.toS {w:World} {S S':Nat→Prop} {K n c:Nat} {A:Option Addr} {m:List Pc.Chg} (h:ChT w S K (.slice A n c) m) (hS:∀ b,S b→S' b) (hK:∀ b,K≤b→b<w.heap.size→S' b):ChS w S' A m:=fun i hi=>by
 obtain ⟨h0,xs,h1,h2,h3⟩:=h
 have hx:i<xs.length:=by omega
 obtain ⟨⟨P,pc,e0,hcc,hp⟩,hv⟩:=h3 i hx hi
 obtain ⟨C,f,C',f',e⟩:=hv.shape
 rcases h1.form with ⟨hn,rfl⟩ | ⟨g,cap,hn,hKg,hg,hc⟩
 ·simp at hx
 ·injection hn with hA _ _
  have hat:∀ j u,j<6→(xs[i].1::xs[i].2.cells.toList)[j]? = some u→w.cell? ⟨g,i*6+j,none⟩=some u:=fun j u hj hu=>hc _ _ (by rw [hcs_at h1.2 hx hj];exact hu)
  rw [e,e0] at hat
  rw [e] at hv
  refine ⟨g,0,P,pc,C,f,C',f',hA,hK g hKg hg,?_,hcc,hp.map hS (fun _ _ _=>rfl),?_,hv.more hS⟩
  ·rw [Nat.zero_add];exact hat 0 _ (by omega) rfl
  ·rw [Nat.zero_add];exact ⟨hat 1 _ (by omega) rfl,hat 2 _ (by omega) rfl,hat 3 _ (by omega) rfl,hat 4 _ (by omega) rfl,hat 5 _ (by omega) rfl⟩
def ChgP (O:Nat→Prop) (w:World):Option (List Pc.Chg)→Ending→World→Prop
 | none,e,w'=>e=.returned (.tuple #[.slice none 0 0,.bool false])∧Fr w w'
 | some l,e,w'=>(∃ A c,e=.returned (.tuple #[.slice A l.length c,.bool true])∧ChS w' (NeS O w w') A l)∧Fr w w'
theorem changes_is (v:JV) (B:Option Addr) (d:Nat) (B':Option Addr) (d':Nat) (w:World) (O:Nat→Prop) (hO:∀ b,O b→b<w.heap.size) (hv:InV w O v (vA v B d B' d')) (hn:∀ x∈v.ms,x.1.length≤4194304) (hM:MxL w):
  Calls Tryz.prog 26 #[.agg #[.int .i64 v.kd,.int .i64 v.nm,.string ⟨v.tx.toArray⟩,.slice B v.ls.length d,.slice B' v.ms.length d']] w (ChgP O w (Pc.chg v)):=by
 have HO:=Lib.hid hO
 have HV:=Lib.hid hv
 have HN:=Lib.hid hn
 have HM:=Lib.hid hM
 by_cases h6:v.kd=6
 ·have q6:(v.kd != 6)=false:=by rw [h6];rfl
  by_cases h4:v.ms.length≤400
  ·have q4:¬ (400:Int)<(v.ms.length:Int):=by omega
   obtain ⟨R,hR⟩:∃ R,Pc.chgM v.ms=R:=⟨_,rfl⟩
   have hRe:Pc.chg v=R:=by rw [← hR];unfold Pc.chg;rw [if_pos ⟨h6,h4⟩]
   rw [hRe]
   have HR:=Lib.hid hR
   clear hO hv hn hM hR hRe h6
   go_enter Tryz.func26,Tryz.ntmps26
   go_upto_region 4 with fail
   have hb1:=Blk.made w #[.int .i64 v.kd,.int .i64 v.nm,.string ⟨v.tx.toArray⟩,.slice B v.ls.length d,.slice B' v.ms.length d'] 25
   have hf0:Fr w (w.alloc (.cells #[.int .i64 v.kd,.int .i64 v.nm,.string ⟨v.tx.toArray⟩,.slice B v.ls.length d,.slice B' v.ms.length d'] 25)):=(Fr.refl w).alloc _
   generalize (w.alloc (.cells #[.int .i64 v.kd,.int .i64 v.nm,.string ⟨v.tx.toArray⟩,.slice B v.ls.length d,.slice B' v.ms.length d'] 25))=W0 at hb1 hf0 ⊢
   obtain ⟨X1,hX1⟩:∃ X,w.heap.size=X:=⟨_,rfl⟩
   have HX1:Hid (w.heap.size=X1∧X1<W0.heap.size):=Lib.hid ⟨hX1,by rw [← hX1];exact hb1.lt⟩
   rw [hX1] at hb1 ⊢
   clear hX1
   obtain ⟨⟨y0,y1,y2,y3,y4⟩,_⟩:=box5 hb1
   have HB1:=Lib.hid hb1
   have HF0:=Lib.hid hf0
   clear hb1 hf0
   go_wp2_with fail
   go_loopw [4,21] (fun vw j wr=>∃ (i:Nat) (acc:List Pc.Chg) (vv:Value),vv=vw∧i≤v.ms.length∧j=.int .i64 i∧acc.length=i∧Hid (∀ k (h1:k<v.ms.length) (h2:k<acc.length),Pt.parts (47::v.ms[k].1)=some acc[k].1∧acc[k].2=v.ms[k].2)∧Hid (ChM wr O X1 W0.heap.size vv acc)∧Hid (Fr W0 wr)) (fun _ j _=>v.ms.length - (intOf j).toNat)
   case atStart=>exact ⟨0,[],_,rfl,by omega,rfl,rfl,Lib.hid (fun k h1 h2=>absurd h2 (by simp)),Lib.hid (ChT.toM (ChT.none_ W0 (S:=O) ⟨ltS HO.out HF0.out,Nat.le_refl _⟩) (fun b hb=>.inl hb) (ltS HO.out HF0.out)),Lib.hid (Fr.refl _)⟩
   case round=>
    obtain ⟨i,acc,vv,rfl,hi,rfl,hac,hO,hC,hF⟩:=hrel
    have hFw:=HF0.out.trans hF.out
    by_cases hlt:i<v.ms.length
    ·have hlt':(i:Int)<(v.ms.length:Int):=by omega
     obtain ⟨E9,c9,E9',c9',hvA,_,hms⟩:=(HV.out.keepS HO.out hFw).open_
     have hE9:E9'=B':=by
      simp only [vA,Value.agg.injEq] at hvA
      have h4:=congrArg (fun q:Array Value=>q.getD 4 undef) hvA
      simp at h4
      exact h4.1.symm
     subst hE9
     obtain ⟨bm,om,E,e,E',e',rfl,hbm,hn1,m0,⟨m1,m2,m3,m4,m5⟩,hiv⟩:=hms i hlt
     have hnl:=HN.out _ (List.getElem_mem hlt)
     have hPI:∀ ps,Pt.parts (47::v.ms[i].1)=some ps→Hid (∀ k (h1:k<v.ms.length) (h2:k<(acc++[(ps,v.ms[i].2)]).length),Pt.parts (47::v.ms[k].1)=some (acc++[(ps,v.ms[i].2)])[k].1∧(acc++[(ps,v.ms[i].2)])[k].2=v.ms[k].2):=fun ps hps=>Lib.hid (fun k h1 h2=>by
      by_cases hk:k<acc.length
      ·rw [List.getElem_append_left hk];exact hO.out k h1 hk
      ·have:k=i:=by simp at h2;omega
       subst this
       rw [List.getElem_append_right (by omega)]
       simp only [hac,Nat.sub_self,List.getElem_cons_zero]
       exact ⟨hps,trivial⟩)
     have hRN:Pt.parts (47::v.ms[i].1)=none→Hid (R=none):=fun h=>Lib.hid (by rw [← HR.out];exact Pc.chgM_none hlt h)
     obtain ⟨pu,hpu⟩:∃ pu,v.ms[i]=pu:=⟨_,rfl⟩
     rw [hpu] at m0 m1 m2 m3 m4 m5 hiv hnl hPI hRN
     obtain ⟨nm,u⟩:=pu
     simp only at m0 m1 m2 m3 m4 m5 hiv hnl hPI hRN
     have HPP:Hid (∀ W S,Fr wr W→S=(⟨#[47]⟩:ByteArray)++⟨nm.toArray⟩→Calls Tryz.prog 22 #[.string S] W (PtsP W (Pt.parts (47::nm)))):=Lib.hid (fun W S hW hS=>by
      have hd:S.data.toList=47::nm:=by rw [hS];simp [ByteArray.data_append]
      have hz:S.size<4294967281:=by
       have:S.size=S.data.toList.length:=by simp
       rw [this,hd];simp;omega
      have:=parts_is S W hz (HM.out.keep (hFw.trans hW))
      rwa [hd] at this)
     have hzz:¬ 9223372036854775807<1+nm.length:=by omega
     have HIV:=Lib.hid hiv
     have HNL:=Lib.hid hnl
     clear hiv hnl hbm hn1 hpu hms hvA hFw
     go_upto_region 7 with fail
     have hf7:Fr wr (wr.alloc (.cells #[.string ⟨nm.toArray⟩,.int .i64 u.kd,.int .i64 u.nm,.string ⟨u.tx.toArray⟩,.slice E u.ls.length e,.slice E' u.ms.length e'] 38)):=(Fr.refl wr).alloc _
     have hb7:=Blk.made wr #[.string ⟨nm.toArray⟩,.int .i64 u.kd,.int .i64 u.nm,.string ⟨u.tx.toArray⟩,.slice E u.ls.length e,.slice E' u.ms.length e'] 38
     generalize (wr.alloc (.cells #[.string ⟨nm.toArray⟩,.int .i64 u.kd,.int .i64 u.nm,.string ⟨u.tx.toArray⟩,.slice E u.ls.length e,.slice E' u.ms.length e'] 38))=W7 at hf7 hb7 ⊢
     generalize wr.heap.size=X7 at hb7 ⊢
     have HC7:=Lib.hid (ChM.keep hC.out (ltS HO.out (HF0.out.trans hF.out)) hf7)
     have HF7:=Lib.hid hf7
     have HB7:=Lib.hid hb7
     obtain ⟨⟨n0,n1,n2,n3,n4,n5⟩,_⟩:=box6 hb7
     clear hf7 hb7 m0 m1 m2 m3 m4 m5
     cases hpp:Pt.parts (47::nm) with
     | none=>
      rw [hpp] at HPP
      have hr:=hRN hpp
      go_wp2_with (go_at_call 22;refine (HPP.out _ _ HF7.out rfl).mono ?_;rintro e w8 ⟨rfl,hf⟩;have HF8:=Lib.hid hf;clear hf)
      go_ret2
      rw [hr.out]
      exact ⟨rfl,((HF0.out.trans hF.out).trans HF7.out).trans HF8.out⟩
     | some ps=>
      rw [hpp] at HPP
      have hPS:=hPI ps hpp
      have hpl:=Pt.parts_len hpp
      go_upto_region 8 with (go_at_call 22;refine (HPP.out _ _ HF7.out rfl).mono ?_;rintro e w8 ⟨pv,rfl,hss,hf⟩;obtain ⟨PA,pc,rfl,hps⟩:=hss.showsS;have hcap:=Ssl.caps hss;have hb:=HB7.out.keep hf;obtain ⟨⟨q0,q1,q2,q3,q4,q5⟩,_⟩:=box6 hb;have HPS:=Lib.hid hps;have HF8:=Lib.hid hf;have HB8:=Lib.hid hb;clear hf hb hss hps)
      have hS1:∀ b,O b→(O b∨(X1≤b∧b<w8.heap.size))∧vv.ownBlock≠some b:=fun b hb=>⟨.inl hb,fun e=>by have:=(ChT.own_lt HC7.out e).1;have:=HO.out b hb;have:=HX1.out;omega⟩
      have HIU:Hid (InV w8 (fun b=>(O b∨(X1≤b∧b<w8.heap.size))∧vv.ownBlock≠some b) u (vA u E e E' e')):=Lib.hid ((HIV.out.keepS (ltS HO.out (HF0.out.trans hF.out)) (HF7.out.trans HF8.out)).more hS1)
      have HPU:Hid (PsS w8 (fun b=>(O b∨(X1≤b∧b<w8.heap.size))∧vv.ownBlock≠some b) PA ps):=Lib.hid (HPS.out.map (fun b hb=>⟨.inr ⟨by have:=HX1.out.2;have:=(hF.out.trans HF7.out).size;have:=hb.1;omega,hb.2⟩,fun e=>by have:=(ChT.own_lt HC7.out e).2;have:=hb.1;omega⟩) (fun _ _ _=>rfl))
      have HC8:=Lib.hid (ChM.keep HC7.out (ltS HO.out ((HF0.out.trans hF.out).trans HF7.out)) HF8.out)
      clear n0 n1 n2 n3 n4 n5
      go_wp2_with (at_builtin;refine wpl_ch_lit rfl (.tmp 34) (.tmp 39) rfl _ W0.heap.size _ acc rfl HC8.out ps PA pc u E e E' e' rfl hcap HPU.out HIU.out rfl rfl (by omega) ?_;intro v9 w9 hv9 hg9 ho9;have HF9:Hid (Fr W0 w9):=Lib.hid (Below.grown ((((hF.out.trans HF7.out).trans HF8.out).alloc _)) hg9 ((((hF.out.trans HF7.out).trans HF8.out).alloc _)).size (fun k hk=>(ChT.own_lt HC8.out hk).1));have HC9:Hid (ChM w9 O X1 W0.heap.size v9 (acc++[(ps,u)])):=Lib.hid (ChT.toM hv9 (fun b hb=>hb.1.imp id (fun h=>⟨h.1,Nat.lt_of_lt_of_le h.2 (Nat.le_trans ((Fr.refl w8).alloc _).size hg9.size)⟩)) (ltS HO.out (HF0.out.trans HF9.out)));clear hv9 hg9 ho9)
      exact ⟨⟨i+1,acc++[(ps,u)],_,rfl,by omega,by go_num,by simp [hac],hPS,HC9,HF9⟩,by simp [intOf];omega⟩
    ·obtain rfl:i=v.ms.length:=by omega
     have hr:R=some acc:=by rw [← HR.out];exact Pc.chgM_some hac (fun k h1 h2=>hO.out k h1 h2)
     have HR2:=Lib.hid hr
     obtain ⟨ua,uc,hu⟩:=ChT.is_slice hC.out
     have HU:=Lib.hid hu
     clear hu hr
     go_wp2_with fail
     go_ret2
     rw [HR2.out]
     refine ⟨⟨ua,uc,by rw [HU.out];rfl,?_⟩,HF0.out.trans hF.out⟩
     have:=hC.out
     rw [HU.out] at this
     have hx1:=HX1.out.1
     have hx2:=HX1.out.2
     exact ChT.toS this (fun b hb=>hb.1.imp id (fun h=>⟨by omega,h.2⟩)) (fun b h1 h2=>.inr ⟨by omega,h2⟩)
  ·have q4:(400:Int)<(v.ms.length:Int):=by omega
   have hRe:Pc.chg v=none:=by unfold Pc.chg;rw [if_neg (fun h=>h4 h.2)]
   rw [hRe]
   clear hO hv hn hM h6 hRe
   go_enter Tryz.func26,Tryz.ntmps26
   go_wp2_with fail
   go_ret2
   exact ⟨rfl,(Fr.refl w).alloc _⟩
 ·have q6:(v.kd != 6)=true:=(ikind h6).2
  have hRe:Pc.chg v=none:=by unfold Pc.chg;rw [if_neg (fun h=>h6 h.1)]
  rw [hRe]
  clear hO hv hn hM h6 hRe
  go_enter Tryz.func26,Tryz.ntmps26
  go_wp2_with fail
  go_ret2
  exact ⟨rfl,(Fr.refl w).alloc _⟩
/- Chapter 09: Fits. -/

theorem pFits_g (v p:JV) (B:Option Addr) (d:Nat) (B':Option Addr) (d':Nat) (C:Option Addr) (f:Nat) (C':Option Addr) (f':Nat) (w:World) (hv:InV w (Lo w.heap.size) v (vA v B d B' d')) (hp:InV w (Lo w.heap.size) p (vA p C f C' f')) (hn:∀ x∈p.ms,x.1.length≤4194304) (hlk:∀ l,Pc.chg p=some l→Pc.Likes p l) (hM:MxL w):
  Calls Tryz.prog 14 #[.agg #[.int .i64 v.kd,.int .i64 v.nm,.string ⟨v.tx.toArray⟩,.slice B v.ls.length d,.slice B' v.ms.length d'],.agg #[.int .i64 p.kd,.int .i64 p.nm,.string ⟨p.tx.toArray⟩,.slice C p.ls.length f,.slice C' p.ms.length f']] w fun e w'=>e=.returned (.bool (Pc.fitsP v p))∧Fr w w':=by
 obtain ⟨r,hr⟩:∃ r,Pc.fitsP v p=r:=⟨_,rfl⟩
 rw [hr]
 have HCH:Hid (∀ W,Fr w W→Calls Tryz.prog 26 #[.agg #[.int .i64 p.kd,.int .i64 p.nm,.string ⟨p.tx.toArray⟩,.slice C p.ls.length f,.slice C' p.ms.length f']] W (ChgP (Lo w.heap.size) W (Pc.chg p))):=Lib.hid (fun W hW=>changes_is p C f C' f' W (Lo w.heap.size) (fun b hb=>Nat.lt_of_lt_of_le hb hW.size) (hp.keep (Nat.le_refl _) hW) hn (hM.keep hW))
 have HV:=Lib.hid hv
 cases hc:Pc.chg p with
 | none=>
  have hrf:Hid (r=false):=Lib.hid (by rw [← hr];unfold Pc.fitsP;rw [hc])
  rw [hc] at HCH
  clear hv hp hlk hM hn hc hr
  go_enter Tryz.func14,Tryz.ntmps14
  go_upto_region 1 with fail
  have hb1:Blk ((w.alloc (.cells #[.int .i64 v.kd,.int .i64 v.nm,.string ⟨v.tx.toArray⟩,.slice B v.ls.length d,.slice B' v.ms.length d'] 25)).alloc (.cells #[.int .i64 p.kd,.int .i64 p.nm,.string ⟨p.tx.toArray⟩,.slice C p.ls.length f,.slice C' p.ms.length f'] 25)) w.heap.size #[.int .i64 v.kd,.int .i64 v.nm,.string ⟨v.tx.toArray⟩,.slice B v.ls.length d,.slice B' v.ms.length d'] 25:=(Blk.made w _ _).keep ((Fr.refl _).alloc _)
  have hb2:Blk ((w.alloc (.cells #[.int .i64 v.kd,.int .i64 v.nm,.string ⟨v.tx.toArray⟩,.slice B v.ls.length d,.slice B' v.ms.length d'] 25)).alloc (.cells #[.int .i64 p.kd,.int .i64 p.nm,.string ⟨p.tx.toArray⟩,.slice C p.ls.length f,.slice C' p.ms.length f'] 25)) (w.heap.size+1) #[.int .i64 p.kd,.int .i64 p.nm,.string ⟨p.tx.toArray⟩,.slice C p.ls.length f,.slice C' p.ms.length f'] 25:=boxz (Blk.made (w.alloc _) _ _)
  have hf0:Fr w ((w.alloc (.cells #[.int .i64 v.kd,.int .i64 v.nm,.string ⟨v.tx.toArray⟩,.slice B v.ls.length d,.slice B' v.ms.length d'] 25)).alloc (.cells #[.int .i64 p.kd,.int .i64 p.nm,.string ⟨p.tx.toArray⟩,.slice C p.ls.length f,.slice C' p.ms.length f'] 25)):=((Fr.refl w).alloc _).alloc _
  generalize ((w.alloc (.cells #[.int .i64 v.kd,.int .i64 v.nm,.string ⟨v.tx.toArray⟩,.slice B v.ls.length d,.slice B' v.ms.length d'] 25)).alloc (.cells #[.int .i64 p.kd,.int .i64 p.nm,.string ⟨p.tx.toArray⟩,.slice C p.ls.length f,.slice C' p.ms.length f'] 25))=W0 at hb1 hb2 hf0 ⊢
  generalize w.heap.size+1=X2 at hb2 ⊢
  generalize w.heap.size=X1 at hb1 ⊢
  have HB1:=Lib.hid hb1
  have HB2:=Lib.hid hb2
  have HF0:=Lib.hid hf0
  obtain ⟨⟨y0,y1,y2,y3,y4⟩,_⟩:=box5 hb2
  obtain ⟨⟨z0,z1,z2,z3,z4⟩,_⟩:=box5 hb1
  clear hb1 hb2 hf0
  go_wp2_with (go_at_call 26;refine (HCH.out _ HF0.out).mono ?_;rintro e w1 ⟨rfl,hf⟩;have HF1:=Lib.hid hf;clear hf)
  go_ret
  exact ⟨by rw [hrf.out];rfl,HF0.out.trans HF1.out⟩
 | some l=>
  have hk:=hlk l hc
  have hrl:Hid (Pc.fits v l=r):=Lib.hid (by rw [← hr];unfold Pc.fitsP;rw [hc])
  have HFI:Hid (∀ W A c,Fr w W→ChC W A l→Calls Tryz.prog 27 #[.agg #[.int .i64 v.kd,.int .i64 v.nm,.string ⟨v.tx.toArray⟩,.slice B v.ls.length d,.slice B' v.ms.length d'],.slice A l.length c] W fun e w'=>e=.returned (.bool r)∧Fr W w'):=Lib.hid (fun W A c hW hA=>by
   rw [← hrl.out]
   exact pfits_is v B d B' d' l A c W ((HV.out.keep (Nat.le_refl _) hW).lo hW.size) hA (Nat.le_trans hk.len (by omega)) (fun x hx=>⟨hk.short x hx,hk.ne x hx⟩))
  rw [hc] at HCH
  clear hv hp hlk hM hn hc hr hk
  go_enter Tryz.func14,Tryz.ntmps14
  go_upto_region 1 with fail
  have hb1:Blk ((w.alloc (.cells #[.int .i64 v.kd,.int .i64 v.nm,.string ⟨v.tx.toArray⟩,.slice B v.ls.length d,.slice B' v.ms.length d'] 25)).alloc (.cells #[.int .i64 p.kd,.int .i64 p.nm,.string ⟨p.tx.toArray⟩,.slice C p.ls.length f,.slice C' p.ms.length f'] 25)) w.heap.size #[.int .i64 v.kd,.int .i64 v.nm,.string ⟨v.tx.toArray⟩,.slice B v.ls.length d,.slice B' v.ms.length d'] 25:=(Blk.made w _ _).keep ((Fr.refl _).alloc _)
  have hb2:Blk ((w.alloc (.cells #[.int .i64 v.kd,.int .i64 v.nm,.string ⟨v.tx.toArray⟩,.slice B v.ls.length d,.slice B' v.ms.length d'] 25)).alloc (.cells #[.int .i64 p.kd,.int .i64 p.nm,.string ⟨p.tx.toArray⟩,.slice C p.ls.length f,.slice C' p.ms.length f'] 25)) (w.heap.size+1) #[.int .i64 p.kd,.int .i64 p.nm,.string ⟨p.tx.toArray⟩,.slice C p.ls.length f,.slice C' p.ms.length f'] 25:=boxz (Blk.made (w.alloc _) _ _)
  have hf0:Fr w ((w.alloc (.cells #[.int .i64 v.kd,.int .i64 v.nm,.string ⟨v.tx.toArray⟩,.slice B v.ls.length d,.slice B' v.ms.length d'] 25)).alloc (.cells #[.int .i64 p.kd,.int .i64 p.nm,.string ⟨p.tx.toArray⟩,.slice C p.ls.length f,.slice C' p.ms.length f'] 25)):=((Fr.refl w).alloc _).alloc _
  generalize ((w.alloc (.cells #[.int .i64 v.kd,.int .i64 v.nm,.string ⟨v.tx.toArray⟩,.slice B v.ls.length d,.slice B' v.ms.length d'] 25)).alloc (.cells #[.int .i64 p.kd,.int .i64 p.nm,.string ⟨p.tx.toArray⟩,.slice C p.ls.length f,.slice C' p.ms.length f'] 25))=W0 at hb1 hb2 hf0 ⊢
  generalize w.heap.size+1=X2 at hb2 ⊢
  generalize w.heap.size=X1 at hb1 ⊢
  have HB1:=Lib.hid hb1
  have HB2:=Lib.hid hb2
  have HF0:=Lib.hid hf0
  obtain ⟨⟨y0,y1,y2,y3,y4⟩,_⟩:=box5 hb2
  obtain ⟨⟨z0,z1,z2,z3,z4⟩,_⟩:=box5 hb1
  clear hb1 hb2 hf0
  go_upto_region 2 with (go_at_call 26;refine (HCH.out _ HF0.out).mono ?_;rintro e w1 ⟨⟨A,c,rfl,hA⟩,hf⟩;have HF1:=Lib.hid hf;have HA:=Lib.hid (hA.toC (fun b hb=>by rcases hb with hb | hb;exact Nat.lt_of_lt_of_le hb (HF0.out.trans hf).size;exact hb.2));clear hf hA)
  obtain ⟨⟨x0,x1,x2,x3,x4⟩,_⟩:=box5 (HB1.out.keep HF1.out)
  clear y0 y1 y2 y3 y4 z0 z1 z2 z3 z4
  go_wp2_with (go_at_call 27;refine (HFI.out _ A c (HF0.out.trans HF1.out) HA.out).mono ?_;rintro e w2 ⟨rfl,hf⟩;have HF2:=Lib.hid hf;clear hf)
  go_ret
  exact ⟨by rfl,(HF0.out.trans HF1.out).trans HF2.out⟩
theorem pFits_is (v p:JV) (B:Option Addr) (d:Nat) (B':Option Addr) (d':Nat) (C:Option Addr) (f:Nat) (C':Option Addr) (f':Nat) (w:World) (hv:InV w (Lo w.heap.size) v (vA v B d B' d')) (hp:InV w (Lo w.heap.size) p (vA p C f C' f')) (hb:JV.bulk p≤1048576) (hM:MxL w):
  Calls Tryz.prog 14 #[.agg #[.int .i64 v.kd,.int .i64 v.nm,.string ⟨v.tx.toArray⟩,.slice B v.ls.length d,.slice B' v.ms.length d'],.agg #[.int .i64 p.kd,.int .i64 p.nm,.string ⟨p.tx.toArray⟩,.slice C p.ls.length f,.slice C' p.ms.length f']] w fun e w'=>e=.returned (.bool (Pc.fitsP v p))∧Fr w w':=
 pFits_g v p B d B' d' C f C' f' w hv hp (fun x hx=>by have:=(Pc.bulk_mem hx).1;omega) (fun l hc=>Pc.likes hc hb) hM
end Go.Proofs.YtlmcfhokfiibkaaGreatDoor
