/- An argument that is a value: opened. -/
import Derived.Test.YtockgemmkjdnkaaGreatDoorKa
import Derived.Test.YtockgemmkjdnkaaGreatDoorPa
import Derived.Deep.Slices
import Derived.Deep.Fields
import Derived.ChangeSame
import Derived.Lib.LaidU8
import Derived.DataShut
import Derived.Test.YtockgemmkjdnkaaGreatDoorEvo
import Derived.Test.YtockgemmkjdnkaaGreatDoorPtS
import Derived.Test.YtockgemmkjdnkaaGreatDoorRl
set_option maxRecDepth 100000
set_option maxHeartbeats 4000000
set_option linter.unusedVariables false
set_option linter.unusedSimpArgs false
namespace Go.Proofs.YtockgemmkjdnkaaGreatDoor
open Go.ChangeShapes Go.WideShapes Go.Deep Go.RowKit

theorem bulkL_app (a b:List JV):JV.bulkL (a++b)=JV.bulkL a+JV.bulkL b:=by
 induction a with
 | nil=>simp [JV.bulkL]
 | cons d a ih=>rw [List.cons_append,JV.bulkL_cons,JV.bulkL_cons,ih];omega
theorem bulkM_app (a b:List (List UInt8 × JV)):JV.bulkM (a++b)=JV.bulkM a+JV.bulkM b:=by
 induction a with
 | nil=>simp [JV.bulkM]
 | cons d a ih=>rw [List.cons_append,JV.bulkM_cons,JV.bulkM_cons,ih];omega
theorem addr_add (b o n:Nat):(Addr.mk b o none).add n=⟨b,o+n,none⟩:=by
 by_cases h0:n=0
 ·subst h0;simp [Addr.add]
 ·simp [Addr.add,h0]

section
variable {H:Type} {enc:TypeId × Value->H} {W:World}
theorem bulkAll_app (a b:List (DataW H)):Rows.uptoBulkAll (a++b)=Rows.uptoBulkAll a+Rows.uptoBulkAll b:=by
 induction a with
 | nil=>simp [Rows.uptoBulkAll]
 | cons d a ih=>simp only [List.cons_append,Rows.uptoBulkAll,ih];omega
theorem bulkAll_mem {d:DataW H}:∀ {l:List (DataW H)},d∈l->Rows.uptoBulk d<=Rows.uptoBulkAll l
 | [],h=>by cases h
 | e::l,h=>by
  rw [Rows.uptoBulkAll];rcases List.mem_cons.1 h with rfl | h
  ·omega
  ·have:=bulkAll_mem h;omega
theorem pick_l {P:Nat->JV->Prop} {D:Nat->DataW H}:∀ n,(∀ i,i<n -> ∃ u,P i u/\JV.bulk u<=Rows.uptoBulk (D i)) ->
  ∃ l:List JV,l.length=n/\(∀ i (h:i<l.length),P i l[i])/\JV.bulkL l<=Rows.uptoBulkAll ((List.range n).map D)
 | 0,_=>⟨[],rfl,λi h=>absurd h (by simp),by simp [JV.bulkL]⟩
 | n+1,h=>by
  obtain ⟨l,h1,h2,h3⟩:=pick_l n (λi hi=>h i (by omega));obtain ⟨u,hu,hb⟩:=h n (by omega);refine ⟨l++[u],by simp [h1],λi hi=>?_,?_⟩
  ·by_cases hil:i<l.length
   ·rw [List.getElem_append_left hil];exact h2 i hil
   ·have:i=l.length:=by simp at hi;omega
    subst this;simp only [List.getElem_concat_length];rw [h1];exact hu
  ·rw [bulkL_app,List.range_succ,List.map_append,bulkAll_app,JV.bulkL_cons];simp only [List.map_cons,List.map_nil,Rows.uptoBulkAll,JV.bulkL];omega
theorem pick_m {P:Nat->List UInt8 × JV->Prop} {D:Nat->DataW H}:∀ n,(∀ i,i<n -> ∃ u,P i u/\1+u.1.length+JV.bulk u.2<=Rows.uptoBulk (D i)) ->
  ∃ l:List (List UInt8 × JV),l.length=n/\(∀ i (h:i<l.length),P i l[i])/\JV.bulkM l<=Rows.uptoBulkAll ((List.range n).map D)
 | 0,_=>⟨[],rfl,λi h=>absurd h (by simp),by simp [JV.bulkM]⟩
 | n+1,h=>by
  obtain ⟨l,h1,h2,h3⟩:=pick_m n (λi hi=>h i (by omega));obtain ⟨u,hu,hb⟩:=h n (by omega);refine ⟨l++[u],by simp [h1],λi hi=>?_,?_⟩
  ·by_cases hil:i<l.length
   ·rw [List.getElem_append_left hil];exact h2 i hil
   ·have:i=l.length:=by simp at hi;omega
    subst this;simp only [List.getElem_concat_length];rw [h1];exact hu
  ·rw [bulkM_app,List.range_succ,List.map_append,bulkAll_app,JV.bulkM_cons];simp only [List.map_cons,List.map_nil,Rows.uptoBulkAll,JV.bulkM];omega

theorem cells_at {a:Addr} {i m n:Nat} {cs:List Value} (h:W.cells? 0 (a.add (i*m)) n=some cs) (hn:0<n):
  (i=0->a.spot=none)/\a.block<W.heap.size/\cs.length=n /\ ∀ j,j<n->W.cell? ⟨a.block,a.off+i*m+j,none⟩=cs[j]?:=by
 obtain ⟨_,hl,hc⟩:=World.cells?_some h;obtain ⟨b,o,sp⟩:=a;have h0:=hc 0 hn;have e0:((Addr.mk b o sp).add (i*m)).add 0=(Addr.mk b o sp).add (i*m):=by simp [Addr.add]
 rw [e0,List.getElem?_eq_getElem (by omega)] at h0;have key:(i*m=0/\sp=none)\/(i*m≠0):=by
  by_cases hz:i*m=0
  ·left;rw [hz] at h0;have h1:W.cell? ⟨b,o,sp⟩=some (cs[0]'(by omega)):=by rw [<- h0];simp [Addr.add]
   exact ⟨hz,cell_spot h1⟩
  ·exact .inr hz
 have hadd:(Addr.mk b o sp).add (i*m)=⟨b,o+i*m,none⟩:=by
  rcases key with ⟨hz,rfl⟩ | hz
  ·exact addr_add _ _ _
  ·simp [Addr.add,hz]
 rw [hadd] at h0;refine ⟨?_,?_,hl,λj hj=>?_⟩
 ·intro hi;subst hi;rcases key with ⟨_,h⟩ | h
  ·exact h
  ·simp at h
 ·rcases Nat.lt_or_ge b W.heap.size with h | h
  ·exact h
  ·simp [World.cell?,Array.getElem?_eq_none h] at h0
 ·have:=hc j hj;rw [hadd,addr_add] at this;exact this

theorem bulk_ge (d:DataW H):1<=Rows.uptoBulk d:=by
 cases d with
 | lit x=>cases x <;> simp [Rows.uptoBulk]
 | _=>simp [Rows.uptoBulk]

theorem open_v_aux:∀ (N fuel:Nat) (cs:List Value) (x:DataW H × List MemPlace),N<=1048576->Rows.uptoBulk x.1<=N->DataW.trod enc Tryz.prog W 0 (λ_=>true) true fuel 29 cs=some x ->
  ∃ u,InV W (Lo W.heap.size) u (.agg cs.toArray)/\JV.bulk u<=Rows.uptoBulk x.1:=by
 intro N
 induction N with
 | zero=>intro fuel cs x _ hb _;have:=bulk_ge x.1;omega
 | succ N ih=>
  intro fuel cs x hN hb h;have o0:Tryz.prog.cellsOf 3=1:=by kernel_rfl
  have o1:Tryz.prog.cellsOf 2=1:=by kernel_rfl
  have o2:Tryz.prog.cellsOf 9=1:=by kernel_rfl
  have o3:Tryz.prog.cellsOf 27=1:=by kernel_rfl
  have o4:Tryz.prog.cellsOf 24=1:=by kernel_rfl
  have o5:Tryz.prog.cellsOf 29=5:=by kernel_rfl
  have o6:Tryz.prog.cellsOf 44=6:=by kernel_rfl
  obtain ⟨xs,n,rfl,rfl,hlen,hxl,hg⟩:=DataW.trod_struct Tryz.underlying29 h;rw [o5] at hlen
  match cs,hlen with
  | [c0,c1,c2,c3,c4],_=>
  match xs,hxl with
  | [y0,y1,y2,y3,y4],_=>
   have g0:DataW.trod enc Tryz.prog W 0 (λ_=>true) true n 3 [c0]=some y0:=by simpa [o0] using hg 0 _ rfl
   have g1:DataW.trod enc Tryz.prog W 0 (λ_=>true) true n 2 [c1]=some y1:=by simpa [o1] using hg 1 _ rfl
   have g2:DataW.trod enc Tryz.prog W 0 (λ_=>true) true n 9 [c2]=some y2:=by simpa [o2] using hg 2 _ rfl
   have g3:DataW.trod enc Tryz.prog W 0 (λ_=>true) true n 27 [c3]=some y3:=by simpa [o3] using hg 3 _ rfl
   have g4:DataW.trod enc Tryz.prog W 0 (λ_=>true) true n 24 [c4]=some y4:=by simpa [o4] using hg 4 _ rfl
   clear hg h;simp only [List.map_cons,List.map_nil,Rows.uptoBulk,Rows.uptoBulkAll] at hb ⊢;obtain ⟨k,hk,rfl,wk⟩:=DataW.trod_int Tryz.underlying3 g0;obtain ⟨m,hm,rfl,wm⟩:=DataW.trod_int Tryz.underlying2 g1;obtain ⟨s,hs,rfl,ws⟩:=DataW.trod_string Tryz.underlying9 g2;obtain rfl:c0=.int .i64 k:=by simpa using hk
   obtain rfl:c1=.int .i64 m:=by simpa using hm
   obtain rfl:c2=.string s:=by simpa using hs
   simp only [Rows.uptoBulk] at hb ⊢;have hL:∃ (A:Option Addr) (c:Nat) (l:List JV) (E:Nat->Nat->Value),c3=.slice A l.length c/\l.length<=140737488355328/\(∀ i (h:i<l.length),InV W (Lo W.heap.size) l[i] (.agg #[E i 0,E i 1,E i 2,E i 3,E i 4])) /\
     (0<l.length -> ∃ b o,A=some ⟨b,o,none⟩/\Lo W.heap.size b /\ ∀ i j,i<l.length->j<5->W.cell? ⟨b,o+i*5+j,none⟩=some (E i j))/\JV.bulkL l<=Rows.uptoBulk y3.1:=by
    rcases open_slice Tryz.underlying27 g3 with ⟨h0,rfl⟩ | ⟨a,len,cap,m',n',D,Pl,hcs,_,hl,hcap,hm',rfl,hi⟩
    ·exact ⟨none,0,[],λ_ _=>.int .i64 0,by simpa using h0,by simp,λi h=>absurd h (by simp),λh=>absurd h (by simp),by simp [JV.bulkL]⟩
    ·simp only [Rows.uptoBulk] at hb;obtain ⟨l,h1,h2,h3⟩:=pick_l (P:=λi u=>∃ cs',W.cells? 0 (a.add (i*5)) 5=some cs'/\InV W (Lo W.heap.size) u (.agg cs'.toArray)) (D:=D) len (λi hil=>by
      obtain ⟨cs',hc,ht⟩:=hi i (by rw [hm'];split <;> omega);rw [o5] at hc;have hmem:Rows.uptoBulk (D i)<=Rows.uptoBulkAll ((List.range len).map D):=bulkAll_mem (List.mem_map.2 ⟨i,List.mem_range.2 hil,rfl⟩);obtain ⟨u,hu,hb2⟩:=ih n' cs' (D i,Pl i) (by omega) (by show Rows.uptoBulk (D i)<=N;omega) ht;exact ⟨u,⟨cs',hc,hu⟩,hb2⟩)
     have hlen2:l.length<=140737488355328:=by
      have:=JV.bulkL_len l;omega
     subst h1;refine ⟨some a,cap,l,λi j=>(W.cell? ⟨a.block,a.off+i*5+j,none⟩).getD (.int .i64 0),by simpa using hcs,hlen2,λi h=>?_,λh0=>?_,?_⟩
     ·obtain ⟨cs',hc,hu⟩:=h2 i h;obtain ⟨_,_,hl5,hcell⟩:=cells_at hc (by omega)
      match cs',hl5 with
      | [e0,e1,e2,e3,e4],_=>
       have w0:=hcell 0 (by omega);have w1:=hcell 1 (by omega);have w2:=hcell 2 (by omega);have w3:=hcell 3 (by omega);have w4:=hcell 4 (by omega);simp only [w0,w1,w2,w3,w4];exact hu
     ·obtain ⟨cs',hc,_⟩:=h2 0 h0;obtain ⟨hsp,hlt,_,_⟩:=cells_at hc (by omega);refine ⟨a.block,a.off,by have hsp:=hsp rfl;cases a;simp at hsp;subst hsp;rfl,hlt,λi j hi hj=>?_⟩;obtain ⟨cs',hc,_⟩:=h2 i hi;obtain ⟨_,_,hl5,hcell⟩:=cells_at hc (by omega);show _=some ((W.cell? _).getD _);rw [hcell j hj,List.getElem?_eq_getElem (by omega)];rfl
     ·show _<=Rows.uptoBulk (DataW.slice _ _);simp only [Rows.uptoBulk];omega
   have hM:∃ (A:Option Addr) (c:Nat) (l:List (List UInt8 × JV)) (E:Nat->Nat->Value),c4=.slice A l.length c/\l.length<=140737488355328/\(∀ i (h:i<l.length),InV W (Lo W.heap.size) l[i].2 (.agg #[E i 1,E i 2,E i 3,E i 4,E i 5])) /\
     (0<l.length -> ∃ b o,A=some ⟨b,o,none⟩/\Lo W.heap.size b /\ ∀ i (hi:i<l.length),E i 0=.string ⟨l[i].1.toArray⟩/\l[i].1.length<=140737488355328 /\ ∀ j,j<6->W.cell? ⟨b,o+i*6+j,none⟩=some (E i j))/\JV.bulkM l<=Rows.uptoBulk y4.1:=by
    rcases open_slice Tryz.underlying24 g4 with ⟨h0,rfl⟩ | ⟨a,len,cap,m',n',D,Pl,hcs,_,hl,hcap,hm',rfl,hi⟩
    ·exact ⟨none,0,[],λ_ _=>.int .i64 0,by simpa using h0,by simp,λi h=>absurd h (by simp),λh=>absurd h (by simp),by simp [JV.bulkM]⟩
    ·simp only [Rows.uptoBulk] at hb;obtain ⟨l,h1,h2,h3⟩:=pick_m (P:=λi u=>∃ cs':List Value,W.cells? 0 (a.add (i*6)) 6=some (.string ⟨u.1.toArray⟩::cs')/\u.1.length<=140737488355328/\InV W (Lo W.heap.size) u.2 (.agg cs'.toArray)) (D:=D) len (λi hil=>by
      obtain ⟨cs',hc,ht⟩:=hi i (by rw [hm'];split <;> omega);rw [o6] at hc;have hmem:Rows.uptoBulk (D i)<=Rows.uptoBulkAll ((List.range len).map D):=bulkAll_mem (List.mem_map.2 ⟨i,List.mem_range.2 hil,rfl⟩);obtain ⟨zs,n2,_,hz,hzl,hzs,hzg⟩:=DataW.trod_struct Tryz.underlying44 ht;rw [o6] at hzl
      match cs',hzl with
      | [e0,e1,e2,e3,e4,e5],_=>
      match zs,hzs with
      | [z0,z1],_=>
       simp only [Prod.mk.injEq] at hz;have q0:DataW.trod enc Tryz.prog W 0 (λ_=>true) true n2 9 [e0]=some z0:=by simpa [o2] using hzg 0 _ rfl
       have q1:DataW.trod enc Tryz.prog W 0 (λ_=>true) true n2 29 [e1,e2,e3,e4,e5]=some z1:=by simpa [o5] using hzg 1 _ rfl
       obtain ⟨nm,hnm,rfl,wn⟩:=DataW.trod_string Tryz.underlying9 q0;obtain rfl:e0=.string nm:=by simpa using hnm
       have hD:Rows.uptoBulk (D i)=1+(nm.data.toList.length+1)+Rows.uptoBulk z1.1:=by
        rw [hz.1];simp only [List.map_cons,List.map_nil,Rows.uptoBulk,Rows.uptoBulkAll];omega
       obtain ⟨u,hu,hb2⟩:=ih n2 _ z1 (by omega) (by omega) q1;refine ⟨(nm.data.toList,u),⟨_,by simpa using hc,?_,hu⟩,?_⟩
       ·show nm.data.toList.length<=_;omega
       ·show 1+nm.data.toList.length+JV.bulk u<=_;omega)
     have hlen2:l.length<=140737488355328:=by
      have:=JV.bulkM_len l;omega
     subst h1;refine ⟨some a,cap,l,λi j=>(W.cell? ⟨a.block,a.off+i*6+j,none⟩).getD (.int .i64 0),by simpa using hcs,hlen2,λi h=>?_,λh0=>?_,?_⟩
     ·obtain ⟨cs',hc,_,hu⟩:=h2 i h;obtain ⟨_,_,hl5,hcell⟩:=cells_at hc (by omega)
      match cs',hl5 with
      | [e0,e1,e2,e3,e4],_=>
       have w1:=hcell 1 (by omega);have w2:=hcell 2 (by omega);have w3:=hcell 3 (by omega);have w4:=hcell 4 (by omega);have w5:=hcell 5 (by omega);simp only [w1,w2,w3,w4,w5];exact hu
     ·obtain ⟨cs',hc,_⟩:=h2 0 h0;obtain ⟨hsp,hlt,_,_⟩:=cells_at hc (by omega);refine ⟨a.block,a.off,by have hsp:=hsp rfl;cases a;simp at hsp;subst hsp;rfl,hlt,λi hi=>?_⟩;obtain ⟨cs',hc,hn,_⟩:=h2 i hi;obtain ⟨_,_,hl5,hcell⟩:=cells_at hc (by omega);refine ⟨?_,hn,λj hj=>?_⟩
      ·show (W.cell? _).getD _=_;rw [hcell 0 (by omega)];rfl
      ·show _=some ((W.cell? _).getD _);rw [hcell j hj,List.getElem?_eq_getElem (by omega)];rfl
     ·show _<=Rows.uptoBulk (DataW.slice _ _);simp only [Rows.uptoBulk];omega
   obtain ⟨A,c,l,E,rfl,hl63,hl,cl,hbl⟩:=hL;obtain ⟨A',c',mm,F,rfl,hm63,hmm,cm,hbm⟩:=hM;have ek:=(Go.Lit.wf_int_iff .i64 k).1 wk;have em:=(Go.Lit.wf_int_iff .i64 m).1 wm;simp only [IntKind.min,IntKind.max] at ek em;have hss:s=⟨s.data.toList.toArray⟩:=by simp
   refine ⟨.mk k m s.data.toList l mm,?_,?_⟩
   ·have:=InV.mk (w:=W) (S:=Lo W.heap.size) k m s.data.toList l mm A A' c c' E F em.1 em.2 ek.1 ek.2 (by omega) hl63 hm63 hl cl hmm cm;rw [<- hss] at this;exact this
   ·rw [JV.bulk_mk];omega
end
/- Arguments that are slices of calls, of members: opened. -/
open Go.ChangeShapes Go.WideShapes Go.Deep Go.RowKit

def Pt.bulkC:List CallV->Nat
 | []=>0
 | c::r=>3+c.1.1.length+JV.bulk c.1.2+c.2.length+Pt.bulkC r
theorem Pt.bulkC_app (a b:List CallV):Pt.bulkC (a++b)=Pt.bulkC a+Pt.bulkC b:=by
 induction a with
 | nil=>simp [Pt.bulkC]
 | cons d a ih=>simp only [List.cons_append,Pt.bulkC,ih];omega
theorem Pt.bulkC_len (l:List CallV):l.length<=Pt.bulkC l:=by
 induction l with
 | nil=>simp
 | cons q r ih=>simp only [Pt.bulkC,List.length_cons];omega
theorem Pt.bulkC_mem {q:CallV}:∀ {l:List CallV},q∈l->q.1.1.length+JV.bulk q.1.2+q.2.length<=Pt.bulkC l
 | [],h=>by cases h
 | e::l,h=>by
  rw [Pt.bulkC];rcases List.mem_cons.1 h with rfl | h
  ·omega
  ·have:=Pt.bulkC_mem h;omega
theorem Pt.bulkM_mem {q:List UInt8 × JV}:∀ {l:List (List UInt8 × JV)},q∈l->q.1.length+JV.bulk q.2<=JV.bulkM l
 | [],h=>by cases h
 | e::l,h=>by
  rw [JV.bulkM_cons];rcases List.mem_cons.1 h with rfl | h
  ·omega
  ·have:=Pt.bulkM_mem h;omega

section
variable {H:Type} {enc:TypeId × Value->H} {W:World}
theorem pick_c {P:Nat->CallV->Prop} {D:Nat->DataW H}:∀ n,(∀ i,i<n -> ∃ u,P i u/\Pt.bulkC [u]<=Rows.uptoBulk (D i)) ->
  ∃ l:List CallV,l.length=n/\(∀ i (h:i<l.length),P i l[i])/\Pt.bulkC l<=Rows.uptoBulkAll ((List.range n).map D)
 | 0,_=>⟨[],rfl,λi h=>absurd h (by simp),by simp [Pt.bulkC]⟩
 | n+1,h=>by
  obtain ⟨l,h1,h2,h3⟩:=pick_c n (λi hi=>h i (by omega));obtain ⟨u,hu,hb⟩:=h n (by omega);refine ⟨l++[u],by simp [h1],λi hi=>?_,?_⟩
  ·by_cases hil:i<l.length
   ·rw [List.getElem_append_left hil];exact h2 i hil
   ·have:i=l.length:=by simp at hi;omega
    subst this;simp only [List.getElem_concat_length];rw [h1];exact hu
  ·rw [Pt.bulkC_app,List.range_succ,List.map_append,bulkAll_app];simp only [List.map_cons,List.map_nil,Rows.uptoBulkAll];omega
theorem five_of {S:Nat->Prop} {u:JV} {e0 e1 e2 e3 e4:Value} (h:InV W S u (.agg #[e0,e1,e2,e3,e4])):∃ C f C' f',e0=.int .i64 u.kd/\e1=.int .i64 u.nm/\e2=.string ⟨u.tx.toArray⟩/\e3=.slice C u.ls.length f/\e4=.slice C' u.ms.length f'/\InV W S u (vA u C f C' f'):=by
 obtain ⟨C,f,C',f',hX⟩:=h.shape;obtain ⟨rfl,rfl,rfl,rfl,rfl⟩:=five hX;exact ⟨C,f,C',f',rfl,rfl,rfl,rfl,rfl,h⟩
theorem open_ms_aux (fuel:Nat) (c4:Value) (y4:DataW H × List MemPlace) (hb:Rows.uptoBulk y4.1<=1048576) (g4:DataW.trod enc Tryz.prog W 0 (λ_=>true) true fuel 24 [c4]=some y4):
  ∃ A l c,c4=.slice A l.length c/\MsC W (Lo W.heap.size) A l/\JV.bulkM l<=Rows.uptoBulk y4.1:=by
 have o2:Tryz.prog.cellsOf 9=1:=by kernel_rfl
 have o5:Tryz.prog.cellsOf 29=5:=by kernel_rfl
 have o6:Tryz.prog.cellsOf 44=6:=by kernel_rfl
 rcases open_slice Tryz.underlying24 g4 with ⟨h0,rfl⟩ | ⟨a,len,cap,m',n',D,Pl,hcs,_,hl,hcap,hm',rfl,hi⟩
 ·exact ⟨none,[],0,by simpa using h0,λi h=>absurd h (by simp),by simp [JV.bulkM]⟩
 ·simp only [Rows.uptoBulk] at hb;obtain ⟨l,h1,h2,h3⟩:=pick_m (P:=λi u=>∃ cs':List Value,W.cells? 0 (a.add (i*6)) 6=some (.string ⟨u.1.toArray⟩::cs')/\u.1.length<=140737488355328/\InV W (Lo W.heap.size) u.2 (.agg cs'.toArray)) (D:=D) len (λi hil=>by
   obtain ⟨cs',hc,ht⟩:=hi i (by rw [hm'];split <;> omega);rw [o6] at hc;have hmem:Rows.uptoBulk (D i)<=Rows.uptoBulkAll ((List.range len).map D):=bulkAll_mem (List.mem_map.2 ⟨i,List.mem_range.2 hil,rfl⟩);obtain ⟨zs,n2,_,hz,hzl,hzs,hzg⟩:=DataW.trod_struct Tryz.underlying44 ht;rw [o6] at hzl
   match cs',hzl with
   | [e0,e1,e2,e3,e4,e5],_=>
   match zs,hzs with
   | [z0,z1],_=>
    simp only [Prod.mk.injEq] at hz;have q0:DataW.trod enc Tryz.prog W 0 (λ_=>true) true n2 9 [e0]=some z0:=by simpa [o2] using hzg 0 _ rfl
    have q1:DataW.trod enc Tryz.prog W 0 (λ_=>true) true n2 29 [e1,e2,e3,e4,e5]=some z1:=by simpa [o5] using hzg 1 _ rfl
    obtain ⟨nm,hnm,rfl,wn⟩:=DataW.trod_string Tryz.underlying9 q0;obtain rfl:e0=.string nm:=by simpa using hnm
    have hD:Rows.uptoBulk (D i)=1+(nm.data.toList.length+1)+Rows.uptoBulk z1.1:=by
     rw [hz.1];simp only [List.map_cons,List.map_nil,Rows.uptoBulk,Rows.uptoBulkAll];omega
    obtain ⟨u,hu,hb2⟩:=open_v_aux _ n2 _ z1 (by omega) (lR _) q1;refine ⟨(nm.data.toList,u),⟨_,by simpa using hc,?_,hu⟩,?_⟩
    ·show nm.data.toList.length<=_;omega
    ·show 1+nm.data.toList.length+JV.bulk u<=_;omega)
  subst h1;refine ⟨some a,l,cap,by simpa using hcs,λi hil=>?_,?_⟩
  ·obtain ⟨ct,hc0,_⟩:=h2 0 (by omega);obtain ⟨hsp,hlt,_,_⟩:=cells_at hc0 (by omega);obtain ⟨cs',hc,hn,hu⟩:=h2 i hil;obtain ⟨_,_,hl5,hcell⟩:=cells_at hc (by omega)
   match cs',hl5 with
   | [e0,e1,e2,e3,e4],_=>
    obtain ⟨C,f,C',f',rfl,rfl,rfl,rfl,rfl,hu⟩:=five_of hu;have hsp:=hsp rfl;obtain ⟨b,o,sp⟩:=a;simp only at hsp;subst hsp;exact ⟨b,o,C,f,C',f',rfl,hlt,hn,hcell 0 (by omega),⟨hcell 1 (by omega),hcell 2 (by omega),hcell 3 (by omega),hcell 4 (by omega),hcell 5 (by omega)⟩,hu⟩
  ·show _<=Rows.uptoBulk (DataW.slice _ _);simp only [Rows.uptoBulk];omega
theorem open_ms {r:Reach} {b0:Nat} {v:Value} {d:DataW H} {p:List MemPlace} (hK:Rows.uptoBulk d<=1048576) (hv:Value.okWide Tryz.prog W r b0 24 v) (h:DataW.Trod enc Tryz.prog W 0 (λ_=>true) true 24 v d p):
  ∃ A m c,v=.slice A m.length c/\MsC W (Lo W.heap.size) A m/\JV.bulkM m<=1048576:=by
 obtain ⟨a,len,cap,rfl⟩:=okWide_slice Tryz.underlying24 hv;obtain ⟨fuel,hf⟩:=h;have hf:DataW.trod enc Tryz.prog W 0 (λ_=>true) true fuel 24 [.slice a len cap]=some (d,p):=by simpa [Value.cells] using hf
 obtain ⟨A,m,c,e,h1,h2⟩:=open_ms_aux fuel _ (d,p) hK hf;have h2:JV.bulkM m<=Rows.uptoBulk d:=h2;exact ⟨A,m,c,e,h1,by omega⟩
theorem open_cs_aux (fuel:Nat) (c4:Value) (y4:DataW H × List MemPlace) (hb:Rows.uptoBulk y4.1<=1048576) (g4:DataW.trod enc Tryz.prog W 0 (λ_=>true) true fuel 23 [c4]=some y4):
  ∃ A l c,c4=.slice A l.length c/\CsR W A l/\Pt.bulkC l<=Rows.uptoBulk y4.1:=by
 have o2:Tryz.prog.cellsOf 9=1:=by kernel_rfl
 have o5:Tryz.prog.cellsOf 29=5:=by kernel_rfl
 have o7:Tryz.prog.cellsOf 50=7:=by kernel_rfl
 rcases open_slice Tryz.underlying23 g4 with ⟨h0,rfl⟩ | ⟨a,len,cap,m',n',D,Pl,hcs,_,hl,hcap,hm',rfl,hi⟩
 ·exact ⟨none,[],0,by simpa using h0,λi h=>absurd h (by simp),by simp [Pt.bulkC]⟩
 ·simp only [Rows.uptoBulk] at hb;obtain ⟨l,h1,h2,h3⟩:=pick_c (P:=λi u=>∃ e1 e2 e3 e4 e5:Value,W.cells? 0 (a.add (i*7)) 7=some [.string ⟨u.1.1.toArray⟩,e1,e2,e3,e4,e5,.string ⟨u.2.toArray⟩]/\InV W (Lo W.heap.size) u.1.2 (.agg #[e1,e2,e3,e4,e5])) (D:=D) len (λi hil=>by
   obtain ⟨cs',hc,ht⟩:=hi i (by rw [hm'];split <;> omega);rw [o7] at hc;have hmem:Rows.uptoBulk (D i)<=Rows.uptoBulkAll ((List.range len).map D):=bulkAll_mem (List.mem_map.2 ⟨i,List.mem_range.2 hil,rfl⟩);obtain ⟨zs,n2,_,hz,hzl,hzs,hzg⟩:=DataW.trod_struct Tryz.underlying50 ht;rw [o7] at hzl
   match cs',hzl with
   | [e0,e1,e2,e3,e4,e5,e6],_=>
   match zs,hzs with
   | [z0,z1,z2],_=>
    simp only [Prod.mk.injEq] at hz;have q0:DataW.trod enc Tryz.prog W 0 (λ_=>true) true n2 9 [e0]=some z0:=by simpa [o2] using hzg 0 _ rfl
    have q1:DataW.trod enc Tryz.prog W 0 (λ_=>true) true n2 29 [e1,e2,e3,e4,e5]=some z1:=by simpa [o5] using hzg 1 _ rfl
    have q2:DataW.trod enc Tryz.prog W 0 (λ_=>true) true n2 9 [e6]=some z2:=by simpa [o2] using hzg 2 _ rfl
    obtain ⟨nm,hnm,rfl,wn⟩:=DataW.trod_string Tryz.underlying9 q0;obtain ⟨id,hid,rfl,wi⟩:=DataW.trod_string Tryz.underlying9 q2;obtain rfl:e0=.string nm:=by simpa using hnm
    obtain rfl:e6=.string id:=by simpa using hid
    have hD:Rows.uptoBulk (D i)=1+(nm.data.toList.length+1)+Rows.uptoBulk z1.1+(id.data.toList.length+1):=by
     rw [hz.1];simp only [List.map_cons,List.map_nil,Rows.uptoBulk,Rows.uptoBulkAll];omega
    obtain ⟨u,hu,hb2⟩:=open_v_aux _ n2 _ z1 (by omega) (lR _) q1;refine ⟨((nm.data.toList,u),id.data.toList),⟨e1,e2,e3,e4,e5,by simpa using hc,hu⟩,?_⟩;show 3+nm.data.toList.length+JV.bulk u+id.data.toList.length+0<=_;omega)
  subst h1;refine ⟨some a,l,cap,by simpa using hcs,λi hil=>?_,?_⟩
  ·obtain ⟨_,_,_,_,_,hc0,_⟩:=h2 0 (by omega);obtain ⟨hsp,hlt,_,_⟩:=cells_at hc0 (by omega);obtain ⟨e1,e2,e3,e4,e5,hc,hu⟩:=h2 i hil;obtain ⟨_,_,hl5,hcell⟩:=cells_at hc (by omega);obtain ⟨C,f,C',f',rfl,rfl,rfl,rfl,rfl,hu⟩:=five_of hu;have hsp:=hsp rfl;obtain ⟨b,o,sp⟩:=a;simp only at hsp;subst hsp;exact ⟨b,o,C,f,C',f',rfl,hlt,hcell 0 (by omega),⟨hcell 1 (by omega),hcell 2 (by omega),hcell 3 (by omega),hcell 4 (by omega),hcell 5 (by omega)⟩,hcell 6 (by omega),hu⟩
  ·show _<=Rows.uptoBulk (DataW.slice _ _);simp only [Rows.uptoBulk];omega
theorem open_cs {r:Reach} {b0:Nat} {v:Value} {d:DataW H} {p:List MemPlace} (hK:Rows.uptoBulk d<=1048576) (hv:Value.okWide Tryz.prog W r b0 23 v) (h:DataW.Trod enc Tryz.prog W 0 (λ_=>true) true 23 v d p):
  ∃ A l c,v=.slice A l.length c/\CsR W A l/\Pt.bulkC l<=1048576:=by
 obtain ⟨a,len,cap,rfl⟩:=okWide_slice Tryz.underlying23 hv;obtain ⟨fuel,hf⟩:=h;have hf:DataW.trod enc Tryz.prog W 0 (λ_=>true) true fuel 23 [.slice a len cap]=some (d,p):=by simpa [Value.cells] using hf
 obtain ⟨A,m,c,e,h1,h2⟩:=open_cs_aux fuel _ (d,p) hK hf;have h2:Pt.bulkC m<=Rows.uptoBulk d:=h2;exact ⟨A,m,c,e,h1,by omega⟩
end
/- The walks of the document's Own, Count (cardboxref07). -/

theorem own7_is (v:JV):∀ (x:Value) (w:World),InV w (Lo w.heap.size) v x->Calls Tryz.prog 58 #[x] w λe w'=>(∃ b:Bool,e=.returned (.bool b))/\Fr w w':=by
 induction v using JV.ind with
 | h k n s l m ihl ihm=>
  intro x w hv;obtain ⟨A,c0,A',c0',rfl,hls,hms⟩:=hv.open_;obtain ⟨_,_,_,hl63,hm63⟩:=hv.facts;have hl63:l.length<=140737488355328:=hl63;have hm63:m.length<=140737488355328:=hm63;have HLS:=LH hls;have HMS:=LH hms;have HIHL:=LH ihl;have HIHM:=LH ihm;have hl63':(l.length:Int)<=140737488355328:=by omega
  have hm63':(m.length:Int)<=140737488355328:=by omega
  obtain ⟨L,hL⟩:∃ L,l.length=L:=⟨_,rfl⟩;obtain ⟨M,hM⟩:∃ M,m.length=M:=⟨_,rfl⟩;rw [hL] at hl63';rw [hM] at hm63';have HL:=LH hL;have HM:=LH hM;show Calls Tryz.prog _ #[.agg #[.int .i64 k,.int .i64 n,.string ⟨s.toArray⟩,.slice A l.length c0,.slice A' m.length c0']] _ _;rw [hL,hM];have hgo:∀ wr:World,Hid (Fr (w.alloc (.cells #[.int .i64 k,.int .i64 n,.string ⟨s.toArray⟩,.slice A L c0,.slice A' M c0'] 29)) wr)->wr.cell? ⟨w.heap.size,3,none⟩=some (.slice A L c0)/\wr.cell? ⟨w.heap.size,4,none⟩=some (.slice A' M c0'):=λwr hf=>
   ⟨((Blk.made w #[.int .i64 k,.int .i64 n,.string ⟨s.toArray⟩,.slice A L c0,.slice A' M c0'] 29).keep hf.out).cell 3,((Blk.made w #[.int .i64 k,.int .i64 n,.string ⟨s.toArray⟩,.slice A L c0,.slice A' M c0'] 29).keep hf.out).cell 4⟩
  have HGO:=LH hgo;have top:(k≠5/\0<L)\/(k=5/\0<M)\/(k≠5/\L=0/\k≠6/\0<M)\/((k=5\/L=0)/\(k=6\/M=0)):=by omega
  clear hls hms ihl ihm hl63 hm63 hL hM hv hgo;rcases top with ⟨h1,h2⟩ | ⟨h1,h2⟩ | ⟨h1,h2,h3,h4⟩ | top
  ·obtain ⟨q1,q2⟩:=ikind h1;have h2':(0:Int)<(L:Int):=by omega
   have d2:decide ((0:Int)<(L:Int))=true:=dT h2';clear h1;go_enter Tryz.func58,Tryz.ntmps58
   go_wp2_with fail
   go_ret
   exact ⟨⟨_,rfl⟩,(FR w).alloc _⟩
  ·subst h1;have h2':(0:Int)<(M:Int):=by omega
   have d2:decide ((0:Int)<(M:Int))=true:=dT h2';go_enter Tryz.func58,Tryz.ntmps58
   go_wp2_with fail
   go_ret
   exact ⟨⟨_,rfl⟩,(FR w).alloc _⟩
  ·obtain ⟨q1,q2⟩:=ikind h1;obtain ⟨q3,q4⟩:=ikind h3;subst h2;have h2':(0:Int)<(M:Int):=by omega
   have d2:decide ((0:Int)<(M:Int))=true:=dT h2';clear h1 h3;go_enter Tryz.func58,Tryz.ntmps58
   go_wp2_with fail
   go_ret
   exact ⟨⟨_,rfl⟩,(FR w).alloc _⟩
  ·have four:(((k != 5)=false/\((k != 6)=true /\ ¬ ((0:Int)<(M:Int)) /\ ¬ (0<M)))\/((k != 5)=true/\(¬ ((0:Int)<(L:Int)) /\ ¬ (0<L))/\(k != 6)=false))\/((k != 5)=true/\(¬ ((0:Int)<(L:Int)) /\ ¬ (0<L))/\((k != 6)=true /\ ¬ ((0:Int)<(M:Int)) /\ ¬ (0<M))):=by
    by_cases h5:k=5
    ·subst h5;refine .inl (.inl ⟨by decide,by decide,?_,?_⟩) <;> omega
    ·by_cases h6:k=6
     ·subst h6;refine .inl (.inr ⟨by decide,⟨?_,?_⟩,by decide⟩) <;> omega
     ·refine .inr ⟨(ikind h5).2,⟨?_,?_⟩,(ikind h6).2,?_,?_⟩ <;> omega
   clear top;rcases four with (⟨q1,q2,q3,q4⟩ | ⟨q1,⟨q2,q3⟩,q4⟩) | ⟨q1,⟨q2,q3⟩,q4,q5,q6⟩;all_goals
    go_enter Tryz.func58,Tryz.ntmps58
    go_wp2_with fail
    go_loopw [3] (λj wr=>∃ (i:Nat),i<=L/\j=.int .i64 i/\Hid (Fr (w.alloc (.cells #[.int .i64 k,.int .i64 n,.string ⟨s.toArray⟩,.slice A L c0,.slice A' M c0'] 29)) wr)) (λj _=>L - (intOf j).toNat)
    case atStart=>exact ⟨0,by omega,rfl,LH (FR _)⟩
    case round=>
     obtain ⟨i,hi,rfl,hF⟩:=hrel;obtain ⟨y3,y4⟩:=HGO.out wr hF;by_cases h:i<L
     ·try (exact absurd h (by omega))
      all_goals
       have hil:i<l.length:=by have:=HL.out;omega
       obtain ⟨b,o,B,dd,B',dd',rfl,hb,⟨e1,e2,e3,e4,e5⟩,hiv⟩:=(show LsC wr (Lo w.heap.size) A l from HLS.out.keep (lR _) (((FR w).alloc _).trans hF.out)) i hil;have hih:=HIHL.out l[i] (List.getElem_mem hil);obtain ⟨u,hu⟩:∃ u,l[i]=u:=⟨_,rfl⟩;rw [hu] at e1 e2 e3 e4 e5 hiv hih;clear hu;have HCT:=LH (hih _ wr (hiv.lo (lT (by simp) (Fr.size hF.out))));have h':(i:Int)<(L:Int):=by omega
       clear hih hiv;go_wp2_with (go_at_call 58;refine HCT.out.mono ?_;rintro e w2 ⟨⟨b2,rfl⟩,hf⟩;have HF2:=LH (Fr.trans hF.out hf);clear hf;cases b2)
       all_goals first
        | exact ⟨⟨i+1,by omega,by go_num,HF2⟩,by simp [intOf];omega⟩
        | (go_ret;exact ⟨⟨_,rfl⟩,((FR w).alloc _).trans HF2.out⟩)
     ·go_wp2_with fail
      go_loopw [4] (λj wr=>∃ (i:Nat),i<=M/\j=.int .i64 i/\Hid (Fr (w.alloc (.cells #[.int .i64 k,.int .i64 n,.string ⟨s.toArray⟩,.slice A L c0,.slice A' M c0'] 29)) wr)) (λj _=>M - (intOf j).toNat)
      case atStart=>exact ⟨0,by omega,rfl,hF⟩
      case round=>
       obtain ⟨i,hi,rfl,hF⟩:=hrel;obtain ⟨y3,y4⟩:=HGO.out wr hF;by_cases h:i<M
       ·try (exact absurd h (by omega))
        all_goals
         have hil:i<m.length:=by have:=HM.out;omega
         obtain ⟨b,o,B,dd,B',dd',rfl,hb,hnl,e0,⟨e1,e2,e3,e4,e5⟩,hiv⟩:=(show MsC wr (Lo w.heap.size) A' m from HMS.out.keep (lR _) (((FR w).alloc _).trans hF.out)) i hil;have hih:=HIHM.out m[i] (List.getElem_mem hil);obtain ⟨u,hu⟩:∃ u,m[i].2=u:=⟨_,rfl⟩;rw [hu] at e1 e2 e3 e4 e5 hiv hih;clear hu;have HCT:=LH (hih _ wr (hiv.lo (lT (by simp) (Fr.size hF.out))));have h':(i:Int)<(M:Int):=by omega
         clear hih hiv;go_wp2_with (go_at_call 58;refine HCT.out.mono ?_;rintro e w2 ⟨⟨b2,rfl⟩,hf⟩;have HF2:=LH (Fr.trans hF.out hf);clear hf;cases b2)
         all_goals first
          | exact ⟨⟨i+1,by omega,by go_num,HF2⟩,by simp [intOf];omega⟩
          | (go_ret;exact ⟨⟨_,rfl⟩,((FR w).alloc _).trans HF2.out⟩)
       ·go_wp2_with fail
        go_ret
        exact ⟨⟨_,rfl⟩,((FR w).alloc _).trans hF.out⟩

def C7At (v:JV) (x:Value) (w:World):Prop:=∀ most:Int,0<=most->most<=9000000000000000000->Calls Tryz.prog 57 #[x,.int .i64 most] w λe w'=>(∃ z:Int,e=.returned (.int .i64 z)/\1<=z/\z<=(Rd.nv v:Nat))/\Fr w w'

theorem count7_is (v:JV):∀ (x:Value) (w:World),InV w (Lo w.heap.size) v x->Rd.nv v<=1048576->C7At v x w:=by
 induction v using JV.ind with
 | h k n s l m ihl ihm=>
  intro x w hv hn most hm0 hm1;obtain ⟨A,c0,A',c0',rfl,hls,hms⟩:=hv.open_;obtain ⟨_,_,_,hl63,hm63⟩:=hv.facts;have hl63:l.length<=140737488355328:=hl63;have hm63:m.length<=140737488355328:=hm63;rw [Rd.nv_mk] at hn ⊢;have HN:=LH hn;have HLS:=LH hls;have HMS:=LH hms;have HIHL:=LH ihl;have HIHM:=LH ihm;have hl63':(l.length:Int)<=140737488355328:=by omega
  have hm63':(m.length:Int)<=140737488355328:=by omega
  obtain ⟨L,hL⟩:∃ L,l.length=L:=⟨_,rfl⟩;obtain ⟨M,hM⟩:∃ M,m.length=M:=⟨_,rfl⟩;rw [hL] at hl63';rw [hM] at hm63';have HL:=LH hL;have HM:=LH hM;show Calls Tryz.prog _ #[.agg #[.int .i64 k,.int .i64 n,.string ⟨s.toArray⟩,.slice A l.length c0,.slice A' m.length c0'],_] _ _;rw [hL,hM];have hgo:∀ wr:World,Hid (Fr (w.alloc (.cells #[.int .i64 k,.int .i64 n,.string ⟨s.toArray⟩,.slice A L c0,.slice A' M c0'] 29)) wr)->wr.cell? ⟨w.heap.size,3,none⟩=some (.slice A L c0)/\wr.cell? ⟨w.heap.size,4,none⟩=some (.slice A' M c0'):=λwr hf=>
   ⟨((Blk.made w #[.int .i64 k,.int .i64 n,.string ⟨s.toArray⟩,.slice A L c0,.slice A' M c0'] 29).keep hf.out).cell 3,((Blk.made w #[.int .i64 k,.int .i64 n,.string ⟨s.toArray⟩,.slice A L c0,.slice A' M c0'] 29).keep hf.out).cell 4⟩
  have HGO:=LH hgo;clear hls hms ihl ihm hl63 hm63 hL hM hv hgo hn;go_enter Tryz.func57,Tryz.ntmps57
  go_wp2_with fail
  go_loopw [5,6] (λa j wr=>∃ (i:Nat) (z:Int),i<=L/\j=.int .i64 i/\a=.int .i64 z/\1<=z/\z<=1048576/\Hid (z<=((1+Rd.nvL (l.take i):Nat):Int))/\Hid (Fr (w.alloc (.cells #[.int .i64 k,.int .i64 n,.string ⟨s.toArray⟩,.slice A L c0,.slice A' M c0'] 29)) wr)) (λ_ j _=>L - (intOf j).toNat)
  case atStart=>exact ⟨0,1,by omega,rfl,rfl,by omega,by omega,LH (by omega),LH (FR _)⟩
  case round=>
   obtain ⟨i,z,hi,rfl,rfl,hz1,hz2,hz,hF⟩:=hrel;obtain ⟨y3,y4⟩:=HGO.out wr hF;have fin:Hid (z<=((1+Rd.nvL l:Nat):Int)):=by
    have:=Rd.nvL_take_le l i;have:=hz.out;show _<=_;omega
   have alt:(i<L/\z<=most)\/(i<L /\ ¬ z<=most) \/ ¬ i<L:=by omega
   rcases alt with ⟨h,hzm⟩ | alt
   ·have hil:i<l.length:=by have:=HL.out;omega
    obtain ⟨b,o,B,dd,B',dd',rfl,hb,⟨e1,e2,e3,e4,e5⟩,hiv⟩:=(show LsC wr (Lo w.heap.size) A l from HLS.out.keep (lR _) (((FR w).alloc _).trans hF.out)) i hil;have hih:=HIHL.out l[i] (List.getElem_mem hil);have hnt:=Rd.nvL_take hil;have hnm:=Rd.nvL_mem (List.getElem_mem hil);have hnl:=Rd.nvL_take_le l (i+1);obtain ⟨u,hu⟩:∃ u,l[i]=u:=⟨_,rfl⟩;rw [hu] at e1 e2 e3 e4 e5 hiv hih hnt hnm;clear hu;have HCT:=LH (hih _ wr (hiv.lo (lT (by simp) (Fr.size hF.out))) (by have:=HN.out;omega));have HNT:Hid (∀ y:Int,y<=(Rd.nv u:Nat)->z+y<=1048576/\z+y<=((1+Rd.nvL (l.take (i+1)):Nat):Int)):=λy hy=>by
     have:=hz.out;have:=HN.out;constructor <;> omega
    have HNU:Hid (Rd.nv u<=1048576):=by have:=HN.out;show _<=_;omega
    have h':(i:Int)<(L:Int):=by omega
    clear hih hiv hnt hnm hnl fin;go_wp2_with (go_at_call 57;refine (HCT.out _ (by omega) (by omega)).mono ?_;rintro e w2 ⟨⟨y,rfl,p1,p2⟩,hf⟩;obtain ⟨p3,p4⟩:=HNT.out y p2;have P4:=LH p4;have HF2:=LH (Fr.trans hF.out hf);clear hf p2 p4)
    exact ⟨⟨i+1,z+y,by omega,by go_num,by go_num,by omega,p3,P4,HF2⟩,by simp [intOf];omega⟩
   ·rcases alt with ⟨h,hzm⟩ | h;all_goals
     clear hz;go_wp2_with fail
     go_loopw [5,7] (λa j wr=>∃ (i:Nat) (z:Int),i<=M/\j=.int .i64 i/\a=.int .i64 z/\1<=z/\z<=1048576/\Hid (z<=((1+Rd.nvL l+Rd.nvM (m.take i):Nat):Int))/\Hid (Fr (w.alloc (.cells #[.int .i64 k,.int .i64 n,.string ⟨s.toArray⟩,.slice A L c0,.slice A' M c0'] 29)) wr)) (λ_ j _=>M - (intOf j).toNat)
     case atStart=>exact ⟨0,z,by omega,rfl,rfl,hz1,hz2,LH (by have:=fin.out;omega),hF⟩
     case round=>
      obtain ⟨i,z,hi,rfl,rfl,hz1,hz2,hz,hF⟩:=hrel;obtain ⟨y3,y4⟩:=HGO.out wr hF;have fin:Hid (z<=((1+Rd.nvL l+Rd.nvM m:Nat):Int)):=by
       have:=Rd.nvM_take_le m i;have:=hz.out;show _<=_;omega
      have alt:(i<M/\z<=most)\/(i<M /\ ¬ z<=most) \/ ¬ i<M:=by omega
      rcases alt with ⟨h,hzm⟩ | ⟨h,hzm⟩ | h
      ·have hil:i<m.length:=by have:=HM.out;omega
       obtain ⟨b,o,B,dd,B',dd',rfl,hb,hnl0,e0,⟨e1,e2,e3,e4,e5⟩,hiv⟩:=(show MsC wr (Lo w.heap.size) A' m from HMS.out.keep (lR _) (((FR w).alloc _).trans hF.out)) i hil;have hih:=HIHM.out m[i] (List.getElem_mem hil);have hnt:=Rd.nvM_take hil;have hnm:=Rd.nvM_mem (List.getElem_mem hil);have hnl:=Rd.nvM_take_le m (i+1);obtain ⟨u,hu⟩:∃ u,m[i].2=u:=⟨_,rfl⟩;rw [hu] at e1 e2 e3 e4 e5 hiv hih hnt hnm;clear hu;have HCT:=LH (hih _ wr (hiv.lo (lT (by simp) (Fr.size hF.out))) (by have:=HN.out;omega));have HNT:Hid (∀ y:Int,y<=(Rd.nv u:Nat)->z+y<=1048576/\z+y<=((1+Rd.nvL l+Rd.nvM (m.take (i+1)):Nat):Int)):=λy hy=>by
        have:=hz.out;have:=HN.out;constructor <;> omega
       have h':(i:Int)<(M:Int):=by omega
       clear hih hiv hnt hnm hnl fin;go_wp2_with (go_at_call 57;refine (HCT.out _ (by omega) (by omega)).mono ?_;rintro e w2 ⟨⟨y,rfl,p1,p2⟩,hf⟩;obtain ⟨p3,p4⟩:=HNT.out y p2;have P4:=LH p4;have HF2:=LH (Fr.trans hF.out hf);clear hf p2 p4)
       exact ⟨⟨i+1,z+y,by omega,by go_num,by go_num,by omega,p3,P4,HF2⟩,by simp [intOf];omega⟩
      all_goals
       go_wp2_with fail
       go_ret
       exact ⟨⟨z,rfl,hz1,fin.out⟩,((FR w).alloc _).trans hF.out⟩
/- The walks of the document's level, deep, Few (cardboxref07). -/

def LvAt (most:Nat):Prop:=∀ (us:List JV) (A:Option Addr) (c:Nat) (w:World) (z:Int),z=(most:Nat)->LsC w (Lo w.heap.size) A us->Rd.nvL us<=1048577 ->
 Calls Tryz.prog 76 #[.slice A us.length c,.int .i64 z] w λe w'=>(∃ b:Bool,e=.returned (.bool b))/\Fr w w'
theorem VsB.lsC {w:World} {Z K:Nat} {A:Option Addr} {c:Nat} {l:List JV} (h:VsB w Z K (.slice A l.length c) l) (h63:l.length<=140737488355328):LsC w (Lo w.heap.size) A l:=by
 have hv:=h.inV h63;obtain ⟨D,g,D',g',he,hls,_⟩:=hv.open_;have hD:A=D:=by obtain ⟨_,_,_,e3,_⟩:=five he;injection e3
 subst hD;exact hls.map (λb hb=>by show b<_;have:=h.1;rcases hb with hb | hb <;> omega) (λ_ _ _=>rfl)
theorem vsb_fr {w a b:World} {Z K:Nat} {v:Value} {l:List JV} (hf:Fr w a) (hv:VsB a Z K v l) (hK:w.heap.size<=K) (hg:a.grownBy b v.ownBlock):Fr w b:=
 Below.grown hf hg hf.size (λk hk=>by have:=(hv.own_lt hk).1;omega)

theorem level_step (most:Nat) (hm:most<=100) (ih:∀ p,p+1=most->LvAt p):LvAt most:=by
 intro us A c w z hz hls hn;subst hz;have hlen:=Pt.nvL_len us;have hl':(us.length:Int)<=1048577:=by omega
 have HLS:=LH hls;have HN:=LH hn;have HIH:=LH ih;have HV0:Hid (VsB w w.heap.size w.heap.size (.slice none 0 0) []):=VsB.none_ w ⟨lR _,lR _⟩;clear hls hn ih hlen;go_enter Tryz.func76,Tryz.ntmps76
 go_wp2_with fail
 go_loopw [5,6] (λnx j wr=>∃ (i:Nat) (acc:List JV),i<=us.length/\j=.int .i64 i/\Hid (VsB wr w.heap.size w.heap.size nx acc)/\Hid (Rd.nvL acc+Rd.nvL (us.drop i)<=1048577)/\Hid (Fr w wr)) (λ_ j _=>us.length - (intOf j).toNat)
 case atStart=>exact ⟨0,[],by omega,rfl,HV0,LH (by rw [List.drop_zero,Rd.nvL_nil];have:=HN.out;omega),LH (FR w)⟩
 case round=>
  obtain ⟨i,acc,hi,rfl,hV,hcnt,hF⟩:=hrel;obtain ⟨sa,sc,rfl⟩:=hV.out.is_slice;by_cases hlt:i<us.length
  ·have hlt':(i:Int)<(us.length:Int):=by omega
   obtain ⟨b,o,C,e,C',e',rfl,hb,⟨c1,c2,c3,c4,c5⟩,hv⟩:=HLS.out i hlt;have hc2:=hcnt.out;rw [List.drop_eq_getElem_cons hlt,Rd.nvL_cons] at hc2;obtain ⟨u,hu⟩:∃ u,us[i]=u:=⟨_,rfl⟩;rw [hu] at c1 c2 c3 c4 c5 hv hc2;obtain ⟨D,g,D',g',he,hls,hms⟩:=hv.open_;obtain ⟨hD,hD'⟩:C=D/\C'=D':=by obtain ⟨_,_,_,e3,e4⟩:=five he;injection e3;injection e4;exact ⟨‹_›,‹_›⟩
   subst hD;subst hD';obtain ⟨_,_,_,hL63,hM63⟩:=hv.facts;have hL63':(u.ls.length:Int)<=140737488355328:=by omega
   have hM63':(u.ms.length:Int)<=140737488355328:=by omega
   have HCE:Hid (∀ W,Fr w W->W.cell? ⟨b,o+i*5+3,none⟩=some (.slice C u.ls.length e)/\W.cell? ⟨b,o+i*5+4,none⟩=some (.slice C' u.ms.length e')):=λW hW=>⟨(hW.cell hb).trans c4,(hW.cell hb).trans c5⟩
   have HLL:Hid (∀ W,Fr w W->LsC W (InB w.heap.size w.heap.size W (.slice sa acc.length sc)) C u.ls):=λW hW=>(hls.keep (lR _) hW).map (λb hb=>.inl hb) (λ_ _ _=>rfl)
   have HMM:Hid (∀ W,Fr w W->MsC W (Lo w.heap.size) C' u.ms):=λW hW=>hms.keep (lR _) hW
   have hnu:=Pt.nv_eq u;have hll:=Pt.nvL_len u.ls;have hal:=Pt.nvL_len acc;have HC2:Hid (Rd.nvL (acc++u.ls)+Rd.nvM u.ms+Rd.nvL (us.drop (i+1))<=1048577):=by
    show _<=_;rw [Rd.nvL_app];omega
   have hk63:(acc.length+u.ls.length)*80<=140737488355328:=by omega
   obtain ⟨x3,x4⟩:=HCE.out wr hF.out;clear hu c1 c2 c3 c4 c5 hv hc2 he hls hms hnu hll hal hcnt hL63 hM63;by_cases hq:20000<u.ls.length+u.ms.length
   ·have q1:(20000:Int)<(u.ls.length:Int)+(u.ms.length:Int):=by omega
    go_wp2_with fail
    go_quiet (fail)
    go_wp2_with fail
    go_ret
    exact ⟨by first | exact ⟨_,rfl⟩ | exact .inl rfl | exact .inr rfl,hF.out.drewN _⟩
   ·have q1:¬ (20000:Int)<(u.ls.length:Int)+(u.ms.length:Int):=by omega
    have q2:(u.ls.length:Int)+(u.ms.length:Int)<=20000:=by omega
    go_wp2_with fail
    go_quiet (fail)
    go_wp2_with (at_builtin;refine wpl_vB rfl (.tmp 28) (.tmp 33) rfl w.heap.size w.heap.size _ acc rfl (hV.out.keep ((FR wr).drewN _)) C e u.ls.length u.ls rfl rfl (HLL.out _ (hF.out.drewN _)) hk63 ?_;intro v4 w4 hv4 hg4;obtain ⟨a4,c4,rfl⟩:=hv4.is_slice2 (n:=u.ls.length) rfl;have HF4:=LH (vsb_fr (hF.out.drewN _) (hV.out.keep ((FR wr).drewN _)) (lR _) hg4);have HV4:=LH hv4;clear hv4 hg4)
    go_loopw [5,7] (λnx j wr=>∃ (t:Nat) (acc2:List JV),t<=u.ms.length/\j=.int .i64 t/\Hid (VsB wr w.heap.size w.heap.size nx acc2)/\Hid (Rd.nvL acc2+Rd.nvM (u.ms.drop t)+Rd.nvL (us.drop (i+1))<=1048577)/\Hid (Fr w wr)) (λ_ j _=>u.ms.length - (intOf j).toNat)
    case atStart=>exact ⟨0,acc++u.ls,by omega,rfl,HV4,LH (by rw [List.drop_zero];exact HC2.out),HF4⟩
    case round=>
     obtain ⟨t,acc2,ht,rfl,hV2,hcnt2,hF2⟩:=hrel;obtain ⟨sa2,sc2,rfl⟩:=hV2.out.is_slice;obtain ⟨z3,z4⟩:=HCE.out wr hF2.out;have hal2:=Pt.nvL_len acc2;have hal3:acc2.length<=1048577:=by have:=hcnt2.out;omega
     have hal4:(acc2.length:Int)<=1048577:=by omega
     by_cases htl:t<u.ms.length
     ·have htl':(t:Int)<(u.ms.length:Int):=by omega
      obtain ⟨b2,o2,B,d,B',d',rfl,hb2,hnl,e0,⟨e1,e2,e3,e4,e5⟩,hiv⟩:=HMM.out _ hF2.out t htl;have hc3:=hcnt2.out;rw [List.drop_eq_getElem_cons htl,Rd.nvM_cons] at hc3;obtain ⟨x,hx⟩:∃ x,u.ms[t].2=x:=⟨_,rfl⟩;rw [hx] at e1 e2 e3 e4 e5 hiv hc3;have HX:Hid (InV wr (InB w.heap.size w.heap.size wr (.slice sa2 acc2.length sc2)) x (vA x B d B' d')):=hiv.more (λb hb=>.inl hb);have HC3:Hid (Rd.nvL (acc2++[x])+Rd.nvM (u.ms.drop (t+1))+Rd.nvL (us.drop (i+1))<=1048577):=by
       show _<=_;rw [Rd.nvL_app,Rd.nvL_cons,Rd.nvL_nil];omega
      have hk64:(acc2.length+1)*80<=140737488355328:=by omega
      clear hx hiv hc3 hcnt2 hal2;go_wp2_with (at_builtin;refine wpl_vB_lit rfl (.tmp 45) (.tmp 55) rfl w.heap.size w.heap.size _ acc2 rfl hV2.out x B d B' d' rfl HX.out rfl (by simp) hk64 ?_;intro v5 w5 hv5 hg5;obtain ⟨a5,c5,rfl⟩:=hv5.is_slice2 (n:=1) rfl;have HF5:=LH (vsb_fr (hF2.out.alloc _) (hV2.out.keep ((FR wr).alloc _)) (lR _) hg5);have HV5:=LH hv5;clear hv5 hg5)
      exact ⟨⟨t+1,acc2++[x],by omega,by go_num,by simpa using HV5,HC3,HF5⟩,by simp [intOf];omega⟩
     ·obtain rfl:u.ms.length=t:=by omega
      by_cases hq2:20000<acc2.length
      ·have q4:(20000:Int)<(acc2.length:Int):=by omega
       go_wp2_with fail
       go_ret
       exact ⟨by first | exact ⟨_,rfl⟩ | exact .inl rfl | exact .inr rfl,hF2.out⟩
      ·have q4:¬ (20000:Int)<(acc2.length:Int):=by omega
       go_wp2_with fail
       exact ⟨⟨i+1,acc2,by omega,by go_num,hV2,LH (by have:=hcnt2.out;rw [List.drop_length,Rd.nvM_nil] at this;omega),hF2⟩,by simp [intOf];omega⟩
  ·obtain rfl:us.length=i:=by omega
   have hcl:=hcnt.out;rw [List.drop_length,Rd.nvL_nil] at hcl;have hal:=Pt.nvL_len acc;have hal4:(acc.length:Int)<=1048577:=by omega
   rcases Nat.eq_zero_or_pos acc.length with h0 | h0
   ·rw [h0] at hV ⊢;go_wp2_with fail
    go_ret
    exact ⟨by first | exact ⟨_,rfl⟩ | exact .inl rfl | exact .inr rfl,hF.out⟩
   ·have q1:((acc.length:Int) == 0)=false:=by rw [beq_eq_false_iff_ne];omega
    cases most with
    | zero=>
     go_wp2_with fail
     go_ret
     exact ⟨by first | exact ⟨_,rfl⟩ | exact .inl rfl | exact .inr rfl,hF.out⟩
    | succ p=>
     have q2:(0:Int)<((p+1:Nat):Int):=by omega
     have q3:((p+1:Nat):Int)<=100:=by omega
     have HCL:Hid (∀ z:Int,z=(p:Nat)->Calls Tryz.prog 76 #[.slice sa acc.length sc,.int .i64 z] wr λe w'=>(∃ b:Bool,e=.returned (.bool b))/\Fr wr w'):=λz hz=>HIH.out p rfl acc sa sc wr z hz (hV.out.lsC (by omega)) (by omega)
     clear hcl hal;go_wp2_with (go_at_call 76;refine (HCL.out _ (by go_num)).mono ?_;rintro e w6 ⟨⟨b6,rfl⟩,hf⟩;have HF6:=LH (hF.out.trans hf);clear hf)
     go_ret
     exact ⟨by first | exact ⟨_,rfl⟩ | exact .inl rfl | exact .inr rfl,HF6.out⟩
theorem level_is (most:Nat) (hm:most<=100):LvAt most:=by
 induction most with
 | zero=>exact level_step 0 hm (λp hp=>absurd hp (by omega))
 | succ p ih=>exact level_step (p+1) hm (λq hq=>by have e:q=p:=(by omega);subst e;exact ih (by omega))

theorem deep_is (v:JV) (B:Option Addr) (d:Nat) (B':Option Addr) (d':Nat) (w:World) (hv:InV w (Lo w.heap.size) v (vA v B d B' d')) (hn:Rd.nv v<=1048576):
  Calls Tryz.prog 56 #[.agg #[.int .i64 v.kd,.int .i64 v.nm,.string ⟨v.tx.toArray⟩,.slice B v.ls.length d,.slice B' v.ms.length d'],.int .i64 100] w λe w'=>(∃ b:Bool,e=.returned (.bool b))/\Fr w w':=by
 obtain ⟨_,_,_,hL63,hM63⟩:=hv.facts;have hL63':(v.ls.length:Int)<=140737488355328:=by omega
 have hM63':(v.ms.length:Int)<=140737488355328:=by omega
 have HL:Hid (∀ W,Fr w W->LsC (W.alloc (.cells #[.int .i64 v.kd,.int .i64 v.nm,.string ⟨v.tx.toArray⟩,.slice B v.ls.length d,.slice B' v.ms.length d'] 29)) (Lo (W.heap.size+1)) (some ⟨W.heap.size,0,none⟩) [v]):=λW hW i hi=>by
  obtain rfl:i=0:=by simp at hi;omega
  have hb:=Blk.made W #[.int .i64 v.kd,.int .i64 v.nm,.string ⟨v.tx.toArray⟩,.slice B v.ls.length d,.slice B' v.ms.length d'] 29;exact ⟨W.heap.size,0,B,d,B',d',rfl,Nat.lt_succ_self _,⟨hb.cell 0,hb.cell 1,hb.cell 2,hb.cell 3,hb.cell 4⟩,((hv.keep (lR _) hW).keep hW.size ((FR W).alloc _)).lo (lT hW.size (Nat.le_succ _))⟩
 have HN:Hid (Rd.nvL [v]<=1048577):=by show _<=_;rw [Rd.nvL_cons,Rd.nvL_nil];omega
 clear hv hn hL63 hM63;have alt:10000<v.ls.length\/(¬ 10000<v.ls.length/\10000<v.ms.length)\/(¬ 10000<v.ls.length /\ ¬ 10000<v.ms.length/\v.ls.length+v.ms.length=0)\/(¬ 10000<v.ls.length /\ ¬ 10000<v.ms.length/\0<v.ls.length+v.ms.length):=by omega
 rcases alt with h1 | ⟨h1,h2⟩ | ⟨h1,h2,h3⟩ | ⟨h1,h2,h3⟩
 ·have q1:(10000:Int)<(v.ls.length:Int):=by omega
  go_enter Tryz.func56,Tryz.ntmps56
  go_wp2_with fail
  go_ret
  exact ⟨by first | exact ⟨_,rfl⟩ | exact .inl rfl | exact .inr rfl,(FR w).alloc _⟩
 ·have q1:¬ (10000:Int)<(v.ls.length:Int):=by omega
  have q2:(10000:Int)<(v.ms.length:Int):=by omega
  go_enter Tryz.func56,Tryz.ntmps56
  go_wp2_with fail
  go_ret
  exact ⟨by first | exact ⟨_,rfl⟩ | exact .inl rfl | exact .inr rfl,(FR w).alloc _⟩
 ·have q1:¬ (10000:Int)<(v.ls.length:Int):=by omega
  have q2:¬ (10000:Int)<(v.ms.length:Int):=by omega
  have q3:¬ (0:Int)<(v.ls.length:Int)+(v.ms.length:Int):=by omega
  go_enter Tryz.func56,Tryz.ntmps56
  go_wp2_with (go_at_call 76;refine (level_is 100 (lR _) [v] _ _ _ _ rfl (by simpa using HL.out _ ((FR w).alloc _)) HN.out).mono ?_;rintro e w1 ⟨⟨b1,rfl⟩,hf⟩;have HF1:=LH ((((FR w).alloc _).alloc _).trans hf);clear hf)
  go_ret
  exact ⟨by first | exact ⟨_,rfl⟩ | exact .inl rfl | exact .inr rfl,HF1.out⟩
 ·have q1:¬ (10000:Int)<(v.ls.length:Int):=by omega
  have q2:¬ (10000:Int)<(v.ms.length:Int):=by omega
  have q3:(0:Int)<(v.ls.length:Int)+(v.ms.length:Int):=by omega
  go_enter Tryz.func56,Tryz.ntmps56
  go_wp2_with (go_at_call 76;refine (level_is 100 (lR _) [v] _ _ _ _ rfl (by simpa using HL.out _ ((FR w).alloc _)) HN.out).mono ?_;rintro e w1 ⟨⟨b1,rfl⟩,hf⟩;have HF1:=LH ((((FR w).alloc _).alloc _).trans hf);clear hf)
  go_ret
  exact ⟨by first | exact ⟨_,rfl⟩ | exact .inl rfl | exact .inr rfl,HF1.out⟩

theorem few7_is (v:JV) (B:Option Addr) (d:Nat) (B':Option Addr) (d':Nat) (w:World) (hv:InV w (Lo w.heap.size) v (vA v B d B' d')) (hn:Rd.nv v<=1048576) (most:Int) (hm0:0<=most) (hm1:most<=9000000000000000000):
  Calls Tryz.prog 35 #[.agg #[.int .i64 v.kd,.int .i64 v.nm,.string ⟨v.tx.toArray⟩,.slice B v.ls.length d,.slice B' v.ms.length d'],.int .i64 most] w λe w'=>(∃ b:Bool,e=.returned (.bool b))/\Fr w w':=by
 have HKV:Hid (∀ W,Fr w W->InV W (Lo W.heap.size) v (vA v B d B' d')):=LH (λW hW=>(hv.keep (lR _) hW).lo hW.size);have HBX:Hid (∀ W,Fr (w.alloc (.cells #[.int .i64 v.kd,.int .i64 v.nm,.string ⟨v.tx.toArray⟩,.slice B v.ls.length d,.slice B' v.ms.length d'] 29)) W->Blk W w.heap.size #[.int .i64 v.kd,.int .i64 v.nm,.string ⟨v.tx.toArray⟩,.slice B v.ls.length d,.slice B' v.ms.length d'] 29):=LH (λW hW=>(Blk.made w _ _).keep hW);have HF0:Hid (Fr w (w.alloc (.cells #[.int .i64 v.kd,.int .i64 v.nm,.string ⟨v.tx.toArray⟩,.slice B v.ls.length d,.slice B' v.ms.length d'] 29))):=(FR w).alloc _;have HD:Hid (∀ W,Fr w W->Calls Tryz.prog 56 #[.agg #[.int .i64 v.kd,.int .i64 v.nm,.string ⟨v.tx.toArray⟩,.slice B v.ls.length d,.slice B' v.ms.length d'],.int .i64 100] W λe w'=>(∃ b:Bool,e=.returned (.bool b))/\Fr W w'):=λW hW=>deep_is v B d B' d' W (HKV.out W hW) hn
 have HC:Hid (∀ W,Fr w W->Calls Tryz.prog 57 #[.agg #[.int .i64 v.kd,.int .i64 v.nm,.string ⟨v.tx.toArray⟩,.slice B v.ls.length d,.slice B' v.ms.length d'],.int .i64 most] W λe w'=>(∃ z:Int,e=.returned (.int .i64 z)/\1<=z/\z<=(Rd.nv v:Nat))/\Fr W w'):=λW hW=>count7_is v _ W (HKV.out W hW) hn most hm0 hm1
 have HO:Hid (∀ W,Fr w W->Calls Tryz.prog 58 #[.agg #[.int .i64 v.kd,.int .i64 v.nm,.string ⟨v.tx.toArray⟩,.slice B v.ls.length d,.slice B' v.ms.length d']] W λe w'=>(∃ b:Bool,e=.returned (.bool b))/\Fr W w'):=λW hW=>own7_is v _ W (HKV.out W hW)
 clear hv hn;go_enter Tryz.func35,Tryz.ntmps35
 go_wp2_with (first
  | (go_at_call 58;have hm:=HF2.out;refine (HO.out _ (HF0.out.trans hm)).mono ?_;rintro e w3 ⟨⟨b3,rfl⟩,hf⟩;have HFF:=LH (hm.trans hf);clear hf hm)
  | (go_at_call 57;have hm:=HF1.out;refine (HC.out _ (HF0.out.trans hm)).mono ?_;rintro e w2 ⟨⟨z,rfl,hz1,hz2⟩,hf⟩;obtain ⟨⟨kb0,kb1,kb2,kb3,kb4⟩,_⟩:=box5 (HBX.out w2 (hm.trans hf));have HF2:=LH (hm.trans hf);have HFF:=LH (hm.trans hf);clear hf hm;rcases Int.lt_or_le most z with hzz | hzz)
  | (go_at_call 56;refine (HD.out _ HF0.out).mono ?_;rintro e w1 ⟨⟨b1,rfl⟩,hf⟩;obtain ⟨⟨ka0,ka1,ka2,ka3,ka4⟩,_⟩:=box5 (HBX.out w1 hf);have HF1:=LH hf;have HFF:=LH hf;clear hf;cases b1))
 all_goals
  go_ret
  exact ⟨by first | exact ⟨_,rfl⟩ | exact .inl rfl | exact .inr rfl,HF0.out.trans HFF.out⟩
/- Chapter 25: the laws' few. -/

theorem few25_is (cs:List CallV) (A:Option Addr) (c:Nat) (ms:List (List UInt8 × JV)) (B:Option Addr) (d:Nat) (w:World) (hc:CsR w A cs) (hm:MsC w (Lo w.heap.size) B ms) (h1:Pt.bulkC cs<=1048576) (h2:JV.bulkM ms<=1048576):
  Calls Tryz.prog 13 #[.slice A cs.length c,.slice B ms.length d] w λe w'=>(∃ b:Bool,e=.returned (.bool b))/\Fr w w':=by
 have hcl:(cs.length:Int)<=1048576:=by have:=Pt.bulkC_len cs;omega
 have hml:(ms.length:Int)<=1048576:=by have:=JV.bulkM_len ms;omega
 have HC:Hid (∀ W,Fr w W -> ∀ i (h:i<cs.length),∃ b o C f C' f',A=some ⟨b,o,none⟩/\VC W b (o+i*7+1) cs[i].1.2 C f C' f'/\InV W (Lo W.heap.size) cs[i].1.2 (vA cs[i].1.2 C f C' f')/\Rd.nv cs[i].1.2<=1048576):=LH (λW hW i hi=>by
  obtain ⟨b,o,C,f,C',f',hA,_,_,hn,_,hx⟩:=(hc.keep hW) i hi;have hb:=Pt.bulkC_mem (List.getElem_mem hi);have:=nv_bulk cs[i].1.2;exact ⟨b,o,C,f,C',f',hA,hn,hx,by omega⟩)
 have HM:Hid (∀ W,Fr w W -> ∀ i (h:i<ms.length),∃ b o C f C' f',B=some ⟨b,o,none⟩/\VC W b (o+i*6+1) ms[i].2 C f C' f'/\InV W (Lo W.heap.size) ms[i].2 (vA ms[i].2 C f C' f')/\Rd.nv ms[i].2<=1048576):=LH (λW hW i hi=>by
  obtain ⟨b,o,C,f,C',f',hA,_,_,_,hn,hx⟩:=(hm.keep (lR _) hW) i hi;have hb:=Pt.bulkM_mem (List.getElem_mem hi);have:=nv_bulk ms[i].2;exact ⟨b,o,C,f,C',f',hA,hn,hx.lo hW.size,by omega⟩)
 clear hc hm h1 h2;have alt:(40:Int)<(cs.length:Int)\/(¬ (40:Int)<(cs.length:Int)/\(100:Int)<(ms.length:Int))\/(¬ (40:Int)<(cs.length:Int) /\ ¬ (100:Int)<(ms.length:Int)):=by omega
 go_enter Tryz.func13,Tryz.ntmps13
 rcases alt with q1 | ⟨q1,q2⟩ | ⟨q1,q2⟩
 ·go_wp2_with fail
  go_ret
  exact ⟨by first | exact ⟨_,rfl⟩ | exact .inl rfl | exact .inr rfl,FR w⟩
 ·go_wp2_with fail
  go_ret
  exact ⟨by first | exact ⟨_,rfl⟩ | exact .inl rfl | exact .inr rfl,FR w⟩
 ·go_upto_region 4 with fail
  go_loopw [5] (λj wr=>∃ (i:Nat),i<=cs.length/\j=.int .i64 i/\Hid (Fr w wr)) (λj _=>cs.length - (intOf j).toNat)
  case atStart=>exact ⟨0,by omega,rfl,LH (FR w)⟩
  case round=>
   obtain ⟨i,hi,rfl,hF⟩:=hrel;by_cases hlt:i<cs.length
   ·have hlt':(i:Int)<(cs.length:Int):=by omega
    obtain ⟨b,o,C,f,C',f',rfl,⟨n0,n1,n2,n3,n4⟩,hx,hn⟩:=HC.out wr hF.out i hlt;generalize cs[i].1.2=x at n0 n1 n2 n3 n4 hx hn;have HX:=LH hx;have HN:=LH hn;clear hx hn;go_wp2_with (go_at_call 35;refine (few7_is x C f C' f' _ HX.out HN.out 300 (by omega) (by omega)).mono ?_;rintro e w1 ⟨⟨bb,rfl⟩,hf⟩;have HF1:=LH (hF.out.trans hf);clear hf;cases bb)
    all_goals first
     | exact ⟨⟨i+1,by omega,by go_num,HF1⟩,by simp [intOf];omega⟩
     | (go_ret;exact ⟨by first | exact ⟨_,rfl⟩ | exact .inl rfl | exact .inr rfl,HF1.out⟩)
   ·obtain rfl:i=cs.length:=by omega
    go_upto_region 9 with fail
    go_loopw [6] (λj wr=>∃ (i:Nat),i<=ms.length/\j=.int .i64 i/\Hid (Fr w wr)) (λj _=>ms.length - (intOf j).toNat)
    case atStart=>exact ⟨0,by omega,rfl,hF⟩
    case round=>
     clear hF hi hlt;obtain ⟨i,hi,rfl,hF⟩:=hrel;by_cases hlt:i<ms.length
     ·have hlt':(i:Int)<(ms.length:Int):=by omega
      obtain ⟨b,o,C,f,C',f',rfl,⟨n0,n1,n2,n3,n4⟩,hx,hn⟩:=HM.out wr hF.out i hlt;generalize ms[i].2=x at n0 n1 n2 n3 n4 hx hn;have HX:=LH hx;have HN:=LH hn;clear hx hn;go_wp2_with (go_at_call 35;refine (few7_is x C f C' f' _ HX.out HN.out 20 (by omega) (by omega)).mono ?_;rintro e w1 ⟨⟨bb,rfl⟩,hf⟩;have HF1:=LH (hF.out.trans hf);clear hf;cases bb)
      all_goals first
       | exact ⟨⟨i+1,by omega,by go_num,HF1⟩,by simp [intOf];omega⟩
       | (go_ret;exact ⟨by first | exact ⟨_,rfl⟩ | exact .inl rfl | exact .inr rfl,HF1.out⟩)
     ·obtain rfl:i=ms.length:=by omega
      go_wp2_with fail
      go_ret
      exact ⟨by first | exact ⟨_,rfl⟩ | exact .inl rfl | exact .inr rfl,hF.out⟩
end Go.Proofs.YtockgemmkjdnkaaGreatDoor
