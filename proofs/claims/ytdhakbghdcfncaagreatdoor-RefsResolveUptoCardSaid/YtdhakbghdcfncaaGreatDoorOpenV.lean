/- An argument that is a value: opened. -/
import Derived.Test.YtdhakbghdcfncaaGreatDoorKa
import Derived.Test.YtdhakbghdcfncaaGreatDoorPa
import Derived.Deep.Slices
import Derived.Deep.Fields
import Derived.ChangeSame
import Derived.Lib.LaidU8
import Derived.DataShut
namespace Go.Proofs.YtdhakbghdcfncaaGreatDoor
set_option maxRecDepth 100000
set_option maxRecDepth 100000
set_option linter.unusedVariables false
set_option linter.unusedSimpArgs false
open Go.ChangeShapes Go.WideShapes Go.Deep Go.RowKit

theorem bulkL_app (a b:List JV):JV.bulkL (a++b)=JV.bulkL a+JV.bulkL b:=by
 induction a with
 | nil=>simp [JV.bulkL]
 | cons d a ih=>rw [List.cons_append,JV.bulkL_cons,JV.bulkL_cons,ih];omega
theorem bulkM_app (a b:List (List UInt8 × JV)):JV.bulkM (a++b)=JV.bulkM a+JV.bulkM b:=by
 induction a with
 | nil=>simp [JV.bulkM]
 | cons d a ih=>rw [List.cons_append,JV.bulkM_cons,JV.bulkM_cons,ih];omega
theorem addr_add (b o n:Nat):(Addr.mk b o none).add n=⟨b,o+n,none⟩:=by
 by_cases h0:n=0
 ·subst h0;simp [Addr.add]
 ·simp [Addr.add,h0]

section
variable {H:Type} {enc:TypeId × Value→H} {W:World}
theorem bulkAll_app (a b:List (DataW H)):Rows.uptoBulkAll (a++b)=Rows.uptoBulkAll a+Rows.uptoBulkAll b:=by
 induction a with
 | nil=>simp [Rows.uptoBulkAll]
 | cons d a ih=>simp only [List.cons_append,Rows.uptoBulkAll,ih];omega
theorem bulkAll_mem {d:DataW H}:∀ {l:List (DataW H)},d∈l→Rows.uptoBulk d≤Rows.uptoBulkAll l
 | [],h=>by cases h
 | e::l,h=>by
  rw [Rows.uptoBulkAll]
  rcases List.mem_cons.1 h with rfl | h
  ·omega
  ·have:=bulkAll_mem h;omega
theorem pick_l {P:Nat→JV→Prop} {D:Nat→DataW H}:∀ n,(∀ i,i<n → ∃ u,P i u∧JV.bulk u≤Rows.uptoBulk (D i)) →
  ∃ l:List JV,l.length=n∧(∀ i (h:i<l.length),P i l[i])∧JV.bulkL l≤Rows.uptoBulkAll ((List.range n).map D)
 | 0,_=>⟨[],rfl,fun i h=>absurd h (by simp),by simp [JV.bulkL]⟩
 | n+1,h=>by
  obtain ⟨l,h1,h2,h3⟩:=pick_l n (fun i hi=>h i (by omega))
  obtain ⟨u,hu,hb⟩:=h n (by omega)
  refine ⟨l++[u],by simp [h1],fun i hi=>?_,?_⟩
  ·by_cases hil:i<l.length
   ·rw [List.getElem_append_left hil];exact h2 i hil
   ·have:i=l.length:=by simp at hi;omega
    subst this
    simp only [List.getElem_concat_length]
    rw [h1];exact hu
  ·rw [bulkL_app,List.range_succ,List.map_append,bulkAll_app,JV.bulkL_cons]
   simp only [List.map_cons,List.map_nil,Rows.uptoBulkAll,JV.bulkL]
   omega
theorem pick_m {P:Nat→List UInt8 × JV→Prop} {D:Nat→DataW H}:∀ n,(∀ i,i<n → ∃ u,P i u∧1+u.1.length+JV.bulk u.2≤Rows.uptoBulk (D i)) →
  ∃ l:List (List UInt8 × JV),l.length=n∧(∀ i (h:i<l.length),P i l[i])∧JV.bulkM l≤Rows.uptoBulkAll ((List.range n).map D)
 | 0,_=>⟨[],rfl,fun i h=>absurd h (by simp),by simp [JV.bulkM]⟩
 | n+1,h=>by
  obtain ⟨l,h1,h2,h3⟩:=pick_m n (fun i hi=>h i (by omega))
  obtain ⟨u,hu,hb⟩:=h n (by omega)
  refine ⟨l++[u],by simp [h1],fun i hi=>?_,?_⟩
  ·by_cases hil:i<l.length
   ·rw [List.getElem_append_left hil];exact h2 i hil
   ·have:i=l.length:=by simp at hi;omega
    subst this
    simp only [List.getElem_concat_length]
    rw [h1];exact hu
  ·rw [bulkM_app,List.range_succ,List.map_append,bulkAll_app,JV.bulkM_cons]
   simp only [List.map_cons,List.map_nil,Rows.uptoBulkAll,JV.bulkM]
   omega

theorem cells_at {a:Addr} {i m n:Nat} {cs:List Value} (h:W.cells? 0 (a.add (i*m)) n=some cs) (hn:0<n):
  (i=0→a.spot=none)∧a.block<W.heap.size∧cs.length=n ∧ ∀ j,j<n→W.cell? ⟨a.block,a.off+i*m+j,none⟩=cs[j]?:=by
 obtain ⟨_,hl,hc⟩:=World.cells?_some h
 obtain ⟨b,o,sp⟩:=a
 have h0:=hc 0 hn
 have e0:((Addr.mk b o sp).add (i*m)).add 0=(Addr.mk b o sp).add (i*m):=by simp [Addr.add]
 rw [e0,List.getElem?_eq_getElem (by omega)] at h0
 have key:(i*m=0∧sp=none)∨(i*m≠0):=by
  by_cases hz:i*m=0
  ·left
   rw [hz] at h0
   have h1:W.cell? ⟨b,o,sp⟩=some (cs[0]'(by omega)):=by rw [← h0];simp [Addr.add]
   exact ⟨hz,cell_spot h1⟩
  ·exact .inr hz
 have hadd:(Addr.mk b o sp).add (i*m)=⟨b,o+i*m,none⟩:=by
  rcases key with ⟨hz,rfl⟩ | hz
  ·exact addr_add _ _ _
  ·simp [Addr.add,hz]
 rw [hadd] at h0
 refine ⟨?_,?_,hl,fun j hj=>?_⟩
 ·intro hi
  subst hi
  rcases key with ⟨_,h⟩ | h
  ·exact h
  ·simp at h
 ·rcases Nat.lt_or_ge b W.heap.size with h | h
  ·exact h
  ·simp [World.cell?,Array.getElem?_eq_none h] at h0
 ·have:=hc j hj
  rw [hadd,addr_add] at this
  exact this

theorem bulk_ge (d:DataW H):1≤Rows.uptoBulk d:=by
 cases d with
 | lit x=>cases x <;> simp [Rows.uptoBulk]
 | _=>simp [Rows.uptoBulk]

theorem open_v_aux:∀ (N fuel:Nat) (cs:List Value) (x:DataW H × List MemPlace),N≤1048576→Rows.uptoBulk x.1≤N→DataW.trod enc Tryz.prog W 0 (fun _=>true) true fuel 25 cs=some x →
  ∃ u,InV W (Lo W.heap.size) u (.agg cs.toArray)∧JV.bulk u≤Rows.uptoBulk x.1:=by
 intro N
 induction N with
 | zero=>intro fuel cs x _ hb _;have:=bulk_ge x.1;omega
 | succ N ih=>
  intro fuel cs x hN hb h
  have o0:Tryz.prog.cellsOf 3=1:=by kernel_rfl
  have o1:Tryz.prog.cellsOf 2=1:=by kernel_rfl
  have o2:Tryz.prog.cellsOf 9=1:=by kernel_rfl
  have o3:Tryz.prog.cellsOf 22=1:=by kernel_rfl
  have o4:Tryz.prog.cellsOf 23=1:=by kernel_rfl
  have o5:Tryz.prog.cellsOf 25=5:=by kernel_rfl
  have o6:Tryz.prog.cellsOf 39=6:=by kernel_rfl
  obtain ⟨xs,n,rfl,rfl,hlen,hxl,hg⟩:=DataW.trod_struct Tryz.underlying25 h
  rw [o5] at hlen
  match cs,hlen with
  | [c0,c1,c2,c3,c4],_=>
  match xs,hxl with
  | [y0,y1,y2,y3,y4],_=>
   have g0:DataW.trod enc Tryz.prog W 0 (fun _=>true) true n 3 [c0]=some y0:=by simpa [o0] using hg 0 _ rfl
   have g1:DataW.trod enc Tryz.prog W 0 (fun _=>true) true n 2 [c1]=some y1:=by simpa [o1] using hg 1 _ rfl
   have g2:DataW.trod enc Tryz.prog W 0 (fun _=>true) true n 9 [c2]=some y2:=by simpa [o2] using hg 2 _ rfl
   have g3:DataW.trod enc Tryz.prog W 0 (fun _=>true) true n 22 [c3]=some y3:=by simpa [o3] using hg 3 _ rfl
   have g4:DataW.trod enc Tryz.prog W 0 (fun _=>true) true n 23 [c4]=some y4:=by simpa [o4] using hg 4 _ rfl
   clear hg h
   simp only [List.map_cons,List.map_nil,Rows.uptoBulk,Rows.uptoBulkAll] at hb ⊢
   obtain ⟨k,hk,rfl,wk⟩:=DataW.trod_int Tryz.underlying3 g0
   obtain ⟨m,hm,rfl,wm⟩:=DataW.trod_int Tryz.underlying2 g1
   obtain ⟨s,hs,rfl,ws⟩:=DataW.trod_string Tryz.underlying9 g2
   obtain rfl:c0=.int .i64 k:=by simpa using hk
   obtain rfl:c1=.int .i64 m:=by simpa using hm
   obtain rfl:c2=.string s:=by simpa using hs
   simp only [Rows.uptoBulk] at hb ⊢
   have hL:∃ (A:Option Addr) (c:Nat) (l:List JV) (E:Nat→Nat→Value),c3=.slice A l.length c∧l.length≤140737488355328∧(∀ i (h:i<l.length),InV W (Lo W.heap.size) l[i] (.agg #[E i 0,E i 1,E i 2,E i 3,E i 4])) ∧
     (0<l.length → ∃ b o,A=some ⟨b,o,none⟩∧Lo W.heap.size b ∧ ∀ i j,i<l.length→j<5→W.cell? ⟨b,o+i*5+j,none⟩=some (E i j))∧JV.bulkL l≤Rows.uptoBulk y3.1:=by
    rcases open_slice Tryz.underlying22 g3 with ⟨h0,rfl⟩ | ⟨a,len,cap,m',n',D,Pl,hcs,_,hl,hcap,hm',rfl,hi⟩
    ·exact ⟨none,0,[],fun _ _=>.int .i64 0,by simpa using h0,by simp,fun i h=>absurd h (by simp),fun h=>absurd h (by simp),by simp [JV.bulkL]⟩
    ·simp only [Rows.uptoBulk] at hb
     obtain ⟨l,h1,h2,h3⟩:=pick_l (P:=fun i u=>∃ cs',W.cells? 0 (a.add (i*5)) 5=some cs'∧InV W (Lo W.heap.size) u (.agg cs'.toArray)) (D:=D) len (fun i hil=>by
      obtain ⟨cs',hc,ht⟩:=hi i (by rw [hm'];split <;> omega)
      rw [o5] at hc
      have hmem:Rows.uptoBulk (D i)≤Rows.uptoBulkAll ((List.range len).map D):=bulkAll_mem (List.mem_map.2 ⟨i,List.mem_range.2 hil,rfl⟩)
      obtain ⟨u,hu,hb2⟩:=ih n' cs' (D i,Pl i) (by omega) (by show Rows.uptoBulk (D i)≤N;omega) ht
      exact ⟨u,⟨cs',hc,hu⟩,hb2⟩)
     have hlen2:l.length≤140737488355328:=by
      have:=JV.bulkL_len l
      omega
     subst h1
     refine ⟨some a,cap,l,fun i j=>(W.cell? ⟨a.block,a.off+i*5+j,none⟩).getD (.int .i64 0),by simpa using hcs,hlen2,fun i h=>?_,fun h0=>?_,?_⟩
     ·obtain ⟨cs',hc,hu⟩:=h2 i h
      obtain ⟨_,_,hl5,hcell⟩:=cells_at hc (by omega)
      match cs',hl5 with
      | [e0,e1,e2,e3,e4],_=>
       have w0:=hcell 0 (by omega)
       have w1:=hcell 1 (by omega)
       have w2:=hcell 2 (by omega)
       have w3:=hcell 3 (by omega)
       have w4:=hcell 4 (by omega)
       simp only [w0,w1,w2,w3,w4]
       exact hu
     ·obtain ⟨cs',hc,_⟩:=h2 0 h0
      obtain ⟨hsp,hlt,_,_⟩:=cells_at hc (by omega)
      refine ⟨a.block,a.off,by have hsp:=hsp rfl;cases a;simp at hsp;subst hsp;rfl,hlt,fun i j hi hj=>?_⟩
      obtain ⟨cs',hc,_⟩:=h2 i hi
      obtain ⟨_,_,hl5,hcell⟩:=cells_at hc (by omega)
      show _=some ((W.cell? _).getD _)
      rw [hcell j hj,List.getElem?_eq_getElem (by omega)]
      rfl
     ·show _≤Rows.uptoBulk (DataW.slice _ _)
      simp only [Rows.uptoBulk]
      omega
   have hM:∃ (A:Option Addr) (c:Nat) (l:List (List UInt8 × JV)) (E:Nat→Nat→Value),c4=.slice A l.length c∧l.length≤140737488355328∧(∀ i (h:i<l.length),InV W (Lo W.heap.size) l[i].2 (.agg #[E i 1,E i 2,E i 3,E i 4,E i 5])) ∧
     (0<l.length → ∃ b o,A=some ⟨b,o,none⟩∧Lo W.heap.size b ∧ ∀ i (hi:i<l.length),E i 0=.string ⟨l[i].1.toArray⟩∧l[i].1.length≤140737488355328 ∧ ∀ j,j<6→W.cell? ⟨b,o+i*6+j,none⟩=some (E i j))∧JV.bulkM l≤Rows.uptoBulk y4.1:=by
    rcases open_slice Tryz.underlying23 g4 with ⟨h0,rfl⟩ | ⟨a,len,cap,m',n',D,Pl,hcs,_,hl,hcap,hm',rfl,hi⟩
    ·exact ⟨none,0,[],fun _ _=>.int .i64 0,by simpa using h0,by simp,fun i h=>absurd h (by simp),fun h=>absurd h (by simp),by simp [JV.bulkM]⟩
    ·simp only [Rows.uptoBulk] at hb
     obtain ⟨l,h1,h2,h3⟩:=pick_m (P:=fun i u=>∃ cs':List Value,W.cells? 0 (a.add (i*6)) 6=some (.string ⟨u.1.toArray⟩::cs')∧u.1.length≤140737488355328∧InV W (Lo W.heap.size) u.2 (.agg cs'.toArray)) (D:=D) len (fun i hil=>by
      obtain ⟨cs',hc,ht⟩:=hi i (by rw [hm'];split <;> omega)
      rw [o6] at hc
      have hmem:Rows.uptoBulk (D i)≤Rows.uptoBulkAll ((List.range len).map D):=bulkAll_mem (List.mem_map.2 ⟨i,List.mem_range.2 hil,rfl⟩)
      obtain ⟨zs,n2,_,hz,hzl,hzs,hzg⟩:=DataW.trod_struct Tryz.underlying39 ht
      rw [o6] at hzl
      match cs',hzl with
      | [e0,e1,e2,e3,e4,e5],_=>
      match zs,hzs with
      | [z0,z1],_=>
       simp only [Prod.mk.injEq] at hz
       have q0:DataW.trod enc Tryz.prog W 0 (fun _=>true) true n2 9 [e0]=some z0:=by simpa [o2] using hzg 0 _ rfl
       have q1:DataW.trod enc Tryz.prog W 0 (fun _=>true) true n2 25 [e1,e2,e3,e4,e5]=some z1:=by simpa [o5] using hzg 1 _ rfl
       obtain ⟨nm,hnm,rfl,wn⟩:=DataW.trod_string Tryz.underlying9 q0
       obtain rfl:e0=.string nm:=by simpa using hnm
       have hD:Rows.uptoBulk (D i)=1+(nm.data.toList.length+1)+Rows.uptoBulk z1.1:=by
        rw [hz.1]
        simp only [List.map_cons,List.map_nil,Rows.uptoBulk,Rows.uptoBulkAll]
        omega
       obtain ⟨u,hu,hb2⟩:=ih n2 _ z1 (by omega) (by omega) q1
       refine ⟨(nm.data.toList,u),⟨_,by simpa using hc,?_,hu⟩,?_⟩
       ·show nm.data.toList.length≤_
        omega
       ·show 1+nm.data.toList.length+JV.bulk u≤_
        omega)
     have hlen2:l.length≤140737488355328:=by
      have:=JV.bulkM_len l
      omega
     subst h1
     refine ⟨some a,cap,l,fun i j=>(W.cell? ⟨a.block,a.off+i*6+j,none⟩).getD (.int .i64 0),by simpa using hcs,hlen2,fun i h=>?_,fun h0=>?_,?_⟩
     ·obtain ⟨cs',hc,_,hu⟩:=h2 i h
      obtain ⟨_,_,hl5,hcell⟩:=cells_at hc (by omega)
      match cs',hl5 with
      | [e0,e1,e2,e3,e4],_=>
       have w1:=hcell 1 (by omega)
       have w2:=hcell 2 (by omega)
       have w3:=hcell 3 (by omega)
       have w4:=hcell 4 (by omega)
       have w5:=hcell 5 (by omega)
       simp only [w1,w2,w3,w4,w5]
       exact hu
     ·obtain ⟨cs',hc,_⟩:=h2 0 h0
      obtain ⟨hsp,hlt,_,_⟩:=cells_at hc (by omega)
      refine ⟨a.block,a.off,by have hsp:=hsp rfl;cases a;simp at hsp;subst hsp;rfl,hlt,fun i hi=>?_⟩
      obtain ⟨cs',hc,hn,_⟩:=h2 i hi
      obtain ⟨_,_,hl5,hcell⟩:=cells_at hc (by omega)
      refine ⟨?_,hn,fun j hj=>?_⟩
      ·show (W.cell? _).getD _=_
       rw [hcell 0 (by omega)]
       rfl
      ·show _=some ((W.cell? _).getD _)
       rw [hcell j hj,List.getElem?_eq_getElem (by omega)]
       rfl
     ·show _≤Rows.uptoBulk (DataW.slice _ _)
      simp only [Rows.uptoBulk]
      omega
   obtain ⟨A,c,l,E,rfl,hl63,hl,cl,hbl⟩:=hL
   obtain ⟨A',c',mm,F,rfl,hm63,hmm,cm,hbm⟩:=hM
   have ek:=(Go.Lit.wf_int_iff .i64 k).1 wk
   have em:=(Go.Lit.wf_int_iff .i64 m).1 wm
   simp only [IntKind.min,IntKind.max] at ek em
   have hss:s=⟨s.data.toList.toArray⟩:=by simp
   refine ⟨.mk k m s.data.toList l mm,?_,?_⟩
   ·have:=InV.mk (w:=W) (S:=Lo W.heap.size) k m s.data.toList l mm A A' c c' E F em.1 em.2 ek.1 ek.2 (by omega) hl63 hm63 hl cl hmm cm
    rw [← hss] at this
    exact this
   ·rw [JV.bulk_mk]
    omega
theorem open_v {r:Reach} {b0:Nat} {v:Value} {d:DataW H} {p:List MemPlace} (hK:Rows.uptoBulk d≤1048576) (hv:Value.okWide Tryz.prog W r b0 25 v) (h:DataW.Trod enc Tryz.prog W 0 (fun _=>true) true 25 v d p):
  ∃ u A c A' c',v=vA u A c A' c'∧InV W (Lo W.heap.size) u (vA u A c A' c')∧JV.bulk u≤1048576:=by
 obtain ⟨cs,rfl,hsz⟩:=okWide_struct Tryz.underlying25 hv
 obtain ⟨fuel,hf⟩:=h
 obtain ⟨u,hu,hb⟩:=open_v_aux _ fuel _ (d,p) hK (Nat.le_refl _) hf
 have e:(Value.agg cs).cells.toList.toArray=cs:=by simp [Value.cells]
 rw [e] at hu
 obtain ⟨A,c,A',c',hx⟩:=hu.shape
 rw [hx] at hu ⊢
 have hb:JV.bulk u≤Rows.uptoBulk d:=hb
 exact ⟨u,A,c,A',c',rfl,hu,by omega⟩
end
end Go.Proofs.YtdhakbghdcfncaaGreatDoor
