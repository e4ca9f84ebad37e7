/- Arguments that are slices of calls, of members: opened. -/
import Derived.Test.YtdhakbghdcfncaaGreatDoorOpenV
import Derived.Test.YtdhakbghdcfncaaGreatDoorRff
import Derived.Test.YtdhakbghdcfncaaGreatDoorRfm
import Derived.Deep.CutRange
import Derived.Test.YtdhakbghdcfncaaGreatDoorRow
namespace Go.Proofs.YtdhakbghdcfncaaGreatDoor
set_option maxRecDepth 100000
set_option maxRecDepth 100000
set_option maxHeartbeats 16000000
set_option linter.unusedVariables false
set_option linter.unusedSimpArgs false
open Go.ChangeShapes Go.WideShapes Go.Deep Go.RowKit

def Pt.bulkC:List CallV→Nat
 | []=>0
 | c::r=>3+c.1.1.length+JV.bulk c.1.2+c.2.length+Pt.bulkC r
theorem Pt.bulkC_app (a b:List CallV):Pt.bulkC (a++b)=Pt.bulkC a+Pt.bulkC b:=by
 induction a with
 | nil=>simp [Pt.bulkC]
 | cons d a ih=>simp only [List.cons_append,Pt.bulkC,ih];omega
theorem Pt.bulkC_len (l:List CallV):l.length≤Pt.bulkC l:=by
 induction l with
 | nil=>simp
 | cons q r ih=>simp only [Pt.bulkC,List.length_cons];omega
theorem Pt.bulkC_mem {q:CallV}:∀ {l:List CallV},q∈l→q.1.1.length+JV.bulk q.1.2+q.2.length≤Pt.bulkC l
 | [],h=>by cases h
 | e::l,h=>by
  rw [Pt.bulkC]
  rcases List.mem_cons.1 h with rfl | h
  ·omega
  ·have:=Pt.bulkC_mem h;omega
section
variable {H:Type} {enc:TypeId × Value→H} {W:World}
theorem pick_c {P:Nat→CallV→Prop} {D:Nat→DataW H}:∀ n,(∀ i,i<n → ∃ u,P i u∧Pt.bulkC [u]≤Rows.uptoBulk (D i)) →
  ∃ l:List CallV,l.length=n∧(∀ i (h:i<l.length),P i l[i])∧Pt.bulkC l≤Rows.uptoBulkAll ((List.range n).map D)
 | 0,_=>⟨[],rfl,fun i h=>absurd h (by simp),by simp [Pt.bulkC]⟩
 | n+1,h=>by
  obtain ⟨l,h1,h2,h3⟩:=pick_c n (fun i hi=>h i (by omega))
  obtain ⟨u,hu,hb⟩:=h n (by omega)
  refine ⟨l++[u],by simp [h1],fun i hi=>?_,?_⟩
  ·by_cases hil:i<l.length
   ·rw [List.getElem_append_left hil];exact h2 i hil
   ·have:i=l.length:=by simp at hi;omega
    subst this
    simp only [List.getElem_concat_length]
    rw [h1];exact hu
  ·rw [Pt.bulkC_app,List.range_succ,List.map_append,bulkAll_app]
   simp only [List.map_cons,List.map_nil,Rows.uptoBulkAll]
   omega
theorem five_of {S:Nat→Prop} {u:JV} {e0 e1 e2 e3 e4:Value} (h:InV W S u (.agg #[e0,e1,e2,e3,e4])):∃ C f C' f',e0=.int .i64 u.kd∧e1=.int .i64 u.nm∧e2=.string ⟨u.tx.toArray⟩∧e3=.slice C u.ls.length f∧e4=.slice C' u.ms.length f'∧InV W S u (vA u C f C' f'):=by
 obtain ⟨C,f,C',f',hX⟩:=h.shape
 obtain ⟨rfl,rfl,rfl,rfl,rfl⟩:=five hX
 exact ⟨C,f,C',f',rfl,rfl,rfl,rfl,rfl,h⟩
theorem open_ms_aux (fuel:Nat) (c4:Value) (y4:DataW H × List MemPlace) (hb:Rows.uptoBulk y4.1≤1048576) (g4:DataW.trod enc Tryz.prog W 0 (fun _=>true) true fuel 23 [c4]=some y4):
  ∃ A l c,c4=.slice A l.length c∧MsC W (Lo W.heap.size) A l∧JV.bulkM l≤Rows.uptoBulk y4.1:=by
 have o2:Tryz.prog.cellsOf 9=1:=by kernel_rfl
 have o5:Tryz.prog.cellsOf 25=5:=by kernel_rfl
 have o6:Tryz.prog.cellsOf 39=6:=by kernel_rfl
 rcases open_slice Tryz.underlying23 g4 with ⟨h0,rfl⟩ | ⟨a,len,cap,m',n',D,Pl,hcs,_,hl,hcap,hm',rfl,hi⟩
 ·exact ⟨none,[],0,by simpa using h0,fun i h=>absurd h (by simp),by simp [JV.bulkM]⟩
 ·simp only [Rows.uptoBulk] at hb
  obtain ⟨l,h1,h2,h3⟩:=pick_m (P:=fun i u=>∃ cs':List Value,W.cells? 0 (a.add (i*6)) 6=some (.string ⟨u.1.toArray⟩::cs')∧u.1.length≤140737488355328∧InV W (Lo W.heap.size) u.2 (.agg cs'.toArray)) (D:=D) len (fun i hil=>by
   obtain ⟨cs',hc,ht⟩:=hi i (by rw [hm'];split <;> omega)
   rw [o6] at hc
   have hmem:Rows.uptoBulk (D i)≤Rows.uptoBulkAll ((List.range len).map D):=bulkAll_mem (List.mem_map.2 ⟨i,List.mem_range.2 hil,rfl⟩)
   obtain ⟨zs,n2,_,hz,hzl,hzs,hzg⟩:=DataW.trod_struct Tryz.underlying39 ht
   rw [o6] at hzl
   match cs',hzl with
   | [e0,e1,e2,e3,e4,e5],_=>
   match zs,hzs with
   | [z0,z1],_=>
    simp only [Prod.mk.injEq] at hz
    have q0:DataW.trod enc Tryz.prog W 0 (fun _=>true) true n2 9 [e0]=some z0:=by simpa [o2] using hzg 0 _ rfl
    have q1:DataW.trod enc Tryz.prog W 0 (fun _=>true) true n2 25 [e1,e2,e3,e4,e5]=some z1:=by simpa [o5] using hzg 1 _ rfl
    obtain ⟨nm,hnm,rfl,wn⟩:=DataW.trod_string Tryz.underlying9 q0
    obtain rfl:e0=.string nm:=by simpa using hnm
    have hD:Rows.uptoBulk (D i)=1+(nm.data.toList.length+1)+Rows.uptoBulk z1.1:=by
     rw [hz.1]
     simp only [List.map_cons,List.map_nil,Rows.uptoBulk,Rows.uptoBulkAll]
     omega
    obtain ⟨u,hu,hb2⟩:=open_v_aux _ n2 _ z1 (by omega) (Nat.le_refl _) q1
    refine ⟨(nm.data.toList,u),⟨_,by simpa using hc,?_,hu⟩,?_⟩
    ·show nm.data.toList.length≤_
     omega
    ·show 1+nm.data.toList.length+JV.bulk u≤_
     omega)
  subst h1
  refine ⟨some a,l,cap,by simpa using hcs,fun i hil=>?_,?_⟩
  ·obtain ⟨ct,hc0,_⟩:=h2 0 (by omega)
   obtain ⟨hsp,hlt,_,_⟩:=cells_at hc0 (by omega)
   obtain ⟨cs',hc,hn,hu⟩:=h2 i hil
   obtain ⟨_,_,hl5,hcell⟩:=cells_at hc (by omega)
   match cs',hl5 with
   | [e0,e1,e2,e3,e4],_=>
    obtain ⟨C,f,C',f',rfl,rfl,rfl,rfl,rfl,hu⟩:=five_of hu
    have hsp:=hsp rfl
    obtain ⟨b,o,sp⟩:=a
    simp only at hsp
    subst hsp
    exact ⟨b,o,C,f,C',f',rfl,hlt,hn,hcell 0 (by omega),⟨hcell 1 (by omega),hcell 2 (by omega),hcell 3 (by omega),hcell 4 (by omega),hcell 5 (by omega)⟩,hu⟩
  ·show _≤Rows.uptoBulk (DataW.slice _ _)
   simp only [Rows.uptoBulk]
   omega
theorem open_ms {r:Reach} {b0:Nat} {v:Value} {d:DataW H} {p:List MemPlace} (hK:Rows.uptoBulk d≤1048576) (hv:Value.okWide Tryz.prog W r b0 23 v) (h:DataW.Trod enc Tryz.prog W 0 (fun _=>true) true 23 v d p):
  ∃ A m c,v=.slice A m.length c∧MsC W (Lo W.heap.size) A m∧JV.bulkM m≤1048576:=by
 obtain ⟨a,len,cap,rfl⟩:=okWide_slice Tryz.underlying23 hv
 obtain ⟨fuel,hf⟩:=h
 have hf:DataW.trod enc Tryz.prog W 0 (fun _=>true) true fuel 23 [.slice a len cap]=some (d,p):=by simpa [Value.cells] using hf
 obtain ⟨A,m,c,e,h1,h2⟩:=open_ms_aux fuel _ (d,p) hK hf
 have h2:JV.bulkM m≤Rows.uptoBulk d:=h2
 exact ⟨A,m,c,e,h1,by omega⟩
theorem open_cs_aux (fuel:Nat) (c4:Value) (y4:DataW H × List MemPlace) (hb:Rows.uptoBulk y4.1≤1048576) (g4:DataW.trod enc Tryz.prog W 0 (fun _=>true) true fuel 36 [c4]=some y4):
  ∃ A l c,c4=.slice A l.length c∧CsR W A l∧Pt.bulkC l≤Rows.uptoBulk y4.1:=by
 have o2:Tryz.prog.cellsOf 9=1:=by kernel_rfl
 have o5:Tryz.prog.cellsOf 25=5:=by kernel_rfl
 have o7:Tryz.prog.cellsOf 47=7:=by kernel_rfl
 rcases open_slice Tryz.underlying36 g4 with ⟨h0,rfl⟩ | ⟨a,len,cap,m',n',D,Pl,hcs,_,hl,hcap,hm',rfl,hi⟩
 ·exact ⟨none,[],0,by simpa using h0,fun i h=>absurd h (by simp),by simp [Pt.bulkC]⟩
 ·simp only [Rows.uptoBulk] at hb
  obtain ⟨l,h1,h2,h3⟩:=pick_c (P:=fun i u=>∃ e1 e2 e3 e4 e5:Value,W.cells? 0 (a.add (i*7)) 7=some [.string ⟨u.1.1.toArray⟩,e1,e2,e3,e4,e5,.string ⟨u.2.toArray⟩]∧InV W (Lo W.heap.size) u.1.2 (.agg #[e1,e2,e3,e4,e5])) (D:=D) len (fun i hil=>by
   obtain ⟨cs',hc,ht⟩:=hi i (by rw [hm'];split <;> omega)
   rw [o7] at hc
   have hmem:Rows.uptoBulk (D i)≤Rows.uptoBulkAll ((List.range len).map D):=bulkAll_mem (List.mem_map.2 ⟨i,List.mem_range.2 hil,rfl⟩)
   obtain ⟨zs,n2,_,hz,hzl,hzs,hzg⟩:=DataW.trod_struct Tryz.underlying47 ht
   rw [o7] at hzl
   match cs',hzl with
   | [e0,e1,e2,e3,e4,e5,e6],_=>
   match zs,hzs with
   | [z0,z1,z2],_=>
    simp only [Prod.mk.injEq] at hz
    have q0:DataW.trod enc Tryz.prog W 0 (fun _=>true) true n2 9 [e0]=some z0:=by simpa [o2] using hzg 0 _ rfl
    have q1:DataW.trod enc Tryz.prog W 0 (fun _=>true) true n2 25 [e1,e2,e3,e4,e5]=some z1:=by simpa [o5] using hzg 1 _ rfl
    have q2:DataW.trod enc Tryz.prog W 0 (fun _=>true) true n2 9 [e6]=some z2:=by simpa [o2] using hzg 2 _ rfl
    obtain ⟨nm,hnm,rfl,wn⟩:=DataW.trod_string Tryz.underlying9 q0
    obtain ⟨id,hid,rfl,wi⟩:=DataW.trod_string Tryz.underlying9 q2
    obtain rfl:e0=.string nm:=by simpa using hnm
    obtain rfl:e6=.string id:=by simpa using hid
    have hD:Rows.uptoBulk (D i)=1+(nm.data.toList.length+1)+Rows.uptoBulk z1.1+(id.data.toList.length+1):=by
     rw [hz.1]
     simp only [List.map_cons,List.map_nil,Rows.uptoBulk,Rows.uptoBulkAll]
     omega
    obtain ⟨u,hu,hb2⟩:=open_v_aux _ n2 _ z1 (by omega) (Nat.le_refl _) q1
    refine ⟨((nm.data.toList,u),id.data.toList),⟨e1,e2,e3,e4,e5,by simpa using hc,hu⟩,?_⟩
    show 3+nm.data.toList.length+JV.bulk u+id.data.toList.length+0≤_
    omega)
  subst h1
  refine ⟨some a,l,cap,by simpa using hcs,fun i hil=>?_,?_⟩
  ·obtain ⟨_,_,_,_,_,hc0,_⟩:=h2 0 (by omega)
   obtain ⟨hsp,hlt,_,_⟩:=cells_at hc0 (by omega)
   obtain ⟨e1,e2,e3,e4,e5,hc,hu⟩:=h2 i hil
   obtain ⟨_,_,hl5,hcell⟩:=cells_at hc (by omega)
   obtain ⟨C,f,C',f',rfl,rfl,rfl,rfl,rfl,hu⟩:=five_of hu
   have hsp:=hsp rfl
   obtain ⟨b,o,sp⟩:=a
   simp only at hsp
   subst hsp
   exact ⟨b,o,C,f,C',f',rfl,hlt,hcell 0 (by omega),⟨hcell 1 (by omega),hcell 2 (by omega),hcell 3 (by omega),hcell 4 (by omega),hcell 5 (by omega)⟩,hcell 6 (by omega),hu⟩
  ·show _≤Rows.uptoBulk (DataW.slice _ _)
   simp only [Rows.uptoBulk]
   omega
theorem open_cs {r:Reach} {b0:Nat} {v:Value} {d:DataW H} {p:List MemPlace} (hK:Rows.uptoBulk d≤1048576) (hv:Value.okWide Tryz.prog W r b0 36 v) (h:DataW.Trod enc Tryz.prog W 0 (fun _=>true) true 36 v d p):
  ∃ A l c,v=.slice A l.length c∧CsR W A l∧Pt.bulkC l≤1048576:=by
 obtain ⟨a,len,cap,rfl⟩:=okWide_slice Tryz.underlying36 hv
 obtain ⟨fuel,hf⟩:=h
 have hf:DataW.trod enc Tryz.prog W 0 (fun _=>true) true fuel 36 [.slice a len cap]=some (d,p):=by simpa [Value.cells] using hf
 obtain ⟨A,m,c,e,h1,h2⟩:=open_cs_aux fuel _ (d,p) hK hf
 have h2:Pt.bulkC m≤Rows.uptoBulk d:=h2
 exact ⟨A,m,c,e,h1,by omega⟩
end
/- RefsTwice's walk. -/

theorem CsZ.lo {w:World} {Z Z':Nat} {A:Option Addr} {l:List CallV} (h:CsZ w Z A l) (hZ:Z≤Z'):CsZ w Z' A l:=fun i hi=>by
 obtain ⟨b,o,C,f,C',f',hA,hb,h0,h1,h2,h3⟩:=h i hi
 exact ⟨b,o,C,f,C',f',hA,Nat.lt_of_lt_of_le hb hZ,h0,h1,h2,h3.lo hZ⟩
theorem ba_head (c:UInt8) (r:List UInt8):(⟨(c::r).toArray⟩:ByteArray)[0]? = some c:=by
 rw [getElem?_pos _ 0 (by show 0<(c::r).toArray.size;simp)];rfl
theorem ba_size (s:List UInt8):(⟨s.toArray⟩:ByteArray).size=s.length:=by show s.toArray.size=_;simp
theorem ba_app (s:List UInt8):(⟨#[35]⟩:ByteArray)++⟨s.toArray⟩=⟨(35::s).toArray⟩:=by
 apply ByteArray.ext;simp [ByteArray.data_append]
theorem ba_tail (c:UInt8) (r:List UInt8):(⟨(c::r).toArray⟩:ByteArray).extract 1 (⟨(c::r).toArray⟩:ByteArray).size=⟨r.toArray⟩:=by
 apply ByteArray.ext
 simp [ByteArray.data_extract,ba_size]
namespace Rf
theorem bare_35 (r:Tx):(bare (35::r)).1=r:=rfl
theorem bare_c {c:UInt8} {r:Tx} (h:c≠35):(bare (c::r)).1=c::r:=by
 show (if c=35 then (r,true) else (c::r,false)).1=c::r
 rw [if_neg h]
theorem bares_twice {m:List (Tx × JV)} {k:Nat} (hk:k<m.length) {bn:Tx} {x:JV} (h:(bare bn).1=(bare m[k].1).1):¬ (bares (m++[(bn,x)])).Nodup:=by
 unfold bares
 rw [List.map_append]
 intro hn
 have hd:=(List.nodup_append.1 hn).2.2
 refine hd ((bare m[k].1).1) (List.mem_map.2 ⟨m[k],List.getElem_mem hk,rfl⟩) ((bare bn).1) (by simp) h.symm
theorem twin (nm:Tx):(∃ r,nm=35::35::r)∨(nm=[35])∨(∃ c r,nm=35::c::r∧c≠35)∨(nm=[])∨(∃ c r,nm=c::r∧c≠35):=by
 cases nm with
 | nil=>exact .inr (.inr (.inr (.inl rfl)))
 | cons c r=>
  by_cases hc:c=35
  ·subst hc
   cases r with
   | nil=>exact .inr (.inl rfl)
   | cons e r=>
    by_cases he:e=35
    ·subst he;exact .inl ⟨r,rfl⟩
    ·exact .inr (.inr (.inl ⟨e,r,rfl,he⟩))
  ·exact .inr (.inr (.inr (.inr ⟨c,r,rfl,hc⟩)))
end Rf
theorem rtwice_bad (v:JV) (B:Option Addr) (d:Nat) (B':Option Addr) (d':Nat) (l:List CallV) (A:Option Addr) (c:Nat) (n:Nat) (w:World) (hv:InV w (Lo w.heap.size) v (vA v B d B' d')) (hbv:JV.bulk v≤1048576) (hcs:CsR w A l) (hl:l.length≤1048576) (hn:∀ q∈l,JV.bulk q.1.2≤1048576) (hT:LowTabs w) (hS:SpTab w) (hM:MxL w) (hbad:(v.kd != 6)=true∨((v.kd != 6)=false∧v.ms.length=0)):
  Calls Tryz.prog 4 #[.agg #[.int .i64 v.kd,.int .i64 v.nm,.string ⟨v.tx.toArray⟩,.slice B v.ls.length d,.slice B' v.ms.length d'],.slice A l.length c,.int .u8 (n:Nat)] w fun e w'=>e=.returned (.bool true)∧Fr w w':=by
 have HT:=Lib.hid hT
 have HS:=Lib.hid hS
 have HM:=Lib.hid hM
 have HFW:Hid (∀ W,Fr w W→Calls Tryz.prog 13 #[.agg #[.int .i64 v.kd,.int .i64 v.nm,.string ⟨v.tx.toArray⟩,.slice B v.ls.length d,.slice B' v.ms.length d'],.slice A l.length c] W fun e w'=>(∃ b:Bool,e=.returned (.bool b))∧Fr W w'):=Lib.hid (fun W hW=>few24_is v B d B' d' l A c W ((hv.keep (Nat.le_refl _) hW).lo hW.size) hbv (((hcs.z.keep (Nat.le_refl _) hW).lo hW.size)) hl hn)
 clear hv hbv hcs hl hn hT hS hM
 go_enter Tryz.func4,Tryz.ntmps4
 go_upto_region 1 with fail
 have hx0:Blk (w.alloc (.cells #[.int .i64 v.kd,.int .i64 v.nm,.string ⟨v.tx.toArray⟩,.slice B v.ls.length d,.slice B' v.ms.length d'] 25)) w.heap.size #[.int .i64 v.kd,.int .i64 v.nm,.string ⟨v.tx.toArray⟩,.slice B v.ls.length d,.slice B' v.ms.length d'] 25:=Blk.made w _ _
 have hf0:Fr w (w.alloc (.cells #[.int .i64 v.kd,.int .i64 v.nm,.string ⟨v.tx.toArray⟩,.slice B v.ls.length d,.slice B' v.ms.length d'] 25)):=(Fr.refl w).alloc _
 generalize (w.alloc (.cells #[.int .i64 v.kd,.int .i64 v.nm,.string ⟨v.tx.toArray⟩,.slice B v.ls.length d,.slice B' v.ms.length d'] 25))=W0 at hx0 hf0 ⊢
 obtain ⟨X3,hX3⟩:∃ X,w.heap.size=X:=⟨_,rfl⟩
 have HX3:=Lib.hid hX3
 rw [hX3] at hx0 ⊢
 clear hX3
 obtain ⟨⟨x0,x1,x2,x3,x4⟩,_⟩:=box5 hx0
 have HX0:=Lib.hid hx0
 have HF0:=Lib.hid hf0
 clear hx0 hf0
 rcases hbad with h1 | ⟨h1,h2⟩
 ·go_wp2_with (first
   | (go_at_call 7;have hq:=HF1.out;refine (awake24 _ (HT.out.keep (HF0.out.trans hq)) (HS.out.keep (HF0.out.trans hq)) (HM.out.keep (HF0.out.trans hq))).mono ?_;rintro e w9 ⟨rfl,hf⟩;have HF9:=Lib.hid ((HF0.out.trans hq).trans hf);clear hf hq)
   | (go_at_call 13;have hq:=HFa.out;refine (HFW.out _ (HF0.out.trans hq)).mono ?_;rintro e w1 ⟨⟨b1,rfl⟩,hf⟩;clear y0 y1 y2 y3 y4;obtain ⟨⟨y0,y1,y2,y3,y4⟩,_⟩:=box5 (HX0.out.keep (hq.trans hf));have HF1:=Lib.hid (hq.trans hf);clear hf hq;cases b1)
   | (go_at_call 7;refine (awake24 _ (HT.out.keep HF0.out) (HS.out.keep HF0.out) (HM.out.keep HF0.out)).mono ?_;rintro e wa ⟨rfl,hf⟩;obtain ⟨⟨y0,y1,y2,y3,y4⟩,_⟩:=box5 (HX0.out.keep hf);have HFa:=Lib.hid hf;clear hf))
  all_goals (go_ret;exact ⟨rfl,HF9.out⟩)
 ·have h3:(v.ms.length:Int)=0:=by omega
  have h4:((v.ms.length:Int) == 0)=true:=by rw [h3];rfl
  have h5:(v.ms.length == 0)=true:=by rw [h2];rfl
  have H2:=Lib.hid h2
  clear h2 h3
  go_wp2_with (first
   | (go_at_call 7;have hq:=HF1.out;refine (awake24 _ (HT.out.keep (HF0.out.trans hq)) (HS.out.keep (HF0.out.trans hq)) (HM.out.keep (HF0.out.trans hq))).mono ?_;rintro e w9 ⟨rfl,hf⟩;have HF9:=Lib.hid ((HF0.out.trans hq).trans hf);clear hf hq)
   | (go_at_call 13;have hq:=HFa.out;refine (HFW.out _ (HF0.out.trans hq)).mono ?_;rintro e w1 ⟨⟨b1,rfl⟩,hf⟩;clear y0 y1 y2 y3 y4;obtain ⟨⟨y0,y1,y2,y3,y4⟩,_⟩:=box5 (HX0.out.keep (hq.trans hf));have HF1:=Lib.hid (hq.trans hf);clear hf hq;cases b1)
   | (go_at_call 7;refine (awake24 _ (HT.out.keep HF0.out) (HS.out.keep HF0.out) (HM.out.keep HF0.out)).mono ?_;rintro e wa ⟨rfl,hf⟩;obtain ⟨⟨y0,y1,y2,y3,y4⟩,_⟩:=box5 (HX0.out.keep hf);have HFa:=Lib.hid hf;clear hf))
  all_goals (go_ret;exact ⟨rfl,HF9.out⟩)
theorem rtwice_good (v:JV) (B:Option Addr) (d:Nat) (B':Option Addr) (d':Nat) (l:List CallV) (A:Option Addr) (c:Nat) (n:Nat) (hn255:n≤255) (w:World) (hv:InV w (Lo w.heap.size) v (vA v B d B' d')) (hbv:JV.bulk v≤1048576) (hcs:CsR w A l) (hl:l.length≤1048576) (hn:∀ q∈l,JV.bulk q.1.2≤1048576) (hT:LowTabs w) (hS:SpTab w) (hM:MxL w) (h6:v.kd=6) (h0:0<v.ms.length):
  Calls Tryz.prog 4 #[.agg #[.int .i64 v.kd,.int .i64 v.nm,.string ⟨v.tx.toArray⟩,.slice B v.ls.length d,.slice B' v.ms.length d'],.slice A l.length c,.int .u8 (n:Nat)] w fun e w'=>e=.returned (.bool true)∧Fr w w':=by
 have HT:=Lib.hid hT
 have HS:=Lib.hid hS
 have HM:=Lib.hid hM
 have HFW:Hid (∀ W,Fr w W→Calls Tryz.prog 13 #[.agg #[.int .i64 v.kd,.int .i64 v.nm,.string ⟨v.tx.toArray⟩,.slice B v.ls.length d,.slice B' v.ms.length d'],.slice A l.length c] W fun e w'=>(∃ b:Bool,e=.returned (.bool b))∧Fr W w'):=Lib.hid (fun W hW=>few24_is v B d B' d' l A c W ((hv.keep (Nat.le_refl _) hW).lo hW.size) hbv (((hcs.z.keep (Nat.le_refl _) hW).lo hW.size)) hl hn)
 have hbe:=Rf.bulk_eq v
 have hml:=Rf.bigM_len v.ms
 have hml2:v.ms.length≤1048576:=by omega
 have hml3:(v.ms.length:Int)≤1048576:=by omega
 have h0':(0:Int)<(v.ms.length:Int):=by omega
 have e0:((v.ms.length:Int) == 0)=false:=by rw [beq_eq_false_iff_ne];omega
 have e1:(v.ms.length == 0)=false:=by rw [beq_eq_false_iff_ne];omega
 have e6:(v.kd != 6)=false:=by rw [h6];rfl
 obtain ⟨k,hk⟩:∃ k,n % v.ms.length=k:=⟨_,rfl⟩
 have hkl:k<v.ms.length:=by rw [← hk];exact Nat.mod_lt _ h0
 have hkt:Int.tmod (n:Int) (v.ms.length:Int)=(k:Int):=by rw [Int.tmod_eq_emod_of_nonneg (by omega)];omega
 have hkl':(k:Int)<(v.ms.length:Int):=by omega
 have hk0:(0:Int)≤(k:Int):=by omega
 have hn3:(n:Int)≤255:=by omega
 have hne:¬ v.ms=[]:=by intro e;rw [e] at h0;exact absurd h0 (by simp)
 have hwn:IntKind.i64.wrap (n:Int)=(n:Int):=by rw [IntKind.wrap_i64];omega
 have hms:MsC w (Lo w.heap.size) B' v.ms:=hv.msC'
 obtain ⟨b,o,P,p,P',p',rfl,hb,hnl,c0,⟨k1,k2,k3,k4,k5⟩,hix⟩:=hms k hkl
 obtain ⟨nm,x,hce⟩:∃ nm x,v.ms[k]=(nm,x):=⟨_,_,rfl⟩
 rw [hce] at hnl c0 k1 k2 k3 k4 k5 hix
 have HB:Hid (b<w.heap.size):=Lib.hid hb
 have HMC0:Hid (w.cell? ⟨b,o+k*6,none⟩=some (.string ⟨nm.toArray⟩)∧w.cell? ⟨b,o+k*6+1,none⟩=some (.int .i64 x.kd)∧w.cell? ⟨b,o+k*6+2,none⟩=some (.int .i64 x.nm)∧w.cell? ⟨b,o+k*6+3,none⟩=some (.string ⟨x.tx.toArray⟩)∧w.cell? ⟨b,o+k*6+4,none⟩=some (.slice P x.ls.length p)∧w.cell? ⟨b,o+k*6+5,none⟩=some (.slice P' x.ms.length p')):=Lib.hid ⟨c0,k1,k2,k3,k4,k5⟩
 have HIX:=Lib.hid hix
 have HMS:=Lib.hid hms
 have HCE:=Lib.hid hce
 have HKL:=Lib.hid hkl
 have hbm:=Rf.bigM_mem (List.getElem_mem hkl)
 rw [hce] at hbm
 have hbm:1+nm.length+JV.bulk x≤JV.bulkM v.ms:=hbm
 have hnl2:nm.length≤1048576:=by omega
 clear hv hbv hcs hl hn hT hS hM h6 hbe hml hk hms hb hnl c0 k1 k2 k3 k4 k5 hix hce hbm
 go_enter Tryz.func4,Tryz.ntmps4
 go_upto_region 1 with fail
 have hx0:Blk (w.alloc (.cells #[.int .i64 v.kd,.int .i64 v.nm,.string ⟨v.tx.toArray⟩,.slice B v.ls.length d,.slice (some ⟨b,o,none⟩) v.ms.length d'] 25)) w.heap.size #[.int .i64 v.kd,.int .i64 v.nm,.string ⟨v.tx.toArray⟩,.slice B v.ls.length d,.slice (some ⟨b,o,none⟩) v.ms.length d'] 25:=Blk.made w _ _
 have hf0:Fr w (w.alloc (.cells #[.int .i64 v.kd,.int .i64 v.nm,.string ⟨v.tx.toArray⟩,.slice B v.ls.length d,.slice (some ⟨b,o,none⟩) v.ms.length d'] 25)):=(Fr.refl w).alloc _
 generalize (w.alloc (.cells #[.int .i64 v.kd,.int .i64 v.nm,.string ⟨v.tx.toArray⟩,.slice B v.ls.length d,.slice (some ⟨b,o,none⟩) v.ms.length d'] 25))=W0 at hx0 hf0 ⊢
 obtain ⟨X3,hX3⟩:∃ X,w.heap.size=X:=⟨_,rfl⟩
 have HX3:=Lib.hid hX3
 rw [hX3] at hx0 ⊢
 clear hX3
 obtain ⟨⟨x0,x1,x2,x3,x4⟩,_⟩:=box5 hx0
 have HX0:=Lib.hid hx0
 have HF0:=Lib.hid hf0
 clear hx0 hf0
 go_upto_region 3 with (first
  | (go_at_call 13;have hq:=HFa.out;refine (HFW.out _ (HF0.out.trans hq)).mono ?_;rintro e w1 ⟨⟨b1,rfl⟩,hf⟩;clear y0 y1 y2 y3 y4;obtain ⟨⟨y0,y1,y2,y3,y4⟩,_⟩:=box5 (HX0.out.keep (hq.trans hf));have HF1:=Lib.hid (hq.trans hf);clear hf hq;cases b1)
  | (go_at_call 7;refine (awake24 _ (HT.out.keep HF0.out) (HS.out.keep HF0.out) (HM.out.keep HF0.out)).mono ?_;rintro e wa ⟨rfl,hf⟩;obtain ⟨⟨y0,y1,y2,y3,y4⟩,_⟩:=box5 (HX0.out.keep hf);have HFa:=Lib.hid hf;clear hf))
 ·go_wp2_with (go_at_call 7;have hq:=HF1.out;refine (awake24 _ (HT.out.keep (HF0.out.trans hq)) (HS.out.keep (HF0.out.trans hq)) (HM.out.keep (HF0.out.trans hq))).mono ?_;rintro e w9 ⟨rfl,hf⟩;have HF9:=Lib.hid ((HF0.out.trans hq).trans hf);clear hf hq)
  go_ret
  exact ⟨rfl,HF9.out⟩
 clear x0 x1 x2 x3 x4 y0 y1 y2 y3 y4
 obtain ⟨W1,hW1⟩:∃ W,W=w1:=⟨_,rfl⟩
 subst hW1
 have HFW1:Hid (Fr w W1):=Lib.hid (HF0.out.trans HF1.out)
 have HX1:=Lib.hid (HX0.out.keep HF1.out)
 have HSW:Hid (∀ W,Fr W1 W→W.cell? ⟨X3,4,none⟩=some (.slice (some ⟨b,o,none⟩) v.ms.length d')∧W.cell? ⟨b,o+k*6,none⟩=some (.string ⟨nm.toArray⟩)∧W.cell? ⟨b,o+k*6+1,none⟩=some (.int .i64 x.kd)∧W.cell? ⟨b,o+k*6+2,none⟩=some (.int .i64 x.nm)∧W.cell? ⟨b,o+k*6+3,none⟩=some (.string ⟨x.tx.toArray⟩)∧W.cell? ⟨b,o+k*6+4,none⟩=some (.slice P x.ls.length p)∧W.cell? ⟨b,o+k*6+5,none⟩=some (.slice P' x.ms.length p')):=Lib.hid (fun W hW=>by
  have a:=HX1.out.keep hW
  have k:∀ o,W.cell? ⟨b,o,none⟩=w.cell? ⟨b,o,none⟩:=fun o=>(HFW1.out.trans hW).cell HB.out
  exact ⟨a.cell 4,(k _).trans HMC0.out.1,(k _).trans HMC0.out.2.1,(k _).trans HMC0.out.2.2.1,(k _).trans HMC0.out.2.2.2.1,(k _).trans HMC0.out.2.2.2.2.1,(k _).trans HMC0.out.2.2.2.2.2⟩)
 clear HFa HF1 HX0 HF0
 refine wp_region_held_drew (S:=(fun W=>W.cell? ⟨X3,4,none⟩=some (.slice (some ⟨b,o,none⟩) v.ms.length d')∧W.cell? ⟨b,o+k*6,none⟩=some (.string ⟨nm.toArray⟩)∧W.cell? ⟨b,o+k*6+1,none⟩=some (.int .i64 x.kd)∧W.cell? ⟨b,o+k*6+2,none⟩=some (.int .i64 x.nm)∧W.cell? ⟨b,o+k*6+3,none⟩=some (.string ⟨x.tx.toArray⟩)∧W.cell? ⟨b,o+k*6+4,none⟩=some (.slice P x.ls.length p)∧W.cell? ⟨b,o+k*6+5,none⟩=some (.slice P' x.ms.length p'))) (by kernel_rfl) ?_ (fun hHeld=>?_)
 ·exact HSW.out _ (Fr.refl _).drew
 refine tk (i:=0) (v:=?_) rfl ⟨by rfl,?_⟩ hHeld ?_
 rotate_left
 ·(intro w' hSw;(try dsimp only at hSw);go_simp;try with_reducible rfl)
 try simp only [Act.put,fl]
 refine tk (i:=1) (v:=?_) rfl ⟨by rfl,?_⟩ hHeld ?_
 rotate_left
 ·(intro w' hSw;(try dsimp only at hSw);go_simp;try with_reducible rfl)
 try simp only [Act.put,fl]
 refine tk (i:=2) (v:=?_) rfl ⟨by rfl,?_⟩ hHeld ?_
 rotate_left
 ·(intro w' hSw;(try dsimp only at hSw);go_simp;try with_reducible rfl)
 try simp only [Act.put,fl]
 refine tk (i:=3) (v:=?_) rfl ⟨by rfl,?_⟩ hHeld ?_
 rotate_left
 ·(intro w' hSw;(try dsimp only at hSw);go_simp;try with_reducible rfl)
 try simp only [Act.put,fl]
 refine tk (i:=4) (v:=?_) rfl ⟨by rfl,?_⟩ hHeld ?_
 rotate_left
 ·(intro w' hSw;(try dsimp only at hSw);go_simp;try with_reducible rfl)
 try simp only [Act.put,fl]
 refine tk (i:=5) (v:=?_) rfl ⟨by rfl,?_⟩ hHeld ?_
 rotate_left
 ·(intro w' hSw;(try dsimp only at hSw);go_simp;try with_reducible rfl)
 try simp only [Act.put,fl]
 refine tk (i:=6) (v:=?_) rfl ⟨by rfl,?_⟩ hHeld ?_
 rotate_left
 ·(intro w' hSw;(try dsimp only at hSw);go_simp;try with_reducible rfl)
 try simp only [Act.put,fl]
 refine tk (i:=7) (v:=?_) rfl ⟨by rfl,?_⟩ hHeld ?_
 rotate_left
 ·(intro w' hSw;(try dsimp only at hSw);go_simp;try with_reducible rfl)
 try simp only [Act.put,fl]
 refine tk (i:=8) (v:=?_) rfl ⟨by rfl,?_⟩ hHeld ?_
 rotate_left
 ·(intro w' hSw;(try dsimp only at hSw);go_simp;try with_reducible rfl)
 try simp only [Act.put,fl]
 refine tk (i:=9) (v:=?_) rfl ⟨by rfl,?_⟩ hHeld ?_
 rotate_left
 ·(intro w' hSw;(try dsimp only at hSw);go_simp;try with_reducible rfl)
 try simp only [Act.put,fl]
 refine wpAnyH_ready (rs:=[10]) (by kernel_rfl) (by simp) ?_
 refine AllReadyH.cons rfl (fun K hK=>?_) AllReadyH.nil
 go_simp
 refine hK.out _ _ (HSW.out _ ((Fr.refl W1).drew.alloc _)) (fun hH3=>?_)
 clear hK K
 try simp only [Act.put,fl]
 refine wpAnyH_ready (rs:=[11]) (by kernel_rfl) (by simp) ?_
 refine AllReadyH.cons rfl (fun K hK=>?_) AllReadyH.nil
 go_simp
 refine hK.out _ _ (HSW.out _ (((Fr.refl W1).alloc _).drew)) (fun hH5=>?_)
 clear hK K
 try simp only [Act.put,fl]
 refine wpAnyH_done (by kernel_rfl) ?_ _
 have hb8:Blk ((W1.alloc (.cells #[.string ⟨nm.toArray⟩,.int .i64 x.kd,.int .i64 x.nm,.string ⟨x.tx.toArray⟩,.slice P x.ls.length p,.slice P' x.ms.length p'] 39)).drew) W1.heap.size #[.string ⟨nm.toArray⟩,.int .i64 x.kd,.int .i64 x.nm,.string ⟨x.tx.toArray⟩,.slice P x.ls.length p,.slice P' x.ms.length p'] 39:=(Blk.made W1 _ _).keep (Fr.refl _).drew
 have hf8:Fr W1 ((W1.alloc (.cells #[.string ⟨nm.toArray⟩,.int .i64 x.kd,.int .i64 x.nm,.string ⟨x.tx.toArray⟩,.slice P x.ls.length p,.slice P' x.ms.length p'] 39)).drew):=((Fr.refl W1).alloc _).drew
 have hs8:W1.heap.size≤W1.heap.size:=Nat.le_refl _
 generalize ((W1.alloc (.cells #[.string ⟨nm.toArray⟩,.int .i64 x.kd,.int .i64 x.nm,.string ⟨x.tx.toArray⟩,.slice P x.ls.length p,.slice P' x.ms.length p'] 39)).drew)=W7 at hb8 hf8 ⊢
 obtain ⟨X7,hX7⟩:∃ X,W1.heap.size=X:=⟨_,rfl⟩
 rw [hX7] at hb8 ⊢
 clear hX7 hs8
 have HB7:=Lib.hid hb8
 have HF7:=Lib.hid hf8
 clear hb8 hf8 hHeld hH3 hH5
 go_upto_region 4 with fail
 obtain ⟨⟨z0,z1,z2,z3,z4,z5⟩,_⟩:=box6 HB7.out
 obtain ⟨S,hS⟩:∃ S:ByteArray,(⟨nm.toArray⟩:ByteArray)=S:=⟨_,rfl⟩
 obtain ⟨U,hU⟩:∃ U:ByteArray,(⟨#[35]⟩:ByteArray)++S=U:=⟨_,rfl⟩
 rw [hS] at z0 ⊢
 rcases Rf.twin nm with ⟨r,hr⟩ | hr | ⟨c1,r,hr,hc1⟩ | hr | ⟨c1,r,hr,hc1⟩
 ·have hT1:S.extract 1 S.size=⟨(35::r).toArray⟩:=by rw [← hS,hr];exact ba_tail _ _
  have hg:S[0]? = some 35:=by rw [← hS,hr];exact ba_head _ _
  have hsz:S.size=r.length+2:=by rw [← hS,hr,ba_size];rfl
  have hs0:(0:Int)<(S.size:Int):=by omega
  have hSn:0<S.size:=by omega
  obtain ⟨cs,hcs⟩:∃ c:UInt8,35=c:=⟨_,rfl⟩
  have hSh:S[0]=cs:=by have h:=getElem?_pos S 0 hSn;rw [hg,hcs] at h;exact (Option.some.inj h).symm
  have hS1:((cs.toNat:Int) == 35)=true:=by rw [← hcs];rfl
  have hS2:(cs.toNat:Int)=35:=by rw [← hcs];rfl
  clear hg hcs
  have hs1:(1:Int)≤(S.size:Int):=by omega
  have hs2:(S.size:Int)≤1048576:=by rw [← hS,ba_size];omega
  obtain ⟨T,hT⟩:∃ T:ByteArray,(⟨(35::r).toArray⟩:ByteArray)=T:=⟨_,rfl⟩
  have htg:T[0]? = some 35:=by rw [← hT];exact ba_head _ _
  have hts:T.size=r.length+1:=by rw [← hT,ba_size];rfl
  have ht0:(0:Int)<(T.size:Int):=by omega
  have hTn:0<T.size:=by omega
  obtain ⟨ct,hct⟩:∃ c:UInt8,35=c:=⟨_,rfl⟩
  have hTh:T[0]=ct:=by have h:=getElem?_pos T 0 hTn;rw [htg,hct] at h;exact (Option.some.inj h).symm
  have hTq1:((ct.toNat:Int) == 35)=true:=by rw [← hct];rfl
  have hTq2:(ct.toNat:Int)=35:=by rw [← hct];rfl
  clear htg hct
  have hne:(T.toList == U.toList)=false:=by
   rw [← hT,← hU,← hS,ba_app,bl_beq',decide_eq_false_iff_not,hr]
   intro e
   have:=congrArg List.length e
   simp at this
  have hne3:(T.toList != U.toList)=true:=by rw [bne,hne];rfl
  rw [hT] at hT1
  clear hr hS hT hsz hts
  go_wp2_with fail
  go_ret
  exact ⟨rfl,HFW1.out.trans HF7.out⟩
 ·have hT1:S.extract 1 S.size=⟨([]:List UInt8).toArray⟩:=by rw [← hS,hr];exact ba_tail _ _
  have hg:S[0]? = some 35:=by rw [← hS,hr];exact ba_head _ _
  have hsz:S.size=1:=by rw [← hS,hr,ba_size];rfl
  have hs0:(0:Int)<(S.size:Int):=by omega
  have hSn:0<S.size:=by omega
  obtain ⟨cs,hcs⟩:∃ c:UInt8,35=c:=⟨_,rfl⟩
  have hSh:S[0]=cs:=by have h:=getElem?_pos S 0 hSn;rw [hg,hcs] at h;exact (Option.some.inj h).symm
  have hS1:((cs.toNat:Int) == 35)=true:=by rw [← hcs];rfl
  have hS2:(cs.toNat:Int)=35:=by rw [← hcs];rfl
  clear hg hcs
  have hs1:(1:Int)≤(S.size:Int):=by omega
  have hs2:(S.size:Int)≤1048576:=by omega
  obtain ⟨bn,hbn⟩:∃ b:List UInt8,([]:List UInt8)=b:=⟨_,rfl⟩
  rw [hbn] at hT1
  have HBL:Hid (bn.length≤140737488355328):=Lib.hid (by rw [← hbn];decide)
  have HND:Hid (¬ (Rf.bares (v.ms++[(bn,x)])).Nodup):=Lib.hid (Rf.bares_twice hkl (by rw [HCE.out,hr,← hbn];rfl))
  obtain ⟨T,hT⟩:∃ T:ByteArray,(⟨bn.toArray⟩:ByteArray)=T:=⟨_,rfl⟩
  have hts:T.size=0:=by rw [← hT,ba_size,← hbn];rfl
  rw [hT] at hT1
  clear hr hS hbn hsz
  go_upto_region 9 with fail
  go_upto_region 10 with fail
  subst hT
  clear hT1 hSh hS1 hS2 hSn hs0 hs1 hs2 hts z0 z1 z2 z3 z4 z5 hU
  have hb9:Blk (W7.alloc (.cells #[.int .i64 6,.int .i64 0,.string ⟨#[]⟩,.slice none 0 0,.slice none 0 0] 25)) W7.heap.size #[.int .i64 6,.int .i64 0,.string ⟨#[]⟩,.slice none 0 0,.slice none 0 0] 25:=Blk.made W7 _ _
  have hf9:Fr W7 (W7.alloc (.cells #[.int .i64 6,.int .i64 0,.string ⟨#[]⟩,.slice none 0 0,.slice none 0 0] 25)):=(Fr.refl W7).alloc _
  have hx9:W7.heap.size<(W7.alloc (.cells #[.int .i64 6,.int .i64 0,.string ⟨#[]⟩,.slice none 0 0,.slice none 0 0] 25)).heap.size:=hb9.lt
  generalize (W7.alloc (.cells #[.int .i64 6,.int .i64 0,.string ⟨#[]⟩,.slice none 0 0,.slice none 0 0] 25))=W9 at hb9 hf9 hx9 ⊢
  obtain ⟨X9,hX9⟩:∃ X,W7.heap.size=X:=⟨_,rfl⟩
  have HX9:=Lib.hid hX9
  rw [hX9] at hb9 hx9 ⊢
  clear hX9
  obtain ⟨K,hK⟩:∃ K,W9.heap.size=K:=⟨_,rfl⟩
  have HK:=Lib.hid hK
  have HB9:=Lib.hid hb9
  have HF9:=Lib.hid hf9
  have HX9K:Hid (X9<K):=Lib.hid (by omega)
  have HW19:Hid (Fr W1 W9):=Lib.hid (HF7.out.trans hf9)
  have HVN:Hid (MsB W9 w.heap.size K (.slice none 0 0) []):=Lib.hid (MsB.none_ W9 ⟨by rw [← hK];exact (HFW1.out.trans HW19.out).size,by rw [← hK];exact Nat.le_refl _⟩)
  have HMC:Hid (MsC W9 (Lo w.heap.size) (some ⟨b,o,none⟩) v.ms):=Lib.hid (HMS.out.keep (Nat.le_refl _) (HFW1.out.trans HW19.out))
  obtain ⟨⟨r0,r1,r2,r3,r4⟩,rf0,rf1,rf2,rf3,rf4⟩:=box5 hb9
  obtain ⟨⟨s0,s1,s2,s3,s4⟩,_⟩:=box5 (HX1.out.keep HW19.out)
  clear hK hb9 hf9 hx9
  go_upto_region 11 with (at_builtin;refine wpl_mB rfl (.tmp 75) (.tmp 77) rfl w.heap.size K _ [] rfl HVN.out (some ⟨b,o,none⟩) d' v.ms.length v.ms rfl rfl HMC.out (by simp;omega) ?_;intro v4 w4 hv4 hg4 ho4;obtain ⟨a4,c4,rfl⟩:=hv4.is_slice;have HV4:=Lib.hid hv4;have hf4:Fr W9 w4:=msb_fr (Fr.refl W9) HVN.out (Nat.le_of_eq HK.out) hg4;have hb4:=HB9.out.keep hf4;have HB4:=Lib.hid hb4;have HF4:=Lib.hid hf4;clear r0 r1 r2 r3 r4 rf0 rf1 rf2 rf3 rf4 s0 s1 s2 s3 s4;obtain ⟨⟨r0,r1,r2,r3,r4⟩,rf0,rf1,rf2,rf3,rf4⟩:=box5 hb4;clear hv4 hg4 hf4 hb4 ho4)
  have hb11:=HB4.out.set 4 (.slice a4 v.ms.length c4)
  have hx11:FrX X9 w4 (w4.setCell ⟨X9,4,none⟩ (.slice a4 v.ms.length c4)):=(FrX.refl X9 w4).setCell (p:=⟨X9,4,none⟩) rfl _
  have hv11:MsB (w4.setCell ⟨X9,4,none⟩ (.slice a4 v.ms.length c4)) w.heap.size K (.slice a4 v.ms.length c4) v.ms:=HV4.out.frx (by have:=HX9.out;have:=(HFW1.out.trans HF7.out).size;omega) HX9K.out hx11
  have hf11:Fr W7 (w4.setCell ⟨X9,4,none⟩ (.slice a4 v.ms.length c4)):=(HF9.out.trans HF4.out).setCell (p:=⟨X9,4,none⟩) (Nat.le_of_eq HX9.out) _
  clear r0 r1 r2 r3 r4 rf0 rf1 rf2 rf3 rf4
  generalize (w4.setCell ⟨X9,4,none⟩ (.slice a4 v.ms.length c4))=W11 at hb11 hv11 hf11 ⊢
  have HB11:Hid (Blk W11 X9 #[.int .i64 6,.int .i64 0,.string ⟨#[]⟩,.slice none 0 0,(.slice a4 v.ms.length c4)] 25):=Lib.hid hb11
  have HV11:=Lib.hid hv11
  have HF11:=Lib.hid hf11
  obtain ⟨⟨r0,r1,r2,r3,r4⟩,rf0,rf1,rf2,rf3,rf4⟩:=box5 HB11.out
  obtain ⟨⟨s0,s1,s2,s3,s4,s5⟩,_⟩:=box6 (HB7.out.keep hf11)
  have HUX:Hid (InV W11 (Lo w.heap.size) x (vA x P p P' p')):=Lib.hid (HIX.out.keep (Nat.le_refl _) (HFW1.out.trans (HF7.out.trans hf11)))
  have hk96:(v.ms.length+1)*96≤140737488355328:=by omega
  clear hb11 hv11 hf11 hx11
  go_upto_region 12 with (at_builtin;refine wpl_mB_lit rfl (.tmp 81) (.tmp 86) rfl w.heap.size K _ v.ms rfl HV11.out bn x P p P' p' rfl HBL.out HUX.out rfl (by simp) hk96 ?_;intro v5 w5 hv5 hg5 ho5;obtain ⟨a5,c5,rfl⟩:=hv5.is_slice2 (n:=1) rfl;have HV5:=Lib.hid hv5;have hf5:Fr W7 w5:=msb_fr (HF11.out.alloc _) (HV11.out.keep ((Fr.refl _).alloc _)) (by have:=HX9.out;have:=HX9K.out;omega) hg5;have hne5:some X9≠(Value.slice a4 v.ms.length c4).ownBlock:=(fun e=>by have:=(HV11.out.own_lt e.symm).1;have:=HX9K.out;omega);have hb5:Blk w5 X9 _ _:=(hg5.block _ (HB11.out.keep ((Fr.refl _).alloc _)).lt hne5).trans (HB11.out.keep ((Fr.refl _).alloc _));have HB5:=Lib.hid hb5;have HF5:=Lib.hid hf5;clear r0 r1 r2 r3 r4 rf0 rf1 rf2 rf3 rf4 s0 s1 s2 s3 s4 s5;obtain ⟨⟨r0,r1,r2,r3,r4⟩,rf0,rf1,rf2,rf3,rf4⟩:=box5 hb5;clear hv5 hg5 hf5 hb5 ho5 hne5)
  have hb12:Blk (w5.setCell ⟨X9,4,none⟩ (.slice a5 (v.ms.length+1) c5)) X9 #[.int .i64 6,.int .i64 0,.string ⟨#[]⟩,.slice none 0 0,(.slice a5 (v.ms.length+1) c5)] 25:=HB5.out.set 4 (.slice a5 (v.ms.length+1) c5)
  have hx12:FrX X9 w5 (w5.setCell ⟨X9,4,none⟩ (.slice a5 (v.ms.length+1) c5)):=(FrX.refl X9 w5).setCell (p:=⟨X9,4,none⟩) rfl _
  have hv12:MsB (w5.setCell ⟨X9,4,none⟩ (.slice a5 (v.ms.length+1) c5)) w.heap.size K (.slice a5 (v.ms.length+1) c5) (v.ms++[(bn,x)]):=HV5.out.frx (by have:=HX9.out;have:=(HFW1.out.trans HF7.out).size;omega) HX9K.out hx12
  have hf12:Fr W7 (w5.setCell ⟨X9,4,none⟩ (.slice a5 (v.ms.length+1) c5)):=HF5.out.setCell (p:=⟨X9,4,none⟩) (Nat.le_of_eq HX9.out) _
  clear r0 r1 r2 r3 r4 rf0 rf1 rf2 rf3 rf4 hx12
  generalize (w5.setCell ⟨X9,4,none⟩ (.slice a5 (v.ms.length+1) c5))=W12 at hb12 hv12 hf12 ⊢
  have HFF:Hid (Fr w W12):=Lib.hid (HFW1.out.trans (HF7.out.trans hf12))
  have hlen:(v.ms++[(bn,x)]).length=v.ms.length+1:=by simp
  have hin:InV W12 (Lo W12.heap.size) (JV.mapV (v.ms++[(bn,x)])) (.agg #[.int .i64 6,.int .i64 0,.string ⟨#[]⟩,.slice none 0 0,(.slice a5 (v.ms.length+1) c5)]):=(hv12.inV (by omega)).more (fun b hb=>by rcases hb with h | h;exact Nat.lt_of_lt_of_le h HFF.out.size;exact h.2)
  obtain ⟨⟨r0,r1,r2,r3,r4⟩,_⟩:=box5 hb12
  have HRS:Hid (Calls Tryz.prog 14 #[.agg #[.int .i64 6,.int .i64 0,.string ⟨#[]⟩,.slice none 0 0,(.slice a5 (v.ms.length+1) c5)],.slice A l.length c] W12 fun e w'=>e=.returned (.tuple #[.agg #[.int .i64 0,.int .i64 0,.string ⟨#[]⟩,.slice none 0 0,.slice none 0 0],.int .i64 1])∧Fr W12 w'):=Lib.hid (by
   have h:=resolve_no (JV.mapV (v.ms++[(bn,x)])) none 0 a5 c5 l A c W12 W12.heap.size (Nat.le_refl _) (by
    show InV W12 _ _ (.agg #[_,_,_,_,.slice a5 (v.ms++[(bn,x)]).length c5])
    rw [hlen];exact hin) (by show (v.ms++[(bn,x)]).length≤_;omega) (fun h=>by
    have h2:Rf.twice (v.ms++[(bn,x)])=false:=h.2
    unfold Rf.twice at h2
    rw [decide_eq_false_iff_not] at h2
    exact h2 HND.out)
   rw [Rf.resolve_twice l HND.out] at h
   have h:Calls Tryz.prog 14 #[.agg #[.int .i64 6,.int .i64 0,.string ⟨#[]⟩,.slice none 0 0,.slice a5 (v.ms++[(bn,x)]).length c5],.slice A l.length c] W12 _:=h
   rw [hlen] at h
   exact h)
  clear hb12 hv12 hf12 hin hlen
  go_wp2_with (go_at_call 14;refine HRS.out.mono ?_;rintro e w6 ⟨rfl,hf⟩;have HF6:=Lib.hid (HFF.out.trans hf);clear hf)
  go_ret
  exact ⟨rfl,HF6.out.alloc _⟩
 ·have hT1:S.extract 1 S.size=⟨(c1::r).toArray⟩:=by rw [← hS,hr];exact ba_tail _ _
  have hg:S[0]? = some 35:=by rw [← hS,hr];exact ba_head _ _
  have hsz:S.size=r.length+2:=by rw [← hS,hr,ba_size];rfl
  have hs0:(0:Int)<(S.size:Int):=by omega
  have hSn:0<S.size:=by omega
  obtain ⟨cs,hcs⟩:∃ c:UInt8,35=c:=⟨_,rfl⟩
  have hSh:S[0]=cs:=by have h:=getElem?_pos S 0 hSn;rw [hg,hcs] at h;exact (Option.some.inj h).symm
  have hS1:((cs.toNat:Int) == 35)=true:=by rw [← hcs];rfl
  have hS2:(cs.toNat:Int)=35:=by rw [← hcs];rfl
  clear hg hcs
  have hs1:(1:Int)≤(S.size:Int):=by omega
  have hs2:(S.size:Int)≤1048576:=by rw [← hS,ba_size];omega
  obtain ⟨bn,hbn⟩:∃ b:List UInt8,c1::r=b:=⟨_,rfl⟩
  rw [hbn] at hT1
  have HBL:Hid (bn.length≤140737488355328):=Lib.hid (by rw [← hbn];have:=congrArg List.length hr;simp at this ⊢;omega)
  have HND:Hid (¬ (Rf.bares (v.ms++[(bn,x)])).Nodup):=Lib.hid (Rf.bares_twice hkl (by rw [HCE.out,hr,← hbn];exact (Rf.bare_c hc1).trans (Rf.bare_35 _).symm))
  obtain ⟨T,hT⟩:∃ T:ByteArray,(⟨bn.toArray⟩:ByteArray)=T:=⟨_,rfl⟩
  have htg:T[0]? = some c1:=by rw [← hT,← hbn];exact ba_head _ _
  have hts:T.size=r.length+1:=by rw [← hT,← hbn,ba_size];rfl
  have ht0:(0:Int)<(T.size:Int):=by omega
  have hTn:0<T.size:=by omega
  have hTh:T[0]=c1:=by have h:=getElem?_pos T 0 hTn;rw [htg] at h;exact (Option.some.inj h).symm
  clear htg
  have hq1:(c1 == 35)=false:=by rw [beq_eq_false_iff_ne];exact hc1
  have hq2:((c1.toNat:Int) == 35)=false:=by
   rw [beq_eq_false_iff_ne];intro e
   exact hc1 (UInt8.toNat_inj.1 (by show c1.toNat=35;omega))
  have hq3:¬ (c1.toNat:Int)=35:=by rwa [beq_eq_false_iff_ne] at hq2
  rw [hT] at hT1
  clear hr hS hbn hsz hts hc1
  go_upto_region 9 with fail
  go_upto_region 10 with fail
  subst hT
  clear hT1 hSh hS1 hS2 hSn hTh hTn hs0 hs1 hs2 ht0 hq1 hq2 hq3 z0 z1 z2 z3 z4 z5 hU
  have hb9:Blk (W7.alloc (.cells #[.int .i64 6,.int .i64 0,.string ⟨#[]⟩,.slice none 0 0,.slice none 0 0] 25)) W7.heap.size #[.int .i64 6,.int .i64 0,.string ⟨#[]⟩,.slice none 0 0,.slice none 0 0] 25:=Blk.made W7 _ _
  have hf9:Fr W7 (W7.alloc (.cells #[.int .i64 6,.int .i64 0,.string ⟨#[]⟩,.slice none 0 0,.slice none 0 0] 25)):=(Fr.refl W7).alloc _
  have hx9:W7.heap.size<(W7.alloc (.cells #[.int .i64 6,.int .i64 0,.string ⟨#[]⟩,.slice none 0 0,.slice none 0 0] 25)).heap.size:=hb9.lt
  generalize (W7.alloc (.cells #[.int .i64 6,.int .i64 0,.string ⟨#[]⟩,.slice none 0 0,.slice none 0 0] 25))=W9 at hb9 hf9 hx9 ⊢
  obtain ⟨X9,hX9⟩:∃ X,W7.heap.size=X:=⟨_,rfl⟩
  have HX9:=Lib.hid hX9
  rw [hX9] at hb9 hx9 ⊢
  clear hX9
  obtain ⟨K,hK⟩:∃ K,W9.heap.size=K:=⟨_,rfl⟩
  have HK:=Lib.hid hK
  have HB9:=Lib.hid hb9
  have HF9:=Lib.hid hf9
  have HX9K:Hid (X9<K):=Lib.hid (by omega)
  have HW19:Hid (Fr W1 W9):=Lib.hid (HF7.out.trans hf9)
  have HVN:Hid (MsB W9 w.heap.size K (.slice none 0 0) []):=Lib.hid (MsB.none_ W9 ⟨by rw [← hK];exact (HFW1.out.trans HW19.out).size,by rw [← hK];exact Nat.le_refl _⟩)
  have HMC:Hid (MsC W9 (Lo w.heap.size) (some ⟨b,o,none⟩) v.ms):=Lib.hid (HMS.out.keep (Nat.le_refl _) (HFW1.out.trans HW19.out))
  obtain ⟨⟨r0,r1,r2,r3,r4⟩,rf0,rf1,rf2,rf3,rf4⟩:=box5 hb9
  obtain ⟨⟨s0,s1,s2,s3,s4⟩,_⟩:=box5 (HX1.out.keep HW19.out)
  clear hK hb9 hf9 hx9
  go_upto_region 11 with (at_builtin;refine wpl_mB rfl (.tmp 75) (.tmp 77) rfl w.heap.size K _ [] rfl HVN.out (some ⟨b,o,none⟩) d' v.ms.length v.ms rfl rfl HMC.out (by simp;omega) ?_;intro v4 w4 hv4 hg4 ho4;obtain ⟨a4,c4,rfl⟩:=hv4.is_slice;have HV4:=Lib.hid hv4;have hf4:Fr W9 w4:=msb_fr (Fr.refl W9) HVN.out (Nat.le_of_eq HK.out) hg4;have hb4:=HB9.out.keep hf4;have HB4:=Lib.hid hb4;have HF4:=Lib.hid hf4;clear r0 r1 r2 r3 r4 rf0 rf1 rf2 rf3 rf4 s0 s1 s2 s3 s4;obtain ⟨⟨r0,r1,r2,r3,r4⟩,rf0,rf1,rf2,rf3,rf4⟩:=box5 hb4;clear hv4 hg4 hf4 hb4 ho4)
  have hb11:=HB4.out.set 4 (.slice a4 v.ms.length c4)
  have hx11:FrX X9 w4 (w4.setCell ⟨X9,4,none⟩ (.slice a4 v.ms.length c4)):=(FrX.refl X9 w4).setCell (p:=⟨X9,4,none⟩) rfl _
  have hv11:MsB (w4.setCell ⟨X9,4,none⟩ (.slice a4 v.ms.length c4)) w.heap.size K (.slice a4 v.ms.length c4) v.ms:=HV4.out.frx (by have:=HX9.out;have:=(HFW1.out.trans HF7.out).size;omega) HX9K.out hx11
  have hf11:Fr W7 (w4.setCell ⟨X9,4,none⟩ (.slice a4 v.ms.length c4)):=(HF9.out.trans HF4.out).setCell (p:=⟨X9,4,none⟩) (Nat.le_of_eq HX9.out) _
  clear r0 r1 r2 r3 r4 rf0 rf1 rf2 rf3 rf4
  generalize (w4.setCell ⟨X9,4,none⟩ (.slice a4 v.ms.length c4))=W11 at hb11 hv11 hf11 ⊢
  have HB11:Hid (Blk W11 X9 #[.int .i64 6,.int .i64 0,.string ⟨#[]⟩,.slice none 0 0,(.slice a4 v.ms.length c4)] 25):=Lib.hid hb11
  have HV11:=Lib.hid hv11
  have HF11:=Lib.hid hf11
  obtain ⟨⟨r0,r1,r2,r3,r4⟩,rf0,rf1,rf2,rf3,rf4⟩:=box5 HB11.out
  obtain ⟨⟨s0,s1,s2,s3,s4,s5⟩,_⟩:=box6 (HB7.out.keep hf11)
  have HUX:Hid (InV W11 (Lo w.heap.size) x (vA x P p P' p')):=Lib.hid (HIX.out.keep (Nat.le_refl _) (HFW1.out.trans (HF7.out.trans hf11)))
  have hk96:(v.ms.length+1)*96≤140737488355328:=by omega
  clear hb11 hv11 hf11 hx11
  go_upto_region 12 with (at_builtin;refine wpl_mB_lit rfl (.tmp 81) (.tmp 86) rfl w.heap.size K _ v.ms rfl HV11.out bn x P p P' p' rfl HBL.out HUX.out rfl (by simp) hk96 ?_;intro v5 w5 hv5 hg5 ho5;obtain ⟨a5,c5,rfl⟩:=hv5.is_slice2 (n:=1) rfl;have HV5:=Lib.hid hv5;have hf5:Fr W7 w5:=msb_fr (HF11.out.alloc _) (HV11.out.keep ((Fr.refl _).alloc _)) (by have:=HX9.out;have:=HX9K.out;omega) hg5;have hne5:some X9≠(Value.slice a4 v.ms.length c4).ownBlock:=(fun e=>by have:=(HV11.out.own_lt e.symm).1;have:=HX9K.out;omega);have hb5:Blk w5 X9 _ _:=(hg5.block _ (HB11.out.keep ((Fr.refl _).alloc _)).lt hne5).trans (HB11.out.keep ((Fr.refl _).alloc _));have HB5:=Lib.hid hb5;have HF5:=Lib.hid hf5;clear r0 r1 r2 r3 r4 rf0 rf1 rf2 rf3 rf4 s0 s1 s2 s3 s4 s5;obtain ⟨⟨r0,r1,r2,r3,r4⟩,rf0,rf1,rf2,rf3,rf4⟩:=box5 hb5;clear hv5 hg5 hf5 hb5 ho5 hne5)
  have hb12:Blk (w5.setCell ⟨X9,4,none⟩ (.slice a5 (v.ms.length+1) c5)) X9 #[.int .i64 6,.int .i64 0,.string ⟨#[]⟩,.slice none 0 0,(.slice a5 (v.ms.length+1) c5)] 25:=HB5.out.set 4 (.slice a5 (v.ms.length+1) c5)
  have hx12:FrX X9 w5 (w5.setCell ⟨X9,4,none⟩ (.slice a5 (v.ms.length+1) c5)):=(FrX.refl X9 w5).setCell (p:=⟨X9,4,none⟩) rfl _
  have hv12:MsB (w5.setCell ⟨X9,4,none⟩ (.slice a5 (v.ms.length+1) c5)) w.heap.size K (.slice a5 (v.ms.length+1) c5) (v.ms++[(bn,x)]):=HV5.out.frx (by have:=HX9.out;have:=(HFW1.out.trans HF7.out).size;omega) HX9K.out hx12
  have hf12:Fr W7 (w5.setCell ⟨X9,4,none⟩ (.slice a5 (v.ms.length+1) c5)):=HF5.out.setCell (p:=⟨X9,4,none⟩) (Nat.le_of_eq HX9.out) _
  clear r0 r1 r2 r3 r4 rf0 rf1 rf2 rf3 rf4 hx12
  generalize (w5.setCell ⟨X9,4,none⟩ (.slice a5 (v.ms.length+1) c5))=W12 at hb12 hv12 hf12 ⊢
  have HFF:Hid (Fr w W12):=Lib.hid (HFW1.out.trans (HF7.out.trans hf12))
  have hlen:(v.ms++[(bn,x)]).length=v.ms.length+1:=by simp
  have hin:InV W12 (Lo W12.heap.size) (JV.mapV (v.ms++[(bn,x)])) (.agg #[.int .i64 6,.int .i64 0,.string ⟨#[]⟩,.slice none 0 0,(.slice a5 (v.ms.length+1) c5)]):=(hv12.inV (by omega)).more (fun b hb=>by rcases hb with h | h;exact Nat.lt_of_lt_of_le h HFF.out.size;exact h.2)
  obtain ⟨⟨r0,r1,r2,r3,r4⟩,_⟩:=box5 hb12
  have HRS:Hid (Calls Tryz.prog 14 #[.agg #[.int .i64 6,.int .i64 0,.string ⟨#[]⟩,.slice none 0 0,(.slice a5 (v.ms.length+1) c5)],.slice A l.length c] W12 fun e w'=>e=.returned (.tuple #[.agg #[.int .i64 0,.int .i64 0,.string ⟨#[]⟩,.slice none 0 0,.slice none 0 0],.int .i64 1])∧Fr W12 w'):=Lib.hid (by
   have h:=resolve_no (JV.mapV (v.ms++[(bn,x)])) none 0 a5 c5 l A c W12 W12.heap.size (Nat.le_refl _) (by
    show InV W12 _ _ (.agg #[_,_,_,_,.slice a5 (v.ms++[(bn,x)]).length c5])
    rw [hlen];exact hin) (by show (v.ms++[(bn,x)]).length≤_;omega) (fun h=>by
    have h2:Rf.twice (v.ms++[(bn,x)])=false:=h.2
    unfold Rf.twice at h2
    rw [decide_eq_false_iff_not] at h2
    exact h2 HND.out)
   rw [Rf.resolve_twice l HND.out] at h
   have h:Calls Tryz.prog 14 #[.agg #[.int .i64 6,.int .i64 0,.string ⟨#[]⟩,.slice none 0 0,.slice a5 (v.ms++[(bn,x)]).length c5],.slice A l.length c] W12 _:=h
   rw [hlen] at h
   exact h)
  clear hb12 hv12 hf12 hin hlen
  go_wp2_with (go_at_call 14;refine HRS.out.mono ?_;rintro e w6 ⟨rfl,hf⟩;have HF6:=Lib.hid (HFF.out.trans hf);clear hf)
  go_ret
  exact ⟨rfl,HF6.out.alloc _⟩
 ·have hsz:S.size=0:=by rw [← hS,hr,ba_size];rfl
  obtain ⟨bn,hbn⟩:∃ b:List UInt8,[35]=b:=⟨_,rfl⟩
  have hUb:(⟨bn.toArray⟩:ByteArray)=U:=by rw [← hU,← hS,ba_app,hr,← hbn]
  have HBL:Hid (bn.length≤140737488355328):=Lib.hid (by rw [← hbn];decide)
  have HND:Hid (¬ (Rf.bares (v.ms++[(bn,x)])).Nodup):=Lib.hid (Rf.bares_twice hkl (by rw [HCE.out,hr,← hbn];rfl))
  have htg:U[0]? = some 35:=by rw [← hUb,← hbn];exact ba_head _ _
  have hts:U.size=1:=by rw [← hUb,← hbn,ba_size];rfl
  have ht0:(0:Int)<(U.size:Int):=by omega
  have hTn:0<U.size:=by omega
  obtain ⟨ct,hct⟩:∃ c:UInt8,35=c:=⟨_,rfl⟩
  have hTh:U[0]=ct:=by have h:=getElem?_pos U 0 hTn;rw [htg,hct] at h;exact (Option.some.inj h).symm
  have hTq1:((ct.toNat:Int) == 35)=true:=by rw [← hct];rfl
  have hTq2:(ct.toNat:Int)=35:=by rw [← hct];rfl
  clear htg hct
  clear hr hS hbn hts
  go_upto_region 9 with fail
  go_upto_region 10 with fail
  subst hUb
  clear hsz hTh hTn hTq1 hTq2 ht0 z0 z1 z2 z3 z4 z5 hU
  have hb9:Blk (W7.alloc (.cells #[.int .i64 6,.int .i64 0,.string ⟨#[]⟩,.slice none 0 0,.slice none 0 0] 25)) W7.heap.size #[.int .i64 6,.int .i64 0,.string ⟨#[]⟩,.slice none 0 0,.slice none 0 0] 25:=Blk.made W7 _ _
  have hf9:Fr W7 (W7.alloc (.cells #[.int .i64 6,.int .i64 0,.string ⟨#[]⟩,.slice none 0 0,.slice none 0 0] 25)):=(Fr.refl W7).alloc _
  have hx9:W7.heap.size<(W7.alloc (.cells #[.int .i64 6,.int .i64 0,.string ⟨#[]⟩,.slice none 0 0,.slice none 0 0] 25)).heap.size:=hb9.lt
  generalize (W7.alloc (.cells #[.int .i64 6,.int .i64 0,.string ⟨#[]⟩,.slice none 0 0,.slice none 0 0] 25))=W9 at hb9 hf9 hx9 ⊢
  obtain ⟨X9,hX9⟩:∃ X,W7.heap.size=X:=⟨_,rfl⟩
  have HX9:=Lib.hid hX9
  rw [hX9] at hb9 hx9 ⊢
  clear hX9
  obtain ⟨K,hK⟩:∃ K,W9.heap.size=K:=⟨_,rfl⟩
  have HK:=Lib.hid hK
  have HB9:=Lib.hid hb9
  have HF9:=Lib.hid hf9
  have HX9K:Hid (X9<K):=Lib.hid (by omega)
  have HW19:Hid (Fr W1 W9):=Lib.hid (HF7.out.trans hf9)
  have HVN:Hid (MsB W9 w.heap.size K (.slice none 0 0) []):=Lib.hid (MsB.none_ W9 ⟨by rw [← hK];exact (HFW1.out.trans HW19.out).size,by rw [← hK];exact Nat.le_refl _⟩)
  have HMC:Hid (MsC W9 (Lo w.heap.size) (some ⟨b,o,none⟩) v.ms):=Lib.hid (HMS.out.keep (Nat.le_refl _) (HFW1.out.trans HW19.out))
  obtain ⟨⟨r0,r1,r2,r3,r4⟩,rf0,rf1,rf2,rf3,rf4⟩:=box5 hb9
  obtain ⟨⟨s0,s1,s2,s3,s4⟩,_⟩:=box5 (HX1.out.keep HW19.out)
  clear hK hb9 hf9 hx9
  go_upto_region 11 with (at_builtin;refine wpl_mB rfl (.tmp 75) (.tmp 77) rfl w.heap.size K _ [] rfl HVN.out (some ⟨b,o,none⟩) d' v.ms.length v.ms rfl rfl HMC.out (by simp;omega) ?_;intro v4 w4 hv4 hg4 ho4;obtain ⟨a4,c4,rfl⟩:=hv4.is_slice;have HV4:=Lib.hid hv4;have hf4:Fr W9 w4:=msb_fr (Fr.refl W9) HVN.out (Nat.le_of_eq HK.out) hg4;have hb4:=HB9.out.keep hf4;have HB4:=Lib.hid hb4;have HF4:=Lib.hid hf4;clear r0 r1 r2 r3 r4 rf0 rf1 rf2 rf3 rf4 s0 s1 s2 s3 s4;obtain ⟨⟨r0,r1,r2,r3,r4⟩,rf0,rf1,rf2,rf3,rf4⟩:=box5 hb4;clear hv4 hg4 hf4 hb4 ho4)
  have hb11:=HB4.out.set 4 (.slice a4 v.ms.length c4)
  have hx11:FrX X9 w4 (w4.setCell ⟨X9,4,none⟩ (.slice a4 v.ms.length c4)):=(FrX.refl X9 w4).setCell (p:=⟨X9,4,none⟩) rfl _
  have hv11:MsB (w4.setCell ⟨X9,4,none⟩ (.slice a4 v.ms.length c4)) w.heap.size K (.slice a4 v.ms.length c4) v.ms:=HV4.out.frx (by have:=HX9.out;have:=(HFW1.out.trans HF7.out).size;omega) HX9K.out hx11
  have hf11:Fr W7 (w4.setCell ⟨X9,4,none⟩ (.slice a4 v.ms.length c4)):=(HF9.out.trans HF4.out).setCell (p:=⟨X9,4,none⟩) (Nat.le_of_eq HX9.out) _
  clear r0 r1 r2 r3 r4 rf0 rf1 rf2 rf3 rf4
  generalize (w4.setCell ⟨X9,4,none⟩ (.slice a4 v.ms.length c4))=W11 at hb11 hv11 hf11 ⊢
  have HB11:Hid (Blk W11 X9 #[.int .i64 6,.int .i64 0,.string ⟨#[]⟩,.slice none 0 0,(.slice a4 v.ms.length c4)] 25):=Lib.hid hb11
  have HV11:=Lib.hid hv11
  have HF11:=Lib.hid hf11
  obtain ⟨⟨r0,r1,r2,r3,r4⟩,rf0,rf1,rf2,rf3,rf4⟩:=box5 HB11.out
  obtain ⟨⟨s0,s1,s2,s3,s4,s5⟩,_⟩:=box6 (HB7.out.keep hf11)
  have HUX:Hid (InV W11 (Lo w.heap.size) x (vA x P p P' p')):=Lib.hid (HIX.out.keep (Nat.le_refl _) (HFW1.out.trans (HF7.out.trans hf11)))
  have hk96:(v.ms.length+1)*96≤140737488355328:=by omega
  clear hb11 hv11 hf11 hx11
  go_upto_region 12 with (at_builtin;refine wpl_mB_lit rfl (.tmp 81) (.tmp 86) rfl w.heap.size K _ v.ms rfl HV11.out bn x P p P' p' rfl HBL.out HUX.out rfl (by simp) hk96 ?_;intro v5 w5 hv5 hg5 ho5;obtain ⟨a5,c5,rfl⟩:=hv5.is_slice2 (n:=1) rfl;have HV5:=Lib.hid hv5;have hf5:Fr W7 w5:=msb_fr (HF11.out.alloc _) (HV11.out.keep ((Fr.refl _).alloc _)) (by have:=HX9.out;have:=HX9K.out;omega) hg5;have hne5:some X9≠(Value.slice a4 v.ms.length c4).ownBlock:=(fun e=>by have:=(HV11.out.own_lt e.symm).1;have:=HX9K.out;omega);have hb5:Blk w5 X9 _ _:=(hg5.block _ (HB11.out.keep ((Fr.refl _).alloc _)).lt hne5).trans (HB11.out.keep ((Fr.refl _).alloc _));have HB5:=Lib.hid hb5;have HF5:=Lib.hid hf5;clear r0 r1 r2 r3 r4 rf0 rf1 rf2 rf3 rf4 s0 s1 s2 s3 s4 s5;obtain ⟨⟨r0,r1,r2,r3,r4⟩,rf0,rf1,rf2,rf3,rf4⟩:=box5 hb5;clear hv5 hg5 hf5 hb5 ho5 hne5)
  have hb12:Blk (w5.setCell ⟨X9,4,none⟩ (.slice a5 (v.ms.length+1) c5)) X9 #[.int .i64 6,.int .i64 0,.string ⟨#[]⟩,.slice none 0 0,(.slice a5 (v.ms.length+1) c5)] 25:=HB5.out.set 4 (.slice a5 (v.ms.length+1) c5)
  have hx12:FrX X9 w5 (w5.setCell ⟨X9,4,none⟩ (.slice a5 (v.ms.length+1) c5)):=(FrX.refl X9 w5).setCell (p:=⟨X9,4,none⟩) rfl _
  have hv12:MsB (w5.setCell ⟨X9,4,none⟩ (.slice a5 (v.ms.length+1) c5)) w.heap.size K (.slice a5 (v.ms.length+1) c5) (v.ms++[(bn,x)]):=HV5.out.frx (by have:=HX9.out;have:=(HFW1.out.trans HF7.out).size;omega) HX9K.out hx12
  have hf12:Fr W7 (w5.setCell ⟨X9,4,none⟩ (.slice a5 (v.ms.length+1) c5)):=HF5.out.setCell (p:=⟨X9,4,none⟩) (Nat.le_of_eq HX9.out) _
  clear r0 r1 r2 r3 r4 rf0 rf1 rf2 rf3 rf4 hx12
  generalize (w5.setCell ⟨X9,4,none⟩ (.slice a5 (v.ms.length+1) c5))=W12 at hb12 hv12 hf12 ⊢
  have HFF:Hid (Fr w W12):=Lib.hid (HFW1.out.trans (HF7.out.trans hf12))
  have hlen:(v.ms++[(bn,x)]).length=v.ms.length+1:=by simp
  have hin:InV W12 (Lo W12.heap.size) (JV.mapV (v.ms++[(bn,x)])) (.agg #[.int .i64 6,.int .i64 0,.string ⟨#[]⟩,.slice none 0 0,(.slice a5 (v.ms.length+1) c5)]):=(hv12.inV (by omega)).more (fun b hb=>by rcases hb with h | h;exact Nat.lt_of_lt_of_le h HFF.out.size;exact h.2)
  obtain ⟨⟨r0,r1,r2,r3,r4⟩,_⟩:=box5 hb12
  have HRS:Hid (Calls Tryz.prog 14 #[.agg #[.int .i64 6,.int .i64 0,.string ⟨#[]⟩,.slice none 0 0,(.slice a5 (v.ms.length+1) c5)],.slice A l.length c] W12 fun e w'=>e=.returned (.tuple #[.agg #[.int .i64 0,.int .i64 0,.string ⟨#[]⟩,.slice none 0 0,.slice none 0 0],.int .i64 1])∧Fr W12 w'):=Lib.hid (by
   have h:=resolve_no (JV.mapV (v.ms++[(bn,x)])) none 0 a5 c5 l A c W12 W12.heap.size (Nat.le_refl _) (by
    show InV W12 _ _ (.agg #[_,_,_,_,.slice a5 (v.ms++[(bn,x)]).length c5])
    rw [hlen];exact hin) (by show (v.ms++[(bn,x)]).length≤_;omega) (fun h=>by
    have h2:Rf.twice (v.ms++[(bn,x)])=false:=h.2
    unfold Rf.twice at h2
    rw [decide_eq_false_iff_not] at h2
    exact h2 HND.out)
   rw [Rf.resolve_twice l HND.out] at h
   have h:Calls Tryz.prog 14 #[.agg #[.int .i64 6,.int .i64 0,.string ⟨#[]⟩,.slice none 0 0,.slice a5 (v.ms++[(bn,x)]).length c5],.slice A l.length c] W12 _:=h
   rw [hlen] at h
   exact h)
  clear hb12 hv12 hf12 hin hlen
  go_wp2_with (go_at_call 14;refine HRS.out.mono ?_;rintro e w6 ⟨rfl,hf⟩;have HF6:=Lib.hid (HFF.out.trans hf);clear hf)
  go_ret
  exact ⟨rfl,HF6.out.alloc _⟩
 ·have hg:S[0]? = some c1:=by rw [← hS,hr];exact ba_head _ _
  have hsz:S.size=r.length+1:=by rw [← hS,hr,ba_size];rfl
  have hs0:(0:Int)<(S.size:Int):=by omega
  have hSn:0<S.size:=by omega
  have hSh:S[0]=c1:=by have h:=getElem?_pos S 0 hSn;rw [hg] at h;exact (Option.some.inj h).symm
  clear hg
  have hs2:(S.size:Int)≤1048576:=by rw [← hS,ba_size];omega
  have hq1:(c1 == 35)=false:=by rw [beq_eq_false_iff_ne];exact hc1
  have hq2:((c1.toNat:Int) == 35)=false:=by
   rw [beq_eq_false_iff_ne];intro e
   exact hc1 (UInt8.toNat_inj.1 (by show c1.toNat=35;omega))
  have hq3:¬ (c1.toNat:Int)=35:=by rwa [beq_eq_false_iff_ne] at hq2
  obtain ⟨bn,hbn⟩:∃ b:List UInt8,35::nm=b:=⟨_,rfl⟩
  have hUb:(⟨bn.toArray⟩:ByteArray)=U:=by rw [← hU,← hS,ba_app,← hbn]
  have HBL:Hid (bn.length≤140737488355328):=Lib.hid (by rw [← hbn];simp;omega)
  have HND:Hid (¬ (Rf.bares (v.ms++[(bn,x)])).Nodup):=Lib.hid (Rf.bares_twice hkl (by rw [HCE.out,← hbn,hr];exact (Rf.bare_35 _).trans (Rf.bare_c hc1).symm))
  have htg:U[0]? = some 35:=by rw [← hUb,← hbn];exact ba_head _ _
  have hts:U.size=nm.length+1:=by rw [← hUb,← hbn,ba_size];rfl
  have ht0:(0:Int)<(U.size:Int):=by omega
  have hTn:0<U.size:=by omega
  obtain ⟨ct,hct⟩:∃ c:UInt8,35=c:=⟨_,rfl⟩
  have hTh:U[0]=ct:=by have h:=getElem?_pos U 0 hTn;rw [htg,hct] at h;exact (Option.some.inj h).symm
  have hTq1:((ct.toNat:Int) == 35)=true:=by rw [← hct];rfl
  have hTq2:(ct.toNat:Int)=35:=by rw [← hct];rfl
  clear htg hct
  clear hr hS hbn hts hsz hc1
  go_upto_region 9 with fail
  go_upto_region 10 with fail
  subst hUb
  clear hSh hSn hs0 hs2 hq1 hq2 hq3 hTh hTn hTq1 hTq2 ht0 z0 z1 z2 z3 z4 z5 hU
  have hb9:Blk (W7.alloc (.cells #[.int .i64 6,.int .i64 0,.string ⟨#[]⟩,.slice none 0 0,.slice none 0 0] 25)) W7.heap.size #[.int .i64 6,.int .i64 0,.string ⟨#[]⟩,.slice none 0 0,.slice none 0 0] 25:=Blk.made W7 _ _
  have hf9:Fr W7 (W7.alloc (.cells #[.int .i64 6,.int .i64 0,.string ⟨#[]⟩,.slice none 0 0,.slice none 0 0] 25)):=(Fr.refl W7).alloc _
  have hx9:W7.heap.size<(W7.alloc (.cells #[.int .i64 6,.int .i64 0,.string ⟨#[]⟩,.slice none 0 0,.slice none 0 0] 25)).heap.size:=hb9.lt
  generalize (W7.alloc (.cells #[.int .i64 6,.int .i64 0,.string ⟨#[]⟩,.slice none 0 0,.slice none 0 0] 25))=W9 at hb9 hf9 hx9 ⊢
  obtain ⟨X9,hX9⟩:∃ X,W7.heap.size=X:=⟨_,rfl⟩
  have HX9:=Lib.hid hX9
  rw [hX9] at hb9 hx9 ⊢
  clear hX9
  obtain ⟨K,hK⟩:∃ K,W9.heap.size=K:=⟨_,rfl⟩
  have HK:=Lib.hid hK
  have HB9:=Lib.hid hb9
  have HF9:=Lib.hid hf9
  have HX9K:Hid (X9<K):=Lib.hid (by omega)
  have HW19:Hid (Fr W1 W9):=Lib.hid (HF7.out.trans hf9)
  have HVN:Hid (MsB W9 w.heap.size K (.slice none 0 0) []):=Lib.hid (MsB.none_ W9 ⟨by rw [← hK];exact (HFW1.out.trans HW19.out).size,by rw [← hK];exact Nat.le_refl _⟩)
  have HMC:Hid (MsC W9 (Lo w.heap.size) (some ⟨b,o,none⟩) v.ms):=Lib.hid (HMS.out.keep (Nat.le_refl _) (HFW1.out.trans HW19.out))
  obtain ⟨⟨r0,r1,r2,r3,r4⟩,rf0,rf1,rf2,rf3,rf4⟩:=box5 hb9
  obtain ⟨⟨s0,s1,s2,s3,s4⟩,_⟩:=box5 (HX1.out.keep HW19.out)
  clear hK hb9 hf9 hx9
  go_upto_region 11 with (at_builtin;refine wpl_mB rfl (.tmp 75) (.tmp 77) rfl w.heap.size K _ [] rfl HVN.out (some ⟨b,o,none⟩) d' v.ms.length v.ms rfl rfl HMC.out (by simp;omega) ?_;intro v4 w4 hv4 hg4 ho4;obtain ⟨a4,c4,rfl⟩:=hv4.is_slice;have HV4:=Lib.hid hv4;have hf4:Fr W9 w4:=msb_fr (Fr.refl W9) HVN.out (Nat.le_of_eq HK.out) hg4;have hb4:=HB9.out.keep hf4;have HB4:=Lib.hid hb4;have HF4:=Lib.hid hf4;clear r0 r1 r2 r3 r4 rf0 rf1 rf2 rf3 rf4 s0 s1 s2 s3 s4;obtain ⟨⟨r0,r1,r2,r3,r4⟩,rf0,rf1,rf2,rf3,rf4⟩:=box5 hb4;clear hv4 hg4 hf4 hb4 ho4)
  have hb11:=HB4.out.set 4 (.slice a4 v.ms.length c4)
  have hx11:FrX X9 w4 (w4.setCell ⟨X9,4,none⟩ (.slice a4 v.ms.length c4)):=(FrX.refl X9 w4).setCell (p:=⟨X9,4,none⟩) rfl _
  have hv11:MsB (w4.setCell ⟨X9,4,none⟩ (.slice a4 v.ms.length c4)) w.heap.size K (.slice a4 v.ms.length c4) v.ms:=HV4.out.frx (by have:=HX9.out;have:=(HFW1.out.trans HF7.out).size;omega) HX9K.out hx11
  have hf11:Fr W7 (w4.setCell ⟨X9,4,none⟩ (.slice a4 v.ms.length c4)):=(HF9.out.trans HF4.out).setCell (p:=⟨X9,4,none⟩) (Nat.le_of_eq HX9.out) _
  clear r0 r1 r2 r3 r4 rf0 rf1 rf2 rf3 rf4
  generalize (w4.setCell ⟨X9,4,none⟩ (.slice a4 v.ms.length c4))=W11 at hb11 hv11 hf11 ⊢
  have HB11:Hid (Blk W11 X9 #[.int .i64 6,.int .i64 0,.string ⟨#[]⟩,.slice none 0 0,(.slice a4 v.ms.length c4)] 25):=Lib.hid hb11
  have HV11:=Lib.hid hv11
  have HF11:=Lib.hid hf11
  obtain ⟨⟨r0,r1,r2,r3,r4⟩,rf0,rf1,rf2,rf3,rf4⟩:=box5 HB11.out
  obtain ⟨⟨s0,s1,s2,s3,s4,s5⟩,_⟩:=box6 (HB7.out.keep hf11)
  have HUX:Hid (InV W11 (Lo w.heap.size) x (vA x P p P' p')):=Lib.hid (HIX.out.keep (Nat.le_refl _) (HFW1.out.trans (HF7.out.trans hf11)))
  have hk96:(v.ms.length+1)*96≤140737488355328:=by omega
  clear hb11 hv11 hf11 hx11
  go_upto_region 12 with (at_builtin;refine wpl_mB_lit rfl (.tmp 81) (.tmp 86) rfl w.heap.size K _ v.ms rfl HV11.out bn x P p P' p' rfl HBL.out HUX.out rfl (by simp) hk96 ?_;intro v5 w5 hv5 hg5 ho5;obtain ⟨a5,c5,rfl⟩:=hv5.is_slice2 (n:=1) rfl;have HV5:=Lib.hid hv5;have hf5:Fr W7 w5:=msb_fr (HF11.out.alloc _) (HV11.out.keep ((Fr.refl _).alloc _)) (by have:=HX9.out;have:=HX9K.out;omega) hg5;have hne5:some X9≠(Value.slice a4 v.ms.length c4).ownBlock:=(fun e=>by have:=(HV11.out.own_lt e.symm).1;have:=HX9K.out;omega);have hb5:Blk w5 X9 _ _:=(hg5.block _ (HB11.out.keep ((Fr.refl _).alloc _)).lt hne5).trans (HB11.out.keep ((Fr.refl _).alloc _));have HB5:=Lib.hid hb5;have HF5:=Lib.hid hf5;clear r0 r1 r2 r3 r4 rf0 rf1 rf2 rf3 rf4 s0 s1 s2 s3 s4 s5;obtain ⟨⟨r0,r1,r2,r3,r4⟩,rf0,rf1,rf2,rf3,rf4⟩:=box5 hb5;clear hv5 hg5 hf5 hb5 ho5 hne5)
  have hb12:Blk (w5.setCell ⟨X9,4,none⟩ (.slice a5 (v.ms.length+1) c5)) X9 #[.int .i64 6,.int .i64 0,.string ⟨#[]⟩,.slice none 0 0,(.slice a5 (v.ms.length+1) c5)] 25:=HB5.out.set 4 (.slice a5 (v.ms.length+1) c5)
  have hx12:FrX X9 w5 (w5.setCell ⟨X9,4,none⟩ (.slice a5 (v.ms.length+1) c5)):=(FrX.refl X9 w5).setCell (p:=⟨X9,4,none⟩) rfl _
  have hv12:MsB (w5.setCell ⟨X9,4,none⟩ (.slice a5 (v.ms.length+1) c5)) w.heap.size K (.slice a5 (v.ms.length+1) c5) (v.ms++[(bn,x)]):=HV5.out.frx (by have:=HX9.out;have:=(HFW1.out.trans HF7.out).size;omega) HX9K.out hx12
  have hf12:Fr W7 (w5.setCell ⟨X9,4,none⟩ (.slice a5 (v.ms.length+1) c5)):=HF5.out.setCell (p:=⟨X9,4,none⟩) (Nat.le_of_eq HX9.out) _
  clear r0 r1 r2 r3 r4 rf0 rf1 rf2 rf3 rf4 hx12
  generalize (w5.setCell ⟨X9,4,none⟩ (.slice a5 (v.ms.length+1) c5))=W12 at hb12 hv12 hf12 ⊢
  have HFF:Hid (Fr w W12):=Lib.hid (HFW1.out.trans (HF7.out.trans hf12))
  have hlen:(v.ms++[(bn,x)]).length=v.ms.length+1:=by simp
  have hin:InV W12 (Lo W12.heap.size) (JV.mapV (v.ms++[(bn,x)])) (.agg #[.int .i64 6,.int .i64 0,.string ⟨#[]⟩,.slice none 0 0,(.slice a5 (v.ms.length+1) c5)]):=(hv12.inV (by omega)).more (fun b hb=>by rcases hb with h | h;exact Nat.lt_of_lt_of_le h HFF.out.size;exact h.2)
  obtain ⟨⟨r0,r1,r2,r3,r4⟩,_⟩:=box5 hb12
  have HRS:Hid (Calls Tryz.prog 14 #[.agg #[.int .i64 6,.int .i64 0,.string ⟨#[]⟩,.slice none 0 0,(.slice a5 (v.ms.length+1) c5)],.slice A l.length c] W12 fun e w'=>e=.returned (.tuple #[.agg #[.int .i64 0,.int .i64 0,.string ⟨#[]⟩,.slice none 0 0,.slice none 0 0],.int .i64 1])∧Fr W12 w'):=Lib.hid (by
   have h:=resolve_no (JV.mapV (v.ms++[(bn,x)])) none 0 a5 c5 l A c W12 W12.heap.size (Nat.le_refl _) (by
    show InV W12 _ _ (.agg #[_,_,_,_,.slice a5 (v.ms++[(bn,x)]).length c5])
    rw [hlen];exact hin) (by show (v.ms++[(bn,x)]).length≤_;omega) (fun h=>by
    have h2:Rf.twice (v.ms++[(bn,x)])=false:=h.2
    unfold Rf.twice at h2
    rw [decide_eq_false_iff_not] at h2
    exact h2 HND.out)
   rw [Rf.resolve_twice l HND.out] at h
   have h:Calls Tryz.prog 14 #[.agg #[.int .i64 6,.int .i64 0,.string ⟨#[]⟩,.slice none 0 0,.slice a5 (v.ms++[(bn,x)]).length c5],.slice A l.length c] W12 _:=h
   rw [hlen] at h
   exact h)
  clear hb12 hv12 hf12 hin hlen
  go_wp2_with (go_at_call 14;refine HRS.out.mono ?_;rintro e w6 ⟨rfl,hf⟩;have HF6:=Lib.hid (HFF.out.trans hf);clear hf)
  go_ret
  exact ⟨rfl,HF6.out.alloc _⟩

/- Chapter 24: the table of white space; RefsTwice. -/

theorem sp_of {W:World} (h:Lib.VarReads Tryz.prog W "strings.asciiSpace" Rows.laid_strings_asciiSpace):SpTab W:=by
 rw [show (Rows.laid_strings_asciiSpace:DataW Unit)=Lib.tabData .u8 Lib.asciiSpaceTab from rfl] at h
 obtain ⟨g,t,cs,fuel,p,hg,hty,hvar,hd⟩:=h
 have e1:Tryz.prog.globalNamed "strings.asciiSpace" = some 0:=by kernel_rfl
 have e2:(Tryz.prog.globals[(0:Nat)]?).map (·.type)=some 95:=by kernel_rfl
 have c1:Tryz.prog.cellsOf 5=1:=by kernel_rfl
 have c2:Tryz.prog.cellsOf 95=256:=by kernel_rfl
 obtain rfl:=Option.some.inj (e1.symm.trans hg)
 obtain rfl:=Option.some.inj (e2.symm.trans hty)
 unfold SpTab Lib.TabIs
 rw [hvar,← Lib.cells_of_tab Tryz.underlying95 Tryz.underlying5 c1 c2 hd]
theorem rfcalls {l:List CallV} (h:Pt.bulkC l≤1048576):l.length≤1048576 ∧ ∀ q∈l,JV.bulk q.1.2≤1048576:=
 ⟨Nat.le_trans (Pt.bulkC_len l) h,fun q hq=>by have:=Pt.bulkC_mem hq;omega⟩
theorem reftwice_law (v:JV) (B:Option Addr) (d:Nat) (B':Option Addr) (d':Nat) (l:List CallV) (A:Option Addr) (c:Nat) (n:Int) (h0:0≤n) (h255:n≤255) (w:World) (hv:InV w (Lo w.heap.size) v (vA v B d B' d')) (hbv:JV.bulk v≤1048576) (hcs:CsR w A l) (hbc:Pt.bulkC l≤1048576) (hT:LowTabs w) (hS:SpTab w) (hM:MxL w):
  Calls Tryz.prog 4 #[vA v B d B' d',.slice A l.length c,.int .u8 n] w fun e w'=>e=.returned (.bool true)∧Fr w w':=by
 obtain ⟨m,rfl⟩:=Int.eq_ofNat_of_zero_le h0
 obtain ⟨hl,hn⟩:=rfcalls hbc
 by_cases h6:v.kd=6
 ·by_cases hz:v.ms.length=0
  ·exact rtwice_bad v B d B' d' l A c m w hv hbv hcs hl hn hT hS hM (.inr ⟨by rw [h6];rfl,hz⟩)
  ·exact rtwice_good v B d B' d' l A c m (by omega) w hv hbv hcs hl hn hT hS hM h6 (Nat.pos_of_ne_zero hz)
 ·exact rtwice_bad v B d B' d' l A c m w hv hbv hcs hl hn hT hS hM (.inl (by rw [bne_iff_ne];exact h6))
end Go.Proofs.YtdhakbghdcfncaaGreatDoor
