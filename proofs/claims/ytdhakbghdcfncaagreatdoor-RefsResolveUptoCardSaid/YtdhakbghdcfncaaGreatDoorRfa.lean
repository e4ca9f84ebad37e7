/- Chapter 24, plain: references: what they are, what they lead to, what comes of arguments. -/
import Derived.Test.YtdhakbghdcfncaaGreatDoorPta
import Derived.Test.YtdhakbghdcfncaaGreatDoorReadF
import Derived.Test.YtdhakbghdcfncaaGreatDoorTra
import Derived.Deep.RegionHeld
import Derived.Test.YtdhakbghdcfncaaGreatDoorEa
import Derived.Test.YtdhakbghdcfncaaGreatDoorShelf
namespace Go.Proofs.YtdhakbghdcfncaaGreatDoor
set_option maxRecDepth 100000
set_option maxHeartbeats 4000000
set_option linter.unusedVariables false
set_option linter.unusedSimpArgs false
open Go.RowKit

namespace Rf
abbrev Tx:=List UInt8
abbrev CallP:=(Tx × JV) × Tx
def bare:Tx→Tx × Bool
 | []=>([],false)
 | c::r=>if c=35 then (r,true) else (c::r,false)
def bares (m:List (Tx × JV)):List Tx:=m.map fun x=>(bare x.1).1
def twice (m:List (Tx × JV)):Bool:=decide (¬ (bares m).Nodup)
def nOf:Tx:=[114,101,115,117,108,116,79,102]
def nName:Tx:=[110,97,109,101]
def nPath:Tx:=[112,97,116,104]
def txt (v:JV) (s:Tx):Option Tx:=match Pt.get v s with
 | some x=>if x.kd=4 then some x.tx else none
 | none=>none
def three (v:JV):Option (Tx × Tx × Tx):=if v.kd=6∧v.ms.length=3 then (match txt v nOf,txt v nName,txt v nPath with
 | some a,some b,some c=>some (a,b,c)
 | _,_,_=>none) else none
def look (done:List CallP) (id:Tx):Option CallP:=done.find? fun c=>decide (c.2=id)
def lead (v:JV) (done:List CallP):Except Nat JV:=match three v with
 | none=>.error 1
 | some (a,b,c)=>match look done a with
  | none=>.error 240
  | some d=>if d.1.1=b then (match Pt.parts c with
   | none=>.error 240
   | some ps=>match Pt.find true ps d.1.2 with
    | none=>.error 240
    | some x=>.ok x) else .error 240
mutual
def deep:JV→Nat
 | .mk _ _ _ l m=>1+max (deepL l) (deepM m)
termination_by structural v=>v
def deepL:List JV→Nat
 | []=>0
 | v::l=>max (deep v) (deepL l)
termination_by structural v=>v
def deepM:List (List UInt8 × JV)→Nat
 | []=>0
 | x::m=>max (deepP x) (deepM m)
termination_by structural v=>v
def deepP:List UInt8 × JV→Nat
 | (_,v)=>deep v
termination_by structural v=>v
end
mutual
def size:JV→Nat
 | .mk _ _ s l m=>s.length+sizeL l+sizeM m
termination_by structural v=>v
def sizeL:List JV→Nat
 | []=>0
 | v::l=>size v+sizeL l
termination_by structural v=>v
def sizeM:List (List UInt8 × JV)→Nat
 | []=>0
 | x::m=>sizeP x+sizeM m
termination_by structural v=>v
def sizeP:List UInt8 × JV→Nat
 | (s,v)=>s.length+size v
termination_by structural v=>v
end
def resM (done:List CallP):List (Tx × JV)→Nat→Nat→Except Nat (List (Tx × JV))
 | [],_,_=>.ok []
 | x::m,p,z=>if (bare x.1).2 then (match lead x.2 done with
   | .error e=>.error e
   | .ok y=>if p+Rd.nv y > 8192∨z+size y > 65536∨deep y > 12 then .error 2 else (match resM done m (p+Rd.nv y) (z+size y) with
    | .error e=>.error e
    | .ok l=>.ok (((bare x.1).1,y)::l)))
  else (match resM done m p z with
   | .error e=>.error e
   | .ok l=>.ok (x::l))
def resolve (args:JV) (done:List CallP):Except Nat JV:=if args.kd=6∧twice args.ms=false then (match resM done args.ms 0 0 with
 | .error e=>.error e
 | .ok l=>.ok (JV.mapV l)) else .error 1
theorem bare_no {s:Tx} (h:(bare s).2=false):(bare s).1=s:=by
 cases s with
 | nil=>rfl
 | cons c r=>
  have h:(if c=35 then (r,true) else (c::r,false)).2=false:=h
  show (if c=35 then (r,true) else (c::r,false)).1=c::r
  by_cases hc:c=35
  ·rw [if_pos hc] at h;cases h
  ·rw [if_neg hc]
theorem resM_none (done:List CallP):∀ (m:List (Tx × JV)) (p z:Nat),(∀ x∈m,(bare x.1).2=false)→resM done m p z=.ok m
 | [],p,z,_=>rfl
 | x::m,p,z,h=>by
  unfold resM
  rw [h x (by simp),resM_none done m p z (fun y hy=>h y (by simp [hy]))]
  rfl
end Rf
/- Chapter 24: tree.Count. -/

namespace Rf
theorem big_mk (k n:Int) (s:Tx) (l:List JV) (m:List (Tx × JV)):JV.bulk (.mk k n s l m)=3+s.length+JV.bulkL l+JV.bulkM m:=JV.bulk_mk _ _ _ _ _
theorem bigL_mem {x:JV}:∀ {l:List JV},x∈l→JV.bulk x≤JV.bulkL l
 | y::l,h=>by
  rw [JV.bulkL_cons]
  rcases List.mem_cons.1 h with rfl | h
  ·omega
  ·have:=bigL_mem h;omega
theorem bigM_mem {x:Tx × JV}:∀ {m:List (Tx × JV)},x∈m→1+x.1.length+JV.bulk x.2≤JV.bulkM m
 | y::m,h=>by
  rw [JV.bulkM_cons]
  rcases List.mem_cons.1 h with rfl | h
  ·omega
  ·have:=bigM_mem h;omega
theorem bigL_len:∀ l:List JV,l.length≤JV.bulkL l
 | []=>Nat.zero_le _
 | x::l=>by rw [JV.bulkL_cons,List.length_cons];have:=bigL_len l;have:=JV.bulk_pos x;omega
theorem bigM_len:∀ m:List (Tx × JV),m.length≤JV.bulkM m
 | []=>Nat.zero_le _
 | x::m=>by rw [JV.bulkM_cons,List.length_cons];have:=bigM_len m;omega
theorem takeS {α:Type} (g:List α→Nat) (f:α→Nat) (hn:g []=0) (hc:∀ x l,g (x::l)=f x+g l):∀ (l:List α) (i:Nat) (h:i<l.length),g (l.take (i+1))=g (l.take i)+f l[i]
 | x::l,0,_=>by simp [hc,hn]
 | x::l,i+1,h=>by
  have:=takeS g f hn hc l i (by simpa using h)
  rw [List.take_succ_cons,List.take_succ_cons,hc,hc,this,List.getElem_cons_succ]
  omega
theorem nvL0:Rd.nvL []=0:=Rd.nvL_nil
theorem nvM0:Rd.nvM []=0:=Rd.nvM_nil
theorem nv_big (v:JV):Rd.nv v≤JV.bulk v:=by
 refine JV.ind (P:=fun v=>Rd.nv v≤JV.bulk v) (fun k n s l m hl hm=>?_) v
 rw [Rd.nv_mk,big_mk]
 have h1:∀ l:List JV,(∀ x∈l,Rd.nv x≤JV.bulk x)→Rd.nvL l≤JV.bulkL l:=by
  intro l
  induction l with
  | nil=>intro _;rw [Rd.nvL_nil];exact Nat.zero_le _
  | cons x l ih=>
   intro h
   rw [Rd.nvL_cons,JV.bulkL_cons]
   have:=h x (by simp)
   have:=ih (fun y hy=>h y (by simp [hy]))
   omega
 have h2:∀ m:List (Tx × JV),(∀ x∈m,Rd.nv x.2≤JV.bulk x.2)→Rd.nvM m≤JV.bulkM m:=by
  intro m
  induction m with
  | nil=>intro _;rw [Rd.nvM_nil];exact Nat.zero_le _
  | cons x m ih=>
   intro h
   rw [Rd.nvM_cons,JV.bulkM_cons]
   have:=h x (by simp)
   have:=ih (fun y hy=>h y (by simp [hy]))
   omega
 have:=h1 l hl
 have:=h2 m hm
 omega
theorem nvL_big (l:List JV):Rd.nvL l≤JV.bulkL l:=by
 have:=nv_big (.mk 5 0 [] l [])
 induction l with
 | nil=>rw [Rd.nvL_nil];exact Nat.zero_le _
 | cons x l ih=>rw [Rd.nvL_cons,JV.bulkL_cons];have h1:=nv_big x;have h2:=ih (nv_big _);omega
theorem nvM_big (m:List (Tx × JV)):Rd.nvM m≤JV.bulkM m:=by
 induction m with
 | nil=>rw [Rd.nvM_nil];exact Nat.zero_le _
 | cons x m ih=>rw [Rd.nvM_cons,JV.bulkM_cons];have h1:=nv_big x.2;omega
theorem nvL_take:∀ (l:List JV) (i:Nat),Rd.nvL (l.take i)≤Rd.nvL l
 | [],i=>by simp
 | x::l,0=>by rw [List.take_zero,Rd.nvL_nil];exact Nat.zero_le _
 | x::l,i+1=>by rw [List.take_succ_cons,Rd.nvL_cons,Rd.nvL_cons];have:=nvL_take l i;omega
theorem nvM_take:∀ (m:List (Tx × JV)) (i:Nat),Rd.nvM (m.take i)≤Rd.nvM m
 | [],i=>by simp
 | x::m,0=>by rw [List.take_zero,Rd.nvM_nil];exact Nat.zero_le _
 | x::m,i+1=>by rw [List.take_succ_cons,Rd.nvM_cons,Rd.nvM_cons];have:=nvM_take m i;omega
end Rf

theorem tcount_is (u:JV):∀ (x:Value) (w:World),InV w (Lo w.heap.size) u x→JV.bulk u≤1048576→Calls Tryz.prog 21 #[x] w fun e w'=>e=.returned (.int .i64 ((Rd.nv u:Nat):Int))∧Fr w w':=by
 induction u using JV.ind with
 | h k n s l m ihl ihm=>
  intro x w hx hbig
  obtain ⟨A,c,A',c',rfl,hls,hms⟩:=hx.open_
  have hls:LsC w (Lo w.heap.size) A l:=hls
  have hms:MsC w (Lo w.heap.size) A' m:=hms
  rw [Rf.big_mk] at hbig
  have hres:Rd.nv (.mk k n s l m)=1+Rd.nvL l+Rd.nvM m:=by exact Rd.nv_mk _ _ _ _ _
  have HL1:Hid (∀ i (h:i<l.length),Rd.nvL (l.take (i+1))=Rd.nvL (l.take i)+Rd.nv l[i]∧JV.bulk l[i]≤1048576∧Rd.nvL (l.take i)≤JV.bulkL l∧Rd.nv l[i]≤1048576):=Lib.hid (fun i h=>⟨Rf.takeS Rd.nvL Rd.nv Rd.nvL_nil (fun x l=>Rd.nvL_cons x l) l i h,by have:=Rf.bigL_mem (List.getElem_mem h);omega,Nat.le_trans (Rf.nvL_take l i) (Rf.nvL_big l),by have h1:=Rf.nv_big l[i];have h2:=Rf.bigL_mem (List.getElem_mem h);omega⟩)
  have HM1:Hid (∀ i (h:i<m.length),Rd.nvM (m.take (i+1))=Rd.nvM (m.take i)+Rd.nv m[i].2∧JV.bulk m[i].2≤1048576∧Rd.nvM (m.take i)≤JV.bulkM m∧m[i].1.length≤1048576∧Rd.nv m[i].2≤1048576):=Lib.hid (fun i h=>⟨Rf.takeS Rd.nvM (fun x=>Rd.nv x.2) Rd.nvM_nil (fun x l=>Rd.nvM_cons x l) m i h,by have:=Rf.bigM_mem (List.getElem_mem h);omega,Nat.le_trans (Rf.nvM_take m i) (Rf.nvM_big m),by have:=Rf.bigM_mem (List.getElem_mem h);omega,by have h1:=Rf.nv_big m[i].2;have h2:=Rf.bigM_mem (List.getElem_mem h);omega⟩)
  have hll:l.length≤1048576:=by have:=Rf.bigL_len l;omega
  have hlm:m.length≤1048576:=by have:=Rf.bigM_len m;omega
  have hll':(l.length:Int)≤1048576:=by omega
  have hlm':(m.length:Int)≤1048576:=by omega
  have HBG:=Lib.hid hbig
  have HLS:=Lib.hid hls
  have HMS:=Lib.hid hms
  have HIL:=Lib.hid ihl
  have HIM:=Lib.hid ihm
  have hs63:s.length≤1048576:=by omega
  rw [hres]
  clear hx hls hms ihl ihm hbig hres
  show Calls Tryz.prog 21 #[.agg #[.int .i64 k,.int .i64 n,.string ⟨s.toArray⟩,.slice A l.length c,.slice A' m.length c']] w _
  go_enter Tryz.func21,Tryz.ntmps21
  go_upto_region 1 with fail
  have hb1:=Blk.made w #[.int .i64 k,.int .i64 n,.string ⟨s.toArray⟩,.slice A l.length c,.slice A' m.length c'] 25
  have hf0:Fr w (w.alloc (.cells #[.int .i64 k,.int .i64 n,.string ⟨s.toArray⟩,.slice A l.length c,.slice A' m.length c'] 25)):=(Fr.refl w).alloc _
  generalize (w.alloc (.cells #[.int .i64 k,.int .i64 n,.string ⟨s.toArray⟩,.slice A l.length c,.slice A' m.length c'] 25))=W0 at hb1 hf0 ⊢
  generalize w.heap.size=X1 at hb1 ⊢
  have HB1:=Lib.hid hb1
  have HF0:=Lib.hid hf0
  obtain ⟨⟨y0,y1,y2,y3,y4⟩,_⟩:=box5 hb1
  clear hb1 hf0
  go_wp2_with fail
  clear y0 y1 y2 y3 y4
  go_loopw [3,11] (fun a j wr=>∃ (i c9:Nat),i≤l.length∧a=.int .i64 (c9:Nat)∧j=.int .i64 i∧Hid (c9=1+Rd.nvL (l.take i)+0)∧Hid (Fr W0 wr)) (fun _ j _=>l.length - (intOf j).toNat)
  case atStart=>exact ⟨0,1,by omega,rfl,rfl,Lib.hid (by rw [List.take_zero,Rf.nvL0] <;> omega),Lib.hid (Fr.refl _)⟩
  case round=>
   obtain ⟨i,c9,hi,rfl,rfl,hC,hF⟩:=hrel
   have HFr:Hid (Fr w wr):=Lib.hid (HF0.out.trans hF.out)
   by_cases hlt:i<l.length
   ·have hlt':(i:Int)<(l.length:Int):=by omega
    obtain ⟨b,o,E,e,E',e',rfl,hb,⟨m1,m2,m3,m4,m5⟩,hiv⟩:=(HLS.out.keep (Nat.le_refl _) HFr.out) i hlt
    obtain ⟨ht,hbu,hcl,hfu⟩:=HL1.out i hlt
    have hih:=HIL.out l[i] (List.getElem_mem hlt)
    have hc9:c9≤4194304:=by have:=hC.out;have:=HBG.out;omega
    obtain ⟨u,hu⟩:∃ u,l[i]=u:=⟨_,rfl⟩
    rw [hu] at m1 m2 m3 m4 m5 hiv hih ht hbu hfu
    obtain ⟨y9,hy9⟩:∃ y,Rd.nv u=y:=⟨_,rfl⟩
    have HCU:Hid (∀ W,Fr wr W→Calls Tryz.prog 21 #[.agg #[.int .i64 u.kd,.int .i64 u.nm,.string ⟨u.tx.toArray⟩,.slice E u.ls.length e,.slice E' u.ms.length e']] W fun en w'=>en=.returned (.int .i64 (y9:Nat))∧Fr W w'):=Lib.hid (fun W hW=>by
     have:=hih (vA u E e E' e') W ((hiv.keep HFr.out.size hW).more (fun b hb=>Nat.lt_of_lt_of_le hb (HFr.out.trans hW).size)) hbu
     rw [hy9] at this
     exact this)
    rw [hy9] at ht hfu
    have HTT:=Lib.hid ht

    clear hiv hih hbu hu hy9 ht hcl hb
    go_upto_region 5 with fail
    have hb5:=Blk.made wr #[.int .i64 u.kd,.int .i64 u.nm,.string ⟨u.tx.toArray⟩,.slice E u.ls.length e,.slice E' u.ms.length e'] 25
    have hf5:Fr wr (wr.alloc (.cells #[.int .i64 u.kd,.int .i64 u.nm,.string ⟨u.tx.toArray⟩,.slice E u.ls.length e,.slice E' u.ms.length e'] 25)):=(Fr.refl wr).alloc _
    generalize (wr.alloc (.cells #[.int .i64 u.kd,.int .i64 u.nm,.string ⟨u.tx.toArray⟩,.slice E u.ls.length e,.slice E' u.ms.length e'] 25))=W5 at hb5 hf5 ⊢
    generalize wr.heap.size=X5 at hb5 ⊢
    obtain ⟨⟨x0,x1,x2,x3,x4⟩,_⟩:=box5 hb5
    have HF5:=Lib.hid hf5
    clear hb5 hf5 m1 m2 m3 m4 m5
    go_wp2_with (go_at_call 21;refine (HCU.out _ HF5.out).mono ?_;rintro en w8 ⟨rfl,hf⟩;have HF8:=Lib.hid (HF5.out.trans hf);clear hf)
    exact ⟨⟨i+1,c9+y9,by omega,by go_num,by go_num,Lib.hid (by rw [HTT.out];have:=hC.out;omega),Lib.hid (hF.out.trans HF8.out)⟩,by simp [intOf];omega⟩
   ·obtain rfl:i=l.length:=by omega
    have hc0:Hid (c9=1+Rd.nvL l+0):=Lib.hid (by have:=hC.out;rw [List.take_length] at this;exact this)
    obtain ⟨⟨y0,y1,y2,y3,y4⟩,_⟩:=box5 (HB1.out.keep hF.out)
    have HFb:=Lib.hid hF.out
    go_wp2_with fail
    clear y0 y1 y2 y3 y4 hC hF HFr
    go_loopw [3,23] (fun a j wr=>∃ (i c9:Nat),i≤m.length∧a=.int .i64 (c9:Nat)∧j=.int .i64 i∧Hid (c9=1+Rd.nvL l+Rd.nvM (m.take i))∧Hid (Fr W0 wr)) (fun _ j _=>m.length - (intOf j).toNat)
    case atStart=>exact ⟨0,c9,by omega,rfl,rfl,Lib.hid (by rw [hc0.out,List.take_zero,Rf.nvM0] <;> omega),HFb⟩
    case round=>
     obtain ⟨i,c9,hi,rfl,rfl,hC,hF⟩:=hrel
     have HFr:Hid (Fr w wr):=Lib.hid (HF0.out.trans hF.out)
     by_cases hlt:i<m.length
     ·have hlt':(i:Int)<(m.length:Int):=by omega
      obtain ⟨b,o,E,e,E',e',rfl,hb,_,m0,⟨m1,m2,m3,m4,m5⟩,hiv⟩:=(HMS.out.keep (Nat.le_refl _) HFr.out) i hlt
      obtain ⟨ht,hbu,hcl,hnl,hfu⟩:=HM1.out i hlt
      have hih:=HIM.out m[i] (List.getElem_mem hlt)
      have hc9:c9≤4194304:=by have:=hC.out;have:=HBG.out;have:=Rf.nvL_big l;omega
      obtain ⟨pu,hu⟩:∃ u,m[i]=u:=⟨_,rfl⟩
      rw [hu] at m0 m1 m2 m3 m4 m5 hiv hih ht hbu hfu hnl
      obtain ⟨nm,u⟩:=pu
      simp only at m0 m1 m2 m3 m4 m5 hiv hih ht hbu hfu hnl
      obtain ⟨y9,hy9⟩:∃ y,Rd.nv u=y:=⟨_,rfl⟩
      have HCU:Hid (∀ W,Fr wr W→Calls Tryz.prog 21 #[.agg #[.int .i64 u.kd,.int .i64 u.nm,.string ⟨u.tx.toArray⟩,.slice E u.ls.length e,.slice E' u.ms.length e']] W fun en w'=>en=.returned (.int .i64 (y9:Nat))∧Fr W w'):=Lib.hid (fun W hW=>by
       have:=hih (vA u E e E' e') W ((hiv.keep HFr.out.size hW).more (fun b hb=>Nat.lt_of_lt_of_le hb (HFr.out.trans hW).size)) hbu
       rw [hy9] at this
       exact this)
      rw [hy9] at ht hfu
      have HTT:=Lib.hid ht
      have hnl':(nm.length:Int)≤1048576:=by omega

      clear hiv hih hbu hu hy9 ht hcl hb
      go_upto_region 10 with fail
      have hb5:=Blk.made wr #[.string ⟨nm.toArray⟩,.int .i64 u.kd,.int .i64 u.nm,.string ⟨u.tx.toArray⟩,.slice E u.ls.length e,.slice E' u.ms.length e'] 39
      have hf5:Fr wr (wr.alloc (.cells #[.string ⟨nm.toArray⟩,.int .i64 u.kd,.int .i64 u.nm,.string ⟨u.tx.toArray⟩,.slice E u.ls.length e,.slice E' u.ms.length e'] 39)):=(Fr.refl wr).alloc _
      generalize (wr.alloc (.cells #[.string ⟨nm.toArray⟩,.int .i64 u.kd,.int .i64 u.nm,.string ⟨u.tx.toArray⟩,.slice E u.ls.length e,.slice E' u.ms.length e'] 39))=W5 at hb5 hf5 ⊢
      generalize wr.heap.size=X5 at hb5 ⊢
      obtain ⟨⟨x0,x1,x2,x3,x4,x5⟩,_⟩:=box6 hb5
      have HF5:=Lib.hid hf5
      clear hb5 hf5 m0 m1 m2 m3 m4 m5
      go_wp2_with (go_at_call 21;refine (HCU.out _ HF5.out).mono ?_;rintro en w8 ⟨rfl,hf⟩;have HF8:=Lib.hid (HF5.out.trans hf);clear hf)
      exact ⟨⟨i+1,c9+y9,by omega,by go_num,by go_num,Lib.hid (by rw [HTT.out];have:=hC.out;omega),Lib.hid (hF.out.trans HF8.out)⟩,by simp [intOf];omega⟩
     ·obtain rfl:i=m.length:=by omega
      have hc0:Hid (c9=1+Rd.nvL l+Rd.nvM m):=Lib.hid (by have:=hC.out;rw [List.take_length] at this;exact this)
      have hc9:c9≤4194304:=by have:=hc0.out;have:=HBG.out;have h5:=Rf.nvL_big l;have h6:=Rf.nvM_big m;omega
      go_wp2_with fail
      go_ret
      exact ⟨by rw [hc0.out];rfl,HFr.out⟩
/- Chapter 24: tree.Bytes. -/

namespace Rf
theorem size_mk (k n:Int) (s:Tx) (l:List JV) (m:List (Tx × JV)):size (.mk k n s l m)=s.length+sizeL l+sizeM m:=rfl
theorem sizeL_cons (x:JV) (l:List JV):sizeL (x::l)=size x+sizeL l:=rfl
theorem sizeM_cons (x:Tx × JV) (m:List (Tx × JV)):sizeM (x::m)=x.1.length+size x.2+sizeM m:=by cases x;rfl
theorem size_big (v:JV):size v≤JV.bulk v:=by
 refine JV.ind (P:=fun v=>size v≤JV.bulk v) (fun k n s l m hl hm=>?_) v
 rw [size_mk,big_mk]
 have h1:∀ l:List JV,(∀ x∈l,size x≤JV.bulk x)→sizeL l≤JV.bulkL l:=by
  intro l
  induction l with
  | nil=>intro _;exact Nat.zero_le _
  | cons x l ih=>
   intro h
   rw [sizeL_cons,JV.bulkL_cons]
   have:=h x (by simp)
   have:=ih (fun y hy=>h y (by simp [hy]))
   omega
 have h2:∀ m:List (Tx × JV),(∀ x∈m,size x.2≤JV.bulk x.2)→sizeM m≤JV.bulkM m:=by
  intro m
  induction m with
  | nil=>intro _;exact Nat.zero_le _
  | cons x m ih=>
   intro h
   rw [sizeM_cons,JV.bulkM_cons]
   have:=h x (by simp)
   have:=ih (fun y hy=>h y (by simp [hy]))
   omega
 have:=h1 l hl
 have:=h2 m hm
 omega
theorem sizeL_big (l:List JV):sizeL l≤JV.bulkL l:=by
 induction l with
 | nil=>exact Nat.zero_le _
 | cons x l ih=>rw [sizeL_cons,JV.bulkL_cons];have h1:=size_big x;omega
theorem sizeM_big (m:List (Tx × JV)):sizeM m≤JV.bulkM m:=by
 induction m with
 | nil=>exact Nat.zero_le _
 | cons x m ih=>rw [sizeM_cons,JV.bulkM_cons];have h1:=size_big x.2;omega
theorem sizeL_take:∀ (l:List JV) (i:Nat),sizeL (l.take i)≤sizeL l
 | [],i=>by simp
 | x::l,0=>Nat.zero_le _
 | x::l,i+1=>by rw [List.take_succ_cons,sizeL_cons,sizeL_cons];have:=sizeL_take l i;omega
theorem sizeM_take:∀ (m:List (Tx × JV)) (i:Nat),sizeM (m.take i)≤sizeM m
 | [],i=>by simp
 | x::m,0=>Nat.zero_le _
 | x::m,i+1=>by rw [List.take_succ_cons,sizeM_cons,sizeM_cons];have:=sizeM_take m i;omega
end Rf

theorem tbytes_is (u:JV):∀ (x:Value) (w:World),InV w (Lo w.heap.size) u x→JV.bulk u≤1048576→Calls Tryz.prog 22 #[x] w fun e w'=>e=.returned (.int .i64 ((Rf.size u:Nat):Int))∧Fr w w':=by
 induction u using JV.ind with
 | h k n s l m ihl ihm=>
  intro x w hx hbig
  obtain ⟨A,c,A',c',rfl,hls,hms⟩:=hx.open_
  have hls:LsC w (Lo w.heap.size) A l:=hls
  have hms:MsC w (Lo w.heap.size) A' m:=hms
  rw [Rf.big_mk] at hbig
  have hres:Rf.size (.mk k n s l m)=s.length+Rf.sizeL l+Rf.sizeM m:=by rfl
  have HL1:Hid (∀ i (h:i<l.length),Rf.sizeL (l.take (i+1))=Rf.sizeL (l.take i)+Rf.size l[i]∧JV.bulk l[i]≤1048576∧Rf.sizeL (l.take i)≤JV.bulkL l∧Rf.size l[i]≤1048576):=Lib.hid (fun i h=>⟨Rf.takeS Rf.sizeL Rf.size rfl (fun x l=>Rf.sizeL_cons x l) l i h,by have:=Rf.bigL_mem (List.getElem_mem h);omega,Nat.le_trans (Rf.sizeL_take l i) (Rf.sizeL_big l),by have h1:=Rf.size_big l[i];have h2:=Rf.bigL_mem (List.getElem_mem h);omega⟩)
  have HM1:Hid (∀ i (h:i<m.length),Rf.sizeM (m.take (i+1))=Rf.sizeM (m.take i)+(m[i].1.length+Rf.size m[i].2)∧JV.bulk m[i].2≤1048576∧Rf.sizeM (m.take i)≤JV.bulkM m∧m[i].1.length≤1048576∧Rf.size m[i].2≤1048576):=Lib.hid (fun i h=>⟨Rf.takeS Rf.sizeM (fun x=>(x.1.length+Rf.size x.2)) rfl (fun x l=>Rf.sizeM_cons x l) m i h,by have:=Rf.bigM_mem (List.getElem_mem h);omega,Nat.le_trans (Rf.sizeM_take m i) (Rf.sizeM_big m),by have:=Rf.bigM_mem (List.getElem_mem h);omega,by have h1:=Rf.size_big m[i].2;have h2:=Rf.bigM_mem (List.getElem_mem h);omega⟩)
  have hll:l.length≤1048576:=by have:=Rf.bigL_len l;omega
  have hlm:m.length≤1048576:=by have:=Rf.bigM_len m;omega
  have hll':(l.length:Int)≤1048576:=by omega
  have hlm':(m.length:Int)≤1048576:=by omega
  have HBG:=Lib.hid hbig
  have HLS:=Lib.hid hls
  have HMS:=Lib.hid hms
  have HIL:=Lib.hid ihl
  have HIM:=Lib.hid ihm
  have hs63:s.length≤1048576:=by omega
  rw [hres]
  clear hx hls hms ihl ihm hbig hres
  show Calls Tryz.prog 22 #[.agg #[.int .i64 k,.int .i64 n,.string ⟨s.toArray⟩,.slice A l.length c,.slice A' m.length c']] w _
  go_enter Tryz.func22,Tryz.ntmps22
  go_upto_region 1 with fail
  have hb1:=Blk.made w #[.int .i64 k,.int .i64 n,.string ⟨s.toArray⟩,.slice A l.length c,.slice A' m.length c'] 25
  have hf0:Fr w (w.alloc (.cells #[.int .i64 k,.int .i64 n,.string ⟨s.toArray⟩,.slice A l.length c,.slice A' m.length c'] 25)):=(Fr.refl w).alloc _
  generalize (w.alloc (.cells #[.int .i64 k,.int .i64 n,.string ⟨s.toArray⟩,.slice A l.length c,.slice A' m.length c'] 25))=W0 at hb1 hf0 ⊢
  generalize w.heap.size=X1 at hb1 ⊢
  have HB1:=Lib.hid hb1
  have HF0:=Lib.hid hf0
  obtain ⟨⟨y0,y1,y2,y3,y4⟩,_⟩:=box5 hb1
  clear hb1 hf0
  go_wp2_with fail
  clear y0 y1 y2 y3 y4
  go_loopw [3,14] (fun a j wr=>∃ (i c9:Nat),i≤l.length∧a=.int .i64 (c9:Nat)∧j=.int .i64 i∧Hid (c9=s.length+Rf.sizeL (l.take i)+0)∧Hid (Fr W0 wr)) (fun _ j _=>l.length - (intOf j).toNat)
  case atStart=>exact ⟨0,s.length,by omega,rfl,rfl,Lib.hid (by rw [List.take_zero,show Rf.sizeL []=0 from rfl] <;> omega),Lib.hid (Fr.refl _)⟩
  case round=>
   obtain ⟨i,c9,hi,rfl,rfl,hC,hF⟩:=hrel
   have HFr:Hid (Fr w wr):=Lib.hid (HF0.out.trans hF.out)
   by_cases hlt:i<l.length
   ·have hlt':(i:Int)<(l.length:Int):=by omega
    obtain ⟨b,o,E,e,E',e',rfl,hb,⟨m1,m2,m3,m4,m5⟩,hiv⟩:=(HLS.out.keep (Nat.le_refl _) HFr.out) i hlt
    obtain ⟨ht,hbu,hcl,hfu⟩:=HL1.out i hlt
    have hih:=HIL.out l[i] (List.getElem_mem hlt)
    have hc9:c9≤4194304:=by have:=hC.out;have:=HBG.out;omega
    obtain ⟨u,hu⟩:∃ u,l[i]=u:=⟨_,rfl⟩
    rw [hu] at m1 m2 m3 m4 m5 hiv hih ht hbu hfu
    obtain ⟨y9,hy9⟩:∃ y,Rf.size u=y:=⟨_,rfl⟩
    have HCU:Hid (∀ W,Fr wr W→Calls Tryz.prog 22 #[.agg #[.int .i64 u.kd,.int .i64 u.nm,.string ⟨u.tx.toArray⟩,.slice E u.ls.length e,.slice E' u.ms.length e']] W fun en w'=>en=.returned (.int .i64 (y9:Nat))∧Fr W w'):=Lib.hid (fun W hW=>by
     have:=hih (vA u E e E' e') W ((hiv.keep HFr.out.size hW).more (fun b hb=>Nat.lt_of_lt_of_le hb (HFr.out.trans hW).size)) hbu
     rw [hy9] at this
     exact this)
    rw [hy9] at ht hfu
    have HTT:=Lib.hid ht

    clear hiv hih hbu hu hy9 ht hcl hb
    go_upto_region 5 with fail
    have hb5:=Blk.made wr #[.int .i64 u.kd,.int .i64 u.nm,.string ⟨u.tx.toArray⟩,.slice E u.ls.length e,.slice E' u.ms.length e'] 25
    have hf5:Fr wr (wr.alloc (.cells #[.int .i64 u.kd,.int .i64 u.nm,.string ⟨u.tx.toArray⟩,.slice E u.ls.length e,.slice E' u.ms.length e'] 25)):=(Fr.refl wr).alloc _
    generalize (wr.alloc (.cells #[.int .i64 u.kd,.int .i64 u.nm,.string ⟨u.tx.toArray⟩,.slice E u.ls.length e,.slice E' u.ms.length e'] 25))=W5 at hb5 hf5 ⊢
    generalize wr.heap.size=X5 at hb5 ⊢
    obtain ⟨⟨x0,x1,x2,x3,x4⟩,_⟩:=box5 hb5
    have HF5:=Lib.hid hf5
    clear hb5 hf5 m1 m2 m3 m4 m5
    go_wp2_with (go_at_call 22;refine (HCU.out _ HF5.out).mono ?_;rintro en w8 ⟨rfl,hf⟩;have HF8:=Lib.hid (HF5.out.trans hf);clear hf)
    exact ⟨⟨i+1,c9+y9,by omega,by go_num,by go_num,Lib.hid (by rw [HTT.out];have:=hC.out;omega),Lib.hid (hF.out.trans HF8.out)⟩,by simp [intOf];omega⟩
   ·obtain rfl:i=l.length:=by omega
    have hc0:Hid (c9=s.length+Rf.sizeL l+0):=Lib.hid (by have:=hC.out;rw [List.take_length] at this;exact this)
    obtain ⟨⟨y0,y1,y2,y3,y4⟩,_⟩:=box5 (HB1.out.keep hF.out)
    have HFb:=Lib.hid hF.out
    go_wp2_with fail
    clear y0 y1 y2 y3 y4 hC hF HFr
    go_loopw [3,26] (fun a j wr=>∃ (i c9:Nat),i≤m.length∧a=.int .i64 (c9:Nat)∧j=.int .i64 i∧Hid (c9=s.length+Rf.sizeL l+Rf.sizeM (m.take i))∧Hid (Fr W0 wr)) (fun _ j _=>m.length - (intOf j).toNat)
    case atStart=>exact ⟨0,c9,by omega,rfl,rfl,Lib.hid (by rw [hc0.out,List.take_zero,show Rf.sizeM []=0 from rfl] <;> omega),HFb⟩
    case round=>
     obtain ⟨i,c9,hi,rfl,rfl,hC,hF⟩:=hrel
     have HFr:Hid (Fr w wr):=Lib.hid (HF0.out.trans hF.out)
     by_cases hlt:i<m.length
     ·have hlt':(i:Int)<(m.length:Int):=by omega
      obtain ⟨b,o,E,e,E',e',rfl,hb,_,m0,⟨m1,m2,m3,m4,m5⟩,hiv⟩:=(HMS.out.keep (Nat.le_refl _) HFr.out) i hlt
      obtain ⟨ht,hbu,hcl,hnl,hfu⟩:=HM1.out i hlt
      have hih:=HIM.out m[i] (List.getElem_mem hlt)
      have hc9:c9≤4194304:=by have:=hC.out;have:=HBG.out;have:=Rf.sizeL_big l;omega
      obtain ⟨pu,hu⟩:∃ u,m[i]=u:=⟨_,rfl⟩
      rw [hu] at m0 m1 m2 m3 m4 m5 hiv hih ht hbu hfu hnl
      obtain ⟨nm,u⟩:=pu
      simp only at m0 m1 m2 m3 m4 m5 hiv hih ht hbu hfu hnl
      obtain ⟨y9,hy9⟩:∃ y,Rf.size u=y:=⟨_,rfl⟩
      have HCU:Hid (∀ W,Fr wr W→Calls Tryz.prog 22 #[.agg #[.int .i64 u.kd,.int .i64 u.nm,.string ⟨u.tx.toArray⟩,.slice E u.ls.length e,.slice E' u.ms.length e']] W fun en w'=>en=.returned (.int .i64 (y9:Nat))∧Fr W w'):=Lib.hid (fun W hW=>by
       have:=hih (vA u E e E' e') W ((hiv.keep HFr.out.size hW).more (fun b hb=>Nat.lt_of_lt_of_le hb (HFr.out.trans hW).size)) hbu
       rw [hy9] at this
       exact this)
      rw [hy9] at ht hfu
      have HTT:=Lib.hid ht
      have hnl':(nm.length:Int)≤1048576:=by omega

      clear hiv hih hbu hu hy9 ht hcl hb
      go_upto_region 10 with fail
      have hb5:=Blk.made wr #[.string ⟨nm.toArray⟩,.int .i64 u.kd,.int .i64 u.nm,.string ⟨u.tx.toArray⟩,.slice E u.ls.length e,.slice E' u.ms.length e'] 39
      have hf5:Fr wr (wr.alloc (.cells #[.string ⟨nm.toArray⟩,.int .i64 u.kd,.int .i64 u.nm,.string ⟨u.tx.toArray⟩,.slice E u.ls.length e,.slice E' u.ms.length e'] 39)):=(Fr.refl wr).alloc _
      generalize (wr.alloc (.cells #[.string ⟨nm.toArray⟩,.int .i64 u.kd,.int .i64 u.nm,.string ⟨u.tx.toArray⟩,.slice E u.ls.length e,.slice E' u.ms.length e'] 39))=W5 at hb5 hf5 ⊢
      generalize wr.heap.size=X5 at hb5 ⊢
      have HB5:=Lib.hid hb5
      obtain ⟨⟨x0,x1,x2,x3,x4,x5⟩,_⟩:=box6 hb5
      have HF5:=Lib.hid hf5
      clear hb5 hf5 m0 m1 m2 m3 m4 m5
      have hw1:IntKind.i64.wrap ((nm.length:Int)+(y9:Int))=(nm.length:Int)+(y9:Int):=by rw [IntKind.wrap_i64];omega
      have hw2:IntKind.i64.wrap ((c9:Int)+((nm.length:Int)+(y9:Int)))=(c9:Int)+((nm.length:Int)+(y9:Int)):=by rw [IntKind.wrap_i64];omega
      have HS5:Hid (∀ W,Fr W5 W→W.cell? ⟨X5,0,none⟩=some (.string ⟨nm.toArray⟩)∧W.cell? ⟨X5,1,none⟩=some (.int .i64 u.kd)∧W.cell? ⟨X5,2,none⟩=some (.int .i64 u.nm)∧W.cell? ⟨X5,3,none⟩=some (.string ⟨u.tx.toArray⟩)∧W.cell? ⟨X5,4,none⟩=some (.slice E u.ls.length e)∧W.cell? ⟨X5,5,none⟩=some (.slice E' u.ms.length e')):=Lib.hid (fun W hW=>by
       have a:=HB5.out.keep hW
       exact ⟨a.cell 0,a.cell 1,a.cell 2,a.cell 3,a.cell 4,a.cell 5⟩)
      go_upto_region 10 with fail
      refine wp_region_held_drew (S:=(fun W=>W.cell? ⟨X5,0,none⟩=some (.string ⟨nm.toArray⟩)∧W.cell? ⟨X5,1,none⟩=some (.int .i64 u.kd)∧W.cell? ⟨X5,2,none⟩=some (.int .i64 u.nm)∧W.cell? ⟨X5,3,none⟩=some (.string ⟨u.tx.toArray⟩)∧W.cell? ⟨X5,4,none⟩=some (.slice E u.ls.length e)∧W.cell? ⟨X5,5,none⟩=some (.slice E' u.ms.length e'))) (by kernel_rfl) ?_ (fun hHeld=>?_)
      ·exact HS5.out _ (Fr.refl _).drew
      refine tk (i:=0) (v:=?_) rfl ⟨by rfl,?_⟩ hHeld ?_
      rotate_left
      ·(intro w' hSw;(try dsimp only at hSw);go_simp;try with_reducible rfl)
      try simp only [Act.put,fl]
      refine tk (i:=1) (v:=?_) rfl ⟨by rfl,?_⟩ hHeld ?_
      rotate_left
      ·(intro w' hSw;(try dsimp only at hSw);go_simp;try with_reducible rfl)
      try simp only [Act.put,fl]
      refine tk (i:=2) (v:=?_) rfl ⟨by rfl,?_⟩ hHeld ?_
      rotate_left
      ·(intro w' hSw;(try dsimp only at hSw);go_simp;try with_reducible rfl)
      try simp only [Act.put,fl]
      refine tk (i:=3) (v:=?_) rfl ⟨by rfl,?_⟩ hHeld ?_
      rotate_left
      ·(intro w' hSw;(try dsimp only at hSw);go_simp;try with_reducible rfl)
      try simp only [Act.put,fl]
      refine tk (i:=4) (v:=?_) rfl ⟨by rfl,?_⟩ hHeld ?_
      rotate_left
      ·(intro w' hSw;(try dsimp only at hSw);go_simp;try with_reducible rfl)
      try simp only [Act.put,fl]
      refine tk (i:=5) (v:=?_) rfl ⟨by rfl,?_⟩ hHeld ?_
      rotate_left
      ·(intro w' hSw;(try dsimp only at hSw);go_simp;try with_reducible rfl)
      try simp only [Act.put,fl]
      refine wpAnyH_ready (rs:=[6]) (by kernel_rfl) (by simp) ?_
      refine AllReadyH.cons rfl (fun K hK=>?_) AllReadyH.nil
      go_simp
      (go_at_call 22;refine (HCU.out _ (HF5.out.drew)).mono ?_;rintro en w8 ⟨rfl,hf⟩;have HF58:Hid (Fr W5 w8):=Lib.hid ((Fr.refl W5).drew.trans hf);clear hf)
      try (refine hK.out _ _ ?_ (fun hHeld2=>?_))
      ·exact HS5.out _ HF58.out
      clear hK K
      try simp only [Act.put,fl]
      refine tk (i:=7) (v:=?_) rfl ⟨by rfl,?_⟩ hHeld2 ?_
      rotate_left
      ·(intro w' hSw;(try dsimp only at hSw);go_simp;try with_reducible rfl)
      try simp only [Act.put,fl]
      refine tk (i:=8) (v:=?_) rfl ⟨by rfl,?_⟩ hHeld2 ?_
      rotate_left
      ·(intro w' hSw;(try dsimp only at hSw);go_simp;try with_reducible rfl)
      try simp only [Act.put,fl]
      refine tk (i:=9) (v:=?_) rfl ⟨by rfl,?_⟩ hHeld2 ?_
      rotate_left
      ·(intro w' hSw;(try dsimp only at hSw);go_simp;try with_reducible rfl)
      try simp only [Act.put,fl]
      refine wpAnyH_done (by kernel_rfl) ?_ _
      clear hHeld hHeld2
      have HF8:=Lib.hid (HF5.out.trans HF58.out)
      go_wp2_with fail
      exact ⟨⟨i+1,c9+(nm.length+y9),by omega,by go_num,by go_num,Lib.hid (by rw [HTT.out];have:=hC.out;omega),Lib.hid (hF.out.trans HF8.out)⟩,by simp [intOf];omega⟩
     ·obtain rfl:i=m.length:=by omega
      have hc0:Hid (c9=s.length+Rf.sizeL l+Rf.sizeM m):=Lib.hid (by have:=hC.out;rw [List.take_length] at this;exact this)
      have hc9:c9≤4194304:=by have:=hc0.out;have:=HBG.out;have h5:=Rf.sizeL_big l;have h6:=Rf.sizeM_big m;omega
      go_wp2_with fail
      go_ret
      exact ⟨by rw [hc0.out];rfl,HFr.out⟩
/- Chapter 24: tree.Depth. -/

namespace Rf
theorem takeX {α:Type} (g:List α→Nat) (f:α→Nat) (hn:g []=0) (hc:∀ x l,g (x::l)=max (f x) (g l)):∀ (l:List α) (i:Nat) (h:i<l.length),g (l.take (i+1))=max (g (l.take i)) (f l[i])
 | x::l,0,_=>by simp [hc,hn]
 | x::l,i+1,h=>by
  have:=takeX g f hn hc l i (by simpa using h)
  rw [List.take_succ_cons,List.take_succ_cons,hc,hc,this,List.getElem_cons_succ]
  omega
theorem deep_mk (k n:Int) (s:Tx) (l:List JV) (m:List (Tx × JV)):deep (.mk k n s l m)=1+max (deepL l) (deepM m):=rfl
theorem deepL_cons (x:JV) (l:List JV):deepL (x::l)=max (deep x) (deepL l):=rfl
theorem deepM_cons (x:Tx × JV) (m:List (Tx × JV)):deepM (x::m)=max (deep x.2) (deepM m):=by cases x;rfl
theorem deep_big (v:JV):deep v≤JV.bulk v:=by
 refine JV.ind (P:=fun v=>deep v≤JV.bulk v) (fun k n s l m hl hm=>?_) v
 rw [deep_mk,big_mk]
 have h1:∀ l:List JV,(∀ x∈l,deep x≤JV.bulk x)→deepL l≤JV.bulkL l:=by
  intro l
  induction l with
  | nil=>intro _;exact Nat.zero_le _
  | cons x l ih=>
   intro h
   rw [deepL_cons,JV.bulkL_cons]
   have:=h x (by simp)
   have:=ih (fun y hy=>h y (by simp [hy]))
   omega
 have h2:∀ m:List (Tx × JV),(∀ x∈m,deep x.2≤JV.bulk x.2)→deepM m≤JV.bulkM m:=by
  intro m
  induction m with
  | nil=>intro _;exact Nat.zero_le _
  | cons x m ih=>
   intro h
   rw [deepM_cons,JV.bulkM_cons]
   have:=h x (by simp)
   have:=ih (fun y hy=>h y (by simp [hy]))
   omega
 have:=h1 l hl
 have:=h2 m hm
 omega
theorem deepL_big (l:List JV):deepL l≤JV.bulkL l:=by
 induction l with
 | nil=>exact Nat.zero_le _
 | cons x l ih=>rw [deepL_cons,JV.bulkL_cons];have h1:=deep_big x;omega
theorem deepM_big (m:List (Tx × JV)):deepM m≤JV.bulkM m:=by
 induction m with
 | nil=>exact Nat.zero_le _
 | cons x m ih=>rw [deepM_cons,JV.bulkM_cons];have h1:=deep_big x.2;omega
theorem deepL_take:∀ (l:List JV) (i:Nat),deepL (l.take i)≤deepL l
 | [],i=>by simp
 | x::l,0=>Nat.zero_le _
 | x::l,i+1=>by rw [List.take_succ_cons,deepL_cons,deepL_cons];have:=deepL_take l i;omega
theorem deepM_take:∀ (m:List (Tx × JV)) (i:Nat),deepM (m.take i)≤deepM m
 | [],i=>by simp
 | x::m,0=>Nat.zero_le _
 | x::m,i+1=>by rw [List.take_succ_cons,deepM_cons,deepM_cons];have:=deepM_take m i;omega
end Rf

theorem tdepth_is (u:JV):∀ (x:Value) (w:World),InV w (Lo w.heap.size) u x→JV.bulk u≤1048576→Calls Tryz.prog 20 #[x] w fun e w'=>e=.returned (.int .i64 ((Rf.deep u:Nat):Int))∧Fr w w':=by
 induction u using JV.ind with
 | h k n s l m ihl ihm=>
  intro x w hx hbig
  obtain ⟨A,c,A',c',rfl,hls,hms⟩:=hx.open_
  have hls:LsC w (Lo w.heap.size) A l:=hls
  have hms:MsC w (Lo w.heap.size) A' m:=hms
  rw [Rf.big_mk] at hbig
  have hres:Rf.deep (.mk k n s l m)=1+max (Rf.deepL l) (Rf.deepM m):=by rfl
  have HL1:Hid (∀ i (h:i<l.length),Rf.deepL (l.take (i+1))=max (Rf.deepL (l.take i)) (Rf.deep l[i])∧JV.bulk l[i]≤1048576∧Rf.deepL (l.take i)≤JV.bulkL l∧Rf.deep l[i]≤1048576):=Lib.hid (fun i h=>⟨Rf.takeX Rf.deepL Rf.deep rfl (fun x l=>Rf.deepL_cons x l) l i h,by have:=Rf.bigL_mem (List.getElem_mem h);omega,Nat.le_trans (Rf.deepL_take l i) (Rf.deepL_big l),by have h1:=Rf.deep_big l[i];have h2:=Rf.bigL_mem (List.getElem_mem h);omega⟩)
  have HM1:Hid (∀ i (h:i<m.length),Rf.deepM (m.take (i+1))=max (Rf.deepM (m.take i)) (Rf.deep m[i].2)∧JV.bulk m[i].2≤1048576∧Rf.deepM (m.take i)≤JV.bulkM m∧m[i].1.length≤1048576∧Rf.deep m[i].2≤1048576):=Lib.hid (fun i h=>⟨Rf.takeX Rf.deepM (fun x=>Rf.deep x.2) rfl (fun x l=>Rf.deepM_cons x l) m i h,by have:=Rf.bigM_mem (List.getElem_mem h);omega,Nat.le_trans (Rf.deepM_take m i) (Rf.deepM_big m),by have:=Rf.bigM_mem (List.getElem_mem h);omega,by have h1:=Rf.deep_big m[i].2;have h2:=Rf.bigM_mem (List.getElem_mem h);omega⟩)
  have hll:l.length≤1048576:=by have:=Rf.bigL_len l;omega
  have hlm:m.length≤1048576:=by have:=Rf.bigM_len m;omega
  have hll':(l.length:Int)≤1048576:=by omega
  have hlm':(m.length:Int)≤1048576:=by omega
  have HBG:=Lib.hid hbig
  have HLS:=Lib.hid hls
  have HMS:=Lib.hid hms
  have HIL:=Lib.hid ihl
  have HIM:=Lib.hid ihm
  have hs63:s.length≤1048576:=by omega
  rw [hres]
  clear hx hls hms ihl ihm hbig hres
  show Calls Tryz.prog 20 #[.agg #[.int .i64 k,.int .i64 n,.string ⟨s.toArray⟩,.slice A l.length c,.slice A' m.length c']] w _
  go_enter Tryz.func20,Tryz.ntmps20
  go_upto_region 1 with fail
  have hb1:=Blk.made w #[.int .i64 k,.int .i64 n,.string ⟨s.toArray⟩,.slice A l.length c,.slice A' m.length c'] 25
  have hf0:Fr w (w.alloc (.cells #[.int .i64 k,.int .i64 n,.string ⟨s.toArray⟩,.slice A l.length c,.slice A' m.length c'] 25)):=(Fr.refl w).alloc _
  generalize (w.alloc (.cells #[.int .i64 k,.int .i64 n,.string ⟨s.toArray⟩,.slice A l.length c,.slice A' m.length c'] 25))=W0 at hb1 hf0 ⊢
  generalize w.heap.size=X1 at hb1 ⊢
  have HB1:=Lib.hid hb1
  have HF0:=Lib.hid hf0
  obtain ⟨⟨y0,y1,y2,y3,y4⟩,_⟩:=box5 hb1
  clear hb1 hf0
  go_wp2_with fail
  clear y0 y1 y2 y3 y4
  go_loopw [3,11] (fun a j wr=>∃ (i c9:Nat),i≤l.length∧a=.int .i64 (c9:Nat)∧j=.int .i64 i∧Hid (c9=max (Rf.deepL (l.take i)) (0))∧Hid (Fr W0 wr)) (fun _ j _=>l.length - (intOf j).toNat)
  case atStart=>exact ⟨0,0,by omega,rfl,rfl,Lib.hid (by rw [List.take_zero,show Rf.deepL []=0 from rfl] <;> omega),Lib.hid (Fr.refl _)⟩
  case round=>
   obtain ⟨i,c9,hi,rfl,rfl,hC,hF⟩:=hrel
   have HFr:Hid (Fr w wr):=Lib.hid (HF0.out.trans hF.out)
   by_cases hlt:i<l.length
   ·have hlt':(i:Int)<(l.length:Int):=by omega
    obtain ⟨b,o,E,e,E',e',rfl,hb,⟨m1,m2,m3,m4,m5⟩,hiv⟩:=(HLS.out.keep (Nat.le_refl _) HFr.out) i hlt
    obtain ⟨ht,hbu,hcl,hfu⟩:=HL1.out i hlt
    have hih:=HIL.out l[i] (List.getElem_mem hlt)
    have hc9:c9≤4194304:=by have:=hC.out;have:=HBG.out;omega
    obtain ⟨u,hu⟩:∃ u,l[i]=u:=⟨_,rfl⟩
    rw [hu] at m1 m2 m3 m4 m5 hiv hih ht hbu hfu
    obtain ⟨y9,hy9⟩:∃ y,Rf.deep u=y:=⟨_,rfl⟩
    have HCU:Hid (∀ W,Fr wr W→Calls Tryz.prog 20 #[.agg #[.int .i64 u.kd,.int .i64 u.nm,.string ⟨u.tx.toArray⟩,.slice E u.ls.length e,.slice E' u.ms.length e']] W fun en w'=>en=.returned (.int .i64 (y9:Nat))∧Fr W w'):=Lib.hid (fun W hW=>by
     have:=hih (vA u E e E' e') W ((hiv.keep HFr.out.size hW).more (fun b hb=>Nat.lt_of_lt_of_le hb (HFr.out.trans hW).size)) hbu
     rw [hy9] at this
     exact this)
    rw [hy9] at ht hfu
    have HTT:=Lib.hid ht
    have hmx:max (c9:Int) (y9:Int)=((max c9 y9:Nat):Int):=by omega
    clear hiv hih hbu hu hy9 ht hcl hb
    go_upto_region 5 with fail
    have hb5:=Blk.made wr #[.int .i64 u.kd,.int .i64 u.nm,.string ⟨u.tx.toArray⟩,.slice E u.ls.length e,.slice E' u.ms.length e'] 25
    have hf5:Fr wr (wr.alloc (.cells #[.int .i64 u.kd,.int .i64 u.nm,.string ⟨u.tx.toArray⟩,.slice E u.ls.length e,.slice E' u.ms.length e'] 25)):=(Fr.refl wr).alloc _
    generalize (wr.alloc (.cells #[.int .i64 u.kd,.int .i64 u.nm,.string ⟨u.tx.toArray⟩,.slice E u.ls.length e,.slice E' u.ms.length e'] 25))=W5 at hb5 hf5 ⊢
    generalize wr.heap.size=X5 at hb5 ⊢
    obtain ⟨⟨x0,x1,x2,x3,x4⟩,_⟩:=box5 hb5
    have HF5:=Lib.hid hf5
    clear hb5 hf5 m1 m2 m3 m4 m5
    go_wp2_with (go_at_call 20;refine (HCU.out _ HF5.out).mono ?_;rintro en w8 ⟨rfl,hf⟩;have HF8:=Lib.hid (HF5.out.trans hf);clear hf)
    exact ⟨⟨i+1,max (c9) (y9),by omega,by go_num,by go_num,Lib.hid (by rw [HTT.out];have:=hC.out;omega),Lib.hid (hF.out.trans HF8.out)⟩,by simp [intOf];omega⟩
   ·obtain rfl:i=l.length:=by omega
    have hc0:Hid (c9=max (Rf.deepL l) (0)):=Lib.hid (by have:=hC.out;rw [List.take_length] at this;exact this)
    obtain ⟨⟨y0,y1,y2,y3,y4⟩,_⟩:=box5 (HB1.out.keep hF.out)
    have HFb:=Lib.hid hF.out
    go_wp2_with fail
    clear y0 y1 y2 y3 y4 hC hF HFr
    go_loopw [3,23] (fun a j wr=>∃ (i c9:Nat),i≤m.length∧a=.int .i64 (c9:Nat)∧j=.int .i64 i∧Hid (c9=max (Rf.deepL l) (Rf.deepM (m.take i)))∧Hid (Fr W0 wr)) (fun _ j _=>m.length - (intOf j).toNat)
    case atStart=>exact ⟨0,c9,by omega,rfl,rfl,Lib.hid (by rw [hc0.out,List.take_zero,show Rf.deepM []=0 from rfl] <;> omega),HFb⟩
    case round=>
     obtain ⟨i,c9,hi,rfl,rfl,hC,hF⟩:=hrel
     have HFr:Hid (Fr w wr):=Lib.hid (HF0.out.trans hF.out)
     by_cases hlt:i<m.length
     ·have hlt':(i:Int)<(m.length:Int):=by omega
      obtain ⟨b,o,E,e,E',e',rfl,hb,_,m0,⟨m1,m2,m3,m4,m5⟩,hiv⟩:=(HMS.out.keep (Nat.le_refl _) HFr.out) i hlt
      obtain ⟨ht,hbu,hcl,hnl,hfu⟩:=HM1.out i hlt
      have hih:=HIM.out m[i] (List.getElem_mem hlt)
      have hc9:c9≤4194304:=by have:=hC.out;have:=HBG.out;have:=Rf.deepL_big l;omega
      obtain ⟨pu,hu⟩:∃ u,m[i]=u:=⟨_,rfl⟩
      rw [hu] at m0 m1 m2 m3 m4 m5 hiv hih ht hbu hfu hnl
      obtain ⟨nm,u⟩:=pu
      simp only at m0 m1 m2 m3 m4 m5 hiv hih ht hbu hfu hnl
      obtain ⟨y9,hy9⟩:∃ y,Rf.deep u=y:=⟨_,rfl⟩
      have HCU:Hid (∀ W,Fr wr W→Calls Tryz.prog 20 #[.agg #[.int .i64 u.kd,.int .i64 u.nm,.string ⟨u.tx.toArray⟩,.slice E u.ls.length e,.slice E' u.ms.length e']] W fun en w'=>en=.returned (.int .i64 (y9:Nat))∧Fr W w'):=Lib.hid (fun W hW=>by
       have:=hih (vA u E e E' e') W ((hiv.keep HFr.out.size hW).more (fun b hb=>Nat.lt_of_lt_of_le hb (HFr.out.trans hW).size)) hbu
       rw [hy9] at this
       exact this)
      rw [hy9] at ht hfu
      have HTT:=Lib.hid ht
      have hnl':(nm.length:Int)≤1048576:=by omega
      have hmx:max (c9:Int) (y9:Int)=((max c9 y9:Nat):Int):=by omega
      clear hiv hih hbu hu hy9 ht hcl hb
      go_upto_region 10 with fail
      have hb5:=Blk.made wr #[.string ⟨nm.toArray⟩,.int .i64 u.kd,.int .i64 u.nm,.string ⟨u.tx.toArray⟩,.slice E u.ls.length e,.slice E' u.ms.length e'] 39
      have hf5:Fr wr (wr.alloc (.cells #[.string ⟨nm.toArray⟩,.int .i64 u.kd,.int .i64 u.nm,.string ⟨u.tx.toArray⟩,.slice E u.ls.length e,.slice E' u.ms.length e'] 39)):=(Fr.refl wr).alloc _
      generalize (wr.alloc (.cells #[.string ⟨nm.toArray⟩,.int .i64 u.kd,.int .i64 u.nm,.string ⟨u.tx.toArray⟩,.slice E u.ls.length e,.slice E' u.ms.length e'] 39))=W5 at hb5 hf5 ⊢
      generalize wr.heap.size=X5 at hb5 ⊢
      obtain ⟨⟨x0,x1,x2,x3,x4,x5⟩,_⟩:=box6 hb5
      have HF5:=Lib.hid hf5
      clear hb5 hf5 m0 m1 m2 m3 m4 m5
      go_wp2_with (go_at_call 20;refine (HCU.out _ HF5.out).mono ?_;rintro en w8 ⟨rfl,hf⟩;have HF8:=Lib.hid (HF5.out.trans hf);clear hf)
      exact ⟨⟨i+1,max (c9) (y9),by omega,by go_num,by go_num,Lib.hid (by rw [HTT.out];have:=hC.out;omega),Lib.hid (hF.out.trans HF8.out)⟩,by simp [intOf];omega⟩
     ·obtain rfl:i=m.length:=by omega
      have hc0:Hid (c9=max (Rf.deepL l) (Rf.deepM m)):=Lib.hid (by have:=hC.out;rw [List.take_length] at this;exact this)
      have hc9:c9≤4194304:=by have:=hc0.out;have:=HBG.out;have h5:=Rf.deepL_big l;have h6:=Rf.deepM_big m;omega
      go_wp2_with fail
      go_ret
      exact ⟨by have h9:=hc0.out;show Ending.returned (.int .i64 ((c9:Int)+1))=.returned (.int .i64 ((1+max (Rf.deepL l) (Rf.deepM m):Nat):Int));rw [h9];congr 2;omega,HFr.out⟩
/- Chapter 24: the document's bare. -/

/- The walk of refs.twice. -/

namespace Rf
theorem trim_bare (s:Tx):Lib.trimPrefix s [35]=(bare s).1:=by
 cases s with
 | nil=>rfl
 | cons c r=>
  show (if (([35]:List UInt8).isPrefixOf (c::r)) then _ else _)=(if c=35 then (r,true) else (c::r,false)).1
  by_cases h:c=35
  ·subst h;simp
  ·have h2:(([35]:List UInt8).isPrefixOf (c::r))=false:=by simp [List.isPrefixOf,beq_eq_false_iff_ne.2 (Ne.symm h)]
   rw [if_neg h,h2];rfl
theorem pre_bare (s:Tx):Lib.hasPrefix s [35]=(bare s).2:=by
 cases s with
 | nil=>rfl
 | cons c r=>
  show (([35]:List UInt8).isPrefixOf (c::r))=(if c=35 then (r,true) else (c::r,false)).2
  by_cases h:c=35
  ·subst h;simp
  ·have h2:(([35]:List UInt8).isPrefixOf (c::r))=false:=by simp [List.isPrefixOf,beq_eq_false_iff_ne.2 (Ne.symm h)]
   rw [if_neg h,h2]
theorem bare_len (s:Tx):(bare s).1.length≤s.length:=by
 cases s with
 | nil=>exact Nat.le_refl _
 | cons c r=>
  show (if c=35 then (r,true) else (c::r,false)).1.length≤_
  by_cases h:c=35
  ·rw [if_pos h];simp
  ·rw [if_neg h];simp
def BrOk (m:List (Tx × JV)) (i:Nat) (ks:List Tx):Prop:=(∀ s,s∈ks↔s∈bares (m.take i))∧(bares (m.take i)).Nodup
theorem bares_take {m:List (Tx × JV)} {i:Nat} (h:i<m.length):bares (m.take (i+1))=bares (m.take i)++[(bare m[i].1).1]:=by
 rw [List.take_add_one,List.getElem?_eq_getElem h,Option.toList_some]
 unfold bares
 rw [List.map_append];rfl
theorem BrOk.next {m:List (Tx × JV)} {i:Nat} {ks:List Tx} (h:i<m.length) (ho:BrOk m i ks) (hk:(bare m[i].1).1 ∉ ks):BrOk m (i+1) ((bare m[i].1).1::ks):=by
 rw [BrOk,bares_take h]
 refine ⟨fun s=>?_,?_⟩
 ·rw [List.mem_append,List.mem_cons,ho.1];simp [or_comm]
 ·rw [List.nodup_append]
  refine ⟨ho.2,by simp,fun a ha b hb=>?_⟩
  simp at hb;subst hb
  intro e;subst e
  exact hk ((ho.1 _).2 ha)
theorem BrOk.bad {m:List (Tx × JV)} {i:Nat} {ks:List Tx} (h:i<m.length) (ho:BrOk m i ks) (hk:(bare m[i].1).1∈ks):twice m=true:=by
 unfold twice
 rw [decide_eq_true_eq]
 intro hn
 have h2:(bares (m.take (i+1))).Nodup:=by
  have:bares (m.take (i+1))=(bares m).take (i+1):=by unfold bares;rw [List.map_take]
  rw [this]
  exact hn.sublist (List.take_sublist _ _)
 rw [bares_take h,List.nodup_append] at h2
 exact h2.2.2 _ ((ho.1 _).1 hk) _ (by simp) rfl
theorem BrOk.all {m:List (Tx × JV)} {ks:List Tx} (ho:BrOk m m.length ks):twice m=false:=by
 unfold twice
 have:=ho.2
 rw [List.take_length] at this
 simpa using this
end Rf
theorem trim_at (s:List UInt8) (t:List UInt8) (w:World) (h:(Rf.bare s).1=t):
  Calls Tryz.prog 57 #[.string ⟨s.toArray⟩,.string ⟨#[35]⟩] w fun e w'=>e=.returned (.string ⟨t.toArray⟩)∧w=w':=by
 subst h
 refine (Tryz.strings_TrimPrefix ⟨s.toArray⟩ ⟨#[35]⟩ w).mono ?_
 rintro e w' ⟨h1,h2⟩
 refine ⟨?_,h2.symm⟩
 rw [h1]
 show Ending.returned (.string ⟨(Lib.trimPrefix s [35]).toArray⟩)=_
 rw [Rf.trim_bare]

theorem rtwice_is (m:List (List UInt8 × JV)) (A':Option Addr) (c:Nat) (w:World) (hm:MsC w (Lo w.heap.size) A' m) (hl:m.length≤140737488355327):
  Calls Tryz.prog 35 #[.slice A' m.length c] w fun e w'=>e=.returned (.bool (Rf.twice m))∧Fr w w':=by
 have HM:=Lib.hid hm
 clear hm
 have hmm:=@run_makeMap Tryz.prog
 go_enter Tryz.func35,Tryz.ntmps35
 go_wp2_with fail
 go_loopw [10] (fun j wr=>∃ i:Nat,i≤m.length∧j=.int .i64 i∧Hid (∃ ks,Known wr w.heap.size i ks∧Rf.BrOk m i ks)∧Hid (Fr w wr)) (fun j _=>m.length - (intOf j).toNat)
 case atStart=>
  refine ⟨0,by omega,rfl,Lib.hid ⟨[],Known.made w,?_⟩,Lib.hid ((Fr.refl _).alloc _)⟩
  simp [Rf.BrOk,Rf.bares]
 case round=>
  obtain ⟨i,hi,rfl,hk,hfr⟩:=hrel
  obtain ⟨ks,hkn,hok⟩:=hk.out
  by_cases h:i<m.length
  ·obtain ⟨b,o,B,d,B',d',rfl,hb,hnl,c0,⟨c1,c2,c3,c4,c5⟩,_⟩:=(HM.out.keep (Nat.le_refl _) hfr.out) i h
   have hbl:=Rf.bare_len m[i].1
   obtain ⟨nm,hnm⟩:∃ nm,m[i].1=nm:=⟨_,rfl⟩
   rw [hnm] at c0 hnl hbl
   obtain ⟨bn,hbn⟩:∃ bn,(Rf.bare nm).1=bn:=⟨_,rfl⟩
   rw [hbn] at hbl
   have h':(i:Int)<(m.length:Int):=by omega
   have HK:=Lib.hid hkn
   have HO:=Lib.hid hok
   have HB:=Lib.hid hbn
   have HN:=Lib.hid hnm
   clear hkn hok hbn hnm
   have hlk:∀ ob,(Instr.lookup 102 (.map (some w.heap.size)) (.string ⟨bn.toArray⟩) false).run Tryz.prog (wr.alloc ob)=.ok (.bool (decide (bn∈ks))) (wr.alloc ob):=
    fun ob=>(HK.out.keep ((Fr.refl wr).alloc ob)).run bn (by omega)
   obtain ⟨inb,hin⟩:∃ inb,decide (bn∈ks)=inb:=⟨_,rfl⟩
   rw [hin] at hlk
   rcases inb with _ | _
   ·have HKM:=Lib.hid (fun ob=>HK.out.keep ((Fr.refl wr).alloc ob))
    go_wp2_with (first
     | (go_at_call 57;refine (trim_at nm bn _ HB.out).mono ?_;rintro _ _ ⟨rfl,rfl⟩)
     | (refine wpl_know (by rfl) (.tmp 20) (.tmp 21) (.const (.bool true)) (by rfl) w.heap.size i ks (by rfl) (HKM.out _) (by omega) bn (by omega) (by rfl) (by rfl) ?_;intro w3 hk3 hg3;have HK3:=Lib.hid hk3;have HG3:=Lib.hid hg3;clear hk3 hg3))
    have hnx:Rf.BrOk m (i+1) (bn::ks):=by
     have hb3:(Rf.bare m[i].1).1=bn:=by rw [HN.out];exact HB.out
     have:=HO.out.next h (by rw [hb3];exact of_decide_eq_false hin)
     rwa [hb3] at this
    exact ⟨⟨i+1,by omega,by go_num,Lib.hid ⟨_,HK3.out,hnx⟩,Lib.hid (Fr.grown (hfr.out.alloc _) HG3.out (Nat.le_refl _))⟩,by simp [intOf];omega⟩
   ·have hr:Hid (Rf.twice m=true):=by
     have hb3:(Rf.bare m[i].1).1=bn:=by rw [HN.out];exact HB.out
     exact HO.out.bad h (by rw [hb3];exact of_decide_eq_true hin)
    go_wp2_with (first
     | (go_at_call 57;refine (trim_at nm bn _ HB.out).mono ?_;rintro _ _ ⟨rfl,rfl⟩))
    go_ret
    exact ⟨by rw [hr.out];rfl,hfr.out.alloc _⟩
  ·obtain rfl:i=m.length:=by omega
   have hr:Hid (Rf.twice m=false):=hok.all
   go_wp2_with fail
   go_ret
   exact ⟨by rw [hr.out];rfl,hfr.out⟩
end Go.Proofs.YtdhakbghdcfncaaGreatDoor
