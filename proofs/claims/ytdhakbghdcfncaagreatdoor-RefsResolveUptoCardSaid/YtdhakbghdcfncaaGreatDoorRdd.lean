/- The walk of what read.Value defers. -/
import Derived.Test.YtdhakbghdcfncaaGreatDoorReadF
import Derived.Test.YtdhakbghdcfncaaGreatDoorPb
import Derived.Test.YtdhakbghdcfncaaGreatDoorSc
import Derived.Test.YtdhakbghdcfncaaGreatDoorPa
import Derived.Defers
import Derived.Recover
import Derived.RegionTactic
import Derived.Outline
import Derived.ChangeAlike
import Derived.Test.YtdhakbghdcfncaaGreatDoorSameV
namespace Go.Proofs.YtdhakbghdcfncaaGreatDoor
set_option maxRecDepth 100000
set_option maxHeartbeats 2000000
set_option linter.unusedVariables false
set_option linter.unusedSimpArgs false
open Go.RowKit

def zero5:Array Value:=#[.int .i64 0,.int .i64 0,.string ⟨#[]⟩,.slice none 0 0,.slice none 0 0]
theorem Blk.drew {w:World} {X:Nat} {cs:Array Value} {T:TypeId} (h:Blk w X cs T):Blk w.drew X cs T:=h
theorem Blk.five {w:World} {X:Nat} {a b c d e v0 v1 v2 v3 v4:Value} {T:TypeId} (h:Blk w X #[a,b,c,d,e] T):Blk (((((w.setCell ⟨X,0,none⟩ v0).setCell ⟨X,1,none⟩ v1).setCell ⟨X,2,none⟩ v2).setCell ⟨X,3,none⟩ v3).setCell ⟨X,4,none⟩ v4) X #[v0,v1,v2,v3,v4] T:=set5 h
theorem Blk.one {w:World} {X:Nat} {a v:Value} {T:TypeId} (h:Blk w X #[a] T):Blk (w.setCell ⟨X,0,none⟩ v) X #[v] T:=h.set 0 v
theorem frame22 (a b c n:Value):((#[a,b,c]:Array Value)++((Array.replicate 19 undef).setIfInBounds 3 n).setIfInBounds 0 n)=#[a,b,c,n,undef,undef,n,undef,undef,undef,undef,undef,undef,undef,undef,undef,undef,undef,undef,undef,undef,undef]:=by
 apply Array.toList_inj.1
 simp [List.replicate]
theorem catch_idle (V A E:Nat) (w:World):
  CallsD Tryz.prog 45 #[.pointer (some ⟨V,0,none⟩),.pointer (some ⟨A,0,none⟩),.pointer (some ⟨E,0,none⟩)] .returning w fun e u' w'=>e=.returned (.tuple #[])∧u'=.returning∧w'=w:=by
 refine callsD_of_wpS Tryz.func45 rfl fun c₀ cs hu=>?_
 apply wpS_seq
 apply wpS_region
 simp [wpOpsS,go_sem,recoverD,hu,Tryz.ntmps45,Exit.thenS]
 refine wpS_of_wp ?_
 rw [frame22]
 have HU:=Lib.hid hu
 clear hu
 go_wp2_with fail
 cases c₀
 simp_all [bodyPostS,results,Tryz.results45,Hid]
def CatchP (V A E a c:Nat) (older:List PanicEntry) (w:World):Ending→FrameMode→World→Prop:=fun e u' w'=>
 e=.returned (.tuple #[])∧u'=.panicking ({ v:=faultV a c,recovered:=true } :: older)∧Blk w' V zero5 25∧Blk w' A #[.int .i64 (a:Nat)] 3∧Blk w' E #[.int .i64 (c:Nat)] 28 ∧ ∀ B,B≤V→B≤A→B≤E→Below B w w'
theorem catch_bad (V A E:Nat) (a c:Nat) (older:List PanicEntry) (x y v0 v1 v2 v3 v4:Value) (w:World) (hV:Blk w V #[v0,v1,v2,v3,v4] 25) (hA:Blk w A #[x] 3) (hE:Blk w E #[y] 28):
  CallsD Tryz.prog 45 #[.pointer (some ⟨V,0,none⟩),.pointer (some ⟨A,0,none⟩),.pointer (some ⟨E,0,none⟩)] (.panicking ({ v:=faultV a c,recovered:=false } :: older)) w (CatchP V A E a c older w):=by
 refine callsD_of_wpS Tryz.func45 rfl fun c₀ cs hu=>?_
 apply wpS_seq
 apply wpS_region
 simp [wpOpsS,go_sem,recoverD,hu,Tryz.ntmps45,Exit.thenS]
 refine wpS_of_wp ?_
 rw [frame22]
 have HU:=Lib.hid hu
 clear hu
 obtain ⟨c1,hc1⟩:∃ c1,{ c₀ with mode:=FrameMode.panicking ({ v:=faultV a c,recovered:=true } :: older) } = c1:=⟨_,rfl⟩
 rw [hc1]
 have HC1:=Lib.hid hc1
 clear hc1
 have hta:∀ (x:Value) (w:World),(Instr.typeAssert (.iface 81 x) 20 81 true).run Tryz.prog w=.ok (.tuple #[x,.bool true]) w:=fun _ _=>by kernel_rfl
 unfold faultV
 go_wp2_with fail
 have hw:∃ w2,w2=w.alloc (.cells #[.int .i64 (a:Nat),.int .i64 (c:Nat)] 81):=⟨_,rfl⟩
 obtain ⟨w2,hw2⟩:=hw
 rw [← hw2]
 have f0:w2.cell? ⟨w.heap.size,0,none⟩=some (.int .i64 (a:Nat)):=by rw [hw2,World.cell?_alloc_at _ _ _ _ rfl];rfl
 have f1:w2.cell? ⟨w.heap.size,1,none⟩=some (.int .i64 (c:Nat)):=by rw [hw2,World.cell?_alloc_at _ _ _ _ rfl];rfl
 have hf2:Hid (Fr w w2):=by rw [hw2];exact Lib.hid ((Fr.refl w).alloc _)
 obtain ⟨⟨a0,a1,a2,a3,a4⟩,b0,b1,b2,b3,b4⟩:=box5 (hV.keep hf2.out)
 have x0:w2.cell? ⟨A,0,none⟩=some x:=(hA.keep hf2.out).cell 0
 have x1:=(hA.keep hf2.out).free 0
 have y0:w2.cell? ⟨E,0,none⟩=some y:=(hE.keep hf2.out).cell 0
 have y1:=(hE.keep hf2.out).free 0
 have hAw:=hA.lt
 have hEw:=hE.lt
 have hVw:=hV.lt
 have n1:¬ A=w.heap.size:=by omega
 have n2:¬ E=w.heap.size:=by omega
 have n3:¬ V=w.heap.size:=by omega
 have n4:¬ A=V:=by rintro rfl;have:=(hA.cell 0).symm.trans (hV.cell 0);have h1:w.heap[A]? = some (.cells #[x] 3 (0,0)):=hA;have h2:w.heap[A]? = some (.cells #[v0,v1,v2,v3,v4] 25 (0,0)):=hV;rw [h1] at h2;injection h2 with h2;injection h2 with _ h3 _;revert h3;decide
 have n5:¬ E=V:=by rintro rfl;have h1:w.heap[E]? = some (.cells #[y] 28 (0,0)):=hE;have h2:w.heap[E]? = some (.cells #[v0,v1,v2,v3,v4] 25 (0,0)):=hV;rw [h1] at h2;injection h2 with h2;injection h2 with _ h3 _;revert h3;decide
 have n6:¬ A=E:=by rintro rfl;have h1:w.heap[A]? = some (.cells #[x] 3 (0,0)):=hA;have h2:w.heap[A]? = some (.cells #[y] 28 (0,0)):=hE;rw [h1] at h2;injection h2 with h2;injection h2 with _ h3 _;revert h3;decide
 clear hw2
 have hVf:=hV.keep hf2.out
 have hAf:=hA.keep hf2.out
 have hEf:=hE.keep hf2.out
 have HVf:=Lib.hid hVf
 have HAf:=Lib.hid hAf
 have HEf:=Lib.hid hEf
 clear hVf hAf hEf hV hA hE
 go_region
 go_wp2_with fail
 refine ⟨rfl,_,?_,_,?_,rfl,rfl,?_,?_,?_,?_⟩
 ·rw [← HC1.out]
 ·simp [results,Tryz.results45]
 ·exact Blk.drew (((Blk.five HVf.out).other n4 _).other n5 _)
 ·exact Blk.drew ((Blk.one ((((((HAf.out.other (fun h=>n4 h.symm) _).other (fun h=>n4 h.symm) _).other (fun h=>n4 h.symm) _).other (fun h=>n4 h.symm) _).other (fun h=>n4 h.symm) _))).other (fun h=>n6 h.symm) _)
 ·exact Blk.drew (Blk.one (((((((HEf.out.other (fun h=>n5 h.symm) _).other (fun h=>n5 h.symm) _).other (fun h=>n5 h.symm) _).other (fun h=>n5 h.symm) _).other (fun h=>n5 h.symm) _).other n6 _)))
 ·intro B h1 h2 h3
  have hb:=Below.mono hf2.out (show B≤w.heap.size by omega)
  exact (((((((hb.setCell h1 _).setCell h1 _).setCell h1 _).setCell h1 _).setCell h1 _).setCell h2 _).setCell h3 _).drew
/- The walk of read.Value. -/

def RdP (w:World):Rd.R→Ending→World→Prop
 | .out,_,_=>False
 | .bad a c,e,w'=>e=.returned (.tuple #[.agg zero5,.int .i64 (a:Nat),.int .i64 (c:Nat)])∧Fr w w'
 | .ok v _ _,e,w'=>∃ val,e=.returned (.tuple #[val,.int .i64 0,.int .i64 0])∧(InV w' (Be w.heap.size w'.heap.size) v val∧TopF w' val)∧Fr w w'
def W0 (w:World):World:=((w.alloc (.cells #[.int .i64 0,.int .i64 0,.string ⟨#[]⟩,.slice none 0 0,.slice none 0 0] 25)).alloc (.cells #[.int .i64 0] 3)).alloc (.cells #[.int .i64 0] 28)
theorem W0.fr (w:World):Fr w (W0 w):=(((Fr.refl w).alloc _).alloc _).alloc _
theorem W0.v (w:World):Blk (W0 w) w.heap.size zero5 25:=((Blk.made w zero5 25).keep ((Fr.refl _).alloc _)).keep ((Fr.refl _).alloc _)
theorem W0.a (w:World):Blk (W0 w) (w.heap.size+1) #[.int .i64 0] 3:=(boxz (Blk.made (w.alloc _) #[.int .i64 0] 3)).keep ((Fr.refl _).alloc _)
theorem W0.e (w:World):Blk (W0 w) (w.heap.size+1+1) #[.int .i64 0] 28:=boxy (Blk.made ((w.alloc _).alloc _) #[.int .i64 0] 28)
theorem W0.size (w:World):(W0 w).heap.size=w.heap.size+3:=by simp [W0]

theorem results_v3 (w:World) (V A E:Nat) {tmps:Array Value} (h2:tmps.getD 2 undef=.pointer (some ⟨V,0,none⟩)) (h3:tmps.getD 3 undef=.pointer (some ⟨A,0,none⟩)) (h4:tmps.getD 4 undef=.pointer (some ⟨E,0,none⟩))
  (v0 v1 v2 v3 v4:Value) (x y:Value) (hV:Blk w V #[v0,v1,v2,v3,v4] 25) (hA:Blk w A #[x] 3) (hE:Blk w E #[y] 28):
  (results Tryz.f23 tmps).run Tryz.prog w=.ok (.tuple #[.agg #[v0,v1,v2,v3,v4],x,y]) w:=by
 have a0:=hV.cell 0
 have a1:=hV.cell 1
 have a2:=hV.cell 2
 have a3:=hV.cell 3
 have a4:=hV.cell 4
 have a5:=hA.cell 0
 have a6:=hE.cell 0
 simp at h2 h3 h4 a0 a1 a2 a3 a4 a5 a6
 simp [results,Tryz.results23,h2,h3,h4,go_sem,a0,a1,a2,a3,a4,a5,a6]

theorem rvalue_bad (s:ByteArray) (ts:List Scn.Tok) (p x:Nat) (w:World) (hs:s.size≤9223372036854775807) (hT:LowTabs w) (h:Scn.tokens s.data.toList=(ts,p,x)) (hx:x≠0):
  Calls Tryz.prog 23 #[.string s] w (RdP w (.bad p x)):=by
 have HT:=Lib.hid hT
 have HK:=Lib.hid h
 have hx':(((x:Nat):Int) != 0)=true:=by rw [bne_iff_ne];omega
 have hmf:∀ (fn:Fn) (first cap:Array Value) (w:World),(Instr.makeFunc fn first cap).run Tryz.prog w=.ok (.func fn first cap) w:=fun _ _ _ _=>rfl
 clear hT h hx
 go_enter_defers Tryz.func23,Tryz.ntmps23
 go_wp2_with (go_at_call 44;refine (tokens_at s ts p x _ hs (HT.out.keep (W0.fr w)) HK.out).mono ?_;rintro e w1 ⟨v,rfl,htk,hf⟩;have hf:Fr (W0 w) w1:=hf;have a0:w1.cell? ⟨w.heap.size+1,0,none⟩=some (.int .i64 0):=((W0.a w).keep hf).cell 0;have a1:=((W0.a w).keep hf).free 0;have e0:w1.cell? ⟨w.heap.size+1+1,0,none⟩=some (.int .i64 0):=((W0.e w).keep hf).cell 0;have e1:=((W0.e w).keep hf).free 0;obtain ⟨⟨v0,v1,v2,v3,v4⟩,f0,f1,f2,f3,f4⟩:=box5 ((W0.v w).keep hf);have HF1:=Lib.hid hf;clear hf htk)
 go_region
 go_wp2_with fail
 have n1:(Addr.mk (w.heap.size+1) 0 none).block≠w.heap.size:=by show w.heap.size+1≠w.heap.size;omega
 have n2:(Addr.mk (w.heap.size+1+1) 0 none).block≠w.heap.size:=by show w.heap.size+1+1≠w.heap.size;omega
 have n3:∀ j,(Addr.mk w.heap.size j none).block≠w.heap.size+1:=fun j=>by show w.heap.size≠w.heap.size+1;omega
 have n4:∀ j,(Addr.mk w.heap.size j none).block≠w.heap.size+1+1:=fun j=>by show w.heap.size≠w.heap.size+1+1;omega
 have n5:(Addr.mk (w.heap.size+1+1) 0 none).block≠w.heap.size+1:=by show w.heap.size+1+1≠w.heap.size+1;omega
 have n6:(Addr.mk (w.heap.size+1) 0 none).block≠w.heap.size+1+1:=by show w.heap.size+1≠w.heap.size+1+1;omega
 have hb0:∀ j,w.heap.size≤(Addr.mk w.heap.size j none).block:=fun j=>Nat.le_refl _
 have hb1:w.heap.size≤(Addr.mk (w.heap.size+1) 0 none).block:=by show w.heap.size≤w.heap.size+1;omega
 have hb2:w.heap.size≤(Addr.mk (w.heap.size+1+1) 0 none).block:=by show w.heap.size≤w.heap.size+1+1;omega
 refine ⟨_,results_v3 _ w.heap.size (w.heap.size+1) (w.heap.size+1+1) (by rfl) (by rfl) (by rfl) _ _ _ _ _ _ _ (Blk.drew ((((Blk.five ((((W0.v w).keep HF1.out).other n1 _).other n2 _)).other n1 _).other n2 _))) (Blk.drew ((Blk.one ((((((Blk.other (Blk.one ((W0.a w).keep HF1.out)) n5 _).other (n3 _) _).other (n3 _) _).other (n3 _) _).other (n3 _) _).other (n3 _) _)).other n5 _)) (Blk.drew (Blk.one (((((((Blk.one (((W0.e w).keep HF1.out).other n6 _)).other (n4 _) _).other (n4 _) _).other (n4 _) _).other (n4 _) _).other (n4 _) _).other n6 _))),rfl,?_⟩
 have k:=(W0.fr w).trans HF1.out
 exact Fr.drew (((((((((k.setCell hb1 _).setCell hb2 _).setCell (hb0 _) _).setCell (hb0 _) _).setCell (hb0 _) _).setCell (hb0 _) _).setCell (hb0 _) _).setCell hb1 _).setCell hb2 _)
/- The walk of read.Value at a text that is scanned. -/

theorem Tks.tv {w:World} {base R:Nat} {v:Value} {ts:List Scn.Tok} (h:Tks w base v ts) (hR:w.heap.size≤R):∃ A c,v=.slice A ts.length c∧ts.length≤c∧TV w R A ts:=by
 rcases h.form with ⟨rfl,rfl⟩ | ⟨g,cap,rfl,hb,hg,hc⟩
 ·exact ⟨none,0,rfl,by simp,fun h=>absurd rfl h⟩
 ·refine ⟨some ⟨g,0,none⟩,cap,rfl,?_,fun _=>⟨g,0,rfl,by omega,fun i hi=>?_⟩⟩
  ·rcases owns_form h with ⟨hv,_⟩ | ⟨g',cap',he,_,_,hc',_⟩
   ·cases hv
   ·injection he with _ _ h3
    omega
  ·have:=hc i hi
   rw [show 0+i*4=i*4 by omega]
   exact this
def W1 (w w1:World) (p:Nat) (A:Option Addr) (n c e:Nat):World:=((w1.setCell ⟨w.heap.size+1,0,none⟩ (.int .i64 (p:Nat))).setCell ⟨w.heap.size+1+1,0,none⟩ (.int .i64 0)).alloc (.cells #[.slice A n c,.int .i64 (e:Nat),.int .i64 0] 85)
theorem W1.lt {w w1:World} (h:Fr (W0 w) w1):w.heap.size+3≤w1.heap.size:=by have:=h.size;rw [W0.size] at this;exact this
theorem W1.v {w w1:World} (h:Fr (W0 w) w1) (p:Nat) (A:Option Addr) (n c e:Nat):Blk (W1 w w1 p A n c e) w.heap.size #[.int .i64 0,.int .i64 0,.string ⟨#[]⟩,.slice none 0 0,.slice none 0 0] 25:=
 ((((W0.v w).keep h).other (by show w.heap.size+1≠_;omega) _).other (by show w.heap.size+1+1≠_;omega) _).keep ((Fr.refl _).alloc _)
theorem W1.a {w w1:World} (h:Fr (W0 w) w1) (p:Nat) (A:Option Addr) (n c e:Nat):Blk (W1 w w1 p A n c e) (w.heap.size+1) #[.int .i64 (p:Nat)] 3:=
 ((Blk.one ((W0.a w).keep h)).other (by show w.heap.size+1+1≠_;omega) _).keep ((Fr.refl _).alloc _)
theorem W1.e {w w1:World} (h:Fr (W0 w) w1) (p:Nat) (A:Option Addr) (n c e:Nat):Blk (W1 w w1 p A n c e) (w.heap.size+1+1) #[.int .i64 0] 28:=
 (Blk.one (((W0.e w).keep h).other (by show w.heap.size+1≠_;omega) _)).keep ((Fr.refl _).alloc _)
theorem W1.rdr {w w1:World} (h:Fr (W0 w) w1) (p:Nat) (A:Option Addr) (ts:List Scn.Tok) (c e:Nat) (hc:ts.length≤c) (hv:TV w1 w1.heap.size A ts):Rdr (W1 w w1 p A ts.length c e) w1.heap.size e ts 0:=by
 have hlt:=W1.lt h
 have hb:Below w1.heap.size ((w1.setCell ⟨w.heap.size+1,0,none⟩ (.int .i64 (p:Nat))).setCell ⟨w.heap.size+1+1,0,none⟩ (.int .i64 0)) (W1 w w1 p A ts.length c e):=Below.alloc (Below.refl _ _) (by simp [World.setCell]) _
 have hB:Blk (W1 w w1 p A ts.length c e) w1.heap.size #[.slice A ts.length c,.int .i64 (e:Nat),.int .i64 0] 85:=by
  have:=Blk.made ((w1.setCell ⟨w.heap.size+1,0,none⟩ (.int .i64 (p:Nat))).setCell ⟨w.heap.size+1+1,0,none⟩ (.int .i64 0)) #[.slice A ts.length c,.int .i64 (e:Nat),.int .i64 0] 85
  rwa [show ((w1.setCell ⟨w.heap.size+1,0,none⟩ (.int .i64 (p:Nat))).setCell ⟨w.heap.size+1+1,0,none⟩ (.int .i64 0)).heap.size=w1.heap.size by simp [World.setCell]] at this
 refine ⟨hB.lt,⟨A,c,hB.cell 0,hc,?_⟩,hB.cell 1,hB.cell 2,hB.free⟩
 intro hne
 obtain ⟨g,o,rfl,hg,hcl⟩:=hv hne
 have hT:∀ (b:Nat),b≠w.heap.size+1→b≠w.heap.size+1+1→b<w1.heap.size → ∀ j,(W1 w w1 p (some ⟨g,o,none⟩) ts.length c e).cell? ⟨b,j,none⟩=w1.cell? ⟨b,j,none⟩:=fun b h1 h2 h3 j=>by
  rw [Below.cell hb (p:=⟨b,j,none⟩) h3]
  unfold World.cell?
  rw [Below.heap_setCell _ _ _ _ h2,Below.heap_setCell _ _ _ _ h1]
 have hl:ts.length≠0:=fun e=>hne (List.eq_nil_of_length_eq_zero e)
 have t2:=(hcl 0 (by omega)).2.2.1
 have g1:g≠w.heap.size+1:=by
  rintro rfl
  rw [((W0.a w).keep h).cell] at t2
  rcases hq:(o+0*4+2) with _ | q
  ·omega
  ·rw [hq] at t2;simp at t2
 have g2:g≠w.heap.size+1+1:=by
  rintro rfl
  rw [((W0.e w).keep h).cell] at t2
  rcases hq:(o+0*4+2) with _ | q
  ·omega
  ·rw [hq] at t2;simp at t2
 refine ⟨g,o,rfl,hg,fun i hi=>?_⟩
 simp only [hT g g1 g2 hg]
 exact hcl i hi
theorem W1.fr {w w1:World} (h:Fr (W0 w) w1) (p:Nat) (A:Option Addr) (n c e:Nat):Fr w (W1 w w1 p A n c e):=
 ((((W0.fr w).trans h).setCell (by show w.heap.size≤w.heap.size+1;omega) _).setCell (by show w.heap.size≤w.heap.size+1+1;omega) _).alloc _
theorem not_v {w:World} {V g o:Nat} {T:TypeId} {k:Int} {t:ByteArray} (h:Blk w V #[.int .i64 0,.int .i64 0,.string ⟨#[]⟩,.slice none 0 0,.slice none 0 0] T) (h2:w.cell? ⟨g,o+2,none⟩=some (.string t)) (h3:w.cell? ⟨g,o+3,none⟩=some (.int .i64 k)):¬ g=V:=by
 rintro rfl
 rw [h.cell] at h2 h3
 rcases o with _ | _ | _ | o
 ·simp at h3
 ·simp at h2
 ·simp at h2
 ·simp at h2
structure B3 (w wr:World) (v0 v1 v2 v3 v4 x y:Value):Prop where
 v:Blk wr w.heap.size #[v0,v1,v2,v3,v4] 25
 a:Blk wr (w.heap.size+1) #[x] 3
 e:Blk wr (w.heap.size+1+1) #[y] 28
 fr:Fr w wr
theorem W1.b3 {w w1:World} (h:Fr (W0 w) w1) (p:Nat) (A:Option Addr) (n c e:Nat):B3 w (W1 w w1 p A n c e) (.int .i64 0) (.int .i64 0) (.string ⟨#[]⟩) (.slice none 0 0) (.slice none 0 0) (.int .i64 (p:Nat)) (.int .i64 0):=⟨W1.v h p A n c e,W1.a h p A n c e,W1.e h p A n c e,W1.fr h p A n c e⟩
theorem B3.frx {w wr w':World} {v0 v1 v2 v3 v4 x y:Value} (h:B3 w wr v0 v1 v2 v3 v4 x y) {R:Nat} (hR:w.heap.size+3≤R) (hf:FrX R wr w'):B3 w w' v0 v1 v2 v3 v4 x y:=
 ⟨h.v.frx hf (by omega),h.a.frx hf (by omega),h.e.frx hf (by omega),h.fr.frx hf (by omega)⟩
theorem B3.keep {w wr w':World} {v0 v1 v2 v3 v4 x y:Value} (h:B3 w wr v0 v1 v2 v3 v4 x y) (hf:Fr wr w'):B3 w w' v0 v1 v2 v3 v4 x y:=⟨h.v.keep hf,h.a.keep hf,h.e.keep hf,h.fr.trans hf⟩
theorem B3.setV {w wr:World} {v0 v1 v2 v3 v4 x y:Value} (h:B3 w wr v0 v1 v2 v3 v4 x y) (u0 u1 u2 u3 u4:Value):B3 w (((((wr.setCell ⟨w.heap.size,0,none⟩ u0).setCell ⟨w.heap.size,1,none⟩ u1).setCell ⟨w.heap.size,2,none⟩ u2).setCell ⟨w.heap.size,3,none⟩ u3).setCell ⟨w.heap.size,4,none⟩ u4) u0 u1 u2 u3 u4 x y:=by
 have n1:∀ j,(Addr.mk w.heap.size j none).block≠w.heap.size+1:=fun j=>by show w.heap.size≠w.heap.size+1;omega
 have n2:∀ j,(Addr.mk w.heap.size j none).block≠w.heap.size+1+1:=fun j=>by show w.heap.size≠w.heap.size+1+1;omega
 have hb:∀ j,w.heap.size≤(Addr.mk w.heap.size j none).block:=fun j=>Nat.le_refl _
 exact ⟨Blk.five h.v,((((h.a.other (n1 0) _).other (n1 1) _).other (n1 2) _).other (n1 3) _).other (n1 4) _,((((h.e.other (n2 0) _).other (n2 1) _).other (n2 2) _).other (n2 3) _).other (n2 4) _,((((h.fr.setCell (hb 0) _).setCell (hb 1) _).setCell (hb 2) _).setCell (hb 3) _).setCell (hb 4) _⟩
theorem B3.setA {w wr:World} {v0 v1 v2 v3 v4 x y:Value} (h:B3 w wr v0 v1 v2 v3 v4 x y) (u:Value):B3 w (wr.setCell ⟨w.heap.size+1,0,none⟩ u) v0 v1 v2 v3 v4 u y:=
 ⟨h.v.other (by show w.heap.size+1≠_;omega) _,Blk.one h.a,h.e.other (by show w.heap.size+1≠_;omega) _,h.fr.setCell (by show w.heap.size≤w.heap.size+1;omega) _⟩
theorem B3.setE {w wr:World} {v0 v1 v2 v3 v4 x y:Value} (h:B3 w wr v0 v1 v2 v3 v4 x y) (u:Value):B3 w (wr.setCell ⟨w.heap.size+1+1,0,none⟩ u) v0 v1 v2 v3 v4 x u:=
 ⟨h.v.other (by show w.heap.size+1+1≠_;omega) _,h.a.other (by show w.heap.size+1+1≠_;omega) _,Blk.one h.e,h.fr.setCell (by show w.heap.size≤w.heap.size+1+1;omega) _⟩
theorem inV_boxes {w w2 w3:World} {v:JV} {x:Value} (h:InV w3 (Be w2.heap.size w3.heap.size) v x) (hz:w.heap.size+3≤w2.heap.size) {a0 a1 a2 a3 a4 b0 b1 b2 b3 b4 c d:Value} {W:World}
  (hW:W=(((((((((((w3.setCell ⟨w.heap.size,0,none⟩ a0).setCell ⟨w.heap.size,1,none⟩ a1).setCell ⟨w.heap.size,2,none⟩ a2).setCell ⟨w.heap.size,3,none⟩ a3).setCell ⟨w.heap.size,4,none⟩ a4).setCell ⟨w.heap.size,0,none⟩ b0).setCell ⟨w.heap.size,1,none⟩ b1).setCell ⟨w.heap.size,2,none⟩ b2).setCell ⟨w.heap.size,3,none⟩ b3).setCell ⟨w.heap.size,4,none⟩ b4).setCell ⟨w.heap.size+1,0,none⟩ c).setCell ⟨w.heap.size+1+1,0,none⟩ d):
  InV W (Be w.heap.size W.heap.size) v x:=by
 have hs:W.heap.size=w3.heap.size:=by rw [hW];simp [World.setCell]
 rw [hs]
 refine h.map (fun b hb=>⟨by have:=hb.1;omega,hb.2⟩) (fun b o hb=>?_)
 have h3:=hb.1
 have n0:b≠w.heap.size:=by omega
 have n1:b≠w.heap.size+1:=by omega
 have n2:b≠w.heap.size+1+1:=by omega
 subst hW
 simp only [World.cell?]
 rw [Below.heap_setCell _ _ _ _ n2,Below.heap_setCell _ _ _ _ n1,Below.heap_setCell _ _ _ _ n0,Below.heap_setCell _ _ _ _ n0,Below.heap_setCell _ _ _ _ n0,Below.heap_setCell _ _ _ _ n0,Below.heap_setCell _ _ _ _ n0,Below.heap_setCell _ _ _ _ n0,Below.heap_setCell _ _ _ _ n0,Below.heap_setCell _ _ _ _ n0,Below.heap_setCell _ _ _ _ n0,Below.heap_setCell _ _ _ _ n0]
theorem caught {w wp:World} {v0 v1 v2 v3 v4 x y:Value} (h:B3 w wp v0 v1 v2 v3 v4 x y) (a c:Nat) {tmps:Array Value} (h2:tmps.getD 2 undef=.pointer (some ⟨w.heap.size,0,none⟩)) (h3:tmps.getD 3 undef=.pointer (some ⟨w.heap.size+1,0,none⟩)) (h4:tmps.getD 4 undef=.pointer (some ⟨w.heap.size+1+1,0,none⟩)):
  Leaves Tryz.prog Tryz.f23 tmps (RdP w (.bad a c)) [{ target:=.fn (.func 45) #[.pointer (some ⟨w.heap.size,0,none⟩),.pointer (some ⟨w.heap.size+1,0,none⟩),.pointer (some ⟨w.heap.size+1+1,0,none⟩)],args:=#[] }] (.panicking [{ v:=faultV a c,recovered:=false }]) wp:=by
 refine leaves_cons (f:=45) (args:=#[.pointer (some ⟨w.heap.size,0,none⟩),.pointer (some ⟨w.heap.size+1,0,none⟩),.pointer (some ⟨w.heap.size+1+1,0,none⟩)]) (by simp) (by simp [go_sem]) ?_
 refine (catch_bad w.heap.size (w.heap.size+1) (w.heap.size+1+1) a c [] x y v0 v1 v2 v3 v4 wp h.v h.a h.e).mono ?_
 rintro e u' w' ⟨rfl,rfl,hv,ha,he,hb⟩
 refine ⟨_,results_v3 _ w.heap.size (w.heap.size+1) (w.heap.size+1+1) h2 h3 h4 _ _ _ _ _ _ _ hv ha he,rfl,?_⟩
 exact Below.trans h.fr (hb _ (Nat.le_refl _) (by omega) (by omega))
theorem passed {w wp:World} {v0 v1 v2 v3 v4:Value} (h:B3 w wp v0 v1 v2 v3 v4 (.int .i64 0) (.int .i64 0)) (v:JV) (l:List Scn.Tok) (q:Nat) (hv:InV wp (Be w.heap.size wp.heap.size) v (.agg #[v0,v1,v2,v3,v4])∧TopF wp (.agg #[v0,v1,v2,v3,v4])) {tmps:Array Value} (h2:tmps.getD 2 undef=.pointer (some ⟨w.heap.size,0,none⟩)) (h3:tmps.getD 3 undef=.pointer (some ⟨w.heap.size+1,0,none⟩)) (h4:tmps.getD 4 undef=.pointer (some ⟨w.heap.size+1+1,0,none⟩)):
  Leaves Tryz.prog Tryz.f23 tmps (RdP w (.ok v l q)) [{ target:=.fn (.func 45) #[.pointer (some ⟨w.heap.size,0,none⟩),.pointer (some ⟨w.heap.size+1,0,none⟩),.pointer (some ⟨w.heap.size+1+1,0,none⟩)],args:=#[] }] .returning wp:=by
 refine leaves_cons (f:=45) (args:=#[.pointer (some ⟨w.heap.size,0,none⟩),.pointer (some ⟨w.heap.size+1,0,none⟩),.pointer (some ⟨w.heap.size+1+1,0,none⟩)]) (by simp) (by simp [go_sem]) ?_
 refine (catch_idle w.heap.size (w.heap.size+1) (w.heap.size+1+1) wp).mono ?_
 rintro e u' w' ⟨rfl,rfl,rfl⟩
 exact ⟨_,results_v3 _ w.heap.size (w.heap.size+1) (w.heap.size+1+1) h2 h3 h4 _ _ _ _ _ _ _ h.v h.a h.e,_,rfl,hv,h.fr⟩

theorem rvalue_pan (s:ByteArray) (ts:List Scn.Tok) (p:Nat) (w:World) (hs:s.size≤9223372036854775807) (hT:LowTabs w) (h:Scn.tokens s.data.toList=(ts,p,0)) (hok:∀ t∈ts,TokOk t) {a b:Nat} (hr:Rd.rdV (2*ts.length+3) s.size (Rd.next s.size ts) ts.tail 1 0=.bad a b):
  Calls Tryz.prog 23 #[.string s] w (RdP w (.bad a b)):=by
 have HT:=Lib.hid hT
 have HK:=Lib.hid h
 have HOK:=Lib.hid hok
 have HS:=Lib.hid hs
 obtain ⟨t,ht⟩:∃ t,Rd.next s.size ts=t:=⟨_,rfl⟩
 rw [ht] at hr
 have HTN:=Lib.hid ht
 have HTO:Hid (TokOk t):=by show TokOk t;rw [← ht];exact next_ok hok
 have HR:=Lib.hid hr
 have hmf:∀ (fn:Fn) (first cap:Array Value) (w:World),(Instr.makeFunc fn first cap).run Tryz.prog w=.ok (.func fn first cap) w:=fun _ _ _ _=>rfl
 have hs':(s.size:Int)≤9223372036854775807:=by omega
 clear hT h hok hr ht hs
 go_enter_defers Tryz.func23,Tryz.ntmps23
 go_wp2_with (first
  | (go_at_call 46;have hm:=HB2.out;refine ((value_is _).bad HR2.out (by omega) (by omega) HTO.out (tail_ok HOK.out) (d:=1) rfl HR.out).mono ?_;rintro x w3 ⟨rfl,hf⟩;have HB3:=Lib.hid (hm.frx HLT.out hf);clear hf hm)
  | (go_at_call 47;refine (next_at w1.heap.size s.size ts 0 t HTN.out _ HRD.out).mono ?_;rintro x w2 ⟨rfl,hr2,hf⟩;have HR2:=Lib.hid hr2;have HB2:=Lib.hid (HB1.out.frx HLT.out hf);clear hf hr2)
  | (go_at_call 44;refine (tokens_at s ts p 0 _ HS.out (HT.out.keep (W0.fr w)) HK.out).mono ?_;rintro e w1 ⟨v,rfl,htk,hf⟩;have hf:Fr (W0 w) w1:=hf;obtain ⟨A,c,rfl,hc,htv⟩:=htk.tv (Nat.le_refl _);have a0:w1.cell? ⟨w.heap.size+1,0,none⟩=some (.int .i64 0):=((W0.a w).keep hf).cell 0;have a1:=((W0.a w).keep hf).free 0;have e0:w1.cell? ⟨w.heap.size+1+1,0,none⟩=some (.int .i64 0):=((W0.e w).keep hf).cell 0;have e1:=((W0.e w).keep hf).free 0;have HRD:=Lib.hid (W1.rdr hf p A ts c s.size hc htv);have HB1:=Lib.hid (W1.b3 hf p A ts.length c s.size);have HLT:=Lib.hid (W1.lt hf);clear hf htk hc htv))
 exact caught HB3.out a b rfl rfl rfl

theorem rvalue_rest (s:ByteArray) (ts:List Scn.Tok) (p:Nat) (w:World) (hs:s.size≤9223372036854775807) (hT:LowTabs w) (h:Scn.tokens s.data.toList=(ts,p,0)) (hok:∀ t∈ts,TokOk t) {v:JV} {t':Scn.Tok} {l:List Scn.Tok} {q:Nat} (hr:Rd.rdV (2*ts.length+3) s.size (Rd.next s.size ts) ts.tail 1 0=.ok v (t'::l) q):
  Calls Tryz.prog 23 #[.string s] w (RdP w (.bad t'.at_ 50)):=by
 have HT:=Lib.hid hT
 have HK:=Lib.hid h
 have HOK:=Lib.hid hok
 have HS:=Lib.hid hs
 obtain ⟨t,ht⟩:∃ t,Rd.next s.size ts=t:=⟨_,rfl⟩
 rw [ht] at hr
 have HTN:=Lib.hid ht
 have HTO:Hid (TokOk t):=by show TokOk t;rw [← ht];exact next_ok hok
 have HR:=Lib.hid hr
 have hpos:decide ((0:Int)<((t'::l).length:Int))=true:=decide_eq_true (by simp only [List.length_cons];omega)
 have hmf:∀ (fn:Fn) (first cap:Array Value) (w:World),(Instr.makeFunc fn first cap).run Tryz.prog w=.ok (.func fn first cap) w:=fun _ _ _ _=>rfl
 have hs':(s.size:Int)≤9223372036854775807:=by omega
 clear hT h hok hr ht hs
 go_enter_defers Tryz.func23,Tryz.ntmps23
 go_wp2_with (first
  | (go_at_call 48;have hm:=HB3.out;refine (wrong_at t' 50 50 rfl _).mono ?_;rintro x w4 ⟨rfl,hf⟩;have HF4:=Lib.hid hf;clear hf hm)
  | (go_at_call 46;have hm:=HB2.out;refine ((value_is _).ok HR2.out (by omega) (by omega) HTO.out (tail_ok HOK.out) (d:=1) rfl HR.out).mono ?_;rintro x w3 ⟨k3,n3,s3,A3,a3,b3,A3',a3',b3',rfl,hin,hr3,hf⟩;obtain ⟨Ar,cr,rc,_,rtv⟩:=hr3.c0;have hb3:=hm.frx HLT.out hf;obtain ⟨⟨v0,v1,v2,v3,v4⟩,f0,f1,f2,f3,f4⟩:=box5 hb3.v;have g0:w3.cell? ⟨w.heap.size+1,0,none⟩=some (.int .i64 (p:Nat)):=hb3.a.cell 0;have g1:=hb3.a.free 0;have h0:w3.cell? ⟨w.heap.size+1+1,0,none⟩=some (.int .i64 0):=hb3.e.cell 0;have h1:=hb3.e.free 0;have n0:¬ w1.heap.size=w.heap.size:=(by have:=HLT.out;omega);have n1:¬ w.heap.size=w1.heap.size:=(by have:=HLT.out;omega);have HB3:=Lib.hid hb3;have HIN:=Lib.hid hin;obtain ⟨gr,og,rfl,hgr,hgc⟩:=rtv (by simp);obtain ⟨y0,y1,y2,y3⟩:=hgc 0 (by simp);simp only [Nat.zero_mul,Nat.add_zero,List.getElem_cons_zero] at y0 y1 y2 y3;have m0:¬ gr=w.heap.size:=(not_v hb3.v y2 y3);clear hgc;have HZ3:Hid (w.heap.size+3≤w2.heap.size):=HB2.out.e.lt;clear hf hm hin hr3 hb3 rtv)
  | (go_at_call 47;refine (next_at w1.heap.size s.size ts 0 t HTN.out _ HRD.out).mono ?_;rintro x w2 ⟨rfl,hr2,hf⟩;have HR2:=Lib.hid hr2;have HB2:=Lib.hid (HB1.out.frx HLT.out hf);clear hf hr2)
  | (go_at_call 44;refine (tokens_at s ts p 0 _ HS.out (HT.out.keep (W0.fr w)) HK.out).mono ?_;rintro e w1 ⟨v,rfl,htk,hf⟩;have hf:Fr (W0 w) w1:=hf;obtain ⟨A,c,rfl,hc,htv⟩:=htk.tv (Nat.le_refl _);have a0:w1.cell? ⟨w.heap.size+1,0,none⟩=some (.int .i64 0):=((W0.a w).keep hf).cell 0;have a1:=((W0.a w).keep hf).free 0;have e0:w1.cell? ⟨w.heap.size+1+1,0,none⟩=some (.int .i64 0):=((W0.e w).keep hf).cell 0;have e1:=((W0.e w).keep hf).free 0;have HRD:=Lib.hid (W1.rdr hf p A ts c s.size hc htv);have HB1:=Lib.hid (W1.b3 hf p A ts.length c s.size);have HLT:=Lib.hid (W1.lt hf);clear hf htk hc htv))
 exact caught (((HB3.out.setV _ _ _ _ _)).keep HF4.out) _ _ rfl rfl rfl

theorem rvalue_fine (s:ByteArray) (ts:List Scn.Tok) (p:Nat) (w:World) (hs:s.size≤9223372036854775807) (hT:LowTabs w) (h:Scn.tokens s.data.toList=(ts,p,0)) (hok:∀ t∈ts,TokOk t) {v:JV} {q:Nat} (hr:Rd.rdV (2*ts.length+3) s.size (Rd.next s.size ts) ts.tail 1 0=.ok v [] q):
  Calls Tryz.prog 23 #[.string s] w (RdP w (.ok v [] q)):=by
 have HT:=Lib.hid hT
 have HK:=Lib.hid h
 have HOK:=Lib.hid hok
 have HS:=Lib.hid hs
 obtain ⟨t,ht⟩:∃ t,Rd.next s.size ts=t:=⟨_,rfl⟩
 rw [ht] at hr
 have HTN:=Lib.hid ht
 have HTO:Hid (TokOk t):=by show TokOk t;rw [← ht];exact next_ok hok
 have HR:=Lib.hid hr
 have hmf:∀ (fn:Fn) (first cap:Array Value) (w:World),(Instr.makeFunc fn first cap).run Tryz.prog w=.ok (.func fn first cap) w:=fun _ _ _ _=>rfl
 have hs':(s.size:Int)≤9223372036854775807:=by omega
 clear hT h hok hr ht hs
 go_enter_defers Tryz.func23,Tryz.ntmps23
 go_wp2_with (first
  | (go_at_call 46;have hm:=HB2.out;refine ((value_is _).okT HR2.out (by omega) (by omega) HTO.out (tail_ok HOK.out) (d:=1) rfl HR.out).mono ?_;rintro x w3 ⟨k3,n3,s3,A3,a3,b3,A3',a3',b3',rfl,⟨hin,htp⟩,hr3,hf⟩;have HTP:=Lib.hid htp;clear htp;obtain ⟨Ar,cr,rc,_,rtv⟩:=hr3.c0;have hb3:=hm.frx HLT.out hf;obtain ⟨⟨v0,v1,v2,v3,v4⟩,f0,f1,f2,f3,f4⟩:=box5 hb3.v;have g0:w3.cell? ⟨w.heap.size+1,0,none⟩=some (.int .i64 (p:Nat)):=hb3.a.cell 0;have g1:=hb3.a.free 0;have h0:w3.cell? ⟨w.heap.size+1+1,0,none⟩=some (.int .i64 0):=hb3.e.cell 0;have h1:=hb3.e.free 0;have n0:¬ w1.heap.size=w.heap.size:=(by have:=HLT.out;omega);have n1:¬ w.heap.size=w1.heap.size:=(by have:=HLT.out;omega);have HB3:=Lib.hid hb3;have HIN:=Lib.hid hin;have HTV:=Lib.hid rtv;have HZ3:Hid (w.heap.size+3≤w2.heap.size):=HB2.out.e.lt;clear hf hm hin hr3 hb3 rtv)
  | (go_at_call 47;refine (next_at w1.heap.size s.size ts 0 t HTN.out _ HRD.out).mono ?_;rintro x w2 ⟨rfl,hr2,hf⟩;have HR2:=Lib.hid hr2;have HB2:=Lib.hid (HB1.out.frx HLT.out hf);clear hf hr2)
  | (go_at_call 44;refine (tokens_at s ts p 0 _ HS.out (HT.out.keep (W0.fr w)) HK.out).mono ?_;rintro e w1 ⟨v,rfl,htk,hf⟩;have hf:Fr (W0 w) w1:=hf;obtain ⟨A,c,rfl,hc,htv⟩:=htk.tv (Nat.le_refl _);have a0:w1.cell? ⟨w.heap.size+1,0,none⟩=some (.int .i64 0):=((W0.a w).keep hf).cell 0;have a1:=((W0.a w).keep hf).free 0;have e0:w1.cell? ⟨w.heap.size+1+1,0,none⟩=some (.int .i64 0):=((W0.e w).keep hf).cell 0;have e1:=((W0.e w).keep hf).free 0;have HRD:=Lib.hid (W1.rdr hf p A ts c s.size hc htv);have HB1:=Lib.hid (W1.b3 hf p A ts.length c s.size);have HLT:=Lib.hid (W1.lt hf);clear hf htk hc htv))
 have hb:=HB3.out
 exact passed ((((hb.setV _ _ _ _ _).setV _ _ _ _ _).setA _).setE _) v [] q ⟨inV_boxes HIN.out HZ3.out rfl,((((((((((((HTP.out.set _ _).set _ _).set _ _).set _ _).set _ _).set _ _).set _ _).set _ _).set _ _).set _ _).set _ _).set _ _)⟩ rfl rfl rfl
/- read.Value, told of a text's value; what the laws' awake sees. -/

namespace Rd
open Scn JV
theorem rdS_def (s:List UInt8) {ts:List Tok} {p x:Nat} (h:tokens s=(ts,p,x)):rdS s=if x=0 then (match rdV (2*ts.length+3) s.length (next s.length ts) ts.tail 1 0 with | .ok v l q=>if l=[] then .ok v [] q else .bad (next s.length l).at_ 50 | r=>r) else .bad p x:=by
 unfold rdS;rw [h];rfl
end Rd
theorem toks_ok {s:List UInt8} {ts:List Scn.Tok} {p x:Nat} (h:Scn.tokens s=(ts,p,x)):∀ t∈ts,TokOk t:=by
 intro t hi
 unfold Scn.tokens at h
 split at h
 ·simp only [Prod.mk.injEq] at h;rw [← h.1] at hi;simp at hi
 ·rename_i hl
  have hi2:t∈(Scn.tk s 0).1:=by unfold Scn.tk;rw [h];exact hi
  have h1:=Scn.tk_size s.length s 0 (by omega) t hi2
  have h2:=Scn.tk_good s.length s 0 (by omega) t hi2
  have h3:=h1.2
  refine ⟨by omega,?_⟩
  cases h2 with
  | mark c a hm=>exact ⟨by simp,by simp⟩
  | word w a hw=>exact ⟨by simp,by simp⟩
  | num n a h1 h2=>exact ⟨by simp only;omega,by simp only;omega⟩
  | text s a hs=>exact ⟨by simp,by simp⟩
theorem rvalue_is (s:ByteArray) (w:World) (hs:s.size≤9223372036854775807) (hT:LowTabs w):Calls Tryz.prog 23 #[.string s] w (RdP w (Rd.rdS s.data.toList)):=by
 rcases h:Scn.tokens s.data.toList with ⟨ts,p,x⟩
 have hlen:s.data.toList.length=s.size:=by simp
 rw [Rd.rdS_def _ h,hlen]
 split
 ·rename_i hx
  subst hx
  have h6:=(Rd.rd_fuel (2*ts.length+3)).1 s.size (Rd.next s.size ts) ts.tail 1 0 (by simp;omega)
  rcases hr:Rd.rdV (2*ts.length+3) s.size (Rd.next s.size ts) ts.tail 1 0 with _ | ⟨a,b⟩ | ⟨v,l,q⟩
  ·exact absurd hr h6
  ·exact rvalue_pan s ts p w hs hT h (toks_ok h) hr
  ·cases l with
   | nil=>exact rvalue_fine s ts p w hs hT h (toks_ok h) hr
   | cons t' l=>exact rvalue_rest s ts p w hs hT h (toks_ok h) hr
 ·rename_i hx
  exact rvalue_bad s ts p x w hs hT h hx
theorem rvalue_v (s:ByteArray) (v:JV) (l:List Scn.Tok) (q:Nat) (k n:Int) (t:List UInt8) (L M:Nat) (hv:v.kd=k∧v.nm=n∧v.tx=t∧v.ls.length=L∧v.ms.length=M) (w:World) (hs:s.size≤9223372036854775807) (hT:LowTabs w) (h:Rd.rdS s.data.toList=.ok v l q):
  Calls Tryz.prog 23 #[.string s] w fun e w'=>∃ (B:Option Addr) (d:Nat) (B':Option Addr) (d':Nat),e=.returned (.tuple #[.agg #[.int .i64 k,.int .i64 n,.string ⟨t.toArray⟩,.slice B L d,.slice B' M d'],.int .i64 0,.int .i64 0])∧InV w' (Be w.heap.size w'.heap.size) v (vA v B d B' d')∧Fr w w':=by
 have:=rvalue_is s w hs hT
 rw [h] at this
 obtain ⟨rfl,rfl,rfl,rfl,rfl⟩:=hv
 refine this.mono ?_
 rintro e w' ⟨val,rfl,⟨hi,_⟩,hf⟩
 obtain ⟨A,c,A',c',rfl,_,_⟩:=hi.open_
 exact ⟨A,c,A',c',rfl,hi,hf⟩
theorem InV.low {w:World} {a:Nat} {v:JV} {x:Value} (h:InV w (Be a w.heap.size) v x):InV w (Lo w.heap.size) v x:=h.more (fun b hb=>hb.2)

def aw5:JV:=JV.listV [JV.intV 1,JV.mapV [([97],JV.nullV)]]
/- What the laws' awake sees. -/

end Go.Proofs.YtdhakbghdcfncaaGreatDoor
