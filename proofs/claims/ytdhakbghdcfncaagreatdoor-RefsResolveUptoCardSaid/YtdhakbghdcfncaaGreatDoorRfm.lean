/- refs.Id at one created object: a range over slices.Backward. -/
import Derived.Test.YtdhakbghdcfncaaGreatDoorRfI
import Derived.RangeFuncNested
import Derived.RangeFuncBound
import Derived.RangeFuncCalls
import Derived.RangeFuncLeaves
import Derived.RangeFuncBox
import Derived.Shelf.Abstract
import Derived.Shelf.RegionOpen
import Derived.WalkKit
import Derived.OwnWalkIn
import Derived.TacticsInMore
import Derived.LoopNIn
import Derived.LoopIn
import Derived.Test.YtdhakbghdcfncaaGreatDoorRfj
import Derived.Test.YtdhakbghdcfncaaGreatDoorRdd
import Derived.Test.YtdhakbghdcfncaaGreatDoorSameV
import Derived.Test.YtdhakbghdcfncaaGreatDoorRff
import Derived.Test.YtdhakbghdcfncaaGreatDoorRfa
import Derived.Test.YtdhakbghdcfncaaGreatDoorPtt
namespace Go.Proofs.YtdhakbghdcfncaaGreatDoor
set_option maxRecDepth 100000
set_option maxHeartbeats 8000000
set_option linter.unusedVariables false
set_option linter.unusedSimpArgs false
open Go.RowKit Go.Shelf

attribute [local go_sem] Oper.semAt_some

theorem blk_own {β:Type} (B:Nat) (c:Array Value) (t:TypeId):Own (fun (_:β) W=>Blk W B c t):=fun s X Y row hs hg hrow=>
 (hg.block B (Array.getElem?_eq_some_iff.1 hs).1 (fun e'=>by
  obtain ⟨o,ho,hc⟩:=hrow B e'.symm
  rw [show X.heap[B]? = _ from hs] at ho
  cases ho;cases hc)).trans hs
theorem back1_in (F:Fence) (n:Nat) (h7:F.fn 73) (hro:F.round=none) (hn:1≤n) (l Bs n₀ b cap:Nat) (hb:b<n₀) (J Jx:List Unit→World→Prop)
  (hY:∀ pre x W,J pre W→pre.length<1→YieldAt F (n - 1) Tryz.prog l #[.int .i64 0,.agg #[.string ⟨#[107]⟩,.int .i64 4,.int .i64 0,.string ⟨#[67,49]⟩,.slice none 0 0,.slice none 0 0]] W fun e W'=>
   (e=.returned (.bool true)∧J (pre++[x]) W'∧Below n₀ W W')∨(e=.returned (.bool false)∧Jx (pre++[x]) W'))
  (W:World) (hBs:W.cell? ⟨Bs,0,none⟩=some (.slice (some ⟨b,0,none⟩) 1 cap)) (hc:Blk W b #[.string ⟨#[107]⟩,.int .i64 4,.int .i64 0,.string ⟨#[67,49]⟩,.slice none 0 0,.slice none 0 0] 39) (h0:J [] W):
  CallsIn F n Tryz.prog 73 #[.func (.yield l) #[] #[],.pointer (some ⟨Bs,0,none⟩)] W fun e W'=>(∃ v,e=.returned v) ∧
   ((∃ ys,ys=[()]∧J ys W')∨(∃ pre,pre=[()]∧Jx pre W')):=by
 refine callsIn_of_wp Tryz.func73 rfl h7 ?_ hro
 simp only [Tryz.ntmps73,List.size_toArray,List.length_cons,List.length_nil,Nat.reduceAdd,Nat.reduceSub,Array.replicate_succ,Array.replicate_zero,List.push_toArray,List.append_toArray,List.nil_append,List.cons_append]
 have hc0:=hc.cell 0
 have hc1:=hc.cell 1
 have hc2:=hc.cell 2
 have hc3:=hc.cell 3
 have hc4:=hc.cell 4
 have hc5:=hc.cell 5
 simp at hc0 hc1 hc2 hc3 hc4 hc5
 gi_wp2
 gi_loopw [3] (fun i wr=>(i=.int .i64 0∧wr=W)∨(i=.int .i64 (-1)∧J [()] wr))
  (fun i _=>(intOf i+1).toNat)
 case atStart=>exact .inl ⟨rfl,rfl⟩
 case round=>
  rcases hrel with ⟨rfl,rfl⟩ | ⟨rfl,hJs⟩
  ·obtain ⟨fn,tmps,assign,body,hy,hR⟩:=hY [] () wr h0 (by simp)
   gi_wp2
   refine hR.mono ?_
   rintro e W3 (⟨rfl,hJ3,hk3⟩ | ⟨rfl,hJx3⟩)
   ·gi_wp2
    go_roundw
    case rel=>exact .inr ⟨by simp,hJ3⟩
    case measure=>simp [intOf]
   ·gi_wp2
    refine bodyPost_ret (results_none rfl _ _ _) rfl ?_
    exact ⟨⟨_,rfl⟩,.inr ⟨_,rfl,hJx3⟩⟩
  ·gi_wp2
   go_end0
   exact ⟨⟨_,rfl⟩,.inl ⟨_,rfl,hJs⟩⟩
theorem backm_in (F:Fence) (n:Nat) (h5:F.fn 49) (hro:F.round=none) (a:Option Addr) (len cap:Nat) (w:World):
  CallsIn F n Tryz.prog 49 #[.slice a len cap] w fun e w'=>e=.returned (.func (.func 73) #[] #[.pointer (some ⟨w.heap.size,0,none⟩)])∧w'=w.alloc (.cells #[.slice a len cap] 23):=by
 refine callsIn_of_wp Tryz.func49 rfl h5 ?_ hro
 simp only [Tryz.ntmps49,List.size_toArray,List.length_cons,List.length_nil,Nat.reduceAdd,Nat.reduceSub,Array.replicate_succ,Array.replicate_zero,List.push_toArray,List.append_toArray,List.nil_append,List.cons_append]
 gi_wp2
 go_ret
 exact ⟨rfl,rfl⟩
theorem back_stops (F:Fence) (n:Nat) (h7:F.fn 73) (hro:F.round=none) (hn:1≤n) (Bs n₀ b cap:Nat) (w:World) (hBs:Bs<w.heap.size) (hn₀:n₀≤w.heap.size) (hb:b<n₀)
  (hs:w.cell? ⟨Bs,0,none⟩=some (.slice (some ⟨b,0,none⟩) 1 cap)) (hc:Blk w b #[.string ⟨#[107]⟩,.int .i64 4,.int .i64 0,.string ⟨#[67,49]⟩,.slice none 0 0,.slice none 0 0] 39):
  SeqStopsK F n Tryz.prog 73 #[.pointer (some ⟨Bs,0,none⟩)] (fun _:Unit=>#[Value.int .i64 0,.agg #[.string ⟨#[107]⟩,.int .i64 4,.int .i64 0,.string ⟨#[67,49]⟩,.slice none 0 0,.slice none 0 0]]) (Below n₀) (fun ys=>ys=[()]) (fun pre=>pre=[()]) 1 w:=fun l J Jx W hW _ _ hY h0=>by
 have hs':=(hW.cell (p:=⟨Bs,0,none⟩) hBs).trans hs
 have hc':Blk W b _ _:=(hW.block b (Nat.lt_of_lt_of_le hb hn₀)).trans hc
 exact back1_in F n h7 hro hn l Bs n₀ b cap hb J Jx hY W hs' hc' h0
theorem rfid_is (b cap:Nat) (w:World) (hc:Blk w b #[.string ⟨#[107]⟩,.int .i64 4,.int .i64 0,.string ⟨#[67,49]⟩,.slice none 0 0,.slice none 0 0] 39):
  Calls Tryz.prog 24 #[.string ⟨#[35,107]⟩,.slice (some ⟨b,0,none⟩) 1 cap] w fun e w'=>e=.returned (.tuple #[.string ⟨#[67,49]⟩,.bool true])∧Fr w w':=by
 refine (callsIn_wide (n:=3)).1 ?_
 refine callsIn_of_wp_marks Tryz.func24 rfl trivial ?_ rfl
 simp only [Tryz.ntmps24,List.size_toArray,List.length_cons,List.length_nil,Nat.reduceAdd,Nat.reduceSub,Array.replicate_succ,Array.replicate_zero,List.push_toArray,List.append_toArray,List.nil_append,List.cons_append]
 have HCU:Hid (∀ W n,CallsIn Fence.wide n Tryz.prog 37 #[.string ⟨#[35,107]⟩,.string ⟨#[35]⟩] W fun e w'=>e=.returned (.tuple #[.string ⟨#[107]⟩,.bool true])∧W=w'):=Lib.hid (fun W n=>callsIn_wide.2 (cutp_at [35,107] [107] true W rfl))
 have hlt:=hc.lt
 gi_wp2_with (first
  | (refine ⟨trivial,?_⟩;gi_at_call 37;refine (HCU.out _ _).mono ?_;rintro e w2 ⟨rfl,rfl⟩)
  | (refine ⟨trivial,?_⟩;gi_at_call 49;refine (backm_in Fence.wide _ trivial rfl _ _ _ _).mono ?_;rintro e w2 ⟨rfl,rfl⟩))
 have bR:=(((Boxed.new w 9 (.string ⟨#[]⟩)).alloc (.cells #[.bool false] 4)).alloc (.cells #[.string ⟨#[107]⟩] 9)).alloc (.cells #[.slice (some ⟨b,0,none⟩) 1 cap] 23)
 have bO:=((Boxed.new (w.alloc (.cells #[.string ⟨#[]⟩] 9)) 4 (.bool false)).alloc (.cells #[.string ⟨#[107]⟩] 9)).alloc (.cells #[.slice (some ⟨b,0,none⟩) 1 cap] 23)
 have bN:=(Boxed.new ((w.alloc (.cells #[.string ⟨#[]⟩] 9)).alloc (.cells #[.bool false] 4)) 9 (.string ⟨#[107]⟩)).alloc (.cells #[.slice (some ⟨b,0,none⟩) 1 cap] 23)
 have bS:=Boxed.new (((w.alloc (.cells #[.string ⟨#[]⟩] 9)).alloc (.cells #[.bool false] 4)).alloc (.cells #[.string ⟨#[107]⟩] 9)) 23 (.slice (some ⟨b,0,none⟩) 1 cap)
 simp only [World.size_alloc] at bO bN bS
 have hB0:Below w.heap.size w ((((w.alloc (.cells #[.string ⟨#[]⟩] 9)).alloc (.cells #[.bool false] 4)).alloc (.cells #[.string ⟨#[107]⟩] 9)).alloc (.cells #[.slice (some ⟨b,0,none⟩) 1 cap] 23)):=((((Below.refl _ w).alloc (Nat.le_refl _) _).alloc (by simp) _).alloc (by simp;omega) _).alloc (by simp;omega) _
 have hsz:((((w.alloc (.cells #[.string ⟨#[]⟩] 9)).alloc (.cells #[.bool false] 4)).alloc (.cells #[.string ⟨#[107]⟩] 9)).alloc (.cells #[.slice (some ⟨b,0,none⟩) 1 cap] 23)).heap.size=w.heap.size+4:=by simp
 have hcW:Blk ((((w.alloc (.cells #[.string ⟨#[]⟩] 9)).alloc (.cells #[.bool false] 4)).alloc (.cells #[.string ⟨#[107]⟩] 9)).alloc (.cells #[.slice (some ⟨b,0,none⟩) 1 cap] 23)) b #[.string ⟨#[107]⟩,.int .i64 4,.int .i64 0,.string ⟨#[67,49]⟩,.slice none 0 0,.slice none 0 0] 39:=(hB0.block b hlt).trans hc
 generalize ((((w.alloc (.cells #[.string ⟨#[]⟩] 9)).alloc (.cells #[.bool false] 4)).alloc (.cells #[.string ⟨#[107]⟩] 9)).alloc (.cells #[.slice (some ⟨b,0,none⟩) 1 cap] 23))=W0 at bR bO bN bS hB0 hsz hcW ⊢
 refine wpIn_rangeFunc_ownH rfl (by decide) (gf:=73) (lb:=#[.pointer (some ⟨w.heap.size+1+1+1,0,none⟩)]) rfl trivial (enters_of Tryz.func73 (by kernel_rfl) rfl)
  (back_stops Fence.wide (3 - 1) trivial rfl (by decide) (w.heap.size+1+1+1) w.heap.size b cap W0 (by omega) (by omega) hlt bS.cell hcW) belowK_t (belowK_b (by omega)) (Below.refl _ _) (fun _=>rfl)
  (fun pre W=>((((Boxed W w.heap.size 9 (.string ⟨#[]⟩)∧Boxed W (w.heap.size+1) 4 (.bool false))∧Boxed W (w.heap.size+1+1) 9 (.string ⟨#[107]⟩))∧Boxed W (w.heap.size+1+1+1) 23 (.slice (some ⟨b,0,none⟩) 1 cap))∧pre=[])∧Below w.heap.size w W)
  (fun c pre W=>(((Boxed W w.heap.size 9 (.string ⟨#[67,49]⟩)∧Boxed W (w.heap.size+1) 4 (.bool true))∧c=.ret))∧Below w.heap.size w W)
  (OwnFrom.and (OwnFrom.and (OwnFrom.and (OwnFrom.and (OwnFrom.and (Own.from (boxed_own _ _ _) _) (Own.from (boxed_own _ _ _) _)) (Own.from (boxed_own _ _ _) _)) (Own.from (boxed_own _ _ _) _)) (fun _ _ _ _ hs _ _=>hs)) (ownFrom_below (Nat.le_refl _) (by omega)))
  (fun c=>OwnFrom.and (OwnFrom.and (OwnFrom.and (Own.from (boxed_own _ _ _) _) (Own.from (boxed_own _ _ _) _)) (fun _ _ _ _ hs _ _=>hs)) (ownFrom_below (Nat.le_refl _) (by omega)))
  ⟨⟨⟨⟨⟨bR,bO⟩,bN⟩,bS⟩,rfl⟩,hB0⟩
  (fun _ a' W=>∃ Bx,w.heap.size+3<Bx∧Blk W Bx #[.string ⟨#[107]⟩,.int .i64 4,.int .i64 0,.string ⟨#[67,49]⟩,.slice none 0 0,.slice none 0 0] 39∧a' = { tmps:=#[.string ⟨#[35,107]⟩,.slice (some ⟨b,0,none⟩) 1 cap,undef,undef,.pointer (some ⟨w.heap.size,0,none⟩),.pointer (some ⟨w.heap.size+1,0,none⟩),.pointer (some ⟨w.heap.size+1+1,0,none⟩),.bool true,undef,.pointer (some ⟨Bx,0,none⟩),.tuple #[.string ⟨#[107]⟩,.bool true],.string ⟨#[35,107]⟩,.tuple #[.string ⟨#[107]⟩,.bool true],.string ⟨#[107]⟩,.bool true,.bool true,.bool false,undef,.slice (some ⟨b,0,none⟩) 1 cap,.func (.func 73) #[] #[.pointer (some ⟨w.heap.size+1+1+1,0,none⟩)],.int .i64 0,.agg #[.string ⟨#[107]⟩,.int .i64 4,.int .i64 0,.string ⟨#[67,49]⟩,.slice none 0 0,.slice none 0 0],undef,undef,undef,undef,undef,undef,undef],defers:=[] })
  (fun x a' _ X Y row hs hg hr=>by obtain ⟨Bx,h1,h2,h3⟩:=hs;exact ⟨Bx,h1,blk_own Bx _ _ () X Y row h2 hg (fun r e=>(hr r e).2),h3⟩)
  ?assign ?body ?done ?stop
 case assign=>
  rintro l pre x W K ⟨⟨⟨⟨⟨b1,b2⟩,b3⟩,b4⟩,hp⟩,hB1⟩ hK
  gi_wp2
  exact hK _ _ ((KeepsOthers.alloc _ _).from _) ((Below.refl _ W).alloc (by have:=b3.lt;omega) _) ⟨⟨⟨⟨⟨b1.alloc _,b2.alloc _⟩,b3.alloc _⟩,b4.alloc _⟩,hp⟩,hB1.alloc hB1.size _⟩ ⟨W.heap.size,by have:=b4.lt;omega,Blk.made W _ _,rfl⟩
 case body=>
  rintro l pre x a' W hl ⟨r,hr⟩ ⟨⟨⟨⟨⟨b1,b2⟩,b3⟩,_⟩,hp⟩,hB1⟩ ⟨Bx,hBx,bX,rfl⟩ hlt2
  have c1:=b1.cell
  have f1:=b1.frozen
  have c2:=b2.cell
  have f2:=b2.frozen
  have c3:=b3.cell
  have e0:=bX.cell 0
  have e1:=bX.cell 1
  have e2:=bX.cell 2
  have e3:=bX.cell 3
  simp at e0 e1 e2 e3
  gi_wp2
  exact ⟨((KeepsOthers.setCell _ _ _).trans (KeepsOthers.setCell _ _ _)).from _,⟨⟨⟨(b1.set _).other (by omega) _,(b2.other (by omega) _).set _⟩,rfl⟩,(hB1.setCell (p:=⟨w.heap.size,0,none⟩) (Nat.le_refl _) _).setCell (p:=⟨w.heap.size+1,0,none⟩) (Nat.le_succ _) _⟩⟩
 case done=>
  rintro D ys W hD rfl ⟨⟨_,hp⟩,_⟩ hK
  cases hp
 case stop=>
  rintro D c pre W hD _ ⟨⟨⟨b1,b2⟩,rfl⟩,hB⟩ hK
  gi_wp2
  refine ⟨by simp,.inl ⟨_,_,rfl,run_takeDeferred hK,?_⟩⟩
  have hc5:=cell_kept b1.cell (grownBy_putObj' _ D (.deferred none)) (fun r e=>by cases e;exact ⟨_,hK,rfl⟩)
  have hc6:=cell_kept b2.cell (grownBy_putObj' _ D (.deferred none)) (fun r e=>by cases e;exact ⟨_,hK,rfl⟩)
  refine ⟨.tuple #[.string ⟨#[67,49]⟩,.bool true],?_,rfl,hB.trans (belowK_b (w:=w) (Nat.le_refl _) W D _ _ (by omega) hK rfl rfl)⟩
  simp [results,Tryz.f24,go_sem,hc5,hc6]
/- Chapter 24, plain: what awake knows. -/

def aw24v:JV:=JV.mapV [([35,105,100,115],JV.mapV [(Rf.nOf,JV.textV [97]),(Rf.nName,JV.textV [88,47,113,117,101,114,121]),(Rf.nPath,JV.textV [47,105,100,115])])]
def aw24w:JV:=JV.mapV [([105,100,115],JV.listV [JV.textV [112],JV.textV [113]])]
def aw24n:JV:=JV.mapV [([110],JV.intV 5)]
def aw24c:List CallV:=[(([88,47,113,117,101,114,121],aw24w),[97])]
theorem aw24_1:Rd.rdS [123,34,35,105,100,115,34,58,123,34,114,101,115,117,108,116,79,102,34,58,34,97,34,44,34,110,97,109,101,34,58,34,88,47,113,117,101,114,121,34,44,34,112,97,116,104,34,58,34,47,105,100,115,34,125,125]=.ok aw24v [] 5:=by kernel_rfl
theorem aw24_2:Rd.rdS [123,34,105,100,115,34,58,91,34,112,34,44,34,113,34,93,125]=.ok aw24w [] 4:=by kernel_rfl
theorem aw24_3:Rd.rdS [123,34,110,34,58,53,125]=.ok aw24n [] 2:=by kernel_rfl
theorem aw24_r1:Rf.resolve aw24v aw24c=.ok aw24w:=by kernel_rfl
theorem aw24_r2:Rf.resolve aw24v []=.error 240:=by kernel_rfl
theorem aw24_k1:KsOk [110,58,110,32,115,58,83] [([110],110),([115],83)]:=⟨by kernel_rfl,by decide +kernel,by decide +kernel,by decide +kernel,by decide,by decide,by decide⟩
theorem aw24_k2:KsOk [115,58,83] [([115],83)]:=⟨by kernel_rfl,by decide +kernel,by decide +kernel,by decide +kernel,by decide,by decide,by decide⟩
theorem aw24_a1:Rf.args aw24n [([110],110),([115],83)]=some [JV.intV 5,Rf.nullV]:=by kernel_rfl
theorem aw24_a2:Rf.args aw24n [([115],83)]=none:=by kernel_rfl
theorem aw24_b:JV.bulk aw24v≤200∧JV.bulk aw24w≤200∧JV.bulk aw24n≤200:=by decide +kernel
/- What chapter 24's awake and few see. -/

theorem awake24 (w:World) (hT:LowTabs w) (hS:SpTab w) (hM:MxL w):Calls Tryz.prog 7 #[] w fun e w'=>e=.returned (.bool true)∧Fr w w':=by
 have HT:=Lib.hid hT
 have HS:=Lib.hid hS
 have HM:=Lib.hid hM
 clear hT hS hM
 go_enter Tryz.func7,Tryz.ntmps7
 go_upto_region 2 with (go_at_call 23;refine (rvalue_v _ aw24v [] 5 6 0 [] 0 1 ⟨rfl,rfl,rfl,rfl,rfl⟩ _ ?hs1 HT.out ?he1).mono ?_;(case hs1=>(show (56:Nat)≤_;omega));(case he1=>exact aw24_1);rintro e w1 ⟨A1,c1,B1,d1,rfl,hv,hf⟩;have HV:=Lib.hid hv.low;have HF:=Lib.hid hf;clear hv hf)
 have hb:Blk (w1.alloc (.cells #[.int .i64 6,.int .i64 0,.string ⟨#[]⟩,.slice A1 0 c1,.slice B1 1 d1] 25)) w1.heap.size #[.int .i64 6,.int .i64 0,.string ⟨#[]⟩,.slice A1 0 c1,.slice B1 1 d1] 25:=Blk.made w1 _ _
 have hk:Fr w (w1.alloc (.cells #[.int .i64 6,.int .i64 0,.string ⟨#[]⟩,.slice A1 0 c1,.slice B1 1 d1] 25)):=HF.out.alloc _
 have hv:InV (w1.alloc (.cells #[.int .i64 6,.int .i64 0,.string ⟨#[]⟩,.slice A1 0 c1,.slice B1 1 d1] 25)) (Lo (w1.alloc (.cells #[.int .i64 6,.int .i64 0,.string ⟨#[]⟩,.slice A1 0 c1,.slice B1 1 d1] 25)).heap.size) aw24v (vA aw24v A1 c1 B1 d1):=(HV.out.keep (Nat.le_refl _) ((Fr.refl w1).alloc _)).lo ((Fr.refl w1).alloc _).size
 generalize (w1.alloc (.cells #[.int .i64 6,.int .i64 0,.string ⟨#[]⟩,.slice A1 0 c1,.slice B1 1 d1] 25))=W1 at hb hk hv ⊢
 generalize w1.heap.size=X1 at hb ⊢
 have HB1:=Lib.hid hb
 have HK1:=Lib.hid hk
 have HV1:=Lib.hid hv
 have HG1:Hid (Fr w W1):=Lib.hid hk
 clear hb hk hv HV HF
 go_upto_region 3 with (go_at_call 23;refine (rvalue_v _ aw24w [] 4 6 0 [] 0 1 ⟨rfl,rfl,rfl,rfl,rfl⟩ _ ?hs1 (HT.out.keep HG1.out) ?he1).mono ?_;(case hs1=>(show (17:Nat)≤_;omega));(case he1=>exact aw24_2);rintro e w2 ⟨A2,c2,B2,d2,rfl,hv,hf⟩;have HV:=Lib.hid hv.low;have HF:=Lib.hid hf;clear hv hf)
 have hb:Blk (w2.alloc (.cells #[.int .i64 6,.int .i64 0,.string ⟨#[]⟩,.slice A2 0 c2,.slice B2 1 d2] 25)) w2.heap.size #[.int .i64 6,.int .i64 0,.string ⟨#[]⟩,.slice A2 0 c2,.slice B2 1 d2] 25:=Blk.made w2 _ _
 have hk:Fr W1 (w2.alloc (.cells #[.int .i64 6,.int .i64 0,.string ⟨#[]⟩,.slice A2 0 c2,.slice B2 1 d2] 25)):=HF.out.alloc _
 have hv:InV (w2.alloc (.cells #[.int .i64 6,.int .i64 0,.string ⟨#[]⟩,.slice A2 0 c2,.slice B2 1 d2] 25)) (Lo (w2.alloc (.cells #[.int .i64 6,.int .i64 0,.string ⟨#[]⟩,.slice A2 0 c2,.slice B2 1 d2] 25)).heap.size) aw24w (vA aw24w A2 c2 B2 d2):=(HV.out.keep (Nat.le_refl _) ((Fr.refl w2).alloc _)).lo ((Fr.refl w2).alloc _).size
 generalize (w2.alloc (.cells #[.int .i64 6,.int .i64 0,.string ⟨#[]⟩,.slice A2 0 c2,.slice B2 1 d2] 25))=W2 at hb hk hv ⊢
 generalize w2.heap.size=X2 at hb ⊢
 have HB2:=Lib.hid hb
 have HK2:=Lib.hid hk
 have HV2:=Lib.hid hv
 have HG2:Hid (Fr w W2):=Lib.hid (HG1.out.trans hk)
 clear hb hk hv HV HF
 go_upto_region 4 with (go_at_call 23;refine (rvalue_v _ aw24n [] 2 6 0 [] 0 1 ⟨rfl,rfl,rfl,rfl,rfl⟩ _ ?hs1 (HT.out.keep HG2.out) ?he1).mono ?_;(case hs1=>(show (7:Nat)≤_;omega));(case he1=>exact aw24_3);rintro e w3 ⟨A3,c3,B3,d3,rfl,hv,hf⟩;have HV:=Lib.hid hv.low;have HF:=Lib.hid hf;clear hv hf)
 have hb:Blk (w3.alloc (.cells #[.int .i64 6,.int .i64 0,.string ⟨#[]⟩,.slice A3 0 c3,.slice B3 1 d3] 25)) w3.heap.size #[.int .i64 6,.int .i64 0,.string ⟨#[]⟩,.slice A3 0 c3,.slice B3 1 d3] 25:=Blk.made w3 _ _
 have hk:Fr W2 (w3.alloc (.cells #[.int .i64 6,.int .i64 0,.string ⟨#[]⟩,.slice A3 0 c3,.slice B3 1 d3] 25)):=HF.out.alloc _
 have hv:InV (w3.alloc (.cells #[.int .i64 6,.int .i64 0,.string ⟨#[]⟩,.slice A3 0 c3,.slice B3 1 d3] 25)) (Lo (w3.alloc (.cells #[.int .i64 6,.int .i64 0,.string ⟨#[]⟩,.slice A3 0 c3,.slice B3 1 d3] 25)).heap.size) aw24n (vA aw24n A3 c3 B3 d3):=(HV.out.keep (Nat.le_refl _) ((Fr.refl w3).alloc _)).lo ((Fr.refl w3).alloc _).size
 generalize (w3.alloc (.cells #[.int .i64 6,.int .i64 0,.string ⟨#[]⟩,.slice A3 0 c3,.slice B3 1 d3] 25))=W3 at hb hk hv ⊢
 generalize w3.heap.size=X3 at hb ⊢
 have HB3:=Lib.hid hb
 have HK3:=Lib.hid hk
 have HV3:=Lib.hid hv
 have HG3:Hid (Fr w W3):=Lib.hid (HG2.out.trans hk)
 clear hb hk hv HV HF
 have hb1:=HB1.out.keep (HK2.out.trans HK3.out)
 have hb2:=HB2.out.keep HK3.out
 have HB1':=Lib.hid hb1
 have HB2':=Lib.hid hb2
 have hv1:=(HV1.out.keep (Nat.le_refl _) (HK2.out.trans HK3.out)).lo (HK2.out.trans HK3.out).size
 have hv2:=(HV2.out.keep (Nat.le_refl _) HK3.out).lo HK3.out.size
 obtain ⟨⟨x0,x1,x2,x3,x4⟩,_⟩:=box5 hb1
 obtain ⟨⟨y0,y1,y2,y3,y4⟩,_⟩:=box5 hb2
 have HR1:Hid (Calls Tryz.prog 14 #[.agg #[.int .i64 6,.int .i64 0,.string ⟨#[]⟩,.slice A1 0 c1,.slice B1 1 d1],.slice (some ⟨W3.heap.size,0,none⟩) 1 1] (W3.alloc (.cells #[.string ⟨#[88,47,113,117,101,114,121]⟩,.int .i64 6,.int .i64 0,.string ⟨#[]⟩,.slice A2 0 c2,.slice B2 1 d2,.string ⟨#[97]⟩] 47)) fun e w'=>∃ (D:Option Addr) (g:Nat),e=.returned (.tuple #[.agg #[.int .i64 6,.int .i64 0,.string ⟨#[]⟩,.slice none 0 0,.slice D 1 g],.int .i64 0])∧InV w' (Lo w'.heap.size) aw24w (.agg #[.int .i64 6,.int .i64 0,.string ⟨#[]⟩,.slice none 0 0,.slice D 1 g])∧Fr W3 w'):=Lib.hid (by
  have hal:=(Fr.refl W3).alloc (.cells #[.string ⟨#[88,47,113,117,101,114,121]⟩,.int .i64 6,.int .i64 0,.string ⟨#[]⟩,.slice A2 0 c2,.slice B2 1 d2,.string ⟨#[97]⟩] 47)
  have hmb:Blk (W3.alloc (.cells #[.string ⟨#[88,47,113,117,101,114,121]⟩,.int .i64 6,.int .i64 0,.string ⟨#[]⟩,.slice A2 0 c2,.slice B2 1 d2,.string ⟨#[97]⟩] 47)) W3.heap.size #[.string ⟨#[88,47,113,117,101,114,121]⟩,.int .i64 6,.int .i64 0,.string ⟨#[]⟩,.slice A2 0 c2,.slice B2 1 d2,.string ⟨#[97]⟩] 47:=Blk.made W3 _ _
  have hcz:CsZ (W3.alloc (.cells #[.string ⟨#[88,47,113,117,101,114,121]⟩,.int .i64 6,.int .i64 0,.string ⟨#[]⟩,.slice A2 0 c2,.slice B2 1 d2,.string ⟨#[97]⟩] 47)) (W3.alloc (.cells #[.string ⟨#[88,47,113,117,101,114,121]⟩,.int .i64 6,.int .i64 0,.string ⟨#[]⟩,.slice A2 0 c2,.slice B2 1 d2,.string ⟨#[97]⟩] 47)).heap.size (some ⟨W3.heap.size,0,none⟩) aw24c:=fun i hi=>by
   obtain rfl:i=0:=by simp [aw24c] at hi;omega
   exact ⟨_,0,A2,c2,B2,d2,rfl,hmb.lt,hmb.cell 0,⟨hmb.cell 1,hmb.cell 2,hmb.cell 3,hmb.cell 4,hmb.cell 5⟩,hmb.cell 6,(hv2.keep (Nat.le_refl _) hal).lo hal.size⟩
  have h:=resolve_is aw24v A1 c1 B1 d1 aw24c (some ⟨W3.heap.size,0,none⟩) 1 (W3.alloc (.cells #[.string ⟨#[88,47,113,117,101,114,121]⟩,.int .i64 6,.int .i64 0,.string ⟨#[]⟩,.slice A2 0 c2,.slice B2 1 d2,.string ⟨#[97]⟩] 47)) (W3.alloc (.cells #[.string ⟨#[88,47,113,117,101,114,121]⟩,.int .i64 6,.int .i64 0,.string ⟨#[]⟩,.slice A2 0 c2,.slice B2 1 d2,.string ⟨#[97]⟩] 47)).heap.size (Nat.le_refl _) ((hv1.keep (Nat.le_refl _) hal).lo hal.size) hcz (by decide) (Nat.le_trans aw24_b.1 (by decide)) (fun q hq=>by simp [aw24c] at hq;subst hq;exact Nat.le_trans aw24_b.2.1 (by decide)) (HM.out.keep (HG3.out.trans hal))
  rw [aw24_r1] at h
  exact h.mono (by rintro e w' ⟨D,g,rfl,_,hi,_,hf⟩;exact ⟨D,g,rfl,hi,hal.trans hf⟩))
 have HR2:Hid (∀ W,Fr W3 W→Calls Tryz.prog 14 #[.agg #[.int .i64 6,.int .i64 0,.string ⟨#[]⟩,.slice A1 0 c1,.slice B1 1 d1],.slice none 0 0] W fun e w'=>e=.returned (.tuple #[.agg #[.int .i64 0,.int .i64 0,.string ⟨#[]⟩,.slice none 0 0,.slice none 0 0],.int .i64 240])∧Fr W w'):=Lib.hid (fun W hW=>by
  have h:=resolve_is aw24v A1 c1 B1 d1 [] none 0 W W.heap.size (Nat.le_refl _) ((hv1.keep (Nat.le_refl _) hW).lo hW.size) (fun i hi=>absurd hi (by simp)) (by decide) (Nat.le_trans aw24_b.1 (by decide)) (fun q hq=>absurd hq (by simp)) (HM.out.keep (HG3.out.trans hW))
  rw [aw24_r2] at h
  exact h)
 have HA1:Hid (∀ W,Fr W3 W→Calls Tryz.prog 9 #[.agg #[.int .i64 6,.int .i64 0,.string ⟨#[]⟩,.slice A3 0 c3,.slice B3 1 d3],.string ⟨#[110,58,110,32,115,58,83]⟩] W fun e w'=>(∃ A c,e=.returned (.tuple #[.slice A 2 c,.int .i64 0])∧LsC w' (Lo w'.heap.size) A [JV.intV 5,Rf.nullV])∧Fr W w'):=Lib.hid (fun W hW=>by
  have h:=rargs_is [110,58,110,32,115,58,83] _ aw24_k1 aw24n A3 c3 B3 d3 W W.heap.size (Nat.le_refl _) ((HV3.out.keep (Nat.le_refl _) hW).lo hW.size) (Nat.le_trans aw24_b.2.2 (by decide)) (HM.out.keep (HG3.out.trans hW)) (HS.out.keep (HG3.out.trans hW))
  rw [aw24_a1] at h
  exact h)
 have HA2:Hid (∀ W,Fr W3 W→Calls Tryz.prog 9 #[.agg #[.int .i64 6,.int .i64 0,.string ⟨#[]⟩,.slice A3 0 c3,.slice B3 1 d3],.string ⟨#[115,58,83]⟩] W fun e w'=>e=.returned (.tuple #[.slice none 0 0,.int .i64 1])∧Fr W w'):=Lib.hid (fun W hW=>by
  have h:=rargs_is [115,58,83] _ aw24_k2 aw24n A3 c3 B3 d3 W W.heap.size (Nat.le_refl _) ((HV3.out.keep (Nat.le_refl _) hW).lo hW.size) (Nat.le_trans aw24_b.2.2 (by decide)) (HM.out.keep (HG3.out.trans hW)) (HS.out.keep (HG3.out.trans hW))
  rw [aw24_a2] at h
  exact h)
 have HW2:Hid (∀ W,Fr W3 W→InV W (Lo W.heap.size) aw24w (vA aw24w A2 c2 B2 d2)):=Lib.hid (fun W hW=>(hv2.keep (Nat.le_refl _) hW).lo hW.size)
 clear hb1 hb2 hv1 hv2 HV1 HV2
 go_upto_region 5 with (go_at_call 14;refine HR1.out.mono ?_;rintro e w5 ⟨D,g,rfl,hi,hf⟩;have HI:=Lib.hid hi;have HF5:=Lib.hid hf;clear hi hf)
 clear x0 x1 x2 x3 x4 y0 y1 y2 y3 y4
 have hb:Blk (w5.alloc (.cells #[.int .i64 6,.int .i64 0,.string ⟨#[]⟩,.slice none 0 0,.slice D 1 g] 25)) w5.heap.size #[.int .i64 6,.int .i64 0,.string ⟨#[]⟩,.slice none 0 0,.slice D 1 g] 25:=Blk.made w5 _ _
 have hk:Fr W3 (w5.alloc (.cells #[.int .i64 6,.int .i64 0,.string ⟨#[]⟩,.slice none 0 0,.slice D 1 g] 25)):=HF5.out.alloc _
 have hi:InV (w5.alloc (.cells #[.int .i64 6,.int .i64 0,.string ⟨#[]⟩,.slice none 0 0,.slice D 1 g] 25)) (Lo (w5.alloc (.cells #[.int .i64 6,.int .i64 0,.string ⟨#[]⟩,.slice none 0 0,.slice D 1 g] 25)).heap.size) aw24w (.agg #[.int .i64 6,.int .i64 0,.string ⟨#[]⟩,.slice none 0 0,.slice D 1 g]):=(HI.out.keep (Nat.le_refl _) ((Fr.refl w5).alloc _)).lo ((Fr.refl w5).alloc _).size
 generalize (w5.alloc (.cells #[.int .i64 6,.int .i64 0,.string ⟨#[]⟩,.slice none 0 0,.slice D 1 g] 25))=W5 at hb hk hi ⊢
 generalize w5.heap.size=X10 at hb ⊢
 have HB5:=Lib.hid hb
 have HK5:=Lib.hid hk
 have HI5:=Lib.hid hi
 clear hb hk hi HI HF5
 obtain ⟨⟨x0,x1,x2,x3,x4⟩,_⟩:=box5 (HB1'.out.keep HK5.out)
 go_upto_region 6 with (go_at_call 14;refine (HR2.out _ HK5.out).mono ?_;rintro e w6 ⟨rfl,hf⟩;have HF6:=Lib.hid hf;clear hf)
 clear x0 x1 x2 x3 x4
 have hk:Fr W5 (w6.alloc (.cells #[.int .i64 0,.int .i64 0,.string ⟨#[]⟩,.slice none 0 0,.slice none 0 0] 25)):=HF6.out.alloc _
 generalize (w6.alloc (.cells #[.int .i64 0,.int .i64 0,.string ⟨#[]⟩,.slice none 0 0,.slice none 0 0] 25))=W6 at hk ⊢
 generalize w6.heap.size=X12
 have HK6:=Lib.hid hk
 clear hk HF6
 obtain ⟨⟨x0,x1,x2,x3,x4⟩,_⟩:=box5 (HB3.out.keep (HK5.out.trans HK6.out))
 go_upto_region 7 with (go_at_call 9;refine (HA1.out _ (HK5.out.trans HK6.out)).mono ?_;rintro e w7 ⟨⟨A,c,rfl,hl⟩,hf⟩;have HL7:=Lib.hid hl;have HF7:Hid (Fr W5 w7):=Lib.hid (HK6.out.trans hf);clear hl hf)
 clear x0 x1 x2 x3 x4
 obtain ⟨⟨x0,x1,x2,x3,x4⟩,_⟩:=box5 (HB3.out.keep (HK5.out.trans HF7.out))
 go_upto_region 8 with (go_at_call 9;refine (HA2.out _ (HK5.out.trans HF7.out)).mono ?_;rintro e w8 ⟨rfl,hf⟩;have HG8:=Lib.hid hf;have HF8:Hid (Fr W5 w8):=Lib.hid (HF7.out.trans hf);clear hf)
 clear x0 x1 x2 x3 x4
 have hl8:=HL7.out.keep (Nat.le_refl _) HG8.out
 obtain ⟨p0,q0,_,_,_,_,rfl,hp0,⟨_,n2,_,_,_⟩,_⟩:=hl8 0 (by decide)
 obtain ⟨p1,q1,_,_,_,_,hpe,_,⟨k1,_,_,_,_⟩,_⟩:=hl8 1 (by decide)
 obtain ⟨rfl,rfl⟩:p0=p1∧q0=q1:=by injection hpe with hpe;injection hpe with h1 h2 _;exact ⟨h1,h2⟩
 have hp8:p0<w8.heap.size:=Nat.lt_of_lt_of_le hp0 HG8.out.size
 have HN2:Hid (w8.cell? ⟨p0,q0+1,none⟩=some (.int .i64 5)):=Lib.hid n2
 have HK1:Hid (w8.cell? ⟨p0,q0+5,none⟩=some (.int .i64 1)):=Lib.hid k1
 clear hl8 n2 k1 hpe hp0
 have HID:Hid (Calls Tryz.prog 24 #[.string ⟨#[35,107]⟩,.slice (some ⟨w8.heap.size,0,none⟩) 1 1] (w8.alloc (.cells #[.string ⟨#[107]⟩,.int .i64 4,.int .i64 0,.string ⟨#[67,49]⟩,.slice none 0 0,.slice none 0 0] 39)) fun e w'=>e=.returned (.tuple #[.string ⟨#[67,49]⟩,.bool true])∧Fr (w8.alloc (.cells #[.string ⟨#[107]⟩,.int .i64 4,.int .i64 0,.string ⟨#[67,49]⟩,.slice none 0 0,.slice none 0 0] 39)) w'):=Lib.hid (rfid_is w8.heap.size 1 _ (Blk.made w8 _ _))
 go_upto_region 9 with (go_at_call 24;refine HID.out.mono ?_;rintro e w9 ⟨rfl,hf⟩;have HF9:Hid (Fr w8 w9):=Lib.hid (((Fr.refl w8).alloc _).trans hf);clear hf)
 clear HID
 have HSM:Hid (∀ W,Fr W5 W→Calls Tryz.prog 12 #[.agg #[.int .i64 6,.int .i64 0,.string ⟨#[]⟩,.slice none 0 0,.slice D 1 g],.agg #[.int .i64 6,.int .i64 0,.string ⟨#[]⟩,.slice A2 0 c2,.slice B2 1 d2]] W fun e w'=>e=.returned (.bool true)∧Fr W w'):=Lib.hid (fun W hW=>by
  refine ((same_is aw24w aw24w _ _).call true (by simp) ?sx1 ?sx2 ((HI5.out.keep (Nat.le_refl _) hW).lo hW.size) (HW2.out _ (HK5.out.trans hW))).mono ?_
  ·rfl
  ·rfl
  ·exact fun e w' h=>h)
 have HT9:Hid (Fr W5 w9):=Lib.hid (HF8.out.trans HF9.out)
 obtain ⟨⟨x0,x1,x2,x3,x4⟩,_⟩:=box5 (HB5.out.keep HT9.out)
 obtain ⟨⟨y0,y1,y2,y3,y4⟩,_⟩:=box5 (HB2'.out.keep (HK5.out.trans HT9.out))
 have hs2:((⟨#[67,49]⟩:ByteArray).toList == (⟨#[67,49]⟩:ByteArray).toList)=true:=by rw [bl_beq'];rfl
 go_wp2_with (go_at_call 12;refine (HSM.out _ HT9.out).mono ?_;rintro e wa ⟨rfl,hf⟩;have HFa:=Lib.hid (HT9.out.trans hf);have hh:Fr w8 wa:=HF9.out.trans hf;have n5:=(hh.cell hp8).trans HN2.out;have n6:=(hh.cell hp8).trans HK1.out;clear hf hh)
 go_ret
 exact ⟨rfl,(HG3.out.trans HK5.out).trans HFa.out⟩
/- Chapter 24's few. -/

theorem few24_is (v:JV) (B:Option Addr) (d:Nat) (B':Option Addr) (d':Nat) (l:List CallV) (A:Option Addr) (c:Nat) (w:World) (hv:InV w (Lo w.heap.size) v (vA v B d B' d')) (hbv:JV.bulk v≤1048576) (hcz:CsR w A l) (hl:l.length≤1048576) (hn:∀ q∈l,JV.bulk q.1.2≤1048576):
  Calls Tryz.prog 13 #[.agg #[.int .i64 v.kd,.int .i64 v.nm,.string ⟨v.tx.toArray⟩,.slice B v.ls.length d,.slice B' v.ms.length d'],.slice A l.length c] w fun e w'=>(∃ b:Bool,e=.returned (.bool b))∧Fr w w':=by
 have HFV:Hid (∀ W,Fr w W→Calls Tryz.prog 8 #[.agg #[.int .i64 v.kd,.int .i64 v.nm,.string ⟨v.tx.toArray⟩,.slice B v.ls.length d,.slice B' v.ms.length d'],.int .i64 1000] W fun e w'=>(∃ b:Bool,e=.returned (.bool b))∧Fr W w'):=Lib.hid (fun W hW=>few7_is v B d B' d' W ((hv.keep (Nat.le_refl _) hW).lo hW.size) (Nat.le_trans (Rf.nv_big v) hbv) 1000 (by decide) (by decide))
 have HFX:Hid (∀ W,Fr w W → ∀ (x:JV) (P:Option Addr) (p:Nat) (P':Option Addr) (p':Nat),InV W (Lo W.heap.size) x (vA x P p P' p')→JV.bulk x≤1048576→Calls Tryz.prog 8 #[.agg #[.int .i64 x.kd,.int .i64 x.nm,.string ⟨x.tx.toArray⟩,.slice P x.ls.length p,.slice P' x.ms.length p'],.int .i64 500] W fun e w'=>(∃ b:Bool,e=.returned (.bool b))∧Fr W w'):=Lib.hid (fun W hW x P p P' p' hx hb=>few7_is x P p P' p' W hx (Nat.le_trans (Rf.nv_big x) hb) 500 (by decide) (by decide))
 have HCZ:Hid (CsZ w w.heap.size A l):=Lib.hid hcz.z
 have HN:=Lib.hid hn
 have hl':(l.length:Int)≤1048576:=by omega
 have hms:((v.ms.length:Int)≤100∧(l.length:Int)≤16)∨((v.ms.length:Int)≤100∧(16:Int)<(l.length:Int))∨(100:Int)<(v.ms.length:Int):=by omega
 clear hv hbv hcz hn
 go_enter Tryz.func13,Tryz.ntmps13
 go_upto_region 1 with fail
 have hx0:Blk (w.alloc (.cells #[.int .i64 v.kd,.int .i64 v.nm,.string ⟨v.tx.toArray⟩,.slice B v.ls.length d,.slice B' v.ms.length d'] 25)) w.heap.size #[.int .i64 v.kd,.int .i64 v.nm,.string ⟨v.tx.toArray⟩,.slice B v.ls.length d,.slice B' v.ms.length d'] 25:=Blk.made w _ _
 have hf0:Fr w (w.alloc (.cells #[.int .i64 v.kd,.int .i64 v.nm,.string ⟨v.tx.toArray⟩,.slice B v.ls.length d,.slice B' v.ms.length d'] 25)):=(Fr.refl w).alloc _
 generalize (w.alloc (.cells #[.int .i64 v.kd,.int .i64 v.nm,.string ⟨v.tx.toArray⟩,.slice B v.ls.length d,.slice B' v.ms.length d'] 25))=W0 at hx0 hf0 ⊢
 obtain ⟨X2,hX2⟩:∃ X,w.heap.size=X:=⟨_,rfl⟩
 rw [hX2] at hx0 ⊢
 clear hX2
 obtain ⟨⟨x0,x1,x2,x3,x4⟩,_⟩:=box5 hx0
 have HX0:=Lib.hid hx0
 have HF0:=Lib.hid hf0
 clear hx0 hf0
 rcases hms with ⟨h1,h2⟩ | h3
 ·go_upto_region 3 with (go_at_call 8;refine (HFV.out _ HF0.out).mono ?_;rintro e w1 ⟨⟨b1,rfl⟩,hf⟩;obtain ⟨⟨y0,y1,y2,y3,y4⟩,_⟩:=box5 (HX0.out.keep hf);have HF1:=Lib.hid (HF0.out.trans hf);clear hf;cases b1)
  ·go_wp2_with fail
   go_ret
   exact ⟨⟨_,rfl⟩,HF1.out⟩
  ·clear x0 x1 x2 x3 x4 y0 y1 y2 y3 y4
   go_upto_region 4 with fail
   go_loopw [5] (fun j wr=>∃ i:Nat,i≤l.length∧j=.int .i64 i∧Hid (Fr w wr)) (fun j _=>l.length - (intOf j).toNat)
   case atStart=>exact ⟨0,by omega,rfl,HF1⟩
   case round=>
    obtain ⟨i,hi,rfl,hF⟩:=hrel
    by_cases hlt:i<l.length
    ·have hlt':(i:Int)<(l.length:Int):=by omega
     have h0i:(0:Int)≤(i:Int):=by omega
     obtain ⟨b,o,P,p,P',p',rfl,hb,c0,hvc,c6,hux⟩:=(HCZ.out.keep (Nat.le_refl _) hF.out) i hlt
     have hbx:=HN.out l[i] (List.getElem_mem hlt)
     obtain ⟨x,hx⟩:∃ q,l[i].1.2=q:=⟨_,rfl⟩
     rw [hx] at hvc hux hbx
     have HUX:Hid (InV wr (Lo wr.heap.size) x (vA x P p P' p')):=Lib.hid (hux.more (fun b hb=>Nat.lt_of_lt_of_le hb hF.out.size))
     have HBX:=Lib.hid hbx
     obtain ⟨k1,k2,k3,k4,k5⟩:=hvc
     clear c0 c6 hux hx hbx hb
     go_wp2_with (go_at_call 8;refine (HFX.out _ hF.out x P p P' p' HUX.out HBX.out).mono ?_;rintro e w2 ⟨⟨b2,rfl⟩,hf⟩;have HF2:=Lib.hid (hF.out.trans hf);clear hf;cases b2)
     ·go_ret
      exact ⟨⟨_,rfl⟩,HF2.out⟩
     ·exact ⟨⟨i+1,by omega,by go_num,HF2⟩,by simp [intOf];omega⟩
    ·obtain rfl:i=l.length:=by omega
     go_wp2_with fail
     go_ret
     exact ⟨⟨_,rfl⟩,hF.out⟩
 ·rcases h3 with ⟨h1,h2⟩ | h1
  all_goals
   go_wp2_with (go_at_call 8;refine (HFV.out _ HF0.out).mono ?_;rintro e w1 ⟨⟨b1,rfl⟩,hf⟩;obtain ⟨⟨y0,y1,y2,y3,y4⟩,_⟩:=box5 (HX0.out.keep hf);have HF1:=Lib.hid (HF0.out.trans hf);clear hf;cases b1)
   all_goals (go_ret;exact ⟨⟨_,rfl⟩,HF1.out⟩)
end Go.Proofs.YtdhakbghdcfncaaGreatDoor
