/- Small laws of the walk that serve every function of this claim: cuts of an array, bytes to a text. -/
import Derived.Test.YtdhakbghdcfncaaGreatDoorRows
import Derived.WalkKit
import Derived.WalkSpells
import Derived.WalkLawsBesides
import Derived.Lib.Hide
import Derived.BigQuiet
import Derived.Handy
import Derived.Deep.RegionWith
import Derived.Deep.QuietTactic
import Derived.Deep.RegionHeld3
import Derived.Deep.DeepCutAuto
import Derived.Deep.LoopGhost
import Derived.Deep.DeepMust
import Derived.Deep.DeepFit
import Derived.StillTailTactics
import Derived.Lib.SmallJoins
import Derived.Deep.RegionHeld
import Derived.Maps.Own
import Derived.Maps.OwnOps
import Derived.Maps.Views
import Derived.Maps.Keyed
import Derived.StringKeys
import Derived.Maps.AppendAt
import Derived.Laws.OwnMore
import Derived.Laws.AppendOwnNone
import Derived.Lib.AppendStr
import Derived.Test.YtdhakbghdcfncaaGreatDoorPa
import Derived.Deep.RegionLaw
namespace Go.Proofs.YtdhakbghdcfncaaGreatDoor
set_option maxRecDepth 100000
set_option maxHeartbeats 400000
set_option linter.unusedVariables false
set_option linter.unusedSimpArgs false
open Go.RowKit

theorem ret_int {k:IntKind} {a b:Int} (h:a=b):Ending.returned (.int k a)=.returned (.int k b):=by rw [h]
theorem ret_bool {a b:Bool} (h:a=b):Ending.returned (.bool a)=.returned (.bool b):=by rw [h]
theorem ret_str {a b:List UInt8} (h:a=b):Ending.returned (.string ⟨a.toArray⟩)=.returned (.string ⟨b.toArray⟩):=by rw [h]

def Fr (w w':World):Prop:=Below w.heap.size w w'
theorem Fr.refl (w:World):Fr w w:=Below.refl _ _
theorem Fr.size {w w':World} (h:Fr w w'):w.heap.size≤w'.heap.size:=Below.size h
theorem Fr.trans {a b c:World} (h:Fr a b) (k:Fr b c):Fr a c:=Below.trans h (Below.mono k (Below.size h))
theorem Fr.alloc {a w:World} (h:Fr a w) (o:Obj):Fr a (w.alloc o):=Below.alloc h (Below.size h) o
theorem Fr.drew {a w:World} (h:Fr a w):Fr a w.drew:=Below.drew h
theorem Fr.drewN {a w:World} (h:Fr a w) (n:Nat):Fr a (w.drewN n):=by
 have h':Below a.heap.size a w:=h
 exact ⟨h'.os,h'.tape,h'.output,h'.size,h'.block⟩
theorem Fr.setCell {a w:World} (h:Fr a w) {p:Addr} (hp:a.heap.size≤p.block) (u:Value):Fr a (w.setCell p u):=Below.setCell h hp u
theorem Fr.cell {w w':World} (h:Fr w w') {b o:Nat} (hb:b<w.heap.size):w'.cell? ⟨b,o,none⟩=w.cell? ⟨b,o,none⟩:=Below.cell h (p:=⟨b,o,none⟩) hb
theorem Fr.frozen {w w':World} (h:Fr w w') {b o:Nat} (hb:b<w.heap.size):w'.frozen? ⟨b,o,none⟩=w.frozen? ⟨b,o,none⟩:=Below.frozen h (p:=⟨b,o,none⟩) hb

theorem bytes_eq {a b:ByteArray} (h:a.data.toList=b.data.toList):a=b:=by
 cases a;cases b;simp at h;simp [h]

theorem run_sliceAt_from {P:Program} (w:World) (t e:TypeId) (N m b:Nat) (ht:P.underlying t=some (.array N e)) (hN:P.arrayLen t=N) (hel:P.elem t=e)
  (hsz:(sizeOf e).run P w=.ok 1 w) (hm:m<N):
  (Instr.sliceAt t (.pointer (some ⟨b,0,none⟩)) (some (.int .i64 m)) none none).run P w=.ok (.slice (some ⟨b,m,none⟩) (N - m) (N - m)) w:=by
 rw [run_sliceAt_array_l w t ⟨b,0,none⟩ (by rw [hN,hel];exact ht) .i64 m (by omega) (by rw [hN];omega)]
 rw [hel,hsz,hN]
 simp only [Result.andThen,slicedAt]
 rw [if_neg (by simp;omega)]
 by_cases h0:m=0
 ·subst h0;simp [Addr.add]
 ·simp [Addr.add,h0]

theorem foldl_push_bytes (l:List UInt8):∀ s:ByteArray,(l.map fun c:UInt8=>(c.toNat:Int)).foldl (fun r n=>r.push (UInt8.ofNat n.toNat)) s=⟨(s.data.toList++l).toArray⟩:=by
 induction l with
 | nil=>intro s;apply bytes_eq;simp
 | cons c l ih=>
  intro s
  rw [List.map_cons,List.foldl_cons,ih]
  apply bytes_eq
  simp [ByteArray.push]

theorem run_convert_row {P:Program} (w:World) (src dst e:TypeId) (b off cap:Nat) (l:List UInt8)
  (hs:P.underlying src=some (.slice e)) (he:P.underlying e=some (.int .u8)) (hd:P.underlying dst=some .string)
  (hc:∀ j,j<l.length→w.cell? ⟨b,off+j,none⟩=some (.int .u8 (l.getD j 0).toNat)):
  (convert src dst (.slice (some ⟨b,off,none⟩) l.length cap)).run P w=.ok (.string ⟨l.toArray⟩) w:=by
 rw [run_convert_bytes_string w src dst e _ _ _ hs he hd]
 have h1:(loadCells ⟨b,off,none⟩ l.length).run P w=.ok ((l.map fun c:UInt8=>(c.toNat:Int)).map (Value.int .u8)).toArray w:=by
  have h2:=run_loadCells_list (P:=P) w ⟨b,off,none⟩ ((l.map fun c:UInt8=>(c.toNat:Int)).map (Value.int .u8)) (by
   intro j v hv
   have hj:j<l.length:=by
    rcases Nat.lt_or_ge j l.length with h | h
    ·exact h
    ·simp [List.getElem?_eq_none h] at hv
   have h3:=hc j hj
   simp [List.getElem?_eq_getElem hj] at hv
   subst hv
   have e1:(Addr.mk b off none).add j=⟨b,off+j,none⟩:=by
    by_cases h0:j=0
    ·subst h0;simp [Addr.add]
    ·simp [Addr.add,h0]
   rw [e1,h3]
   simp [List.getD,List.getElem?_eq_getElem hj])
  simpa using h2
 rw [run_bytesToString w _ _ _ _ h1,foldl_push_bytes]
 simp

def byteAt (w:World) (n i:Nat):UInt8:=match w.cell? ⟨n,i,none⟩ with | some (.int .u8 x)=>UInt8.ofNat x.toNat | _=>0
def isByteAt (w:World) (n i:Nat):Bool:=match w.cell? ⟨n,i,none⟩ with | some (.int .u8 _)=>true | _=>false
theorem byteAt_of {w:World} {n i:Nat} {x:Int} (h:w.cell? ⟨n,i,none⟩=some (.int .u8 x)):byteAt w n i=UInt8.ofNat x.toNat:=by simp [byteAt,h]
theorem isByteAt_out {w:World} {n i:Nat} (h:isByteAt w n i=true):∃ x,w.cell? ⟨n,i,none⟩=some (.int .u8 x):=by
 unfold isByteAt at h
 split at h
 ·exact ⟨_,‹_›⟩
 ·cases h

theorem run_conv_row (w:World) (n o cap:Nat) (l:List Int) (h:∀ j x,l[j]? = some x→w.cell? ⟨n,o+j,none⟩=some (.int .u8 x)):
  (convert 154 9 (.slice (some ⟨n,o,none⟩) l.length cap)).run Tryz.prog w=.ok (.string ⟨(l.map fun x=>UInt8.ofNat x.toNat).toArray⟩) w:=by
 rw [run_convert_bytes_string _ 154 9 5 _ _ _ Tryz.underlying154 Tryz.underlying5 Tryz.underlying9]
 have h1:=run_loadCells_list (P:=Tryz.prog) w ⟨n,o,none⟩ (l.map (Value.int .u8)) (by
  intro j v hv
  simp at hv
  obtain ⟨x,hx,rfl⟩:=hv
  have e1:(Addr.mk n o none).add j=⟨n,o+j,none⟩:=by
   by_cases h0:j=0
   ·subst h0;simp [Addr.add]
   ·simp [Addr.add,h0]
  rw [e1]
  exact h j x hx)
 rw [run_bytesToString _ _ _ _ l (by simpa using h1)]
 have hf:∀ (l:List Int) (s:ByteArray),l.foldl (fun r n=>r.push (UInt8.ofNat n.toNat)) s=⟨(s.data.toList++l.map fun x=>UInt8.ofNat x.toNat).toArray⟩:=by
  intro l
  induction l with
  | nil=>intro s;apply bytes_eq;simp
  | cons x l ih=>
   intro s
   rw [List.foldl_cons,ih]
   apply bytes_eq
   simp [ByteArray.push]
 rw [hf]
 rfl

@[go_sem] theorem run_conv_1 (w:World) (n cap:Nat) (h0:isByteAt w n 0=true):
  (convert 154 9 (.slice (some ⟨n,0,none⟩) 1 cap)).run Tryz.prog w=.ok (.string ⟨[byteAt w n 0].toArray⟩) w:=by
 obtain ⟨x0,e0⟩:=isByteAt_out h0
 rw [byteAt_of e0]
 exact run_conv_row w n 0 cap [x0] (by
  intro j x hx
  rcases j with _ | j
  ·simp at hx;subst hx;exact e0
  ·simp at hx)
@[go_sem] theorem run_conv_2 (w:World) (n cap:Nat) (h0:isByteAt w n 0=true) (h1:isByteAt w n 1=true):
  (convert 154 9 (.slice (some ⟨n,0,none⟩) 2 cap)).run Tryz.prog w=.ok (.string ⟨[byteAt w n 0,byteAt w n 1].toArray⟩) w:=by
 obtain ⟨x0,e0⟩:=isByteAt_out h0
 obtain ⟨x1,e1⟩:=isByteAt_out h1
 rw [byteAt_of e0,byteAt_of e1]
 exact run_conv_row w n 0 cap [x0,x1] (by
  intro j x hx
  rcases j with _ | _ | j
  ·simp at hx;subst hx;exact e0
  ·simp at hx;subst hx;exact e1
  ·simp at hx)
@[go_sem] theorem run_conv_3 (w:World) (n cap:Nat) (h0:isByteAt w n 0=true) (h1:isByteAt w n 1=true) (h2:isByteAt w n 2=true):
  (convert 154 9 (.slice (some ⟨n,0,none⟩) 3 cap)).run Tryz.prog w=.ok (.string ⟨[byteAt w n 0,byteAt w n 1,byteAt w n 2].toArray⟩) w:=by
 obtain ⟨x0,e0⟩:=isByteAt_out h0
 obtain ⟨x1,e1⟩:=isByteAt_out h1
 obtain ⟨x2,e2⟩:=isByteAt_out h2
 rw [byteAt_of e0,byteAt_of e1,byteAt_of e2]
 exact run_conv_row w n 0 cap [x0,x1,x2] (by
  intro j x hx
  rcases j with _ | _ | _ | j
  ·simp at hx;subst hx;exact e0
  ·simp at hx;subst hx;exact e1
  ·simp at hx;subst hx;exact e2
  ·simp at hx)
@[go_sem] theorem run_conv_4 (w:World) (n cap:Nat) (h0:isByteAt w n 0=true) (h1:isByteAt w n 1=true) (h2:isByteAt w n 2=true) (h3:isByteAt w n 3=true):
  (convert 154 9 (.slice (some ⟨n,0,none⟩) 4 cap)).run Tryz.prog w=.ok (.string ⟨[byteAt w n 0,byteAt w n 1,byteAt w n 2,byteAt w n 3].toArray⟩) w:=by
 obtain ⟨x0,e0⟩:=isByteAt_out h0
 obtain ⟨x1,e1⟩:=isByteAt_out h1
 obtain ⟨x2,e2⟩:=isByteAt_out h2
 obtain ⟨x3,e3⟩:=isByteAt_out h3
 rw [byteAt_of e0,byteAt_of e1,byteAt_of e2,byteAt_of e3]
 exact run_conv_row w n 0 cap [x0,x1,x2,x3] (by
  intro j x hx
  rcases j with _ | _ | _ | _ | j
  ·simp at hx;subst hx;exact e0
  ·simp at hx;subst hx;exact e1
  ·simp at hx;subst hx;exact e2
  ·simp at hx;subst hx;exact e3
  ·simp at hx)
attribute [go_sem] byteAt isByteAt

theorem Fr.cells {w w':World} (h:Fr w w'):∀ b o,b<w.heap.size→w'.cell? ⟨b,o,none⟩=w.cell? ⟨b,o,none⟩:=fun _ _ hb=>h.cell hb
/- Short words for the steps of a region that draws its order (squeeze.py puts them in). -/

theorem fl:(∀ {α:Type} (l:List α) (i:Nat) (h:i<l.toArray.size),l.toArray[i]'h=l[i]'(by simpa using h))∧(∀ {α:Type} (a:α) (bs:List α) (i:Nat) (h:i+1<(a::bs).length),(a::bs)[i+1]'h=bs[i]'(Nat.lt_of_succ_lt_succ h))∧(∀ {α:Type} (a:α) (bs:List α) (h:0<(a::bs).length),(a::bs)[0]'h=a)∧(∀ {α:Type} (l:List α) (i:Nat) (a:α),l.toArray.setIfInBounds i a=(l.set i a).toArray)∧(∀ {α:Type} (x a:α) (xs:List α),(x::xs).set 0 a=a::xs)∧(∀ {α:Type} (x a:α) (xs:List α) (n:Nat),(x::xs).set (n+1) a=x::xs.set n a):=
 ⟨fun l i h=>by simp,fun a bs i h=>rfl,fun a bs h=>rfl,fun l i a=>by simp,fun x a xs=>rfl,fun x a xs n=>rfl⟩
theorem tk {P:Program} {ops:Array Oper} {Q:Exit→Act→World→Prop} {md:Region.Mode} {S:World→Prop} {i:Nat} {oi:Oper} {v:Value} {fuel:Nat} {listed:Array Bool} {a:Act} {w:World} (hi:ops[i]? = some oi) (hy:Region.wanted oi (yielded ops a.tmps)=true ∧ ∀ w,S w→(execOp a.eval oi).run P w=.ok (.value v) w) (hS:S w)
  (h:wpAnyH P md ops Q S fuel (listed.setIfInBounds i true) (a.put oi.dst v) w) (hs:Region.noSelect ops=true:=by kernel_rfl) (hf:Region.free md ops listed i=true:=by kernel_rfl) (hr:(Region.ready md ops listed).contains i=true:=by kernel_rfl) (hQ:∀ c a w,Q (.panic c) (a.put oi.dst v) w→Q (.panic c) a w:=by exact fun _ _ _ h=>h):wpAnyH P md ops Q S (fuel+1) listed a w:=
 wpAnyH_take hi hs hf hr hQ (Or.inl hy) hS h
theorem tq {P:Program} {ops:Array Oper} {Q:Exit→Act→World→Prop} {md:Region.Mode} {S:World→Prop} (i:Nat) {oi:Oper} {v:Value} {fuel:Nat} {listed:Array Bool} {a:Act} {w:World} (hi:ops[i]? = some oi) (hS:S w)
  (h:wpAnyH P md ops Q S fuel (listed.setIfInBounds i true) (a.put oi.dst v) w) (hy:Region.wanted oi (yielded ops a.tmps)=true ∧ ∀ w,S w→(execOp a.eval oi).run P w=.ok (.value v) w:=by exact ⟨by rfl,by intro w' hSw;(try dsimp only at hSw);go_simp;try with_reducible rfl⟩) (hs:Region.noSelect ops=true:=by kernel_rfl) (hf:Region.free md ops listed i=true:=by kernel_rfl) (hr:(Region.ready md ops listed).contains i=true:=by kernel_rfl) (hQ:∀ c a w,Q (.panic c) (a.put oi.dst v) w→Q (.panic c) a w:=by exact fun _ _ _ h=>h):wpAnyH P md ops Q S (fuel+1) listed a w:=
 wpAnyH_take hi hs hf hr hQ (Or.inl hy) hS h
theorem LH {p:Prop} (h:p):Hid p:=Lib.hid h
theorem FR (w:World):Fr w w:=Fr.refl w
theorem dF {p:Prop} [Decidable p] (h:¬p):decide p=false:=decide_eq_false h
theorem dT {p:Prop} [Decidable p] (h:p):decide p=true:=decide_eq_true h
theorem lL {a b c:Nat} (h:a<b) (k:b≤c):a<c:=Nat.lt_of_lt_of_le h k
theorem lR (n:Nat):n≤n:=Nat.le_refl n
theorem lT {a b c:Nat} (h:a≤b) (k:b≤c):a≤c:=Nat.le_trans h k
theorem rq {P:Program} {ops:Array Oper} {Q:Exit→Act→World→Prop} {md:Region.Mode} {S:World→Prop} (i:Nat) {o:Oper} {fuel:Nat} {listed:Array Bool} {a:Act} {w:World} (ho:ops[i]? = some o)
  (h:∀ K':Act→World→Prop,Shut (∀ a w,S w→(S w→wpAnyH P md ops Q S fuel (listed.setIfInBounds i true) a w)→K' a w)→if Region.wanted o (yielded ops a.tmps)=true then Oper.wp P o a w K' Q else K' (a.put o.dst undef) w)
  (hr:Region.ready md ops listed=[i]:=by kernel_rfl):wpAnyH P md ops Q S (fuel+1) listed a w:=wpAnyH_ready hr (by simp) (AllReadyH.cons ho h AllReadyH.nil)
/- A set of names: a map[string]bool that a call made. -/

def Known (w:World) (b n:Nat) (ks:List (List UInt8)):Prop:=
 ∃ D:DataW Unit,w.ownsMap Tryz.prog 9 (plainElem Tryz.prog 4) b n D∧Maps.IsMap D ∧ ∀ s:List UInt8,D.atKey (.string s) (.lit (.bool false))=.lit (.bool (decide (s∈ks)))
theorem keyedS:Maps.Keyed Tryz.prog 9:=Maps.string_keyed Tryz.underlying9
theorem Known.made (w:World):Known (w.alloc (.map #[] 0)) w.heap.size 0 []:=
 ⟨.map [],World.ownsMap_made w _ _ _,⟨[],rfl⟩,fun s=>by simp [DataW.atKey]⟩
theorem Known.lt {w:World} {b n:Nat} {ks:List (List UInt8)} (h:Known w b n ks):b<w.heap.size:=by
 obtain ⟨D,h1,_⟩:=h;exact h1.lt
theorem Known.keep {w w':World} {b n:Nat} {ks:List (List UInt8)} (h:Known w b n ks) (hf:Fr w w'):Known w' b n ks:=by
 obtain ⟨D,⟨es,clock,hb,F,hs,hD⟩,h2,h3⟩:=h
 exact ⟨D,⟨es,clock,(Below.block hf b (Array.getElem?_eq_some_iff.1 hb).1).trans hb,F,hs,hD⟩,h2,h3⟩
theorem Known.run {w:World} {b n:Nat} {ks:List (List UInt8)} (h:Known w b n ks) (s:List UInt8) (hs:s.length≤140737488355328):
  (Instr.lookup 102 (.map (some b)) (.string ⟨s.toArray⟩) false).run Tryz.prog w=.ok (.bool (decide (s∈ks))) w:=by
 obtain ⟨D,h1,h2,h3⟩:=h
 have hz:(zeroValue 4).run Tryz.prog w=.ok (.bool false) w:=by
  have hi:(Tryz.prog.info? 4).bind (·.zero)=some (.bool false):=by kernel_rfl
  simp only [zeroValue]
  cases h:Tryz.prog.info? 4 with
  | none=>rw [h] at hi;cases hi
  | some i=>
   rw [h] at hi
   simp at hi
   simp [typeInfo,h,hi]
 have hkey:keyOf Tryz.prog 9 (.string ⟨s.toArray⟩)=some (.string s):=by
  have:=WideMaps.keyOf_string_mk (P:=Tryz.prog) Tryz.underlying9 (s:=⟨s.toArray⟩) (by show s.toArray.size≤_;rw [List.size_toArray];unfold maxLen;omega)
  simpa using this
 obtain ⟨v,ps,hrun,hv⟩:=h1.lookup (t:=102) (e:=4) keyedS Tryz.underlying102 hz (plainElem_bool Tryz.underlying4 false) hkey
 rw [h3] at hv
 rw [hrun]
 unfold plainElem at hv
 rw [Tryz.underlying4] at hv
 cases v with
 | bool x=>simp at hv;rw [hv.1]
 | _=>simp at hv
theorem wpl_know {ops:Array Oper} {rest:List Oper} {o:Oper} {a:Act} {w:World} {Q:Exit→Act→World→Prop}
  (hg:o.guard=none) (m x v:Operand) (hop:o.op=Op.mapUpdate 102 m x v)
  (b n:Nat) (ks:List (List UInt8)) (hm:a.eval m=.map (some b)) (hown:Known w b n ks) (hn:n<140737488355328) (s:List UInt8) (hs:s.length≤140737488355328) (hx:a.eval x=.string ⟨s.toArray⟩) (hv:a.eval v=.bool true)
  (hK:∀ w',Known w' b (n+1) (s::ks)→w.grownBy w' (some b)→wpList Tryz.prog ops Q rest (a.put o.dst undef) w'):wpList Tryz.prog ops Q (o::rest) a w:=by
 obtain ⟨D,h1,h2,h3⟩:=hown
 have hkey:keyOf Tryz.prog 9 (.string ⟨s.toArray⟩)=some (.string s):=by
  have:=WideMaps.keyOf_string_mk (P:=Tryz.prog) Tryz.underlying9 (s:=⟨s.toArray⟩) (by show s.toArray.size≤_;rw [List.size_toArray];unfold maxLen;omega)
  simpa using this
 refine wpList_mapUpdate_own w hg m x v 102 hop 9 4 keyedS Tryz.underlying102 _ b n D hm h1 (by unfold maxLen;omega) _ _ (.string s) hx hv hkey (.lit (.bool true)) [] (plainElem_bool Tryz.underlying4 true) ?_
 intro w' h4 h5
 refine hK w' ⟨_,h4,h2.put _ _,fun t=>?_⟩ h5
 by_cases e:t=s
 ·subst e
  rw [Maps.atKey_put_same h2 (keyedS.key hkey)]
  simp
 ·rw [Maps.atKey_put_other (fun h=>e (by injection h))]
  rw [h3]
  simp [e]
theorem Fr.grown {w0 w w':World} {b:Nat} (h:Fr w0 w) (hg:w.grownBy w' (some b)) (hb:w0.heap.size≤b):Fr w0 w':=
 Below.grown h hg h.size (fun k hk=>by have:=Option.some.inj hk;omega)
/- Words for slices of one-cell elements that a call made itself: what they hold, append, bytes to a text. -/

structure El (t e:TypeId) (z:Value) (bts:Nat):Prop where
 sl:Tryz.prog.underlying t=some (.slice e)
 info:(Tryz.prog.info? e).map (fun i=>(i.zero,i.size,i.bytes))=some (some z,1,bts)
 one:z.cells.size=1
theorem el_u8:El 154 5 (.int .u8 0) 1:=⟨Tryz.underlying154,by kernel_rfl,rfl⟩

def Row (w:World) (base:Nat) (e:TypeId) (v:Value) (xs:List Value):Prop:=w.ownsRow base e 1 v xs.length xs

theorem Row.none_ (w:World) (base:Nat) (e:TypeId):Row w base e (.slice none 0 0) []:=World.ownsRow_nil w base e 1
theorem Row.keep {w w':World} {base:Nat} {e:TypeId} {v:Value} {xs:List Value} (h:Row w base e v xs) (hf:Fr w w'):Row w' base e v xs:=by
 refine ⟨h.1,?_⟩
 rcases h.2 with hn | ⟨g,cap,cur,rfl,hb,hg,rest⟩
 ·exact .inl hn
 ·exact .inr ⟨g,cap,cur,rfl,hb,(Below.block hf g (Array.getElem?_eq_some_iff.1 hg).1).trans hg,rest⟩
theorem Row.mono {w:World} {base base':Nat} {e:TypeId} {v:Value} {xs:List Value} (h:Row w base e v xs) (hb:base'≤base):Row w base' e v xs:=by
 refine ⟨h.1,?_⟩
 rcases h.2 with hn | ⟨g,cap,cur,rfl,hb',rest⟩
 ·exact .inl hn
 ·exact .inr ⟨g,cap,cur,rfl,by omega,rest⟩
theorem Row.made (w:World) (e:TypeId) (xs:List Value) (hm:xs.length≤maxLen):
  Row (w.alloc (.cells xs.toArray e)) w.heap.size e (.slice (some ⟨w.heap.size,0,none⟩) xs.length xs.length) xs:=
 World.ownsRow_lit (base:=w.heap.size) (size:=1) (e:=e) w xs.toArray xs.length (Nat.le_refl _) hm (by simp)
theorem Row.form {w:World} {base:Nat} {e:TypeId} {v:Value} {xs:List Value} (h:Row w base e v xs):
  (v=.slice none 0 0∧xs=[]) ∨ ∃ g cap,v=.slice (some ⟨g,0,none⟩) xs.length cap∧base≤g∧g<w.heap.size∧xs.length≤cap∧w.frozen? ⟨g,0,none⟩=false ∧ ∀ j u,xs[j]? = some u→w.cell? ⟨g,j,none⟩=some u:=by
 rcases h.2 with ⟨hv,hn⟩ | ⟨g,cap,cur,rfl,hb,hg,hc,hm,hs,ht⟩
 ·exact .inl ⟨hv,List.eq_nil_of_length_eq_zero hn⟩
 ·refine .inr ⟨g,cap,rfl,hb,(Array.getElem?_eq_some_iff.1 hg).1,hc,by simp [World.frozen?,hg],fun j u hu=>?_⟩
  rw [cell_of_row w g j cur e (0,0) hg]
  rw [← ht,List.getElem?_take] at hu
  split at hu
  ·simpa using hu
  ·cases hu
theorem Row.block_lt {w:World} {base:Nat} {e:TypeId} {v:Value} {xs:List Value} (h:Row w base e v xs):∀ k,v.ownBlock=some k→base≤k∧k<w.heap.size:=World.ownsRow.lt h
theorem Row.own_ge {w:World} {base:Nat} {e:TypeId} {v:Value} {xs:List Value} (h:Row w base e v xs):∀ k,v.ownBlock=some k→base≤k:=fun k hk=>(h.block_lt k hk).1

theorem wpl_app {t e:TypeId} {z:Value} {bts:Nat} (hE:El t e z bts) {ops:Array Oper} {rest:List Oper} {o:Oper} {a:Act} {w:World} {Q:Exit→Act→World→Prop}
  (hgd:o.guard=none) (s x:Operand) (ho:o.op=.call { callee:=.builtin .append,args:=#[s,x],argTypes:=#[t,t] })
  (w0:World) (hfr:Fr w0 w) (v:Value) (xs:List Value) (hs:a.eval s=v) (hown:Row w w0.heap.size e v xs)
  (base:Nat) (v2:Value) (news:List Value) (hx:a.eval x=v2) (h2:Row w base e v2 news) (h1:∀ u∈news,u.oneCell'=true)
  (h63:xs.length+news.length≤140737488355328) (hbytes:(xs.length+news.length)*bts≤140737488355328)
  (h:∀ v' w',Row w' w0.heap.size e v' (xs++news)→Fr w0 w'→w.grownBy w' v.ownBlock→wpList Tryz.prog ops Q rest (a.put o.dst v') w'):
  wpList Tryz.prog ops Q (o::rest) a w:=by
 obtain ⟨i,hi,hz,hsz,hby⟩:=info_parts hE.info
 rcases h2.form with ⟨rfl,rfl⟩ | ⟨g,cap,rfl,hb,hlt,hc,_,hcells⟩
 ·exact wpList_append_own_none hgd s x t ho w0.heap.size e i 1 hE.sl hi v _ xs hs hown hx (h v w (by simpa [Row] using hown) hfr ⟨rfl,rfl,rfl,Nat.le_refl _,fun _ _ _=>rfl⟩)
 ·refine wpList_append_own_at w hgd s x t ho w0.heap.size e i z 1 bts hE.sl hi hz hsz hby hE.one (by omega) v _ xs hs hown ⟨g,0,none⟩ news.length cap news hx (by simp) ?_ h1 (by unfold maxLen;omega) hbytes hfr.size ?_
  ·intro j u hu
   have:=hcells j u hu
   have e1:(Addr.mk g 0 none).add j=⟨g,j,none⟩:=by
    by_cases h0:j=0
    ·subst h0;simp [Addr.add]
    ·simp [Addr.add,h0]
   rw [e1];exact this
  ·intro v' w' h3 h4 _ h5
   refine h v' w' (by simpa [Row] using h3) ?_ h4
   exact Below.grown hfr h4 hfr.size (fun k hk=>hown.own_ge k hk)

theorem wpl_app_lit {t e:TypeId} {z:Value} {bts:Nat} (hE:El t e z bts) {ops:Array Oper} {rest:List Oper} {o:Oper} {a:Act} {w:World} {Q:Exit→Act→World→Prop}
  (hgd:o.guard=none) (s x:Operand) (ho:o.op=.call { callee:=.builtin .append,args:=#[s,x],argTypes:=#[t,t] })
  (w0:World) (hfr:Fr w0 w) (v:Value) (xs:List Value) (hs:a.eval s=v) (hown:Row w w0.heap.size e v xs)
  (news:List Value) (hx:a.eval x=.slice (some ⟨w.heap.size,0,none⟩) news.length news.length) (h1:∀ u∈news,u.oneCell'=true)
  (h63:xs.length+news.length≤140737488355328) (hbytes:(xs.length+news.length)*bts≤140737488355328)
  (h:∀ v' w',Row w' w0.heap.size e v' (xs++news)→Fr w0 w'→wpList Tryz.prog ops Q rest (a.put o.dst v') w'):
  wpList Tryz.prog ops Q (o::rest) a (w.alloc (.cells news.toArray e)):=
 wpl_app hE hgd s x ho w0 (hfr.alloc _) v xs hs (hown.keep (Fr.alloc (Fr.refl _) _)) w.heap.size _ news hx (Row.made w e news (by unfold maxLen;omega)) h1 h63 hbytes
  fun v' w' h2 h3 _=>h v' w' h2 h3

def bvs (l:List UInt8):List Value:=l.map fun c=>.int .u8 c.toNat
theorem bvs_len (l:List UInt8):(bvs l).length=l.length:=by simp [bvs]
theorem bvs_app (a b:List UInt8):bvs (a++b)=bvs a++bvs b:=by simp [bvs]
theorem bvs_one (l:List UInt8):∀ u∈bvs l,u.oneCell'=true:=by
 intro u hu
 simp only [bvs,List.mem_map] at hu
 obtain ⟨c,_,rfl⟩:=hu
 rfl
def Bs (w:World) (base:Nat) (v:Value) (l:List UInt8):Prop:=Row w base 5 v (bvs l)
theorem Bs.none_ (w:World) (base:Nat):Bs w base (.slice none 0 0) []:=Row.none_ w base _
theorem Bs.keep {w w':World} {base:Nat} {v:Value} {l:List UInt8} (h:Bs w base v l) (hf:Fr w w'):Bs w' base v l:=Row.keep h hf
theorem Bs.made (w:World) (l:List UInt8) (hm:l.length≤maxLen):Bs (w.alloc (.cells (bvs l).toArray 5)) w.heap.size (.slice (some ⟨w.heap.size,0,none⟩) l.length l.length) l:=by
 have:=Row.made w 5 (bvs l) (by rw [bvs_len];exact hm)
 rwa [bvs_len] at this
theorem Bs.conv {w:World} {base:Nat} {v:Value} {l:List UInt8} (h:Bs w base v l):(convert 154 9 v).run Tryz.prog w=.ok (.string ⟨l.toArray⟩) w:=by
 rcases Row.form h with ⟨rfl,he⟩ | ⟨g,cap,rfl,hb,hlt,hc,_,hcells⟩
 ·have:l=[]:=by cases l with
   | nil=>rfl
   | cons c l=>simp [bvs] at he
  subst this
  rw [run_convert_bytes_string _ 154 9 5 _ _ _ Tryz.underlying154 Tryz.underlying5 Tryz.underlying9]
  rfl
 ·rw [bvs_len]
  refine run_convert_row w 154 9 5 g 0 cap l Tryz.underlying154 Tryz.underlying5 Tryz.underlying9 ?_
  intro j hj
  rw [Nat.zero_add]
  exact hcells j _ (by simp [bvs,List.getElem?_eq_getElem hj,List.getD])

theorem wpl_bs {ops:Array Oper} {rest:List Oper} {o:Oper} {a:Act} {w:World} {Q:Exit→Act→World→Prop}
  (hgd:o.guard=none) (s x:Operand) (ho:o.op=.call { callee:=.builtin .append,args:=#[s,x],argTypes:=#[154,154] })
  (w0:World) (hfr:Fr w0 w) (v:Value) (l:List UInt8) (hs:a.eval s=v) (hown:Bs w w0.heap.size v l)
  (base:Nat) (v2:Value) (news:List UInt8) (hx:a.eval x=v2) (h2:Bs w base v2 news) (h63:l.length+news.length≤140737488355328)
  (h:∀ v' w',Bs w' w0.heap.size v' (l++news)→Fr w0 w'→w.grownBy w' v.ownBlock→wpList Tryz.prog ops Q rest (a.put o.dst v') w'):
  wpList Tryz.prog ops Q (o::rest) a w:=
 wpl_app el_u8 hgd s x ho w0 hfr v (bvs l) hs hown base v2 (bvs news) hx h2 (bvs_one _) (by simpa [bvs_len] using h63) (by simpa [bvs_len] using h63)
  fun v' w' h3 h4 h5=>h v' w' (by unfold Bs;rw [bvs_app];exact h3) h4 h5
theorem wpl_bs_lit {ops:Array Oper} {rest:List Oper} {o:Oper} {a:Act} {w:World} {Q:Exit→Act→World→Prop} {cs:Array Value} {ad:Addr} {n m:Nat}
  (hgd:o.guard=none) (s x:Operand) (ho:o.op=.call { callee:=.builtin .append,args:=#[s,x],argTypes:=#[154,154] })
  (w0:World) (hfr:Fr w0 w) (v:Value) (l:List UInt8) (hs:a.eval s=v) (hown:Bs w w0.heap.size v l)
  (news:List UInt8) (hx:a.eval x=.slice (some ad) n m) (had:ad=⟨w.heap.size,0,none⟩) (hn:n=news.length) (hm:m=news.length) (hcs:cs=(bvs news).toArray) (h63:l.length+news.length≤140737488355328)
  (h:∀ v' w',Bs w' w0.heap.size v' (l++news)→Fr w0 w'→wpList Tryz.prog ops Q rest (a.put o.dst v') w'):
  wpList Tryz.prog ops Q (o::rest) a (w.alloc (.cells cs 5)):=by
 subst hn;subst hm;subst hcs;subst had
 exact wpl_bs hgd s x ho w0 (hfr.alloc _) v l hs (hown.keep (Fr.alloc (Fr.refl _) _)) w.heap.size _ news hx (Bs.made w news (by unfold maxLen;omega)) h63
  fun v' w' h2 h3 _=>h v' w' h2 h3
theorem wpl_bs_str {ops:Array Oper} {rest:List Oper} {o:Oper} {a:Act} {w:World} {Q:Exit→Act→World→Prop}
  (hgd:o.guard=none) (s x:Operand) (ho:o.op=.call { callee:=.builtin .append,args:=#[s,x],argTypes:=#[154,9] })
  (w0:World) (hfr:Fr w0 w) (v:Value) (l:List UInt8) (hs:a.eval s=v) (hown:Bs w w0.heap.size v l)
  (u:ByteArray) (hx:a.eval x=.string u) (h63:l.length+u.size≤140737488355328)
  (h:∀ v' w',Bs w' w0.heap.size v' (l++u.data.toList)→Fr w0 w'→wpList Tryz.prog ops Q rest (a.put o.dst v') w'):
  wpList Tryz.prog ops Q (o::rest) a w:=by
 obtain ⟨i,hi,hz,hsz,hby⟩:=info_parts el_u8.info
 refine Lib.wpList_append_own_string w hgd s x 154 9 ho w0.heap.size 5 i el_u8.sl Tryz.underlying9 hi hz hsz hby v _ (bvs l) hs hown u hx (by rw [bvs_len];unfold maxLen;omega) (by rw [bvs_len];omega) hfr.size ?_
 intro v' w' h2 h3 _
 refine h v' w' ?_ (Below.grown hfr h3 hfr.size (fun k hk=>Row.own_ge hown k hk))
 unfold Bs Row
 rw [bvs_len,List.length_append,bvs_app]
 have e:Lib.strCells u=bvs u.data.toList:=rfl
 rw [e,bvs_len] at h2
 simpa using h2

/- A region whose head only reads, and whose tail is one call: in one walk, the world under its own name. -/

theorem wp_region_tail {P:Program} {id:Nat} {Q:Exit→Act→World→Prop} {a:Act} {w:World} {l:List Oper} (n:Nat) (hm:P.follows .mixedOrders=true) (hB:Region.lexTailB .any l.toArray n=true)
  (h:wpStill P l.toArray w.drew (fun a'=>wpList P l.toArray Q (l.drop n) a' w.drew) (l.take n) a):(Code.region id l.toArray true).wp P Q a w:=
 wp_region_still_tail n hm hB h
/- A value that lies in memory. -/

inductive InV (w:World) (S:Nat→Prop):JV→Value→Prop
 | mk (k n:Int) (s:List UInt8) (l:List JV) (m:List (List UInt8 × JV)) (A A':Option Addr) (c c':Nat) (E F:Nat→Nat→Value)
  (hn1:-9223372036854775808≤n) (hn2:n≤9223372036854775807) (hk1:-9223372036854775808≤k) (hk2:k≤9223372036854775807)
  (hs:s.length≤140737488355328) (hl63:l.length≤140737488355328) (hm63:m.length≤140737488355328)
  (hl:∀ i (h:i<l.length),InV w S l[i] (.agg #[E i 0,E i 1,E i 2,E i 3,E i 4]))
  (cl:0<l.length → ∃ b o,A=some ⟨b,o,none⟩∧S b ∧ ∀ i j,i<l.length→j<5→w.cell? ⟨b,o+i*5+j,none⟩=some (E i j))
  (hm:∀ i (h:i<m.length),InV w S m[i].2 (.agg #[F i 1,F i 2,F i 3,F i 4,F i 5]))
  (cm:0<m.length → ∃ b o,A'=some ⟨b,o,none⟩∧S b ∧ ∀ i (hi:i<m.length),F i 0=.string ⟨m[i].1.toArray⟩∧m[i].1.length≤140737488355328 ∧ ∀ j,j<6→w.cell? ⟨b,o+i*6+j,none⟩=some (F i j)):
  InV w S (.mk k n s l m) (.agg #[.int .i64 k,.int .i64 n,.string ⟨s.toArray⟩,.slice A l.length c,.slice A' m.length c'])

theorem InV.map {w w':World} {S S':Nat→Prop} {v:JV} {x:Value} (h:InV w S v x) (hS:∀ b,S b→S' b) (hw:∀ b o,S b→w'.cell? ⟨b,o,none⟩=w.cell? ⟨b,o,none⟩):InV w' S' v x:=by
 induction h with
 | mk k n s l m A A' c c' E F hn1 hn2 hk1 hk2 hs hl63 hm63 hl cl hm cm ihl ihm=>
  refine .mk k n s l m A A' c c' E F hn1 hn2 hk1 hk2 hs hl63 hm63 ihl (fun h0=>?_) ihm (fun h0=>?_)
  ·obtain ⟨b,o,h1,h2,h3⟩:=cl h0
   exact ⟨b,o,h1,hS b h2,fun i j hi hj=>by rw [hw b _ h2];exact h3 i j hi hj⟩
  ·obtain ⟨b,o,h1,h2,h3⟩:=cm h0
   exact ⟨b,o,h1,hS b h2,fun i hi=>⟨(h3 i hi).1,(h3 i hi).2.1,fun j hj=>by rw [hw b _ h2];exact (h3 i hi).2.2 j hj⟩⟩
def Lo (B:Nat):Nat→Prop:=fun b=>b<B
def Be (a B:Nat):Nat→Prop:=fun b=>a≤b∧b<B
theorem InV.blw {B:Nat} {w w':World} {v:JV} {x:Value} (h:InV w (Lo B) v x) (hb:Below B w w'):InV w' (Lo B) v x:=
 h.map (fun _ h=>h) (fun b o hs=>Below.cell hb (p:=⟨b,o,none⟩) hs)
theorem InV.keep {B:Nat} {w w':World} {v:JV} {x:Value} (h:InV w (Lo B) v x) (hB:B≤w.heap.size) (hf:Fr w w'):InV w' (Lo B) v x:=
 h.map (fun _ h=>h) (fun b o hs=>hf.cell (Nat.lt_of_lt_of_le hs hB))
theorem InV.more {w:World} {S S':Nat→Prop} {v:JV} {x:Value} (h:InV w S v x) (hS:∀ b,S b→S' b):InV w S' v x:=h.map hS (fun _ _ _=>rfl)
theorem InV.lo {B B':Nat} {w:World} {v:JV} {x:Value} (h:InV w (Lo B) v x) (hB:B≤B'):InV w (Lo B') v x:=h.more (fun b hb=>Nat.lt_of_lt_of_le hb hB)
theorem InV.shape {w:World} {S:Nat→Prop} {v:JV} {x:Value} (h:InV w S v x):∃ A c A' c',x=.agg #[.int .i64 v.kd,.int .i64 v.nm,.string ⟨v.tx.toArray⟩,.slice A v.ls.length c,.slice A' v.ms.length c']:=by
 cases h with
 | mk k n s l m A A' c c' E F=>exact ⟨A,c,A',c',rfl⟩
theorem InV.facts {w:World} {S:Nat→Prop} {v:JV} {x:Value} (h:InV w S v x):
  (-9223372036854775808≤v.nm∧v.nm≤9223372036854775807)∧(-9223372036854775808≤v.kd∧v.kd≤9223372036854775807)∧v.tx.length≤140737488355328∧v.ls.length≤140737488355328∧v.ms.length≤140737488355328:=by
 cases h with
 | mk k n s l m A A' c c' E F hn1 hn2 hk1 hk2 hs hl63 hm63 hl cl hm cm=>exact ⟨⟨hn1,hn2⟩,⟨hk1,hk2⟩,hs,hl63,hm63⟩
theorem five {e0 e1 e2 e3 e4 f0 f1 f2 f3 f4:Value} (h:Value.agg #[e0,e1,e2,e3,e4]=.agg #[f0,f1,f2,f3,f4]):e0=f0∧e1=f1∧e2=f2∧e3=f3∧e4=f4:=by
 simpa using h
def VC (w:World) (b o:Nat) (u:JV) (B:Option Addr) (d:Nat) (B':Option Addr) (d':Nat):Prop:=
 w.cell? ⟨b,o,none⟩=some (.int .i64 u.kd)∧w.cell? ⟨b,o+1,none⟩=some (.int .i64 u.nm)∧w.cell? ⟨b,o+2,none⟩=some (.string ⟨u.tx.toArray⟩)∧w.cell? ⟨b,o+3,none⟩=some (.slice B u.ls.length d)∧w.cell? ⟨b,o+4,none⟩=some (.slice B' u.ms.length d')
def vA (u:JV) (B:Option Addr) (d:Nat) (B':Option Addr) (d':Nat):Value:=.agg #[.int .i64 u.kd,.int .i64 u.nm,.string ⟨u.tx.toArray⟩,.slice B u.ls.length d,.slice B' u.ms.length d']
def LsC (w:World) (S:Nat→Prop) (A:Option Addr) (l:List JV):Prop:=∀ i (h:i<l.length),∃ b o B d B' d',A=some ⟨b,o,none⟩∧S b∧VC w b (o+i*5) l[i] B d B' d'∧InV w S l[i] (vA l[i] B d B' d')
def MsC (w:World) (S:Nat→Prop) (A:Option Addr) (m:List (List UInt8 × JV)):Prop:=∀ i (h:i<m.length),∃ b o B d B' d',A=some ⟨b,o,none⟩∧S b∧m[i].1.length≤140737488355328∧w.cell? ⟨b,o+i*6,none⟩=some (.string ⟨m[i].1.toArray⟩)∧VC w b (o+i*6+1) m[i].2 B d B' d'∧InV w S m[i].2 (vA m[i].2 B d B' d')
theorem InV.open_ {w:World} {S:Nat→Prop} {v:JV} {x:Value} (h:InV w S v x):∃ A c A' c',x=vA v A c A' c'∧LsC w S A v.ls∧MsC w S A' v.ms:=by
 cases h with
 | mk k n s l m A A' c c' E F hn1 hn2 hk1 hk2 hs hl63 hm63 hl cl hm cm=>
  refine ⟨A,c,A',c',rfl,fun i hi=>?_,fun i hi=>?_⟩
  ·have hi':i<l.length:=hi
   obtain ⟨b,o,h1,h2,h3⟩:=cl (by omega)
   obtain ⟨B,d,B',d',he⟩:=(hl i hi').shape
   have hv:=hl i hi'
   rw [he] at hv
   obtain ⟨e0,e1,e2,e3,e4⟩:=five he
   refine ⟨b,o,B,d,B',d',h1,h2,⟨?_,?_,?_,?_,?_⟩,hv⟩
   ·exact (h3 i 0 hi' (by omega)).trans (congrArg some e0)
   ·exact (h3 i 1 hi' (by omega)).trans (congrArg some e1)
   ·exact (h3 i 2 hi' (by omega)).trans (congrArg some e2)
   ·exact (h3 i 3 hi' (by omega)).trans (congrArg some e3)
   ·exact (h3 i 4 hi' (by omega)).trans (congrArg some e4)
  ·have hi':i<m.length:=hi
   obtain ⟨b,o,h1,h2,h3⟩:=cm (by omega)
   obtain ⟨g1,g2,g3⟩:=h3 i hi'
   obtain ⟨B,d,B',d',he⟩:=(hm i hi').shape
   have hv:=hm i hi'
   rw [he] at hv
   obtain ⟨e0,e1,e2,e3,e4⟩:=five he
   refine ⟨b,o,B,d,B',d',h1,h2,g2,?_,⟨?_,?_,?_,?_,?_⟩,hv⟩
   ·have g0:=g3 0 (by omega);rw [g1] at g0;exact g0
   ·exact (g3 1 (by omega)).trans (congrArg some e0)
   ·exact (g3 2 (by omega)).trans (congrArg some e1)
   ·exact (g3 3 (by omega)).trans (congrArg some e2)
   ·exact (g3 4 (by omega)).trans (congrArg some e3)
   ·exact (g3 5 (by omega)).trans (congrArg some e4)
theorem VC.keep {w w':World} {b o:Nat} {u:JV} {B:Option Addr} {d:Nat} {B':Option Addr} {d':Nat} (h:VC w b o u B d B' d') (hb:∀ j,w'.cell? ⟨b,j,none⟩=w.cell? ⟨b,j,none⟩):VC w' b o u B d B' d':=by
 obtain ⟨h0,h1,h2,h3,h4⟩:=h
 exact ⟨(hb _).trans h0,(hb _).trans h1,(hb _).trans h2,(hb _).trans h3,(hb _).trans h4⟩
theorem LsC.map {w w':World} {S S':Nat→Prop} {A:Option Addr} {l:List JV} (h:LsC w S A l) (hS:∀ b,S b→S' b) (hw:∀ b o,S b→w'.cell? ⟨b,o,none⟩=w.cell? ⟨b,o,none⟩):LsC w' S' A l:=by
 intro i hi
 obtain ⟨b,o,B,d,B',d',h1,h2,h3,h4⟩:=h i hi
 exact ⟨b,o,B,d,B',d',h1,hS b h2,h3.keep (fun j=>hw b j h2),h4.map hS hw⟩
theorem MsC.map {w w':World} {S S':Nat→Prop} {A:Option Addr} {m:List (List UInt8 × JV)} (h:MsC w S A m) (hS:∀ b,S b→S' b) (hw:∀ b o,S b→w'.cell? ⟨b,o,none⟩=w.cell? ⟨b,o,none⟩):MsC w' S' A m:=by
 intro i hi
 obtain ⟨b,o,B,d,B',d',h1,h2,hl,hn,h3,h4⟩:=h i hi
 exact ⟨b,o,B,d,B',d',h1,hS b h2,hl,(hw b _ h2).trans hn,h3.keep (fun j=>hw b j h2),h4.map hS hw⟩
theorem LsC.blw {B:Nat} {w w':World} {A:Option Addr} {l:List JV} (h:LsC w (Lo B) A l) (hb:Below B w w'):LsC w' (Lo B) A l:=
 h.map (fun _ h=>h) (fun b o hs=>Below.cell hb (p:=⟨b,o,none⟩) hs)
theorem MsC.blw {B:Nat} {w w':World} {A:Option Addr} {m:List (List UInt8 × JV)} (h:MsC w (Lo B) A m) (hb:Below B w w'):MsC w' (Lo B) A m:=
 h.map (fun _ h=>h) (fun b o hs=>Below.cell hb (p:=⟨b,o,none⟩) hs)
theorem LsC.keep {B:Nat} {w w':World} {A:Option Addr} {l:List JV} (h:LsC w (Lo B) A l) (hB:B≤w.heap.size) (hf:Fr w w'):LsC w' (Lo B) A l:=
 h.map (fun _ h=>h) (fun b o hs=>hf.cell (Nat.lt_of_lt_of_le hs hB))
theorem MsC.keep {B:Nat} {w w':World} {A:Option Addr} {m:List (List UInt8 × JV)} (h:MsC w (Lo B) A m) (hB:B≤w.heap.size) (hf:Fr w w'):MsC w' (Lo B) A m:=
 h.map (fun _ h=>h) (fun b o hs=>hf.cell (Nat.lt_of_lt_of_le hs hB))
/- What was there stays as it was, but for one block. -/

def FrX (C:Nat) (w w':World):Prop:=w.grownBy w' (some C)
theorem FrX.refl (C:Nat) (w:World):FrX C w w:=World.grownBy.refl w _
theorem FrX.trans {C:Nat} {a b c:World} (h:FrX C a b) (k:FrX C b c):FrX C a c:=World.grownBy.trans h k
theorem FrX.size {C:Nat} {w w':World} (h:FrX C w w'):w.heap.size≤w'.heap.size:=World.grownBy.size h
theorem FrX.alloc {C:Nat} {a w:World} (h:FrX C a w) (o:Obj):FrX C a (w.alloc o):=h.trans (World.grownBy_alloc w o _)
theorem FrX.of {C:Nat} {w w':World} (h:Fr w w'):FrX C w w':=⟨h.os,h.tape,h.output,Below.size h,fun k hk _=>Below.block h k hk⟩
theorem FrX.fr {C:Nat} {a w w':World} (h:FrX C a w) (k:Fr w w'):FrX C a w':=h.trans (FrX.of k)
theorem FrX.setCell {C:Nat} {a w:World} (h:FrX C a w) {p:Addr} (hp:p.block=C) (u:Value):FrX C a (w.setCell p u):=
 h.trans ⟨rfl,rfl,rfl,by simp [World.setCell],fun k hk hne=>Below.heap_setCell _ _ _ _ (fun e=>hne (by rw [e,hp]))⟩
theorem FrX.blk {C:Nat} {w w':World} (h:FrX C w w') {b:Nat} (hb:b<w.heap.size) (hne:b≠C):w'.heap[b]? = w.heap[b]?:=World.grownBy.block h b hb (fun e=>hne (Option.some.inj e))
theorem FrX.cell {C:Nat} {w w':World} (h:FrX C w w') {b o:Nat} (hb:b<w.heap.size) (hne:b≠C):w'.cell? ⟨b,o,none⟩=w.cell? ⟨b,o,none⟩:=by
 unfold World.cell?;rw [h.blk hb hne]
theorem Fr.frx {C:Nat} {a w w':World} (h:Fr a w) (k:FrX C w w') (hC:a.heap.size≤C):Fr a w':=
 Below.grown h k h.size (fun j hj=>by have:=Option.some.inj hj;omega)
theorem FrX.below {C:Nat} {w w':World} (h:FrX C w w') (hC:C≤w.heap.size):Below C w w':=
 ⟨World.grownBy.os h,World.grownBy.tape h,World.grownBy.output h,h.size,fun k hk=>h.blk (Nat.lt_of_lt_of_le hk hC) (by omega)⟩
theorem InV.frx {C:Nat} {w w':World} {v:JV} {x:Value} (h:InV w (Lo C) v x) (hC:C≤w.heap.size) (hf:FrX C w w'):InV w' (Lo C) v x:=h.blw (hf.below hC)
theorem LsC.frx {C:Nat} {w w':World} {A:Option Addr} {l:List JV} (h:LsC w (Lo C) A l) (hC:C≤w.heap.size) (hf:FrX C w w'):LsC w' (Lo C) A l:=h.blw (hf.below hC)
theorem MsC.frx {C:Nat} {w w':World} {A:Option Addr} {m:List (List UInt8 × JV)} (h:MsC w (Lo C) A m) (hC:C≤w.heap.size) (hf:FrX C w w'):MsC w' (Lo C) A m:=h.blw (hf.below hC)
def Cnt (w:World) (C:Nat) (p:Nat):Prop:=C<w.heap.size∧w.cell? ⟨C,0,none⟩=some (.int .i64 (p:Nat))∧w.frozen? ⟨C,0,none⟩=false
theorem Cnt.keep {w w':World} {C p:Nat} (h:Cnt w C p) (hf:Fr w w'):Cnt w' C p:=⟨Nat.lt_of_lt_of_le h.1 hf.size,by rw [hf.cell h.1];exact h.2.1,by rw [hf.frozen h.1];exact h.2.2⟩
/- Appends to bytes that a call owns; what is no row of bytes stays as it was. -/

def Kt (w w':World):Prop:=w.heap.size≤w'.heap.size ∧ ∀ k,k<w.heap.size→(∀ c f,w.heap[k]? ≠ some (.cells c 5 f))→w'.heap[k]? = w.heap[k]?
theorem heap_made (w:World) (c:Array Value) (t:TypeId):(w.alloc (.cells c t)).heap[w.heap.size]? = some (.cells c t (0,0)):=by
 show (w.heap.push _)[w.heap.size]? = _
 rw [Array.getElem?_push,if_pos rfl]
/- Slices of tokens that a call made itself. -/

theorem owns_keep {w w':World} {base size n:Nat} {e:TypeId} {v:Value} {xs:List Value} (h:w.ownsRow base e size v n xs) (hf:Fr w w'):w'.ownsRow base e size v n xs:=by
 refine ⟨h.1,?_⟩
 rcases h.2 with hn | ⟨g,cap,cur,rfl,hb,hg,rest⟩
 ·exact .inl hn
 ·exact .inr ⟨g,cap,cur,rfl,hb,(Below.block hf g (Array.getElem?_eq_some_iff.1 hg).1).trans hg,rest⟩
theorem owns_form {w:World} {base size n:Nat} {e:TypeId} {v:Value} {xs:List Value} (h:w.ownsRow base e size v n xs):
  (v=.slice none 0 0∧n=0) ∨ ∃ g cap,v=.slice (some ⟨g,0,none⟩) n cap∧base≤g∧g<w.heap.size∧n≤cap∧w.frozen? ⟨g,0,none⟩=false ∧ ∀ j u,xs[j]? = some u→w.cell? ⟨g,j,none⟩=some u:=by
 rcases h.2 with ⟨hv,hn⟩ | ⟨g,cap,cur,rfl,hb,hg,hc,hm,hs,ht⟩
 ·exact .inl ⟨hv,hn⟩
 ·refine .inr ⟨g,cap,rfl,hb,(Array.getElem?_eq_some_iff.1 hg).1,hc,by simp [World.frozen?,hg],fun j u hu=>?_⟩
  rw [cell_of_row w g j cur e (0,0) hg]
  rw [← ht,List.getElem?_take] at hu
  split at hu
  ·simpa using hu
  ·cases hu

def tkV (t:Scn.Tok):List Value:=[.int .i64 (t.kind:Nat),.int .i64 t.n,.string ⟨t.s.toArray⟩,.int .i64 (t.at_:Nat)]
def tkC (ts:List Scn.Tok):List Value:=ts.flatMap tkV
theorem tkC_app (a b:List Scn.Tok):tkC (a++b)=tkC a++tkC b:=by simp [tkC]
theorem tkC_at:∀ (ts:List Scn.Tok) (i:Nat) (h:i<ts.length) (j:Nat),j<4→(tkC ts)[i*4+j]? = (tkV ts[i])[j]?
 | [],i,h,j,hj=>by simp at h
 | t::ts,0,h,j,hj=>by
  simp only [tkC,List.flatMap_cons]
  rw [Nat.zero_mul,Nat.zero_add,List.getElem?_append_left (by simp [tkV];omega)]
  rfl
 | t::ts,i+1,h,j,hj=>by
  simp only [tkC,List.flatMap_cons]
  rw [List.getElem?_append_right (by simp [tkV];omega)]
  have e:(i+1)*4+j - (tkV t).length=i*4+j:=by simp [tkV];omega
  rw [e]
  exact tkC_at ts i (by simpa using h) j hj
def Tks (w:World) (base:Nat) (v:Value) (ts:List Scn.Tok):Prop:=w.ownsRow base 88 4 v ts.length (tkC ts)
theorem Tks.none_ (w:World) (base:Nat):Tks w base (.slice none 0 0) []:=World.ownsRow_nil w base _ 4
theorem Tks.keep {w w':World} {base:Nat} {v:Value} {ts:List Scn.Tok} (h:Tks w base v ts) (hf:Fr w w'):Tks w' base v ts:=owns_keep h hf
theorem Tks.mono {w:World} {base base':Nat} {v:Value} {ts:List Scn.Tok} (h:Tks w base v ts) (hb:base'≤base):Tks w base' v ts:=by
 refine ⟨h.1,?_⟩
 rcases h.2 with hn | ⟨g,cap,cur,rfl,hb',rest⟩
 ·exact .inl hn
 ·exact .inr ⟨g,cap,cur,rfl,by omega,rest⟩
theorem Tks.form {w:World} {base:Nat} {v:Value} {ts:List Scn.Tok} (h:Tks w base v ts):
  (v=.slice none 0 0∧ts=[]) ∨ ∃ g cap,v=.slice (some ⟨g,0,none⟩) ts.length cap∧base≤g∧g<w.heap.size ∧ ∀ i (hi:i<ts.length),w.cell? ⟨g,i*4,none⟩=some (.int .i64 (ts[i].kind:Nat))∧w.cell? ⟨g,i*4+1,none⟩=some (.int .i64 ts[i].n)∧w.cell? ⟨g,i*4+2,none⟩=some (.string ⟨ts[i].s.toArray⟩)∧w.cell? ⟨g,i*4+3,none⟩=some (.int .i64 (ts[i].at_:Nat)):=by
 rcases owns_form h with ⟨hv,hn⟩ | ⟨g,cap,rfl,hb,hlt,hc,_,hcells⟩
 ·exact .inl ⟨hv,List.eq_nil_of_length_eq_zero hn⟩
 ·refine .inr ⟨g,cap,rfl,hb,hlt,fun i hi=>?_⟩
  have h0:=tkC_at ts i hi 0 (by omega)
  have h1:=tkC_at ts i hi 1 (by omega)
  have h2:=tkC_at ts i hi 2 (by omega)
  have h3:=tkC_at ts i hi 3 (by omega)
  exact ⟨hcells _ _ h0,hcells _ _ h1,hcells _ _ h2,hcells _ _ h3⟩

theorem tk_info:(Tryz.prog.info? 88).map (fun i=>(i.zero,i.size,i.bytes))=some (some (.agg #[.int .i64 0,.int .i64 0,.string ⟨#[]⟩,.int .i64 0]),4,40):=by kernel_rfl
theorem tkV_one (t:Scn.Tok):∀ u∈tkV t,u.oneCell'=true:=by
 intro u hu
 simp only [tkV,List.mem_cons,List.not_mem_nil,or_false] at hu
 rcases hu with rfl | rfl | rfl | rfl <;> rfl
theorem Tks.is_slice {w:World} {base:Nat} {v:Value} {ts:List Scn.Tok} (h:Tks w base v ts):∃ b n c,v=.slice b n c:=by
 rcases h.form with ⟨rfl,_⟩ | ⟨g,cap,rfl,_⟩
 ·exact ⟨_,_,_,rfl⟩
 ·exact ⟨_,_,_,rfl⟩
theorem run_tk {w:World} {cs:Array Value} (ty:TypeId) (base:Nat) (hb:base≤w.heap.size) (v:Value) (ts:List Scn.Tok) (hown:Tks w base v ts) (t:Scn.Tok) (hcs:cs=(tkV t).toArray) (h63:(ts.length+1)*40≤140737488355328):
  ∃ v' w',(Builtin.append_ #[77,77] ty #[v,.slice (some ⟨w.heap.size,0,none⟩) 1 1]).run Tryz.prog (w.alloc (.cells cs 88))=.ok v' w'∧Tks w' base v' (ts++[t])∧Below base w w':=by
 subst hcs
 obtain ⟨i,hi,hz,hsz,hby⟩:=info_parts tk_info
 obtain ⟨v',w',hr,h3,h4,_,_⟩:=run_append_own_at (P:=Tryz.prog) (w.alloc (.cells (tkV t).toArray 88)) base 77 ty 88 i _ 4 40 Tryz.underlying77 hi hz hsz hby rfl (by omega) v ts.length (tkC ts) (owns_keep hown (Fr.alloc (Fr.refl _) _)) ⟨w.heap.size,0,none⟩ 1 1 (tkV t) (by simp [tkV]) (by
  intro j u hu
  have e1:(Addr.mk w.heap.size 0 none).add j=⟨w.heap.size,j,none⟩:=by
   by_cases h0:j=0
   ·subst h0;simp [Addr.add]
   ·simp [Addr.add,h0]
  rw [e1,World.cell?_alloc_at _ _ _ _ rfl]
  simpa using hu) (tkV_one t) (by unfold maxLen;omega) h63 (by simp;omega)
 refine ⟨v',w',hr,?_,Below.grown (Below.alloc (Below.refl _ _) hb _) h4 (by simp;omega) (fun k hk=>(World.ownsRow.lt hown k hk).1)⟩
 unfold Tks
 rw [tkC_app,List.length_append]
 simpa [tkC] using h3
theorem step_tk {ops:Array Oper} {o:Oper} {a:Act} {w:World} {K:Act→World→Prop} {Q:Exit→Act→World→Prop} {E:Prop} {cs:Array Value} {ad:Addr}
  (hgd:o.guard=none) (s x:Operand) (ho:o.op=.call { callee:=.builtin .append,args:=#[s,x],argTypes:=#[77,77] })
  (base:Nat) (hb:base≤w.heap.size) (v:Value) (ts:List Scn.Tok) (hs:a.eval s=v) (hown:Tks w base v ts)
  (t:Scn.Tok) (hx:a.eval x=.slice (some ad) 1 1) (had:ad=⟨w.heap.size,0,none⟩) (hcs:cs=(tkV t).toArray) (h63:(ts.length+1)*40≤140737488355328)
  (h:∀ v' w',Tks w' base v' (ts++[t])→Below base w w'→K (a.put o.dst v') w'):
  if Region.wanted o (yielded ops a.tmps)=true then Oper.wp Tryz.prog o a (w.alloc (.cells cs 88)) K Q else E:=by
 have hw:Region.wanted o (yielded ops a.tmps)=true:=by simp [Region.wanted,hgd]
 rw [if_pos hw]
 subst had
 obtain ⟨v',w',hrun,h3,h4⟩:=run_tk o.type base hb v ts hown t hcs h63
 unfold Oper.wp execOp
 simp only [ho,resolve,invoke,builtin,Sem.run_bind,Sem.run_pure,Result.andThen_ok,List.map_toArray,List.map_cons,List.map_nil,hs,hx,hrun]
 exact h v' w' h3 h4

/- The walk of nums.digit. -/

theorem digit_any (n:Int) (w:World) (h:-9≤n) (h':n≤9):
  Calls Tryz.prog 121 #[.int .i64 n] w fun e w'=>e=.returned (.int .u8 (48+n.natAbs))∧w=w':=by
 by_cases hn:n<0
 all_goals
  go_enter Tryz.func121,Tryz.ntmps121
  go_wp2
  go_ret
  exact ⟨ret_int (by omega),rfl⟩

/- The walk of nums.Put. -/

def putCells (m:Nat) (t:List UInt8):Array Value:=((List.replicate m 0++t).map (fun c:UInt8=>Value.int .u8 c.toNat)).toArray
theorem putCells_zero:putCells 20 []=#[.int .u8 0,.int .u8 0,.int .u8 0,.int .u8 0,.int .u8 0,.int .u8 0,.int .u8 0,.int .u8 0,.int .u8 0,.int .u8 0,.int .u8 0,.int .u8 0,.int .u8 0,.int .u8 0,.int .u8 0,.int .u8 0,.int .u8 0,.int .u8 0,.int .u8 0,.int .u8 0]:=by rfl
theorem putCells_get (m:Nat) (t:List UInt8):(putCells (m+1) t)[m]? = some (.int .u8 0):=by
 simp [putCells,List.getElem?_append,List.getElem?_replicate]
theorem putCells_set (m:Nat) (t:List UInt8) (c:UInt8):(putCells (m+1) t).setIfInBounds m (.int .u8 c.toNat)=putCells m (c::t):=by
 simp [putCells,List.set_append,List.replicate_succ',List.set_append_right]

theorem digit_is (c:UInt8) (n:Int) (w:World) (h:-9≤n) (h':n≤9) (hc:UInt8.ofNat (48+n.natAbs)=c):
  Calls Tryz.prog 121 #[.int .i64 n] w fun e w'=>e=.returned (.int .u8 c.toNat)∧w=w':=by
 refine (digit_any n w h h').mono ?_
 rintro e w' ⟨rfl,rfl⟩
 refine ⟨ret_int ?_,rfl⟩
 subst hc
 rw [UInt8.toNat_ofNat_of_lt' (by show _<256;omega)]
 omega

theorem put_any (n:Int) (w:World) (h:-9223372036854775808≤n) (h':n≤9223372036854775807):
  Calls Tryz.prog 114 #[.int .i64 n] w fun e w'=>e=.returned (.string ⟨(Nm.put n).toArray⟩)∧Fr w w':=by
 have hst:=Lib.hid (Nm.PutInv.start n h h')
 go_enter Tryz.func114,Tryz.ntmps114
 go_wp2
 go_loopw [4,5] (fun a v wr=>∃ (m:Nat) (r:Int) (t:List UInt8),a=.int .i64 m∧v=.int .i64 r∧wr=w.alloc (.cells (putCells m t) 176)∧Hid (Nm.PutInv n m r t)) (fun a _ _=>(intOf a).toNat)
 case atStart=>exact ⟨20,n,[],rfl,rfl,by rw [putCells_zero],hst⟩
 case round=>
  obtain ⟨m,r,t,rfl,rfl,rfl,hi⟩:=hrel
  have hroom:=hi.out.room
  have hlo:=hi.out.lo
  have hhi:=hi.out.hi
  obtain ⟨m,rfl⟩:∃ k,m=k+1:=⟨m - 1,by omega⟩
  have hcell:(putCells (m+1) t)[m]? = some (.int .u8 0):=putCells_get m t
  obtain ⟨b1,b2⟩:=Nm.tmod_bound r
  obtain ⟨c,hc⟩:∃ c,UInt8.ofNat (48+r.natAbs % 10)=c:=⟨_,rfl⟩
  have Hc:=Lib.hid hc
  clear hc
  have hlen:=hi.out.len
  have hm:m+1≤20:=by omega
  clear hlen
  have hset:=putCells_set m t c
  have hm1:(putCells m (c::t))[m - 1]? = some (.int .u8 0):=by
   obtain ⟨j,rfl⟩:∃ j,m=j+1:=⟨m - 1,by omega⟩
   exact putCells_get j (c::t)
  have hconv:∀ (k:Nat) (l:List UInt8),k+l.length=20→k<20 → ∃ v,v=l∧(Instr.sliceAt 176 (.pointer (some ⟨w.heap.size,0,none⟩)) (some (.int .i64 k)) none none).run Tryz.prog (w.alloc (.cells (putCells k l) 176))=.ok (.slice (some ⟨w.heap.size,k,none⟩) v.length v.length) (w.alloc (.cells (putCells k l) 176))
    ∧ (convert 154 9 (.slice (some ⟨w.heap.size,k,none⟩) v.length v.length)).run Tryz.prog (w.alloc (.cells (putCells k l) 176))=.ok (.string ⟨l.toArray⟩) (w.alloc (.cells (putCells k l) 176)):=by
   intro k l hk hk2
   refine ⟨l,rfl,?_,?_⟩
   ·rw [run_sliceAt_from _ 176 5 20 k _ Tryz.underlying176 (by kernel_rfl) (by kernel_rfl) (by kernel_rfl) hk2]
    rw [show 20 - k=l.length by omega]
   ·refine run_convert_row _ _ _ 5 _ _ _ l Tryz.underlying154 Tryz.underlying5 Tryz.underlying9 ?_
    intro j hj
    rw [World.cell?_alloc_new]
    simp [putCells,List.getElem?_append,List.getD,List.getElem?_eq_getElem hj]
  by_cases hz:r.tdiv 10=0
  ·have Hz:(r.tdiv 10 == 0)=true:=by simp [hz]
   have hst:=hi.out.stop hz
   have Hst:=Lib.hid hst
   have Hzz:=Lib.hid hz
   clear hz hst
   by_cases hn:n<0
   ·obtain ⟨m,rfl⟩:∃ k,m=k+1:=⟨m - 1,by omega⟩
    obtain ⟨v,hv,hc1,hc2⟩:=hconv m (45::c::t) (by have:=hi.out.len;simp;omega) (by omega)
    have Hv:=Lib.hid hv
    clear hv hconv
    have hset2:(putCells (m+1) (c::t)).setIfInBounds m (.int .u8 45)=putCells m (45::c::t):=putCells_set m (c::t) 45
    have hcell2:(putCells (m+1) (c::t))[m]? = some (.int .u8 0):=putCells_get m (c::t)
    clear hm1
    go_wp2_with fail
    refine (digit_is c (r.tmod 10) _ b1 b2 (by rw [Nm.natAbs_tmod_ten];exact Hc.out)).mono ?_
    rintro e w' ⟨rfl,rfl⟩
    go_wp2
    go_ret
    refine ⟨ret_str ?_,(Fr.refl w).alloc _⟩
    rw [Nm.put,if_pos hn,Hst.out,← Hc.out]
   ·obtain ⟨v,hv,hc1,hc2⟩:=hconv m (c::t) (by have:=hi.out.len;simp;omega) (by omega)
    have Hv:=Lib.hid hv
    clear hv hconv
    go_wp2_with fail
    refine (digit_is c (r.tmod 10) _ b1 b2 (by rw [Nm.natAbs_tmod_ten];exact Hc.out)).mono ?_
    rintro e w' ⟨rfl,rfl⟩
    go_wp2
    go_ret
    refine ⟨ret_str ?_,(Fr.refl w).alloc _⟩
    rw [Nm.put,if_neg (by omega),Hst.out,← Hc.out]
  ·have Hz:(r.tdiv 10 == 0)=false:=by simp [hz]
   have hst:=hi.out.step hz
   rw [Hc.out] at hst
   have Hst:=Lib.hid hst
   clear hz hst hconv
   go_wp2_with fail
   refine (digit_is c (r.tmod 10) _ b1 b2 (by rw [Nm.natAbs_tmod_ten];exact Hc.out)).mono ?_
   rintro e w' ⟨rfl,rfl⟩
   go_wp2
   exact ⟨⟨m,r.tdiv 10,c::t,rfl,rfl,rfl,Hst⟩,by simp [intOf]⟩

/- Regions that draw their order, with a condition that their last operations (those that wait for number m) may break: what yields under the condition, and is waited for by m, may be taken first. -/

def OrdL (P:Program) (md:Region.Mode) (ops:Array Oper) (Q:Exit→Act→World→Prop) (S:World→Prop) (E:Nat→Bool) (fuel:Nat):Array Bool→Act→World→Prop:=
 Nat.rec (fun l a w=>Region.ready md ops l=[]∧Q .normal a w)
  (fun _ rest l a w=>(Region.ready md ops l=[]→Q .normal a w) ∧ ∀ i∈Region.ready md ops l,wpOp P ops Q i (fun a' w'=>(E i=false→S w')∧rest (l.setIfInBounds i true) a' w') a w) fuel
variable {P:Program} {md:Region.Mode} {ops:Array Oper} {Q:Exit→Act→World→Prop} {S:World→Prop} {E:Nat→Bool}
theorem OrdL.any (n:Nat):∀ (l:Array Bool) (a:Act) (w:World),OrdL P md ops Q S E n l a w→wpAny P md ops Q n l a w:=by
 induction n with
 | zero=>intro l a w h;exact h
 | succ n ih=>intro l a w h;exact ⟨h.1,fun i hi=>wpOp_mono (fun a' w' k=>ih _ a' w' k.2) (h.2 i hi)⟩
def waitsOn (ops:Array Oper) (md:Region.Mode) (j k:Nat):Bool:=match ops[j]? with
 | some o=>o.after.any fun e=>Region.binds md e && e.on == k
 | none=>false
theorem waitsOn_ready {j k:Nat} {l:Array Bool} (h:waitsOn ops md j k=true) (hr:j∈Region.ready md ops l):l.getD k true=true:=by
 obtain ⟨_,o,ho,hall⟩:=mem_ready.1 hr
 unfold waitsOn at h
 rw [ho] at h
 simp only [Array.any_eq_true,Bool.and_eq_true,beq_iff_eq] at h
 obtain ⟨y,hy,hb,hk⟩:=h
 have h1:=hall o.after[y] (Array.getElem_mem hy) hb
 rw [hk] at h1
 rcases Nat.lt_or_ge k l.size with h2 | h2
 ·simp [h2] at h1 ⊢;exact h1
 ·simp [Array.getElem?_eq_none h2] at h1
def waitsBy (ops:Array Oper) (md:Region.Mode) (l:Array Bool) (x:Nat):Nat→List Nat→Bool
 | i,[]=>waitsOn ops md x i
 | i,m::ms=>waitsOn ops md m i && (!(l.getD m true) && waitsBy ops md l x m ms)
theorem waitsBy.step {x j:Nat} {l:Array Bool}:∀ (ms:List Nat) (i:Nat),waitsBy ops md l x i ms=true→l.getD i true=false→j∈Region.ready md ops l→j≠x∧(j≠i→waitsBy ops md (l.setIfInBounds j true) x i ms=true)
 | [],i,h,hi,hj=>by
  have h:waitsOn ops md x i=true:=h
  refine ⟨fun e=>?_,fun _=>h⟩
  subst e
  have:=waitsOn_ready h hj
  rw [hi] at this;cases this
 | m::ms,i,h,hi,hj=>by
  unfold waitsBy at h ⊢
  simp only [Bool.and_eq_true,Bool.not_eq_true'] at h ⊢
  obtain ⟨h1,h2,h3⟩:=h
  have hjm:j≠m:=fun e=>by
   subst e
   have:=waitsOn_ready h1 hj
   rw [hi] at this;cases this
  obtain ⟨k1,k2⟩:=waitsBy.step ms m h3 h2 hj
  exact ⟨k1,fun _=>⟨h1,by rw [getD_set_ne true hjm];exact h2,k2 hjm⟩⟩
theorem OrdL.first {i x:Nat} {ms:List Nat} {oi:Oper} {v:Value} (hi:ops[i]? = some oi)
  (hsel:∀ (j:Nat) (o:Oper) cs b,ops[j]? = some o→o.op≠.select cs b) (hQ:∀ c a w,Q (.panic c) (a.put oi.dst v) w→Q (.panic c) a w) (n:Nat):
  ∀ (l:Array Bool) (a:Act) (w:World),(∀ j oj,ops[j]? = some oj→j≠i→l.getD j true=false→(∀ e∈oj.after,Region.binds md e=true→e.on≠i)→oi.apart ops oj=true) →
   i∈Region.ready md ops l→waitsBy ops md l x i ms=true→YieldsIf P ops S oi v a→S w→OrdL P md ops Q S (fun j=>j == x) n (l.setIfInBounds i true) (a.put oi.dst v) w→OrdL P md ops Q S (fun j=>j == x) (n+1) l a w:=by
 have open_:∀ (l:Array Bool) (j:Nat),j∈Region.ready md ops l→l.getD j true=false:=fun l j hr=>(mem_ready.1 hr).1
 induction n with
 | zero=>
  intro l a w hfree hr hch hy hS H
  refine ⟨fun h=>absurd hr (by rw [h];simp),fun j hj=>?_⟩
  by_cases hji:j=i
  ·subst hji
   exact hy.wpOp hi hS ⟨fun _=>hS,H⟩
  ·have h0:=ready_mono hj hji
   rw [H.1] at h0
   cases h0
 | succ n ih=>
  intro l a w hfree hr hch hy hS H
  refine ⟨fun h=>absurd hr (by rw [h];simp),fun j hj=>?_⟩
  by_cases hji:j=i
  ·subst hji
   exact hy.wpOp hi hS ⟨fun _=>hS,H⟩
  ·obtain ⟨_,oj,hoj,hall⟩:=mem_ready.1 hj
   have hun:=open_ l i hr
   have hapart:∀ e∈oj.after,Region.binds md e=true→e.on≠i:=fun e he hb heq=>by
    have h1:=hall e he hb
    rw [heq] at h1
    rcases Nat.lt_or_ge i l.size with h2 | h2
    ·simp [h2] at h1 hun;rw [hun] at h1;cases h1
    ·simp [Array.getElem?_eq_none h2] at h1
   obtain ⟨hjx,hch2⟩:=waitsBy.step ms i hch hun hj
   have hjE:(j == x)=false:=by rw [beq_eq_false_iff_ne];exact hjx
   refine wpOp_mono (fun a' w' k=>⟨fun _=>k.2.1 hjE,ih (l.setIfInBounds j true) a' w' (fun k2 ok h1 h2 h3 h4=>?_) (ready_mono hr (Ne.symm hji)) (hch2 hji) k.1 (k.2.1 hjE) ?_⟩) (wpOp_putIf hoj (hfree j oj hoj hji (open_ l j hj) hapart) (fun cs b=>hsel i oi cs b hi) (fun cs b=>hsel j oj cs b hoj) hQ hy (H.2 j (ready_mono hj hji)))
   ·refine hfree k2 ok h1 h2 ?_ h4
    by_cases e:j=k2
    ·subst e;exact open_ l j hj
    ·rw [getD_set_ne true e] at h3;exact h3
   ·rw [Array.setIfInBounds_comm _ _ hji]
    exact k.2.2
theorem OrdL.take {i:Nat} {oi:Oper} {v:Value} {n x:Nat} (ms:List Nat) {l:Array Bool} {a:Act} {w:World} (hi:ops[i]? = some oi)
  (hs:Region.noSelect ops=true) (hf:Region.free md ops l i=true) (hr:(Region.ready md ops l).contains i=true) (hch:waitsBy ops md l x i ms=true)
  (hQ:∀ c a w,Q (.panic c) (a.put oi.dst v) w→Q (.panic c) a w) (hy:YieldsIf P ops S oi v a) (hS:S w)
  (h:OrdL P md ops Q S (fun j=>j == x) n (l.setIfInBounds i true) (a.put oi.dst v) w):OrdL P md ops Q S (fun j=>j == x) (n+1) l a w:=
 OrdL.first hi (Region.noSelect_spec hs) hQ n l a w (Region.free_spec hi hf) (by simpa using hr) hch hy hS h
theorem OrdL.begin {id x:Nat} {a:Act} {w:World} (S:World→Prop) (hm:P.follows .mixedOrders=true) (hS:S w.drew)
  (h:S w.drew→OrdL P .any ops Q S (fun j=>j == x) ops.size (Array.replicate ops.size false) a w.drew):(Code.region id ops true).wp P Q a w:=
 wp_region_any hm (OrdL.any _ _ _ _ (h hS))
theorem OrdL.one {i x n:Nat} {oi:Oper} {l:Array Bool} {a:Act} {w:World} (hi:ops[i]? = some oi) (hr:Region.ready md ops l=[i]) (hx:(i == x)=false)
  (h:∀ K':Act→World→Prop,Shut (∀ a w,S w→(S w→OrdL P md ops Q S (fun j=>j == x) n (l.setIfInBounds i true) a w)→K' a w)→if Region.wanted oi (yielded ops a.tmps)=true then Oper.wp P oi a w K' Q else K' (a.put oi.dst undef) w):
  OrdL P md ops Q S (fun j=>j == x) (n+1) l a w:=by
 refine ⟨fun e=>absurd (hr.symm.trans e) (by simp),fun j hj=>?_⟩
 rw [hr] at hj
 obtain rfl:j=i:=by simpa using hj
 exact wpOp_step hi (fun K' hK=>h K' (fun a w hS hW=>hK a w ⟨fun _=>hS,hW hS⟩))
theorem OrdL.last {x n:Nat} {ox:Oper} {l:Array Bool} {a:Act} {w:World} (hi:ops[x]? = some ox) (hr:Region.ready md ops l=[x]) (hr2:Region.ready md ops (l.setIfInBounds x true)=[])
  (h:∀ K':Act→World→Prop,Shut (∀ a w,Q .normal a w→K' a w)→if Region.wanted ox (yielded ops a.tmps)=true then Oper.wp P ox a w K' Q else K' (a.put ox.dst undef) w):
  OrdL P md ops Q S (fun j=>j == x) (n+1) l a w:=by
 refine ⟨fun e=>absurd (hr.symm.trans e) (by simp),fun j hj=>?_⟩
 rw [hr] at hj
 obtain rfl:j=x:=by simpa using hj
 refine wpOp_step hi (fun K' hK=>h K' (fun a w hQ=>hK a w ⟨fun e=>absurd e (by simp),?_⟩))
 cases n with
 | zero=>exact ⟨hr2,hQ⟩
 | succ n=>exact ⟨fun _=>hQ,by rw [hr2];simp⟩
theorem lq {P:Program} {ops:Array Oper} {Q:Exit→Act→World→Prop} {md:Region.Mode} {S:World→Prop} (i:Nat) (ms:List Nat) {oi:Oper} {v:Value} {n x:Nat} {l:Array Bool} {a:Act} {w:World} (hi:ops[i]? = some oi) (hS:S w)
  (h:OrdL P md ops Q S (fun j=>j == x) n (l.setIfInBounds i true) (a.put oi.dst v) w) (hy:Region.wanted oi (yielded ops a.tmps)=true ∧ ∀ w,S w→(execOp a.eval oi).run P w=.ok (.value v) w:=by exact ⟨by rfl,by intro w' hSw;(try dsimp only at hSw);go_simp;try with_reducible rfl⟩) (hs:Region.noSelect ops=true:=by kernel_rfl) (hf:Region.free md ops l i=true:=by kernel_rfl) (hr:(Region.ready md ops l).contains i=true:=by kernel_rfl) (hch:waitsBy ops md l x i ms=true:=by kernel_rfl)
  (hQ:∀ c a w,Q (.panic c) (a.put oi.dst v) w→Q (.panic c) a w:=by exact fun _ _ _ h=>h):OrdL P md ops Q S (fun j=>j == x) (n+1) l a w:=
 OrdL.take ms hi hs hf hr hch hQ (Or.inl hy) hS h
end Go.Proofs.YtdhakbghdcfncaaGreatDoor
