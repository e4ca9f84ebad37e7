/- Regions that draw their order, with a condition that their last operations (those that wait for number m) may break: what yields under the condition, and is waited for by m, may be taken first. -/
import Derived.Test.YtockgemmkjdnkaaGreatDoorKa
import Derived.Deep.RegionHeld
import Derived.Test.YtockgemmkjdnkaaGreatDoorEvl
import Derived.Test.YtockgemmkjdnkaaGreatDoorEvk
import Derived.Test.YtockgemmkjdnkaaGreatDoorEvf
import Derived.Test.YtockgemmkjdnkaaGreatDoorSameV
import Derived.Test.YtockgemmkjdnkaaGreatDoorTra
set_option maxRecDepth 100000
set_option maxHeartbeats 8000000
set_option linter.unusedVariables false
set_option linter.unusedSimpArgs false
namespace Go.Proofs.YtockgemmkjdnkaaGreatDoor
open Go.RowKit

def OrdL (P:Program) (md:Region.Mode) (ops:Array Oper) (Q:Exit->Act->World->Prop) (S:World->Prop) (E:Nat->Bool) (fuel:Nat):Array Bool->Act->World->Prop:=
 Nat.rec (λl a w=>Region.ready md ops l=[]/\Q .normal a w)
  (λ_ rest l a w=>(Region.ready md ops l=[]->Q .normal a w) /\ ∀ i∈Region.ready md ops l,wpOp P ops Q i (λa' w'=>(E i=false->S w')/\rest (l.setIfInBounds i true) a' w') a w) fuel
variable {P:Program} {md:Region.Mode} {ops:Array Oper} {Q:Exit->Act->World->Prop} {S:World->Prop} {E:Nat->Bool}
theorem OrdL.any (n:Nat):∀ (l:Array Bool) (a:Act) (w:World),OrdL P md ops Q S E n l a w->wpAny P md ops Q n l a w:=by
 induction n with
 | zero=>intro l a w h;exact h
 | succ n ih=>intro l a w h;exact ⟨h.1,λi hi=>wpOp_mono (λa' w' k=>ih _ a' w' k.2) (h.2 i hi)⟩
def waitsOn (ops:Array Oper) (md:Region.Mode) (j k:Nat):Bool:=match ops[j]? with
 | some o=>o.after.any λe=>Region.binds md e && e.on == k
 | none=>false
theorem waitsOn_ready {j k:Nat} {l:Array Bool} (h:waitsOn ops md j k=true) (hr:j∈Region.ready md ops l):l.getD k true=true:=by
 obtain ⟨_,o,ho,hall⟩:=mem_ready.1 hr;unfold waitsOn at h;rw [ho] at h;simp only [Array.any_eq_true,Bool.and_eq_true,beq_iff_eq] at h;obtain ⟨y,hy,hb,hk⟩:=h;have h1:=hall o.after[y] (Array.getElem_mem hy) hb;rw [hk] at h1;rcases Nat.lt_or_ge k l.size with h2 | h2
 ·simp [h2] at h1 ⊢;exact h1
 ·simp [Array.getElem?_eq_none h2] at h1
def waitsBy (ops:Array Oper) (md:Region.Mode) (l:Array Bool) (x:Nat):Nat->List Nat->Bool
 | i,[]=>waitsOn ops md x i
 | i,m::ms=>waitsOn ops md m i && (!(l.getD m true) && waitsBy ops md l x m ms)
theorem waitsBy.step {x j:Nat} {l:Array Bool}:∀ (ms:List Nat) (i:Nat),waitsBy ops md l x i ms=true->l.getD i true=false->j∈Region.ready md ops l->j≠x/\(j≠i->waitsBy ops md (l.setIfInBounds j true) x i ms=true)
 | [],i,h,hi,hj=>by
  have h:waitsOn ops md x i=true:=h;refine ⟨λe=>?_,λ_=>h⟩;subst e;have:=waitsOn_ready h hj;rw [hi] at this;cases this
 | m::ms,i,h,hi,hj=>by
  unfold waitsBy at h ⊢;simp only [Bool.and_eq_true,Bool.not_eq_true'] at h ⊢;obtain ⟨h1,h2,h3⟩:=h;have hjm:j≠m:=λe=>by
   subst e;have:=waitsOn_ready h1 hj;rw [hi] at this;cases this
  obtain ⟨k1,k2⟩:=waitsBy.step ms m h3 h2 hj;exact ⟨k1,λ_=>⟨h1,by rw [getD_set_ne true hjm];exact h2,k2 hjm⟩⟩
theorem OrdL.first {i x:Nat} {ms:List Nat} {oi:Oper} {v:Value} (hi:ops[i]? = some oi)
  (hsel:∀ (j:Nat) (o:Oper) cs b,ops[j]? = some o->o.op≠.select cs b) (hQ:∀ c a w,Q (.panic c) (a.put oi.dst v) w->Q (.panic c) a w) (n:Nat):
  ∀ (l:Array Bool) (a:Act) (w:World),(∀ j oj,ops[j]? = some oj->j≠i->l.getD j true=false->(∀ e∈oj.after,Region.binds md e=true->e.on≠i)->oi.apart ops oj=true) ->
   i∈Region.ready md ops l->waitsBy ops md l x i ms=true->YieldsIf P ops S oi v a->S w->OrdL P md ops Q S (λj=>j == x) n (l.setIfInBounds i true) (a.put oi.dst v) w->OrdL P md ops Q S (λj=>j == x) (n+1) l a w:=by
 have open_:∀ (l:Array Bool) (j:Nat),j∈Region.ready md ops l->l.getD j true=false:=λl j hr=>(mem_ready.1 hr).1
 induction n with
 | zero=>
  intro l a w hfree hr hch hy hS H;refine ⟨λh=>absurd hr (by rw [h];simp),λj hj=>?_⟩;by_cases hji:j=i
  ·subst hji;exact hy.wpOp hi hS ⟨λ_=>hS,H⟩
  ·have h0:=ready_mono hj hji;rw [H.1] at h0
   cases h0
 | succ n ih=>
  intro l a w hfree hr hch hy hS H;refine ⟨λh=>absurd hr (by rw [h];simp),λj hj=>?_⟩;by_cases hji:j=i
  ·subst hji;exact hy.wpOp hi hS ⟨λ_=>hS,H⟩
  ·obtain ⟨_,oj,hoj,hall⟩:=mem_ready.1 hj;have hun:=open_ l i hr;have hapart:∀ e∈oj.after,Region.binds md e=true->e.on≠i:=λe he hb heq=>by
    have h1:=hall e he hb;rw [heq] at h1;rcases Nat.lt_or_ge i l.size with h2 | h2
    ·simp [h2] at h1 hun;rw [hun] at h1;cases h1
    ·simp [Array.getElem?_eq_none h2] at h1
   obtain ⟨hjx,hch2⟩:=waitsBy.step ms i hch hun hj;have hjE:(j == x)=false:=by rw [beq_eq_false_iff_ne];exact hjx
   refine wpOp_mono (λa' w' k=>⟨λ_=>k.2.1 hjE,ih (l.setIfInBounds j true) a' w' (λk2 ok h1 h2 h3 h4=>?_) (ready_mono hr (Ne.symm hji)) (hch2 hji) k.1 (k.2.1 hjE) ?_⟩) (wpOp_putIf hoj (hfree j oj hoj hji (open_ l j hj) hapart) (λcs b=>hsel i oi cs b hi) (λcs b=>hsel j oj cs b hoj) hQ hy (H.2 j (ready_mono hj hji)))
   ·refine hfree k2 ok h1 h2 ?_ h4;by_cases e:j=k2
    ·subst e;exact open_ l j hj
    ·rw [getD_set_ne true e] at h3;exact h3
   ·rw [Array.setIfInBounds_comm _ _ hji];exact k.2.2
theorem OrdL.take {i:Nat} {oi:Oper} {v:Value} {n x:Nat} (ms:List Nat) {l:Array Bool} {a:Act} {w:World} (hi:ops[i]? = some oi)
  (hs:Region.noSelect ops=true) (hf:Region.free md ops l i=true) (hr:(Region.ready md ops l).contains i=true) (hch:waitsBy ops md l x i ms=true)
  (hQ:∀ c a w,Q (.panic c) (a.put oi.dst v) w->Q (.panic c) a w) (hy:YieldsIf P ops S oi v a) (hS:S w)
  (h:OrdL P md ops Q S (λj=>j == x) n (l.setIfInBounds i true) (a.put oi.dst v) w):OrdL P md ops Q S (λj=>j == x) (n+1) l a w:=
 OrdL.first hi (Region.noSelect_spec hs) hQ n l a w (Region.free_spec hi hf) (by simpa using hr) hch hy hS h
theorem OrdL.begin {id x:Nat} {a:Act} {w:World} (S:World->Prop) (hm:P.follows .mixedOrders=true) (hS:S w.drew)
  (h:S w.drew->OrdL P .any ops Q S (λj=>j == x) ops.size (Array.replicate ops.size false) a w.drew):(Code.region id ops true).wp P Q a w:=
 wp_region_any hm (OrdL.any _ _ _ _ (h hS))
theorem OrdL.one {i x n:Nat} {oi:Oper} {l:Array Bool} {a:Act} {w:World} (hi:ops[i]? = some oi) (hr:Region.ready md ops l=[i]) (hx:(i == x)=false)
  (h:∀ K':Act->World->Prop,Shut (∀ a w,S w->(S w->OrdL P md ops Q S (λj=>j == x) n (l.setIfInBounds i true) a w)->K' a w)->if Region.wanted oi (yielded ops a.tmps)=true then Oper.wp P oi a w K' Q else K' (a.put oi.dst undef) w):
  OrdL P md ops Q S (λj=>j == x) (n+1) l a w:=by
 refine ⟨λe=>absurd (hr.symm.trans e) (by simp),λj hj=>?_⟩;rw [hr] at hj;obtain rfl:j=i:=by simpa using hj
 exact wpOp_step hi (λK' hK=>h K' (λa w hS hW=>hK a w ⟨λ_=>hS,hW hS⟩))
theorem OrdL.last {x n:Nat} {ox:Oper} {l:Array Bool} {a:Act} {w:World} (hi:ops[x]? = some ox) (hr:Region.ready md ops l=[x]) (hr2:Region.ready md ops (l.setIfInBounds x true)=[])
  (h:∀ K':Act->World->Prop,Shut (∀ a w,Q .normal a w->K' a w)->if Region.wanted ox (yielded ops a.tmps)=true then Oper.wp P ox a w K' Q else K' (a.put ox.dst undef) w):
  OrdL P md ops Q S (λj=>j == x) (n+1) l a w:=by
 refine ⟨λe=>absurd (hr.symm.trans e) (by simp),λj hj=>?_⟩;rw [hr] at hj;obtain rfl:j=x:=by simpa using hj
 refine wpOp_step hi (λK' hK=>h K' (λa w hQ=>hK a w ⟨λe=>absurd e (by simp),?_⟩))
 cases n with
 | zero=>exact ⟨hr2,hQ⟩
 | succ n=>exact ⟨λ_=>hQ,by rw [hr2];simp⟩
theorem lq {P:Program} {ops:Array Oper} {Q:Exit->Act->World->Prop} {md:Region.Mode} {S:World->Prop} (i:Nat) (ms:List Nat) {oi:Oper} {v:Value} {n x:Nat} {l:Array Bool} {a:Act} {w:World} (hi:ops[i]? = some oi) (hS:S w)
  (h:OrdL P md ops Q S (λj=>j == x) n (l.setIfInBounds i true) (a.put oi.dst v) w) (hy:Region.wanted oi (yielded ops a.tmps)=true /\ ∀ w,S w->(execOp a.eval oi).run P w=.ok (.value v) w:=by exact ⟨by rfl,by intro w' hSw;(try dsimp only at hSw);go_simp;try with_reducible rfl⟩) (hs:Region.noSelect ops=true:=by kernel_rfl) (hf:Region.free md ops l i=true:=by kernel_rfl) (hr:(Region.ready md ops l).contains i=true:=by kernel_rfl) (hch:waitsBy ops md l x i ms=true:=by kernel_rfl)
  (hQ:∀ c a w,Q (.panic c) (a.put oi.dst v) w->Q (.panic c) a w:=by exact λ_ _ _ h=>h):OrdL P md ops Q S (λj=>j == x) (n+1) l a w:=
 OrdL.take ms hi hs hf hr hch hQ (Or.inl hy) hS h
/- Slices of members that a call made itself; what they hold lies in S. -/

def MgS (w:World) (S:Nat->Prop) (K:Nat) (v:Value) (m:List (List UInt8 × JV)):Prop:=((∀ b,S b->b<K)/\K<=w.heap.size) /\ ∃ xs:List (List UInt8 × Value),Mbs w K v xs/\xs.length=m.length /\ ∀ i (h1:i<xs.length) (h2:i<m.length),xs[i].1=m[i].1/\m[i].1.length<=140737488355328/\InV w (S) m[i].2 xs[i].2
theorem okS {S:Nat->Prop} {K:Nat} {w:World} {v:Value} (hK:(∀ b,S b->b<K)/\K<=w.heap.size) {xs:List (List UInt8 × Value)} (h:Mbs w K v xs) {b:Nat} (hb:S b):b<w.heap.size/\v.ownBlock≠some b:=
 ⟨lL (hK.1 b hb) hK.2,λe=>by have:=(h.own_ltB e).1;have:=hK.1 b hb;omega⟩
theorem MgS.none_ (w:World) {S:Nat->Prop} {K:Nat} (h:(∀ b,S b->b<K)/\K<=w.heap.size):MgS w S K (.slice none 0 0) []:=⟨h,[],Mbs.none_ w K,rfl,λi h=>absurd h (by simp)⟩
theorem MgS.keep {w w':World} {S:Nat->Prop} {K:Nat} {v:Value} {l:List (List UInt8 × JV)} (h:MgS w S K v l) (hf:Fr w w'):MgS w' S K v l:=by
 obtain ⟨h0,xs,h1,h2,h3⟩:=h;exact ⟨⟨h0.1,lT h0.2 hf.size⟩,xs,h1.keep hf,h2,λi a b=>⟨(h3 i a b).1,(h3 i a b).2.1,(h3 i a b).2.2.map (λ_ h=>h) (λb o hs=>hf.cell (okS h0 h1 hs).1)⟩⟩
theorem MgS.frx {w w':World} {S:Nat->Prop} {X K:Nat} {v:Value} {l:List (List UInt8 × JV)} (h:MgS w S K v l) (hZ:∀ b,S b->b≠X) (hX:X<K) (hf:FrX X w w'):MgS w' S K v l:=by
 obtain ⟨h0,xs,h1,h2,h3⟩:=h;refine ⟨⟨h0.1,lT h0.2 hf.size⟩,xs,h1.frx hX hf,h2,λi a b=>⟨(h3 i a b).1,(h3 i a b).2.1,(h3 i a b).2.2.map (λ_ h=>h) (λb o hs=>hf.cell (okS h0 h1 hs).1 (λe=>?_))⟩⟩;exact hZ _ hs e
theorem MgS.is_slice {w:World} {S:Nat->Prop} {K:Nat} {v:Value} {l:List (List UInt8 × JV)} (h:MgS w S K v l):∃ a c,v=.slice a l.length c:=by
 obtain ⟨_,xs,h1,h2,_⟩:=h;rcases h1.form with ⟨rfl,rfl⟩ | ⟨g,cap,rfl,_⟩
 ·exact ⟨none,0,by rw [<- h2];rfl⟩
 ·exact ⟨_,_,by rw [h2]⟩
theorem MgS.is_slice2 {w:World} {S:Nat->Prop} {K:Nat} {v:Value} {l us:List (List UInt8 × JV)} (h:MgS w S K v (l++us)) {n:Nat} (hn:us.length=n):∃ a c,v=.slice a (l.length+n) c:=by
 obtain ⟨a,c,e⟩:=h.is_slice;exact ⟨a,c,by rw [e,List.length_append,hn]⟩
theorem MgS.own_lt {w:World} {S:Nat->Prop} {K:Nat} {v:Value} {l:List (List UInt8 × JV)} (h:MgS w S K v l) {k:Nat} (hk:v.ownBlock=some k):K<=k/\k<w.heap.size:=by
 obtain ⟨_,xs,h1,_⟩:=h;exact h1.own_ltB hk
theorem MgS.inV {w:World} {S:Nat->Prop} {K:Nat} {v:Value} {l:List (List UInt8 × JV)} (h:MgS w S K v l) (h63:l.length<=140737488355328):InV w (λb=>S b\/(K<=b/\b<w.heap.size)) (JV.mapV l) (.agg #[.int .i64 6,.int .i64 0,.string ⟨#[]⟩,.slice none 0 0,v]):=by
 obtain ⟨h0,xs,h1,h2,h3⟩:=h;exact h1.inV h2 h63 (λg hg hl=>.inr ⟨hg,hl⟩) (λi a b=>⟨(h3 i a b).1,(h3 i a b).2.1,(h3 i a b).2.2.more (λb hb=>.inl hb)⟩)
theorem run_mSk {w:World} (ty:TypeId) (S:Nat->Prop) (K:Nat) (v:Value) (l:List (List UInt8 × JV)) (hown:MgS w S K v l) (ad:Addr) (c:Nat) (us:List (List UInt8 × JV)) (news:List (List UInt8 × Value)) (hln:news.length=us.length) (h5:∀ p∈news,Five p.2) (hu:∀ i (h1:i<news.length) (h2:i<us.length),news[i].1=us[i].1/\us[i].1.length<=140737488355328/\InV w (S) us[i].2 news[i].2)
  (hcells:∀ j u,(mcs news)[j]? = some u->w.cell? (ad.add j)=some u) (h63:(l.length+us.length)*96<=140737488355328):
  ∃ v' w',(Builtin.append_ #[24,24] ty #[v,.slice (some ad) us.length c]).run Tryz.prog w=.ok v' w'/\MgS w' S K v' (l++us)/\w.grownBy w' v.ownBlock/\(v'.ownBlock=v.ownBlock\/v'.ownBlock=some w.heap.size):=by
 obtain ⟨h0,xs,hvb,hlen,hin⟩:=hown;obtain ⟨i,hi,hz,hsz,hby⟩:=info_parts mb_info;obtain ⟨v',w',hr,h3,h4,_,h6⟩:=run_append_own_at (P:=Tryz.prog) w K 24 ty 44 i _ 6 96 Tryz.underlying24 hi hz hsz hby rfl (by omega) v _ (mcs xs) hvb.1 ad us.length c (mcs news) (by rw [<- hln];exact mcs_len h5) hcells (mcs_one h5) (by unfold maxLen;omega) (by omega) h0.2;have hC:∀ b o,S b->w'.cell? ⟨b,o,none⟩=w.cell? ⟨b,o,none⟩:=λb o hb=>by
  have hk:=okS h0 hvb hb;unfold World.cell?;rw [h4.block b hk.1 (λe=>hk.2 e.symm)]
 refine ⟨v',w',hr,⟨⟨h0.1,lT h0.2 h4.size⟩,xs++news,⟨?_,?_⟩,by simp [hlen,hln],λi a b=>?_⟩,h4,h6⟩
 ·rw [mcs_app,List.length_append,hln];exact h3
 ·intro p hp;rcases List.mem_append.1 hp with hp | hp
  ·exact hvb.2 p hp
  ·exact h5 p hp
 ·by_cases hil:i<l.length
  ·rw [List.getElem_append_left hil,List.getElem_append_left (by omega)];obtain ⟨e1,e2,e3⟩:=hin i (by omega) hil;exact ⟨e1,e2,e3.map (λ_ h=>h) hC⟩
  ·rw [List.getElem_append_right (by omega),List.getElem_append_right (by omega)];have e:i - xs.length=i - l.length:=by omega
   simp only [e];obtain ⟨e1,e2,e3⟩:=hu (i - l.length) (by simp at a;omega) (by simp at b;omega);exact ⟨e1,e2,e3.map (λ_ h=>h) hC⟩
theorem MgS.other {w:World} {S:Nat->Prop} {K:Nat} {v:Value} {l:List (List UInt8 × JV)} (h:MgS w S K v l) {a:Addr} (hv:v.ownBlock≠some a.block) (hZ:∀ b,S b->b≠a.block) (u:Value):MgS (w.setCell a u) S K v l:=by
 obtain ⟨h0,xs,h1,h2,h3⟩:=h;refine ⟨⟨h0.1,by simpa [World.setCell] using h0.2⟩,xs,⟨ownsRow_setCell_other h1.1 hv u,h1.2⟩,h2,λi a1 b1=>⟨(h3 i a1 b1).1,(h3 i a1 b1).2.1,(h3 i a1 b1).2.2.map (λ_ h=>h) (λb o hb=>?_)⟩⟩;unfold World.cell?;rw [Below.heap_setCell _ _ _ _ (hZ b hb)]
theorem MgS.toB {w:World} {S:Nat->Prop} {K:Nat} {v:Value} {l:List (List UInt8 × JV)} (h:MgS w S K v l):MsB w K K v l:=by
 obtain ⟨h0,xs,h1,h2,h3⟩:=h;exact ⟨⟨lR _,h0.2⟩,xs,h1,h2,λi a b=>⟨(h3 i a b).1,(h3 i a b).2.1,(h3 i a b).2.2.more h0.1⟩⟩
theorem step_mS_lit {ops:Array Oper} {o:Oper} {a:Act} {w:World} {K:Act->World->Prop} {Q:Exit->Act->World->Prop} {E:Prop} {cs:Array Value}
  (hgd:o.guard=none) (s x:Operand) (ho:o.op=.call { callee:=.builtin .append,args:=#[s,x],argTypes:=#[24,24] })
  (S:Nat->Prop) (G:Nat) (v:Value) (l:List (List UInt8 × JV)) (hs:a.eval s=v) (hown:MgS w S G v l) (nm:List UInt8) (u:JV) (C:Option Addr) (f:Nat) (C':Option Addr) (f':Nat) (hcs:cs=#[.string ⟨nm.toArray⟩,.int .i64 u.kd,.int .i64 u.nm,.string ⟨u.tx.toArray⟩,.slice C u.ls.length f,.slice C' u.ms.length f']) (hnm:nm.length<=140737488355328) (hu:InV w (S) u (vA u C f C' f')) (n m:Nat) (hx:a.eval x=.slice (some ⟨w.heap.size,0,none⟩) n m) (hn:n=1) (hm:m=1) (h63:(l.length+1)*96<=140737488355328)
  (h:∀ v' w',MgS w' S G v' (l++[(nm,u)])->(w.alloc (.cells cs 44)).grownBy w' v.ownBlock->(v'.ownBlock=v.ownBlock\/v'.ownBlock=some (w.heap.size+1))->K (a.put o.dst v') w'):
  if Region.wanted o (yielded ops a.tmps)=true then Oper.wp Tryz.prog o a (w.alloc (.cells cs 44)) K Q else E:=by
 subst hn;subst hm;have hw:Region.wanted o (yielded ops a.tmps)=true:=by simp [Region.wanted,hgd]
 rw [if_pos hw];have hal:=(FR w).alloc (.cells cs 44);have h0:=hown.1;have hb:=Blk.made w cs 44;obtain ⟨v',w',hr,h3,h4,h6⟩:=run_mSk (w:=w.alloc (.cells cs 44)) o.type S G v l (hown.keep hal) ⟨w.heap.size,0,none⟩ 1 [(nm,u)] [(nm,vA u C f C' f')] rfl (λp hp=>by simp at hp;subst hp;exact five_vA _ _ _ _ _)
  (λi h1 h2=>by
   obtain rfl:i=0:=by simp at h1;omega
   exact ⟨rfl,hnm,hu.map (λ_ h=>h) (λb o hb=>hal.cell (lL (h0.1 b hb) h0.2))⟩)
  (λj y hy=>by
   have e:mcs [(nm,vA u C f C' f')]=cs.toList:=by subst hcs;simp [mcs,vA,Value.cells]
   rw [e] at hy;have hj:(Addr.mk w.heap.size 0 none).add j=⟨w.heap.size,j,none⟩:=by
    by_cases h0:j=0
    ·subst h0;simp [Addr.add]
    ·simp [Addr.add,h0]
   rw [hj,hb.cell j];simpa using hy) h63
 unfold Oper.wp execOp;simp only [ho,resolve,invoke,builtin,Sem.run_bind,Sem.run_pure,Result.andThen_ok,List.map_toArray,List.map_cons,List.map_nil,hs,hx,List.length_singleton] at hr ⊢;simp only [hr];exact h v' w' h3 h4 (by simpa using h6)

theorem mss_one (w:World) (S:Nat->Prop) (hS:∀ b,S b->b<w.heap.size) (nm:List UInt8) (u:JV) (C:Option Addr) (f:Nat) (C':Option Addr) (f':Nat) (hnm:nm.length<=140737488355328) (hu:InV w S u (vA u C f C' f')):
  MgS (w.alloc (.cells #[.string ⟨nm.toArray⟩,.int .i64 u.kd,.int .i64 u.nm,.string ⟨u.tx.toArray⟩,.slice C u.ls.length f,.slice C' u.ms.length f'] 44)) S w.heap.size (.slice (some ⟨w.heap.size,0,none⟩) 1 1) [(nm,u)]:=by
 refine ⟨⟨hS,by simp⟩,[(nm,vA u C f C' f')],⟨?_,λp hp=>by simp at hp;subst hp;exact five_vA _ _ _ _ _⟩,rfl,λi a b=>?_⟩
 ·exact World.ownsRow_lit (base:=w.heap.size) (size:=6) (e:=44) w _ 1 (lR _) (by unfold maxLen;omega) (by simp)
 ·obtain rfl:i=0:=by simp at a;omega
  exact ⟨rfl,hnm,hu.keepS hS ((FR w).alloc _)⟩
/- Chapter 25: the document's Same, of two requests that are alike. -/

def CsR (w:World) (A:Option Addr) (l:List CallV):Prop:=∀ i (h:i<l.length),∃ b o C f C' f',A=some ⟨b,o,none⟩/\b<w.heap.size/\w.cell? ⟨b,o+i*7,none⟩=some (.string ⟨l[i].1.1.toArray⟩)/\VC w b (o+i*7+1) l[i].1.2 C f C' f'/\w.cell? ⟨b,o+i*7+6,none⟩=some (.string ⟨l[i].2.toArray⟩)/\InV w (Lo w.heap.size) l[i].1.2 (vA l[i].1.2 C f C' f')
theorem CsR.keep {w w':World} {A:Option Addr} {l:List CallV} (h:CsR w A l) (hf:Fr w w'):CsR w' A l:=λi hi=>by
 obtain ⟨b,o,C,f,C',f',hA,hb,h0,h1,h2,h3⟩:=h i hi;exact ⟨b,o,C,f,C',f',hA,lL hb hf.size,(hf.cell hb).trans h0,h1.keep (λj=>hf.cell hb),(hf.cell hb).trans h2,(h3.keep (lR _) hf).lo hf.size⟩
theorem CsB.shows {w:World} {S:Nat->Prop} {K:Nat} {v:Value} {l:List CallV} (h:CsB w S K v l):∃ A c,v=.slice A l.length c/\CsR w A l:=by
 obtain ⟨h0,xs,h1,h2,h3⟩:=h;rcases h1.form with ⟨rfl,rfl⟩ | ⟨g,cap,rfl,hb,hg,hc⟩
 ·exact ⟨none,0,by rw [<- h2];rfl,λi hi=>absurd hi (by rw [<- h2];simp)⟩
 ·refine ⟨_,_,by rw [h2],λi hi=>?_⟩;have hx:i<xs.length:=by omega
  obtain ⟨⟨e1,e2⟩,hin⟩:=h3 i hx hi;obtain ⟨C,f,C',f',hX⟩:=hin.shape;have hat:∀ j u,j<7->(Value.string ⟨xs[i].1.1.toArray⟩::(xs[i].1.2.cells.toList++[.string ⟨xs[i].2.toArray⟩]))[j]? = some u->w.cell? ⟨g,i*7+j,none⟩=some u:=λj u hj hu=>hc _ _ (by rw [ccs_at h1.2 hx hj];exact hu)
  rw [hX] at hat hin;have a0:=hat 0 _ (by omega) rfl;have a1:=hat 1 _ (by omega) rfl;have a2:=hat 2 _ (by omega) rfl;have a3:=hat 3 _ (by omega) rfl;have a4:=hat 4 _ (by omega) rfl;have a5:=hat 5 _ (by omega) rfl;have a6:=hat 6 _ (by omega) rfl;rw [e1] at a0;rw [e2] at a6;refine ⟨g,0,C,f,C',f',rfl,hg,by simpa using a0,⟨by simpa using a1,?_,?_,?_,?_⟩,by simpa using a6,hin.more (λb hb=>lL (h0.1 b hb) h0.2)⟩
  ·rw [Nat.zero_add,Nat.add_assoc];exact a2
  ·rw [Nat.zero_add,Nat.add_assoc];exact a3
  ·rw [Nat.zero_add,Nat.add_assoc];exact a4
  ·rw [Nat.zero_add,Nat.add_assoc];exact a5

theorem same25 (us:List (List UInt8)) (cs:List CallV) (ms:List (List UInt8 × JV)) (hs:Bool) (A1:Option Addr) (c1:Nat) (A2:Option Addr) (c2:Nat) (A3:Option Addr) (c3:Nat) (B1:Option Addr) (d1:Nat) (B2:Option Addr) (d2:Nat) (B3:Option Addr) (d3:Nat) (w:World)
  (h1:PsC w A1 us) (g1:PsC w B1 us) (h2:CsR w A2 cs) (g2:CsR w B2 cs) (h3:MsC w (Lo w.heap.size) A3 ms) (g3:MsC w (Lo w.heap.size) B3 ms) (hl1:us.length<=140737488355328) (hl2:cs.length<=140737488355328) (hl3:ms.length<=140737488355328):
  Calls Tryz.prog 10 #[.agg #[.slice A1 us.length c1,.slice A2 cs.length c2,.slice A3 ms.length c3,.bool hs],.agg #[.slice B1 us.length d1,.slice B2 cs.length d2,.slice B3 ms.length d3,.bool hs]] w λe w'=>e=.returned (.bool true)/\Fr w w':=by
 have hl1':(us.length:Int)<=140737488355328:=by omega
 have hl2':(cs.length:Int)<=140737488355328:=by omega
 have hl3':(ms.length:Int)<=140737488355328:=by omega
 have H1:=LH h1;have G1:=LH g1;have H2:=LH h2;have G2:=LH g2;have H3:=LH h3;have G3:=LH g3;clear h1 g1 h2 g2 h3 g3 hl1 hl2 hl3;go_enter Tryz.func10,Tryz.ntmps10
 go_upto_region 1 with fail
 have hx0:Blk ((w.alloc (.cells #[.slice A1 us.length c1,.slice A2 cs.length c2,.slice A3 ms.length c3,.bool hs] 32)).alloc (.cells #[.slice B1 us.length d1,.slice B2 cs.length d2,.slice B3 ms.length d3,.bool hs] 32)) w.heap.size #[.slice A1 us.length c1,.slice A2 cs.length c2,.slice A3 ms.length c3,.bool hs] 32:=(Blk.made w _ _).keep ((FR _).alloc _);have hy0:Blk ((w.alloc (.cells #[.slice A1 us.length c1,.slice A2 cs.length c2,.slice A3 ms.length c3,.bool hs] 32)).alloc (.cells #[.slice B1 us.length d1,.slice B2 cs.length d2,.slice B3 ms.length d3,.bool hs] 32)) (w.heap.size+1) #[.slice B1 us.length d1,.slice B2 cs.length d2,.slice B3 ms.length d3,.bool hs] 32:=boxz (Blk.made (w.alloc _) _ _);have hf0:Fr w ((w.alloc (.cells #[.slice A1 us.length c1,.slice A2 cs.length c2,.slice A3 ms.length c3,.bool hs] 32)).alloc (.cells #[.slice B1 us.length d1,.slice B2 cs.length d2,.slice B3 ms.length d3,.bool hs] 32)):=((FR w).alloc _).alloc _;generalize ((w.alloc (.cells #[.slice A1 us.length c1,.slice A2 cs.length c2,.slice A3 ms.length c3,.bool hs] 32)).alloc (.cells #[.slice B1 us.length d1,.slice B2 cs.length d2,.slice B3 ms.length d3,.bool hs] 32))=W0 at hx0 hy0 hf0 ⊢;generalize w.heap.size+1=Y at hy0 ⊢;obtain ⟨X,hX⟩:∃ X,w.heap.size=X:=⟨_,rfl⟩;rw [hX] at hx0 ⊢;clear hX;have HF0:=LH hf0;have HB:Hid (∀ W,Fr W0 W->W.cell? ⟨X,0,none⟩=some (.slice A1 us.length c1)/\W.cell? ⟨X,1,none⟩=some (.slice A2 cs.length c2)/\W.cell? ⟨X,2,none⟩=some (.slice A3 ms.length c3)/\W.cell? ⟨Y,0,none⟩=some (.slice B1 us.length d1)/\W.cell? ⟨Y,1,none⟩=some (.slice B2 cs.length d2)/\W.cell? ⟨Y,2,none⟩=some (.slice B3 ms.length d3)/\W.cell? ⟨X,3,none⟩=some (.bool hs)/\W.cell? ⟨Y,3,none⟩=some (.bool hs)):=LH (λW hW=>by
  have a:=hx0.keep hW;have b:=hy0.keep hW;exact ⟨a.cell 0,a.cell 1,a.cell 2,b.cell 0,b.cell 1,b.cell 2,a.cell 3,b.cell 3⟩)
 obtain ⟨x0,x1,x2,y0,y1,y2,x3,y3⟩:=HB.out _ (FR W0);clear hx0 hy0 hf0;go_upto_region 4 with fail
 clear x0 x1 x2 x3 y0 y1 y2 y3;go_loopw [5] (λj wr=>∃ (i:Nat),i<=us.length/\j=.int .i64 i/\Hid (Fr W0 wr)) (λj _=>us.length - (intOf j).toNat)
 case atStart=>exact ⟨0,by omega,rfl,LH (FR W0)⟩
 case round=>
  obtain ⟨i,hi,rfl,hF⟩:=hrel;obtain ⟨x0,x1,x2,y0,y1,y2,x3,y3⟩:=HB.out _ hF.out;by_cases hlt:i<us.length
  ·have hlt':(i:Int)<(us.length:Int):=by omega
   obtain ⟨b,o,rfl,hb,hc⟩:=(H1.out.keep (HF0.out.trans hF.out)) (λe=>by rw [e] at hlt;simp at hlt);obtain ⟨k,p,rfl,hk,hd⟩:=(G1.out.keep (HF0.out.trans hF.out)) (λe=>by rw [e] at hlt;simp at hlt);have ci:=hc i hlt;have di:=hd i hlt;generalize us[i]=nm at ci di;clear hc hd hb hk;go_wp2_with (go_quiet (fail))
   exact ⟨⟨i+1,by omega,by go_num,LH (by first | exact hF.out | exact hF.out.drew | exact hF.out.drewN _)⟩,by simp [intOf];omega⟩
  ·obtain rfl:i=us.length:=by omega
   go_upto_region 9 with fail
   clear x0 x1 x2 x3 y0 y1 y2 y3;go_loopw [6] (λj wr=>∃ (i:Nat),i<=cs.length/\j=.int .i64 i/\Hid (Fr W0 wr)) (λj _=>cs.length - (intOf j).toNat)
   case atStart=>exact ⟨0,by omega,rfl,hF⟩
   case round=>
    clear hF hi hlt;obtain ⟨i,hi,rfl,hF⟩:=hrel;obtain ⟨x0,x1,x2,y0,y1,y2,x3,y3⟩:=HB.out _ hF.out;by_cases hlt:i<cs.length
    ·have hlt':(i:Int)<(cs.length:Int):=by omega
     obtain ⟨g,p,C,f,C',f',rfl,hg,a0,⟨n0,n1,n2,n3,n4⟩,a6,hxa⟩:=(H2.out.keep (HF0.out.trans hF.out)) i hlt;obtain ⟨k,q,D,e,D',e',rfl,hk,b0,⟨m0,m1,m2,m3,m4⟩,b6,hxb⟩:=(G2.out.keep (HF0.out.trans hF.out)) i hlt;obtain ⟨nm,hnm⟩:∃ nm,cs[i].1.1=nm:=⟨_,rfl⟩;obtain ⟨x,hx⟩:∃ x,cs[i].1.2=x:=⟨_,rfl⟩;obtain ⟨id,hid⟩:∃ id,cs[i].2=id:=⟨_,rfl⟩;rw [hnm] at a0 b0;rw [hx] at n0 n1 n2 n3 n4 m0 m1 m2 m3 m4 hxa hxb;rw [hid] at a6 b6;have HK:Hid (∀ W,Fr wr W->(W.cell? ⟨X,0,none⟩=some (.slice A1 us.length c1)/\W.cell? ⟨X,1,none⟩=some (.slice (some ⟨g,p,none⟩) cs.length c2)/\W.cell? ⟨X,2,none⟩=some (.slice A3 ms.length c3)/\W.cell? ⟨Y,0,none⟩=some (.slice B1 us.length d1)/\W.cell? ⟨Y,1,none⟩=some (.slice (some ⟨k,q,none⟩) cs.length d2)/\W.cell? ⟨Y,2,none⟩=some (.slice B3 ms.length d3))/\(W.cell? ⟨g,p+i*7,none⟩=some (.string ⟨nm.toArray⟩)/\(W.cell? ⟨g,p+i*7+1,none⟩=some (.int .i64 x.kd)/\W.cell? ⟨g,p+i*7+1+1,none⟩=some (.int .i64 x.nm)/\W.cell? ⟨g,p+i*7+1+2,none⟩=some (.string ⟨x.tx.toArray⟩)/\W.cell? ⟨g,p+i*7+1+3,none⟩=some (.slice C x.ls.length f)/\W.cell? ⟨g,p+i*7+1+4,none⟩=some (.slice C' x.ms.length f'))/\W.cell? ⟨g,p+i*7+6,none⟩=some (.string ⟨id.toArray⟩))/\(W.cell? ⟨k,q+i*7,none⟩=some (.string ⟨nm.toArray⟩)/\(W.cell? ⟨k,q+i*7+1,none⟩=some (.int .i64 x.kd)/\W.cell? ⟨k,q+i*7+1+1,none⟩=some (.int .i64 x.nm)/\W.cell? ⟨k,q+i*7+1+2,none⟩=some (.string ⟨x.tx.toArray⟩)/\W.cell? ⟨k,q+i*7+1+3,none⟩=some (.slice D x.ls.length e)/\W.cell? ⟨k,q+i*7+1+4,none⟩=some (.slice D' x.ms.length e'))/\W.cell? ⟨k,q+i*7+6,none⟩=some (.string ⟨id.toArray⟩))):=LH (λW hW=>by
      obtain ⟨x0,x1,x2,y0,y1,y2,_,_⟩:=HB.out W (hF.out.trans hW);have ha:∀ o,W.cell? ⟨g,o,none⟩=wr.cell? ⟨g,o,none⟩:=λo=>hW.cell hg
      have hb:∀ o,W.cell? ⟨k,o,none⟩=wr.cell? ⟨k,o,none⟩:=λo=>hW.cell hk
      exact ⟨⟨x0,x1,x2,y0,y1,y2⟩,⟨(ha _).trans a0,⟨(ha _).trans n0,(ha _).trans n1,(ha _).trans n2,(ha _).trans n3,(ha _).trans n4⟩,(ha _).trans a6⟩,⟨(hb _).trans b0,⟨(hb _).trans m0,(hb _).trans m1,(hb _).trans m2,(hb _).trans m3,(hb _).trans m4⟩,(hb _).trans b6⟩⟩)
     have HSM:Hid (∀ W,Fr wr W->Calls Tryz.prog 12 #[.agg #[.int .i64 x.kd,.int .i64 x.nm,.string ⟨x.tx.toArray⟩,.slice C x.ls.length f,.slice C' x.ms.length f'],.agg #[.int .i64 x.kd,.int .i64 x.nm,.string ⟨x.tx.toArray⟩,.slice D x.ls.length e,.slice D' x.ms.length e']] W λe w'=>e=.returned (.bool true)/\Fr W w'):=LH (λW hW=>(same_is x x _ _).call true (by simp) rfl rfl ((hxa.keep (lR _) hW).lo hW.size) ((hxb.keep (lR _) hW).lo hW.size));clear a0 n0 n1 n2 n3 n4 a6 hxa b0 m0 m1 m2 m3 m4 b6 hxb hg hk hnm hx hid;go_upto_region 11 with fail
     clear x0 x1 x2 y0 y1 y2 x3 y3;refine wp_region_held_drew (S:=(λW=>(W.cell? ⟨X,0,none⟩=some (.slice A1 us.length c1)/\W.cell? ⟨X,1,none⟩=some (.slice (some ⟨g,p,none⟩) cs.length c2)/\W.cell? ⟨X,2,none⟩=some (.slice A3 ms.length c3)/\W.cell? ⟨Y,0,none⟩=some (.slice B1 us.length d1)/\W.cell? ⟨Y,1,none⟩=some (.slice (some ⟨k,q,none⟩) cs.length d2)/\W.cell? ⟨Y,2,none⟩=some (.slice B3 ms.length d3))/\(W.cell? ⟨g,p+i*7,none⟩=some (.string ⟨nm.toArray⟩)/\(W.cell? ⟨g,p+i*7+1,none⟩=some (.int .i64 x.kd)/\W.cell? ⟨g,p+i*7+1+1,none⟩=some (.int .i64 x.nm)/\W.cell? ⟨g,p+i*7+1+2,none⟩=some (.string ⟨x.tx.toArray⟩)/\W.cell? ⟨g,p+i*7+1+3,none⟩=some (.slice C x.ls.length f)/\W.cell? ⟨g,p+i*7+1+4,none⟩=some (.slice C' x.ms.length f'))/\W.cell? ⟨g,p+i*7+6,none⟩=some (.string ⟨id.toArray⟩))/\(W.cell? ⟨k,q+i*7,none⟩=some (.string ⟨nm.toArray⟩)/\(W.cell? ⟨k,q+i*7+1,none⟩=some (.int .i64 x.kd)/\W.cell? ⟨k,q+i*7+1+1,none⟩=some (.int .i64 x.nm)/\W.cell? ⟨k,q+i*7+1+2,none⟩=some (.string ⟨x.tx.toArray⟩)/\W.cell? ⟨k,q+i*7+1+3,none⟩=some (.slice D x.ls.length e)/\W.cell? ⟨k,q+i*7+1+4,none⟩=some (.slice D' x.ms.length e'))/\W.cell? ⟨k,q+i*7+6,none⟩=some (.string ⟨id.toArray⟩)))) (by kernel_rfl) ?_ (λhHeld=>?_)
     ·exact HK.out _ (FR wr).drew
     refine tq 0 rfl hHeld ?_;(try simp only [Act.put,fl]);refine tq 1 rfl hHeld ?_;(try simp only [Act.put,fl]);refine tq 2 rfl hHeld ?_;(try simp only [Act.put,fl]);refine tq 3 rfl hHeld ?_;(try simp only [Act.put,fl]);refine tq 4 rfl hHeld ?_;(try simp only [Act.put,fl]);refine tq 5 rfl hHeld ?_;(try simp only [Act.put,fl]);refine tq 6 rfl hHeld ?_;(try simp only [Act.put,fl]);refine tq 7 rfl hHeld ?_;(try simp only [Act.put,fl]);refine tq 8 rfl hHeld ?_;(try simp only [Act.put,fl]);refine tq 9 rfl hHeld ?_;(try simp only [Act.put,fl]);refine tq 10 rfl hHeld ?_;(try simp only [Act.put,fl]);refine tq 11 rfl hHeld ?_;(try simp only [Act.put,fl]);refine tq 12 rfl hHeld ?_;(try simp only [Act.put,fl]);refine tq 13 rfl hHeld ?_;(try simp only [Act.put,fl]);refine tq 14 rfl hHeld ?_;(try simp only [Act.put,fl]);refine tq 15 rfl hHeld ?_;(try simp only [Act.put,fl]);refine tq 16 rfl hHeld ?_;(try simp only [Act.put,fl]);refine tq 17 rfl hHeld ?_;(try simp only [Act.put,fl]);refine tq 18 rfl hHeld ?_;(try simp only [Act.put,fl]);refine tq 19 rfl hHeld ?_;(try simp only [Act.put,fl]);refine tq 20 rfl hHeld ?_;(try simp only [Act.put,fl]);refine tq 21 rfl hHeld ?_;(try simp only [Act.put,fl]);refine tq 22 rfl hHeld ?_;(try simp only [Act.put,fl]);refine tq 23 rfl hHeld ?_;(try simp only [Act.put,fl]);refine tq 24 rfl hHeld ?_;(try simp only [Act.put,fl]);refine tq 25 rfl hHeld ?_;(try simp only [Act.put,fl]);refine tq 26 rfl hHeld ?_;(try simp only [Act.put,fl]);refine tq 27 rfl hHeld ?_;(try simp only [Act.put,fl]);refine tq 28 rfl hHeld ?_;(try simp only [Act.put,fl]);refine tq 29 rfl hHeld ?_;(try simp only [Act.put,fl]);refine tq 30 rfl hHeld ?_;(try simp only [Act.put,fl]);refine tq 31 rfl hHeld ?_;(try simp only [Act.put,fl]);refine tq 32 rfl hHeld ?_;(try simp only [Act.put,fl]);refine tq 33 rfl hHeld ?_;(try simp only [Act.put,fl]);refine tq 34 rfl hHeld ?_;(try simp only [Act.put,fl]);refine tq 35 rfl hHeld ?_;(try simp only [Act.put,fl]);refine tq 36 rfl hHeld ?_;(try simp only [Act.put,fl]);refine tq 37 rfl hHeld ?_;(try simp only [Act.put,fl]);refine tq 38 rfl hHeld ?_;(try simp only [Act.put,fl]);refine tq 39 rfl hHeld ?_;(try simp only [Act.put,fl]);refine tq 40 rfl hHeld ?_;(try simp only [Act.put,fl]);refine rq 41 rfl (λK hK=>?_);go_simp
     (go_at_call 12;refine (HSM.out _ (FR _).drew).mono ?_;rintro e w1 ⟨rfl,hf⟩;have HF1:=LH (Fr.trans (FR wr).drew hf);clear hf)
     try (refine hK.out _ _ ?_ (λhHeld2=>?_))
     ·exact HK.out _ HF1.out
     clear hK K;(try simp only [Act.put,fl]);refine tq 42 rfl hHeld2 ?_;(try simp only [Act.put,fl]);refine tq 43 rfl hHeld2 ?_;(try simp only [Act.put,fl]);refine wpAnyH_done (by kernel_rfl) ?_ _;go_wp2_with fail
     exact ⟨⟨i+1,by omega,by go_num,LH (hF.out.trans HF1.out)⟩,by simp [intOf];omega⟩
    ·obtain rfl:i=cs.length:=by omega
     go_upto_region 14 with fail
     go_loopw [7] (λj wr=>∃ (i:Nat),i<=ms.length/\j=.int .i64 i/\Hid (Fr W0 wr)) (λj _=>ms.length - (intOf j).toNat)
     case atStart=>exact ⟨0,by omega,rfl,hF⟩
     case round=>
      clear hF hi hlt;obtain ⟨i,hi,rfl,hF⟩:=hrel;obtain ⟨x0,x1,x2,y0,y1,y2,x3,y3⟩:=HB.out _ hF.out;by_cases hlt:i<ms.length
      ·have hlt':(i:Int)<(ms.length:Int):=by omega
       have hfw:=HF0.out.trans hF.out;obtain ⟨g,p,C,f,C',f',rfl,hg,_,a0,⟨n0,n1,n2,n3,n4⟩,hxa⟩:=(H3.out.keep (lR _) hfw) i hlt;obtain ⟨k,q,D,e,D',e',rfl,hk,_,b0,⟨m0,m1,m2,m3,m4⟩,hxb⟩:=(G3.out.keep (lR _) hfw) i hlt;obtain ⟨nm,hnm⟩:∃ nm,ms[i].1=nm:=⟨_,rfl⟩;obtain ⟨x,hx⟩:∃ x,ms[i].2=x:=⟨_,rfl⟩;rw [hnm] at a0 b0;rw [hx] at n0 n1 n2 n3 n4 m0 m1 m2 m3 m4 hxa hxb;replace hg:g<wr.heap.size:=lL hg hfw.size;replace hk:k<wr.heap.size:=lL hk hfw.size;have HK:Hid (∀ W,Fr wr W->(W.cell? ⟨X,0,none⟩=some (.slice A1 us.length c1)/\W.cell? ⟨X,1,none⟩=some (.slice A2 cs.length c2)/\W.cell? ⟨X,2,none⟩=some (.slice (some ⟨g,p,none⟩) ms.length c3)/\W.cell? ⟨Y,0,none⟩=some (.slice B1 us.length d1)/\W.cell? ⟨Y,1,none⟩=some (.slice B2 cs.length d2)/\W.cell? ⟨Y,2,none⟩=some (.slice (some ⟨k,q,none⟩) ms.length d3))/\(W.cell? ⟨g,p+i*6,none⟩=some (.string ⟨nm.toArray⟩)/\(W.cell? ⟨g,p+i*6+1,none⟩=some (.int .i64 x.kd)/\W.cell? ⟨g,p+i*6+1+1,none⟩=some (.int .i64 x.nm)/\W.cell? ⟨g,p+i*6+1+2,none⟩=some (.string ⟨x.tx.toArray⟩)/\W.cell? ⟨g,p+i*6+1+3,none⟩=some (.slice C x.ls.length f)/\W.cell? ⟨g,p+i*6+1+4,none⟩=some (.slice C' x.ms.length f')))/\(W.cell? ⟨k,q+i*6,none⟩=some (.string ⟨nm.toArray⟩)/\(W.cell? ⟨k,q+i*6+1,none⟩=some (.int .i64 x.kd)/\W.cell? ⟨k,q+i*6+1+1,none⟩=some (.int .i64 x.nm)/\W.cell? ⟨k,q+i*6+1+2,none⟩=some (.string ⟨x.tx.toArray⟩)/\W.cell? ⟨k,q+i*6+1+3,none⟩=some (.slice D x.ls.length e)/\W.cell? ⟨k,q+i*6+1+4,none⟩=some (.slice D' x.ms.length e')))):=LH (λW hW=>by
        obtain ⟨x0,x1,x2,y0,y1,y2,_,_⟩:=HB.out W (hF.out.trans hW);have ha:∀ o,W.cell? ⟨g,o,none⟩=wr.cell? ⟨g,o,none⟩:=λo=>hW.cell hg
        have hb:∀ o,W.cell? ⟨k,o,none⟩=wr.cell? ⟨k,o,none⟩:=λo=>hW.cell hk
        exact ⟨⟨x0,x1,x2,y0,y1,y2⟩,⟨(ha _).trans a0,⟨(ha _).trans n0,(ha _).trans n1,(ha _).trans n2,(ha _).trans n3,(ha _).trans n4⟩⟩,⟨(hb _).trans b0,⟨(hb _).trans m0,(hb _).trans m1,(hb _).trans m2,(hb _).trans m3,(hb _).trans m4⟩⟩⟩)
       have HSM:Hid (∀ W,Fr wr W->Calls Tryz.prog 12 #[.agg #[.int .i64 x.kd,.int .i64 x.nm,.string ⟨x.tx.toArray⟩,.slice C x.ls.length f,.slice C' x.ms.length f'],.agg #[.int .i64 x.kd,.int .i64 x.nm,.string ⟨x.tx.toArray⟩,.slice D x.ls.length e,.slice D' x.ms.length e']] W λe w'=>e=.returned (.bool true)/\Fr W w'):=LH (λW hW=>(same_is x x _ _).call true (by simp) rfl rfl (((hxa.keep (lT (lR _) hfw.size) hW).lo (lT hfw.size hW.size))) (((hxb.keep (lT (lR _) hfw.size) hW).lo (lT hfw.size hW.size))));clear a0 n0 n1 n2 n3 n4 hxa b0 m0 m1 m2 m3 m4 hxb hg hk hnm hx hfw;go_upto_region 16 with fail
       clear x0 x1 x2 y0 y1 y2 x3 y3;refine wp_region_held_drew (S:=(λW=>(W.cell? ⟨X,0,none⟩=some (.slice A1 us.length c1)/\W.cell? ⟨X,1,none⟩=some (.slice A2 cs.length c2)/\W.cell? ⟨X,2,none⟩=some (.slice (some ⟨g,p,none⟩) ms.length c3)/\W.cell? ⟨Y,0,none⟩=some (.slice B1 us.length d1)/\W.cell? ⟨Y,1,none⟩=some (.slice B2 cs.length d2)/\W.cell? ⟨Y,2,none⟩=some (.slice (some ⟨k,q,none⟩) ms.length d3))/\(W.cell? ⟨g,p+i*6,none⟩=some (.string ⟨nm.toArray⟩)/\(W.cell? ⟨g,p+i*6+1,none⟩=some (.int .i64 x.kd)/\W.cell? ⟨g,p+i*6+1+1,none⟩=some (.int .i64 x.nm)/\W.cell? ⟨g,p+i*6+1+2,none⟩=some (.string ⟨x.tx.toArray⟩)/\W.cell? ⟨g,p+i*6+1+3,none⟩=some (.slice C x.ls.length f)/\W.cell? ⟨g,p+i*6+1+4,none⟩=some (.slice C' x.ms.length f')))/\(W.cell? ⟨k,q+i*6,none⟩=some (.string ⟨nm.toArray⟩)/\(W.cell? ⟨k,q+i*6+1,none⟩=some (.int .i64 x.kd)/\W.cell? ⟨k,q+i*6+1+1,none⟩=some (.int .i64 x.nm)/\W.cell? ⟨k,q+i*6+1+2,none⟩=some (.string ⟨x.tx.toArray⟩)/\W.cell? ⟨k,q+i*6+1+3,none⟩=some (.slice D x.ls.length e)/\W.cell? ⟨k,q+i*6+1+4,none⟩=some (.slice D' x.ms.length e'))))) (by kernel_rfl) ?_ (λhHeld=>?_)
       ·exact HK.out _ (FR wr).drew
       refine tq 0 rfl hHeld ?_;(try simp only [Act.put,fl]);refine tq 1 rfl hHeld ?_;(try simp only [Act.put,fl]);refine tq 2 rfl hHeld ?_;(try simp only [Act.put,fl]);refine tq 3 rfl hHeld ?_;(try simp only [Act.put,fl]);refine tq 4 rfl hHeld ?_;(try simp only [Act.put,fl]);refine tq 5 rfl hHeld ?_;(try simp only [Act.put,fl]);refine tq 6 rfl hHeld ?_;(try simp only [Act.put,fl]);refine tq 7 rfl hHeld ?_;(try simp only [Act.put,fl]);refine tq 8 rfl hHeld ?_;(try simp only [Act.put,fl]);refine tq 9 rfl hHeld ?_;(try simp only [Act.put,fl]);refine tq 10 rfl hHeld ?_;(try simp only [Act.put,fl]);refine tq 11 rfl hHeld ?_;(try simp only [Act.put,fl]);refine tq 12 rfl hHeld ?_;(try simp only [Act.put,fl]);refine tq 13 rfl hHeld ?_;(try simp only [Act.put,fl]);refine tq 14 rfl hHeld ?_;(try simp only [Act.put,fl]);refine tq 15 rfl hHeld ?_;(try simp only [Act.put,fl]);refine tq 16 rfl hHeld ?_;(try simp only [Act.put,fl]);refine tq 17 rfl hHeld ?_;(try simp only [Act.put,fl]);refine tq 18 rfl hHeld ?_;(try simp only [Act.put,fl]);refine tq 19 rfl hHeld ?_;(try simp only [Act.put,fl]);refine tq 20 rfl hHeld ?_;(try simp only [Act.put,fl]);refine tq 21 rfl hHeld ?_;(try simp only [Act.put,fl]);refine tq 22 rfl hHeld ?_;(try simp only [Act.put,fl]);refine tq 23 rfl hHeld ?_;(try simp only [Act.put,fl]);refine tq 24 rfl hHeld ?_;(try simp only [Act.put,fl]);refine tq 25 rfl hHeld ?_;(try simp only [Act.put,fl]);refine rq 26 rfl (λK hK=>?_);go_simp
       (go_at_call 12;refine (HSM.out _ (FR _).drew).mono ?_;rintro e w1 ⟨rfl,hf⟩;have HF1:=LH (Fr.trans (FR wr).drew hf);clear hf)
       try (refine hK.out _ _ ?_ (λhHeld2=>?_))
       ·exact HK.out _ HF1.out
       clear hK K;(try simp only [Act.put,fl]);refine tq 27 rfl hHeld2 ?_;(try simp only [Act.put,fl]);refine tq 28 rfl hHeld2 ?_;(try simp only [Act.put,fl]);refine wpAnyH_done (by kernel_rfl) ?_ _;go_wp2_with fail
       exact ⟨⟨i+1,by omega,by go_num,LH (hF.out.trans HF1.out)⟩,by simp [intOf];omega⟩
      ·obtain rfl:i=ms.length:=by omega
       go_wp2_with fail
       go_ret
       exact ⟨rfl,HF0.out.trans hF.out⟩
/- Chapter 25: Response: the calls, one behind the other. -/

theorem step_vB_lit {ops:Array Oper} {o:Oper} {a:Act} {w:World} {K:Act->World->Prop} {Q:Exit->Act->World->Prop} {F:Prop} {cs:Array Value}
  (hgd:o.guard=none) (s x:Operand) (ho:o.op=.call { callee:=.builtin .append,args:=#[s,x],argTypes:=#[27,27] })
  (Z G:Nat) (v:Value) (l:List JV) (hs:a.eval s=v) (hown:VsB w Z G v l) (u:JV) (C:Option Addr) (f:Nat) (C':Option Addr) (f':Nat) (hcs:cs=#[.int .i64 u.kd,.int .i64 u.nm,.string ⟨u.tx.toArray⟩,.slice C u.ls.length f,.slice C' u.ms.length f']) (hu:InV w (InB Z G w v) u (vA u C f C' f')) (hx:a.eval x=.slice (some ⟨w.heap.size,0,none⟩) 1 1) (h63:(l.length+1)*80<=140737488355328)
  (h:∀ v' w',VsB w' Z G v' (l++[u])->(w.alloc (.cells cs 29)).grownBy w' v.ownBlock->(v'.ownBlock=v.ownBlock\/v'.ownBlock=some (w.heap.size+1))->K (a.put o.dst v') w'):
  if Region.wanted o (yielded ops a.tmps)=true then Oper.wp Tryz.prog o a (w.alloc (.cells cs 29)) K Q else F:=by
 have hw:Region.wanted o (yielded ops a.tmps)=true:=by simp [Region.wanted,hgd]
 rw [if_pos hw];have hal:=(FR w).alloc (.cells cs 29);obtain ⟨h0,xs,hvb,_⟩:=id hown;have hb:=Blk.made w cs 29;obtain ⟨v',w',hr,h3,h4,h6⟩:=run_vB (w:=w.alloc (.cells cs 29)) o.type Z G v l (hown.keep hal) (some ⟨w.heap.size,0,none⟩) 1 [u] (λi hi=>by
  obtain rfl:i=0:=by simp at hi;omega
  refine ⟨w.heap.size,0,C,f,C',f',rfl,.inr ⟨h0.2,by simp,λe=>by have:=(hvb.own_lt e).2;omega⟩,⟨?_,?_,?_,?_,?_⟩,hu.map (InB.grow (by simp)) (λb o hb=>hal.cell (InB.ok h0 hvb hb).1)⟩
  ·have:=hb.cell 0;rw [hcs] at this ⊢;exact this
  ·have:=hb.cell 1;rw [hcs] at this ⊢;exact this
  ·have:=hb.cell 2;rw [hcs] at this ⊢;exact this
  ·have:=hb.cell 3;rw [hcs] at this ⊢;exact this
  ·have:=hb.cell 4;rw [hcs] at this ⊢;exact this) h63
 unfold Oper.wp execOp;simp only [ho,resolve,invoke,builtin,Sem.run_bind,Sem.run_pure,Result.andThen_ok,List.map_toArray,List.map_cons,List.map_nil,hs,hx,List.length_singleton] at hr ⊢;simp only [hr];exact h v' w' h3 h4 (by simpa using h6)
namespace Pt
def respC (c:CallV):JV:=JV.listV [JV.textV c.1.1,c.1.2,JV.textV c.2]
def nResp:List UInt8:=[109,101,116,104,111,100,82,101,115,112,111,110,115,101,115]
def nState:List UInt8:=[115,101,115,115,105,111,110,83,116,97,116,101]
theorem respC_take {l:List CallV} {i:Nat} (h:i<l.length):(l.take (i+1)).map respC=(l.take i).map respC++[respC l[i]]:=by
 rw [List.take_succ_eq_append_getElem h,List.map_append];rfl
end Pt
theorem three_in {w:World} {S:Nat->Prop} (W:World) (nm id:List UInt8) (x:JV) (C:Option Addr) (f:Nat) (C':Option Addr) (f':Nat) (hW:W=w.alloc (.cells #[.int .i64 4,.int .i64 0,.string ⟨nm.toArray⟩,.slice none 0 0,.slice none 0 0,.int .i64 x.kd,.int .i64 x.nm,.string ⟨x.tx.toArray⟩,.slice C x.ls.length f,.slice C' x.ms.length f',.int .i64 4,.int .i64 0,.string ⟨id.toArray⟩,.slice none 0 0,.slice none 0 0] 29)) (hS:S w.heap.size) (hn:nm.length<=140737488355328) (hi:id.length<=140737488355328) (hx:InV W S x (vA x C f C' f')):
  InV W S (Pt.respC ((nm,x),id)) (.agg #[.int .i64 5,.int .i64 0,.string ⟨#[]⟩,.slice (some ⟨w.heap.size,0,none⟩) 3 3,.slice none 0 0]):=by
 subst hW;have hb:=Blk.made w #[.int .i64 4,.int .i64 0,.string ⟨nm.toArray⟩,.slice none 0 0,.slice none 0 0,.int .i64 x.kd,.int .i64 x.nm,.string ⟨x.tx.toArray⟩,.slice C x.ls.length f,.slice C' x.ms.length f',.int .i64 4,.int .i64 0,.string ⟨id.toArray⟩,.slice none 0 0,.slice none 0 0] 29;refine InV.ofList (l:=[JV.textV nm,x,JV.textV id]) hS (by simp) (λi hi2=>?_);rcases (by simp at hi2;omega:i=0\/i=1\/i=2) with rfl | rfl | rfl
 ·exact ⟨_,_,_,_,_,hb.cell 0,hb.cell 1,hb.cell 2,hb.cell 3,hb.cell 4,txt_in _ _ _ hn⟩
 ·exact ⟨_,_,_,_,_,hb.cell 5,hb.cell 6,hb.cell 7,hb.cell 8,hb.cell 9,hx⟩
 ·exact ⟨_,_,_,_,_,hb.cell 10,hb.cell 11,hb.cell 12,hb.cell 13,hb.cell 14,txt_in _ _ _ hi⟩

theorem eresp_no (l:List CallV) (A:Option Addr) (c n d:Nat) (B:Option Addr) (w:World) (h:CsR w A l) (hl:l.length<=1048576) (hnm:∀ p∈l,p.1.1.length<=140737488355328/\p.2.length<=140737488355328):
  Calls Tryz.prog 19 #[.slice A l.length c,.slice B n d,.bool false] w λe w'=>(∃ (D:Option Addr) (g K:Nat),e=.returned (.agg #[.int .i64 6,.int .i64 0,.string ⟨#[]⟩,.slice none 0 0,.slice D 2 g])/\w.heap.size<=K/\MsB w' K K (.slice D 2 g) [(Pt.nResp,JV.listV (l.map Pt.respC)),(Pt.nState,JV.textV [48])])/\Fr w w':=by
 have hl':(l.length:Int)<=1048576:=by omega
 have H:=LH h;have HNM:=LH hnm;clear h hnm;go_enter Tryz.func19,Tryz.ntmps19
 go_upto_region 3 with fail
 have hx0:Blk ((w.alloc (.cells #[.int .i64 0,.int .i64 0,.string ⟨#[]⟩,.slice none 0 0,.slice none 0 0] 29)).alloc (.cells #[.int .i64 5,.int .i64 0,.string ⟨#[]⟩,(.slice none 0 0),.slice none 0 0] 29)) w.heap.size #[.int .i64 0,.int .i64 0,.string ⟨#[]⟩,.slice none 0 0,.slice none 0 0] 29:=(Blk.made w _ _).keep ((FR _).alloc _);have hy0:Blk ((w.alloc (.cells #[.int .i64 0,.int .i64 0,.string ⟨#[]⟩,.slice none 0 0,.slice none 0 0] 29)).alloc (.cells #[.int .i64 5,.int .i64 0,.string ⟨#[]⟩,(.slice none 0 0),.slice none 0 0] 29)) (w.heap.size+1) #[.int .i64 5,.int .i64 0,.string ⟨#[]⟩,(.slice none 0 0),.slice none 0 0] 29:=boxz (Blk.made (w.alloc _) _ _);have hf0:Fr w ((w.alloc (.cells #[.int .i64 0,.int .i64 0,.string ⟨#[]⟩,.slice none 0 0,.slice none 0 0] 29)).alloc (.cells #[.int .i64 5,.int .i64 0,.string ⟨#[]⟩,(.slice none 0 0),.slice none 0 0] 29)):=((FR w).alloc _).alloc _;have hXY:Hid (w.heap.size≠w.heap.size+1):=LH (by omega);generalize ((w.alloc (.cells #[.int .i64 0,.int .i64 0,.string ⟨#[]⟩,.slice none 0 0,.slice none 0 0] 29)).alloc (.cells #[.int .i64 5,.int .i64 0,.string ⟨#[]⟩,(.slice none 0 0),.slice none 0 0] 29))=W1 at hx0 hy0 hf0 ⊢;generalize hY:w.heap.size+1=X1 at hy0 hXY ⊢;obtain ⟨X0,hX⟩:∃ X,w.heap.size=X:=⟨_,rfl⟩;rw [hX] at hx0 hXY ⊢;have HXw:Hid (w.heap.size<=X1/\X1<=W1.heap.size):=LH ⟨by omega,Nat.le_of_lt hy0.lt⟩;have HXe:Hid (w.heap.size<=X0):=LH (Nat.le_of_eq hX);clear hX hY;have HX0:=LH hx0;have HY0:=LH hy0;have HF0:=LH hf0;clear hx0 hy0 hf0;go_loopw [17] (λj wr=>∃ (i:Nat) (lv:Value),i<=l.length/\j=.int .i64 i/\Hid (FrX X1 W1 wr)/\Hid (Blk wr X1 #[.int .i64 5,.int .i64 0,.string ⟨#[]⟩,lv,.slice none 0 0] 29)/\Hid (VsB wr w.heap.size W1.heap.size lv ((l.take i).map Pt.respC))) (λj _=>l.length - (intOf j).toNat)
 case atStart=>exact ⟨0,_,by omega,rfl,LH (FrX.refl X1 W1),HY0,LH (VsB.none_ _ ⟨HF0.out.size,lR _⟩)⟩
 case round=>
  obtain ⟨i,lv,hi,rfl,hX,hBr,hV⟩:=hrel;by_cases hlt:i<l.length
  ·have hlt':(i:Int)<(l.length:Int):=by omega
   obtain ⟨b,o,C,f,C',f',rfl,hb,a0,⟨n0,n1,n2,n3,n4⟩,a6,hxa⟩:=H.out i hlt;obtain ⟨nm,hn⟩:∃ nm,l[i].1.1=nm:=⟨_,rfl⟩;obtain ⟨x,hx⟩:∃ x,l[i].1.2=x:=⟨_,rfl⟩;obtain ⟨id,hid⟩:∃ id,l[i].2=id:=⟨_,rfl⟩;have hbn:=HNM.out _ (List.getElem_mem hlt);have HLI:Hid (l[i]=((nm,x),id)):=LH (by rw [<- hn,<- hx,<- hid]);rw [hn] at a0 hbn;rw [hx] at n0 n1 n2 n3 n4 hxa;rw [hid] at a6 hbn;have hfw:Fr w wr:=Fr.thenX HF0.out HXw.out.1 HXw.out.2 hX.out;have ha:∀ o,wr.cell? ⟨b,o,none⟩=w.cell? ⟨b,o,none⟩:=λo=>hfw.cell hb
   rw [<- ha] at a0 n0 n1 n2 n3 n4 a6;have HBN:=LH hbn;have HXA:Hid (InV wr (Lo w.heap.size) x (vA x C f C' f')):=LH (hxa.keep (lR _) hfw);have hmin:((l.take i).map Pt.respC).length=i:=by simp;omega
   have hk80:(((l.take i).map Pt.respC).length+1)*80<=140737488355328:=by simp;omega
   clear hn hx hid hbn ha hxa hb;go_upto_region 5 with fail
   have hb8:=Blk.made wr #[.string ⟨nm.toArray⟩,.int .i64 x.kd,.int .i64 x.nm,.string ⟨x.tx.toArray⟩,.slice C x.ls.length f,.slice C' x.ms.length f',.string ⟨id.toArray⟩] 50;have hf8:Fr wr (wr.alloc (.cells #[.string ⟨nm.toArray⟩,.int .i64 x.kd,.int .i64 x.nm,.string ⟨x.tx.toArray⟩,.slice C x.ls.length f,.slice C' x.ms.length f',.string ⟨id.toArray⟩] 50)):=(FR wr).alloc _;clear a0 n0 n1 n2 n3 n4 a6 hfw;generalize (wr.alloc (.cells #[.string ⟨nm.toArray⟩,.int .i64 x.kd,.int .i64 x.nm,.string ⟨x.tx.toArray⟩,.slice C x.ls.length f,.slice C' x.ms.length f',.string ⟨id.toArray⟩] 50))=W8 at hb8 hf8 ⊢;have hX98:wr.heap.size≠X1:=λe=>by have:=hBr.out.lt;omega
   generalize hX9e:wr.heap.size=X9 at hb8 hX98 ⊢;have hy8:=hBr.out.keep hf8;have HSB:Hid (∀ W:World,(W.heap[X1]? = W8.heap[X1]? /\ W.heap[X9]? = W8.heap[X9]?)->W.cell? ⟨X1,3,none⟩=some lv/\W.cell? ⟨X9,0,none⟩=some (.string ⟨nm.toArray⟩)/\W.cell? ⟨X9,1,none⟩=some (.int .i64 x.kd)/\W.cell? ⟨X9,1+1,none⟩=some (.int .i64 x.nm)/\W.cell? ⟨X9,1+2,none⟩=some (.string ⟨x.tx.toArray⟩)/\W.cell? ⟨X9,1+3,none⟩=some (.slice C x.ls.length f)/\W.cell? ⟨X9,1+4,none⟩=some (.slice C' x.ms.length f')/\W.cell? ⟨X9,6,none⟩=some (.string ⟨id.toArray⟩)):=LH (λW hW=>by
    have a:Blk W X9 _ _:=hW.2.trans hb8;have b:Blk W X1 _ _:=hW.1.trans hy8;exact ⟨b.cell 3,a.cell 0,a.cell 1,a.cell 2,a.cell 3,a.cell 4,a.cell 5,a.cell 6⟩)
   have hl8:=hb8.lt;have hl9:=hy8.lt;have HSW:Hid (∀ W,Fr W8 W->W.cell? ⟨X1,3,none⟩=some lv/\W.cell? ⟨X9,0,none⟩=some (.string ⟨nm.toArray⟩)/\W.cell? ⟨X9,1,none⟩=some (.int .i64 x.kd)/\W.cell? ⟨X9,1+1,none⟩=some (.int .i64 x.nm)/\W.cell? ⟨X9,1+2,none⟩=some (.string ⟨x.tx.toArray⟩)/\W.cell? ⟨X9,1+3,none⟩=some (.slice C x.ls.length f)/\W.cell? ⟨X9,1+4,none⟩=some (.slice C' x.ms.length f')/\W.cell? ⟨X9,6,none⟩=some (.string ⟨id.toArray⟩)):=LH (λW hW=>HSB.out W ⟨Below.block hW _ hl9,Below.block hW _ hl8⟩);have hown:∀ k,lv.ownBlock=some k->W1.heap.size<=k/\k<X9:=λk hk=>⟨(hV.out.own_lt hk).1,hX9e ▸ (hV.out.own_lt hk).2⟩
   have hx9:∀ W,Fr W8 W -> ∀ w9,((W.alloc (.cells #[.int .i64 4,.int .i64 0,.string ⟨nm.toArray⟩,.slice none 0 0,.slice none 0 0,.int .i64 x.kd,.int .i64 x.nm,.string ⟨x.tx.toArray⟩,.slice C x.ls.length f,.slice C' x.ms.length f',.int .i64 4,.int .i64 0,.string ⟨id.toArray⟩,.slice none 0 0,.slice none 0 0] 29)).alloc (.cells #[.int .i64 5,.int .i64 0,.string ⟨#[]⟩,.slice (some ⟨W.heap.size,0,none⟩) 3 3,.slice none 0 0] 29)).grownBy w9 lv.ownBlock->(w9.heap[X1]? = W8.heap[X1]? /\ w9.heap[X9]? = W8.heap[X9]?):=λW hW w9 hg=>by
    have h2:=(hW.alloc (.cells #[.int .i64 4,.int .i64 0,.string ⟨nm.toArray⟩,.slice none 0 0,.slice none 0 0,.int .i64 x.kd,.int .i64 x.nm,.string ⟨x.tx.toArray⟩,.slice C x.ls.length f,.slice C' x.ms.length f',.int .i64 4,.int .i64 0,.string ⟨id.toArray⟩,.slice none 0 0,.slice none 0 0] 29)).alloc (.cells #[.int .i64 5,.int .i64 0,.string ⟨#[]⟩,.slice (some ⟨W.heap.size,0,none⟩) 3 3,.slice none 0 0] 29);exact ⟨(hg.block X1 (lL hl9 h2.size) (λe=>by have:=(hown X1 e.symm).1;have:=HY0.out.lt;omega)).trans (Below.block h2 _ hl9),(hg.block X9 (lL hl8 h2.size) (λe=>by have:=(hown X9 e.symm).2;omega)).trans (Below.block h2 _ hl8)⟩
   have hfx9:∀ W,Fr W8 W -> ∀ w9,((W.alloc (.cells #[.int .i64 4,.int .i64 0,.string ⟨nm.toArray⟩,.slice none 0 0,.slice none 0 0,.int .i64 x.kd,.int .i64 x.nm,.string ⟨x.tx.toArray⟩,.slice C x.ls.length f,.slice C' x.ms.length f',.int .i64 4,.int .i64 0,.string ⟨id.toArray⟩,.slice none 0 0,.slice none 0 0] 29)).alloc (.cells #[.int .i64 5,.int .i64 0,.string ⟨#[]⟩,.slice (some ⟨W.heap.size,0,none⟩) 3 3,.slice none 0 0] 29)).grownBy w9 lv.ownBlock->FrX X1 W1 w9:=λW hW w9 hg=>FrX.grown2 (hX.out.fr (hf8.trans ((hW.alloc (.cells #[.int .i64 4,.int .i64 0,.string ⟨nm.toArray⟩,.slice none 0 0,.slice none 0 0,.int .i64 x.kd,.int .i64 x.nm,.string ⟨x.tx.toArray⟩,.slice C x.ls.length f,.slice C' x.ms.length f',.int .i64 4,.int .i64 0,.string ⟨id.toArray⟩,.slice none 0 0,.slice none 0 0] 29)).alloc (.cells #[.int .i64 5,.int .i64 0,.string ⟨#[]⟩,.slice (some ⟨W.heap.size,0,none⟩) 3 3,.slice none 0 0] 29)))) hg (λk hk=>(hown k hk).1)
   have HVK:Hid (∀ W,Fr W8 W->VsB W w.heap.size W1.heap.size lv ((l.take i).map Pt.respC)):=LH (λW hW=>hV.out.keep (hf8.trans hW));have HRC:Hid (∀ W,Fr W8 W->InV (W.alloc (.cells #[.int .i64 4,.int .i64 0,.string ⟨nm.toArray⟩,.slice none 0 0,.slice none 0 0,.int .i64 x.kd,.int .i64 x.nm,.string ⟨x.tx.toArray⟩,.slice C x.ls.length f,.slice C' x.ms.length f',.int .i64 4,.int .i64 0,.string ⟨id.toArray⟩,.slice none 0 0,.slice none 0 0] 29)) (InB w.heap.size W1.heap.size (W.alloc (.cells #[.int .i64 4,.int .i64 0,.string ⟨nm.toArray⟩,.slice none 0 0,.slice none 0 0,.int .i64 x.kd,.int .i64 x.nm,.string ⟨x.tx.toArray⟩,.slice C x.ls.length f,.slice C' x.ms.length f',.int .i64 4,.int .i64 0,.string ⟨id.toArray⟩,.slice none 0 0,.slice none 0 0] 29)) lv) (Pt.respC ((nm,x),id)) (.agg #[.int .i64 5,.int .i64 0,.string ⟨#[]⟩,.slice (some ⟨W.heap.size,0,none⟩) 3 3,.slice none 0 0])):=LH (λW hW=>by
    have hal:=(FR W).alloc (.cells #[.int .i64 4,.int .i64 0,.string ⟨nm.toArray⟩,.slice none 0 0,.slice none 0 0,.int .i64 x.kd,.int .i64 x.nm,.string ⟨x.tx.toArray⟩,.slice C x.ls.length f,.slice C' x.ms.length f',.int .i64 4,.int .i64 0,.string ⟨id.toArray⟩,.slice none 0 0,.slice none 0 0] 29);have hs:=(hf8.trans hW).size;refine three_in _ nm id x C f C' f' rfl (.inr ⟨lT hX.out.size hs,by simp,λe=>?_⟩) HBN.out.1 HBN.out.2 ?_
    ·obtain ⟨_,xs,hvb,_⟩:=hV.out;have:=(hvb.own_lt e).2;omega
    ·exact (HXA.out.keep (lT (lT HF0.out.size hX.out.size) (lR _)) ((hf8.trans hW).trans hal)).more (λb hb=>.inl hb))
   refine OrdL.begin (x:=15) (λW=>W.cell? ⟨X1,3,none⟩=some lv/\W.cell? ⟨X9,0,none⟩=some (.string ⟨nm.toArray⟩)/\W.cell? ⟨X9,1,none⟩=some (.int .i64 x.kd)/\W.cell? ⟨X9,1+1,none⟩=some (.int .i64 x.nm)/\W.cell? ⟨X9,1+2,none⟩=some (.string ⟨x.tx.toArray⟩)/\W.cell? ⟨X9,1+3,none⟩=some (.slice C x.ls.length f)/\W.cell? ⟨X9,1+4,none⟩=some (.slice C' x.ms.length f')/\W.cell? ⟨X9,6,none⟩=some (.string ⟨id.toArray⟩)) (by kernel_rfl) ?_ (λhH=>?_)
   ·exact HSW.out _ (FR _).drew
   refine lq 0 [1,13] rfl hH ?_;try simp only [Act.put,fl]
   refine lq 1 [13] rfl hH ?_;try simp only [Act.put,fl]
   refine lq 2 [3,4,10,11,12,13] rfl hH ?_;try simp only [Act.put,fl]
   refine lq 3 [4,10,11,12,13] rfl hH ?_;try simp only [Act.put,fl]
   refine lq 5 [6,10,11,12,13] rfl hH ?_;try simp only [Act.put,fl]
   refine lq 6 [10,11,12,13] rfl hH ?_;try simp only [Act.put,fl]
   refine lq 7 [8,9,10,11,12,13] rfl hH ?_;try simp only [Act.put,fl]
   refine lq 8 [9,10,11,12,13] rfl hH ?_;try simp only [Act.put,fl]
   refine OrdL.one (i:=4) rfl (by kernel_rfl) (by rfl) (λK hK=>?_);(go_simp;go_at_call 39;refine (etxt_is _ _).mono ?_;rintro e w1 ⟨rfl,hf⟩;have HG1:=LH ((FR W8).drew.trans hf);clear hf)
   refine hK.out _ _ (HSW.out _ HG1.out) (λhH1=>?_);clear hK K;try simp only [Act.put,fl]
   refine OrdL.one (i:=9) rfl (by kernel_rfl) (by rfl) (λK hK=>?_);(go_simp;go_at_call 39;refine (etxt_is _ _).mono ?_;rintro e w2 ⟨rfl,hf⟩;have HG2:=LH (HG1.out.trans hf);clear hf)
   refine hK.out _ _ (HSW.out _ HG2.out) (λhH2=>?_);clear hK K;try simp only [Act.put,fl]
   refine OrdL.one (i:=10) rfl (by kernel_rfl) (by rfl) (λK hK=>?_);go_simp
   refine hK.out _ _ (HSW.out _ (HG2.out.alloc _)) (λhH3=>?_);clear hK K;try simp only [Act.put,fl]
   refine lq 11 [12,13] rfl hH3 ?_;try simp only [Act.put,fl]
   refine OrdL.one (i:=12) rfl (by kernel_rfl) (by rfl) (λK hK=>?_);go_simp
   refine hK.out _ _ (HSW.out _ ((HG2.out.alloc _).alloc _)) (λhH4=>?_);clear hK K;try simp only [Act.put,fl]
   have HG3:=LH (HG2.out.alloc (.cells #[.int .i64 4,.int .i64 0,.string ⟨nm.toArray⟩,.slice none 0 0,.slice none 0 0,.int .i64 x.kd,.int .i64 x.nm,.string ⟨x.tx.toArray⟩,.slice C x.ls.length f,.slice C' x.ms.length f',.int .i64 4,.int .i64 0,.string ⟨id.toArray⟩,.slice none 0 0,.slice none 0 0] 29));have hin3:=HRC.out w2 HG2.out;have hv3:=HVK.out _ HG3.out;refine OrdL.one (i:=13) rfl (by kernel_rfl) (by rfl) (λK hK=>?_);refine step_vB_lit rfl (.tmp 22) (.tmp 33) rfl w.heap.size W1.heap.size lv ((l.take i).map Pt.respC) rfl hv3 (Pt.respC ((nm,x),id)) (some ⟨w2.heap.size,0,none⟩) 3 none 0 rfl hin3 (by show Value.slice (some ⟨w2.heap.size+1,0,none⟩) 1 1=_;simp) hk80 ?_;intro v9 w9 hs9 hg9 ho9;obtain ⟨A9,c9,rfl⟩:=hs9.is_slice;have hxs9:=hx9 w2 HG2.out w9 hg9;refine hK.out _ _ (HSB.out _ hxs9) (λhH5=>?_);clear hK K;try simp only [Act.put,fl]
   have hb9:Blk w9 X1 _ _:=hxs9.1.trans hy8;obtain ⟨⟨y0,y1,y2,y3,y4⟩,yf0,yf1,yf2,yf3,yf4⟩:=box5 hb9;have hf9:=hfx9 w2 HG2.out w9 hg9;refine lq 14 [] rfl hH5 ?_;try simp only [Act.put,fl]
   refine OrdL.last rfl (by kernel_rfl) (by kernel_rfl) (λK hK=>?_);go_simp
   refine hK.out _ _ ?_;clear hK K;try simp only [Act.put,fl]
   go_wp2_with fail
   exact ⟨⟨i+1,_,by omega,by go_num,LH (hf9.setCell rfl _),LH (hb9.set 3 _),LH (by rw [Pt.respC_take hlt,HLI.out];have hq:=hs9.frx HXw.out.1 HY0.out.lt ((FrX.refl X1 w9).setCell (p:=⟨X1,3,none⟩) rfl (.slice A9 (i+1) c9));rw [List.length_append,hmin] at hq;exact hq)⟩,by simp [intOf];omega⟩
  ·obtain rfl:i=l.length:=by omega
   have hfw:Fr w wr:=Fr.thenX HF0.out HXw.out.1 HXw.out.2 hX.out;have hv:=hV.out;rw [List.take_length] at hv;obtain ⟨A5,c5,rfl⟩:=hv.is_slice;have hll:(l.map Pt.respC).length=l.length:=by simp
   rw [hll] at hv hBr;have hin:=hv.inV (by rw [hll];omega);obtain ⟨SL,hSL⟩:∃ SL:Nat->Prop,SL=(λb=>b<w.heap.size\/(W1.heap.size<=b/\b<wr.heap.size)):=⟨_,rfl⟩;rw [<- hSL] at hin;have hSb:∀ b,SL b->b<wr.heap.size:=λb hb=>by rw [hSL] at hb;rcases hb with hb | hb;exact lL hb hfw.size;exact hb.2
   have HSX:Hid (∀ b,SL b->b≠X0):=LH (λb hb e=>by rw [hSL] at hb;have:=HX0.out.lt;have:=HXe.out;rcases hb with hb | hb <;> omega);clear hSL;have hms:=mss_one wr SL hSb Pt.nResp (JV.listV (l.map Pt.respC)) A5 c5 none 0 (by decide) (by simpa [JV.listV,vA,JV.kd,JV.nm,JV.tx,JV.ls,JV.ms] using hin);have HFW:=LH hfw;have HMS:Hid (MgS (wr.alloc (.cells #[.string ⟨#[109,101,116,104,111,100,82,101,115,112,111,110,115,101,115]⟩,.int .i64 5,.int .i64 0,.string ⟨#[]⟩,.slice A5 l.length c5,.slice none 0 0] 44)) SL wr.heap.size (.slice (some ⟨wr.heap.size,0,none⟩) 1 1) [(Pt.nResp,JV.listV (l.map Pt.respC))]):=LH (by simpa [JV.listV,JV.kd,JV.nm,JV.tx,JV.ls,JV.ms,Pt.nResp] using hms);obtain ⟨⟨y0,y1,y2,y3,y4⟩,_⟩:=box5 hBr.out;have hx0r:=HX0.out.frx hX.out hXY.out;have HX0R:=LH hx0r;clear hfw hv hin hms hx0r hSb;go_upto_region 8 with (go_at_call 40;refine (obj_is _ _ _ _).mono ?_;rintro e w2 ⟨rfl,hf⟩;have HF2:=LH (((FR wr).alloc (.cells #[.string ⟨#[109,101,116,104,111,100,82,101,115,112,111,110,115,101,115]⟩,.int .i64 5,.int .i64 0,.string ⟨#[]⟩,.slice A5 l.length c5,.slice none 0 0] 44)).trans hf);have HM2:=LH (HMS.out.keep hf);clear hf)
   have hb3:=Blk.made w2 #[.int .i64 6,.int .i64 0,.string ⟨#[]⟩,.slice none 0 0,(.slice (some ⟨wr.heap.size,0,none⟩) 1 1)] 29;have hf3:Fr w2 (w2.alloc (.cells #[.int .i64 6,.int .i64 0,.string ⟨#[]⟩,.slice none 0 0,(.slice (some ⟨wr.heap.size,0,none⟩) 1 1)] 29)):=(FR w2).alloc _;have hm3:=HM2.out.keep hf3;have hfr3:Fr w (w2.alloc (.cells #[.int .i64 6,.int .i64 0,.string ⟨#[]⟩,.slice none 0 0,(.slice (some ⟨wr.heap.size,0,none⟩) 1 1)] 29)):=(HFW.out.trans HF2.out).trans hf3;have hx3:=(HX0R.out.keep HF2.out).keep hf3;have hK:w.heap.size<=wr.heap.size:=HFW.out.size;have hX0K:X0<wr.heap.size:=HX0R.out.lt;have hKX:wr.heap.size<w2.heap.size:=(HM2.out.own_lt rfl).2;generalize (w2.alloc (.cells #[.int .i64 6,.int .i64 0,.string ⟨#[]⟩,.slice none 0 0,(.slice (some ⟨wr.heap.size,0,none⟩) 1 1)] 29))=W3 at hb3 hf3 hm3 hfr3 hx3 ⊢;clear hf3;generalize w2.heap.size=X10 at hb3 hKX ⊢;clear HM2 HMS;generalize wr.heap.size=G at hb3 hm3 hK hX0K hKX ⊢;have HS10:Hid (∀ W:World,W.heap[X10]? = W3.heap[X10]? -> W.cell? ⟨X10,4,none⟩=some (.slice (some ⟨G,0,none⟩) 1 1)):=LH (λW hW=>by
    have a:Blk W X10 _ _:=hW.trans hb3;exact a.cell 4)
   have HF10:Hid (∀ W,Fr W3 W->W.cell? ⟨X10,4,none⟩=some (.slice (some ⟨G,0,none⟩) 1 1)):=LH (λW hW=>HS10.out W (Below.block hW _ hb3.lt));go_upto_region 16 with fail
   refine OrdL.begin (x:=7) (λW=>W.cell? ⟨X10,4,none⟩=some (.slice (some ⟨G,0,none⟩) 1 1)) (by kernel_rfl) ?_ (λhH=>?_)
   ·exact HF10.out _ (FR _).drew
   refine lq 0 [1,5] rfl hH ?_;try simp only [Act.put,fl]
   refine lq 1 [5] rfl hH ?_;try simp only [Act.put,fl]
   refine OrdL.one (i:=2) rfl (by kernel_rfl) (by rfl) (λK hK=>?_);(go_simp;go_at_call 39;refine (etxt_is _ _).mono ?_;rintro e w4 ⟨rfl,hf⟩;have HG4:Hid (Fr W3 w4):=LH ((FR W3).drew.trans hf);clear hf)
   refine hK.out _ _ (HF10.out _ HG4.out) (λhH3=>?_);clear hK K;try simp only [Act.put,fl]
   refine lq 3 [4,5] rfl hH3 ?_;try simp only [Act.put,fl]
   refine OrdL.one (i:=4) rfl (by kernel_rfl) (by rfl) (λK hK=>?_);go_simp
   refine hK.out _ _ (HF10.out _ (HG4.out.alloc _)) (λhH4=>?_);clear hK K;try simp only [Act.put,fl]
   have hm4:=hm3.keep HG4.out;refine OrdL.one (i:=5) rfl (by kernel_rfl) (by rfl) (λK hK=>?_);refine step_mS_lit rfl (.tmp 64) (.tmp 67) rfl SL G _ [(Pt.nResp,JV.listV (l.map Pt.respC))] rfl hm4 [115,101,115,115,105,111,110,83,116,97,116,101] (JV.textV [48]) none 0 none 0 (by simp [JV.textV,JV.kd,JV.nm,JV.tx,JV.ls,JV.ms]) (by simp) (txt_in _ _ _ (by simp)) 1 1 rfl rfl rfl (by simp) ?_;intro v9 w9 hs9 hg9 ho9;obtain ⟨A9,c9,e9⟩:=hs9.is_slice;replace e9:v9=.slice A9 2 c9:=e9;subst e9;have hal4:=HG4.out.alloc (.cells #[.string ⟨#[115,101,115,115,105,111,110,83,116,97,116,101]⟩,.int .i64 4,.int .i64 0,.string ⟨#[48]⟩,.slice none 0 0,.slice none 0 0] 44);have hX10l:X10<W3.heap.size:=hb3.lt;have hX0l:X0<W3.heap.size:=hx3.lt;have hGk:∀ k,(Value.slice (some ⟨G,0,none⟩) 1 1).ownBlock=some k->k=G:=λk hk=>(Option.some.inj hk).symm
   have hb9:Blk w9 X10 _ _:=(hg9.block X10 (lL hX10l hal4.size) (λe=>by have:=hGk _ e.symm;omega)).trans (hb3.keep hal4);have hx9:Blk w9 X0 _ _:=(hg9.block X0 (lL hX0l hal4.size) (λe=>by have:=hGk _ e.symm;omega)).trans (hx3.keep hal4);have hf9:Fr w w9:=Below.grown (hfr3.trans hal4) hg9 (hfr3.trans hal4).size (λk hk=>by have:=hGk _ hk;omega);have ho9:(Value.slice A9 2 c9).ownBlock=(Value.slice (some ⟨G,0,none⟩) 1 1).ownBlock\/(Value.slice A9 2 c9).ownBlock=some (w4.heap.size+1):=ho9;have hown9:∀ k,k=X10\/k=X0->(Value.slice A9 2 c9).ownBlock≠some k:=λk hk e=>by
    have hz:=HG4.out.size;rcases ho9 with h6 | h6
    ·rw [h6] at e;have:=hGk _ e;rcases hk with rfl | rfl <;> omega
    ·rw [h6] at e;have:=Option.some.inj e;rcases hk with rfl | rfl <;> omega
   refine hK.out _ _ (HS10.out _ (hb9.trans hb3.symm)) (λhH5=>?_);clear hK K;try simp only [Act.put,fl]
   obtain ⟨⟨y0,y1,y2,y3,y4⟩,yf0,yf1,yf2,yf3,yf4⟩:=box5 hb9;refine lq 6 [] rfl hH5 ?_;try simp only [Act.put,fl]
   refine OrdL.last rfl (by kernel_rfl) (by kernel_rfl) (λK hK=>?_);go_simp
   refine hK.out _ _ ?_;clear hK K;try simp only [Act.put,fl]
   go_upto_region 17 with fail
   have hb17:=hb9.set 4 (.slice A9 2 c9);have hx17:=hx9.other (p:=⟨X10,4,none⟩) (show X10≠X0 by omega) (.slice A9 2 c9);have hm17:MgS (w9.setCell ⟨X10,4,none⟩ (.slice A9 2 c9)) SL G (.slice A9 2 c9) [(Pt.nResp,JV.listV (l.map Pt.respC)),(Pt.nState,JV.textV [48])]:=hs9.other (λe=>hown9 _ (.inl rfl) e) (λb hb e=>by have:=hs9.1.1 b hb;have e:b=X10:=e;omega) _;have hf17:Fr w (w9.setCell ⟨X10,4,none⟩ (.slice A9 2 c9)):=hf9.setCell (p:=⟨X10,4,none⟩) (by show w.heap.size<=X10;omega) _;clear hb9 hx9 hs9 hf9 hH5 y0 y1 y2 y3 y4 yf0 yf1 yf2 yf3 yf4;generalize (w9.setCell ⟨X10,4,none⟩ (.slice A9 2 c9))=W17 at hb17 hx17 hm17 hf17 ⊢;obtain ⟨⟨y0,y1,y2,y3,y4⟩,_⟩:=box5 hb17;obtain ⟨⟨r0,r1,r2,r3,r4⟩,rf0,rf1,rf2,rf3,rf4⟩:=box5 hx17;have HX17:=LH hx17;have HM17:=LH hm17;have HF17:=LH hf17;clear hb17 hx17 hm17 hf17;have nX:¬ X0=X10:=by omega
   have nX2:¬ X10=X0:=by omega
   go_wp2_with fail
   refine bodyPost_ret (results_cv (by rfl) rfl _ X0 (by rfl) _ _ _ _ _ (set5 HX17.out)) rfl ?_;exact ⟨⟨A9,c9,G,rfl,hK,(HM17.out.frx HSX.out hX0K (st5_frx _ X0 _ _ _ _ _)).toB⟩,st5_fr HF17.out HXe.out _ _ _ _ _⟩
end Go.Proofs.YtockgemmkjdnkaaGreatDoor
