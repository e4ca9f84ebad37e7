/- Plain mathematics of pointers: no program in sight. -/
import Derived.Test.YtdhakbghdcfncaaGreatDoorPa
import Derived.Lib.SplitLaws
import Derived.Test.YtdhakbghdcfncaaGreatDoorPb
import Derived.Test.YtdhakbghdcfncaaGreatDoorKa
import Derived.Test.YtdhakbghdcfncaaGreatDoorShelf
import Derived.Laws.IdiomStrings
namespace Go.Proofs.YtdhakbghdcfncaaGreatDoor.Pt
set_option maxRecDepth 100000
set_option maxHeartbeats 1000000
set_option linter.unusedVariables false
set_option linter.unusedSimpArgs false
open JV

def plain:List UInt8→Option (List UInt8)
 | []=>some []
 | [c]=>if c=126 then none else some [c]
 | c::d::r=>if c=126 then (if d=48 then (plain r).map (126 :: ·) else if d=49 then (plain r).map (47 :: ·) else none) else (plain (d::r)).map (c :: ·)
def esc:List UInt8→List UInt8
 | []=>[]
 | c::r=>(if c=126 then [126,48] else if c=47 then [126,49] else [c])++esc r
def cut:List UInt8→List (List UInt8)
 | []=>[[]]
 | c::r=>if c=47 then []::cut r else match cut r with
  | []=>[[c]]
  | h::t=>(c::h)::t
def allP:List (List UInt8)→Option (List (List UInt8))
 | []=>some []
 | s::l=>(plain s).bind fun p=>(allP l).map (p :: ·)
def parts:List UInt8→Option (List (List UInt8))
 | []=>some []
 | c::r=>if c=47 then allP (cut r) else none
def text:List (List UInt8)→List UInt8
 | []=>[]
 | p::ps=>47::(esc p++text ps)

theorem allP_def (h:List UInt8) (t:List (List UInt8)):allP (h::t)=(plain h).bind fun p=>(allP t).map (p :: ·):=rfl
theorem plain_two (c d:UInt8) (r:List UInt8):plain (c::d::r)=if c=126 then (if d=48 then (plain r).map (126 :: ·) else if d=49 then (plain r).map (47 :: ·) else none) else (plain (d::r)).map (c :: ·):=by
 conv=>lhs;unfold plain
theorem plain_ne {c:UInt8} (r:List UInt8) (h:c≠126):plain (c::r)=(plain r).map (c :: ·):=by
 cases r with
 | nil=>simp [plain,h]
 | cons d r=>rw [plain_two,if_neg h]
def go (acc:List (List UInt8)) (cur:List UInt8):List UInt8→Option (List (List UInt8))
 | []=>some (acc++[cur])
 | [c]=>if c=47 then some (acc++[cur]++[[]]) else if c=126 then none else some (acc++[cur++[c]])
 | c::d::r=>if c=47 then go (acc++[cur]) [] (d::r) else if c=126 then (if d=48 then go acc (cur++[126]) r else if d=49 then go acc (cur++[47]) r else none) else go acc (cur++[c]) (d::r)
def join (acc:List (List UInt8)) (cur:List UInt8):List (List UInt8)→Option (List (List UInt8))
 | []=>none
 | h::t=>(plain h).bind fun p=>(allP t).map fun q=>acc++(cur++p)::q
theorem index_eq (r:List UInt8):Lib.index (47::r) [47]=0:=by rw [Lib.index];simp [List.isPrefixOf]
theorem index_ne {c:UInt8} (r:List UInt8) (h:c≠47):Lib.index (c::r) [47]=if Lib.index r [47] == -1 then -1 else Lib.index r [47]+1:=by
 have hp:([47]:List UInt8).isPrefixOf (c::r)=false:=by simp [List.isPrefixOf,Ne.symm h]
 rw [Lib.index,hp];simp
theorem splitK_eq (k:Nat) (r:List UInt8):Lib.splitK [47] 0 (k+1) (47::r)=[]::Lib.splitK [47] 0 k r:=by
 rw [Lib.splitK,index_eq]
 simp
theorem splitK_ne {c:UInt8} (k:Nat) (r:List UInt8) (h:c≠47):∃ a t,Lib.splitK [47] 0 k r=a::t∧Lib.splitK [47] 0 k (c::r)=(c::a)::t:=by
 cases k with
 | zero=>exact ⟨r,[],rfl,rfl⟩
 | succ k=>
  rw [Lib.splitK,Lib.splitK,index_ne r h]
  have hge:=Lib.index_ge r [47]
  by_cases hm:Lib.index r [47] = -1
  ·rw [hm];exact ⟨r,[],by simp,by simp⟩
  ·obtain ⟨j,hj⟩:∃ j:Nat,Lib.index r [47]=j:=⟨(Lib.index r [47]).toNat,by omega⟩
   rw [hj]
   have e1:((j:Int) == -1)=false:=by rw [beq_eq_false_iff_ne];omega
   have e2:((j:Int)+1 == -1)=false:=by rw [beq_eq_false_iff_ne];omega
   have e3:((j:Int)+1).toNat=j+1:=by omega
   simp only [e1,e2,e3,Bool.false_eq_true,if_false,Int.toNat_natCast]
   exact ⟨_,_,rfl,by simp⟩
theorem split_cut:∀ (l:List UInt8),Lib.splitK [47] 0 (Lib.count l [47]) l=cut l
 | []=>by
  have:Lib.count [] [47]=0:=by rw [Lib.count_one];rfl
  rw [this];rfl
 | c::r=>by
  by_cases h:c=47
  ·subst h
   rw [Lib.count_cons_eq,Nat.add_comm,splitK_eq,split_cut r,cut,if_pos rfl]
  ·rw [Lib.count_cons_ne _ _ _ h]
   obtain ⟨a,t,h1,h2⟩:=splitK_ne (Lib.count r [47]) r h
   rw [h2,cut,if_neg h]
   rw [split_cut r] at h1
   rw [h1]
end Go.Proofs.YtdhakbghdcfncaaGreatDoor.Pt
/- Plain mathematics of pointers: what they lead to. -/
namespace Go.Proofs.YtdhakbghdcfncaaGreatDoor.Pt
set_option linter.unusedVariables false
set_option linter.unusedSimpArgs false
open JV

def getM:List (List UInt8 × JV)→List UInt8→Option JV
 | [],_=>none
 | p::m,s=>if p.1=s then some p.2 else getM m s
def get (v:JV) (s:List UInt8):Option JV:=if v.kd=6 then getM v.ms s else none
def num (s:List UInt8) (L:Nat):Option Nat:=match Nm.allNum s with
 | some n=>if 0≤n∧n<(L:Nat) then some n.toNat else none
 | none=>none
def step (v:JV) (s:List UInt8):Option JV:=if v.kd=5 then (match num s v.ls.length with | some i=>v.ls[i]? | none=>none) else get v s
def flat (y:JV):List JV:=if y.kd=5 then y.ls else [y]
def gather (f:JV→Option JV):List JV→Option (List JV)
 | []=>some []
 | x::l=>(f x).bind fun y=>(gather f l).map (flat y ++ ·)
def find (st:Bool):List (List UInt8)→JV→Option JV
 | [],v=>some v
 | p::ps,v=>if st=true∧p=[42]∧v.kd=5 then (gather (find st ps) v.ls).map listV else (step v p).bind (find st ps)
theorem find_nil (st:Bool) (v:JV):find st [] v=some v:=rfl
theorem find_cons (st:Bool) (p:List UInt8) (ps:List (List UInt8)) (v:JV):find st (p::ps) v=if st=true∧p=[42]∧v.kd=5 then (gather (find st ps) v.ls).map listV else (step v p).bind (find st ps):=rfl
theorem gather_nil (f:JV→Option JV):gather f []=some []:=rfl
theorem gather_cons (f:JV→Option JV) (x:JV) (l:List JV):gather f (x::l)=(f x).bind fun y=>(gather f l).map (flat y ++ ·):=rfl
theorem getM_mem:∀ {m:List (List UInt8 × JV)} {s:List UInt8} {x:JV},getM m s=some x→(s,x)∈m
 | [],s,x,h=>by cases h
 | p::m,s,x,h=>by
  unfold getM at h
  split at h
  ·rename_i hp;subst hp;obtain rfl:=Option.some.inj h;exact List.mem_cons_self
  ·exact List.mem_cons_of_mem _ (getM_mem h)
theorem nvL_mem {x:JV}:∀ {l:List JV},x∈l→Rd.nv x≤Rd.nvL l
 | [],h=>by cases h
 | y::l,h=>by
  rw [Rd.nvL_cons]
  rcases List.mem_cons.1 h with rfl | h
  ·omega
  ·have:=nvL_mem h;omega
theorem nvM_mem {p:List UInt8 × JV}:∀ {m:List (List UInt8 × JV)},p∈m→Rd.nv p.2≤Rd.nvM m
 | [],h=>by cases h
 | y::l,h=>by
  rw [Rd.nvM_cons]
  rcases List.mem_cons.1 h with rfl | h
  ·omega
  ·have:=nvM_mem h;omega
theorem nv_eq (v:JV):Rd.nv v=1+Rd.nvL v.ls+Rd.nvM v.ms:=by cases v;exact Rd.nv_mk _ _ _ _ _
theorem nvL_len:∀ l:List JV,l.length≤Rd.nvL l
 | []=>by simp
 | v::l=>by rw [Rd.nvL_cons,List.length_cons];have:=nvL_len l;have:=Rd.nv_pos v;omega
theorem step_mem {v x:JV} {s:List UInt8} (h:step v s=some x):(v.kd=5∧x∈v.ls)∨(v.kd=6 ∧ ∃ n,(n,x)∈v.ms):=by
 unfold step at h
 split at h
 ·rename_i hk
  split at h
  ·exact .inl ⟨hk,List.mem_of_getElem? h⟩
  ·cases h
 ·unfold get at h
  split at h
  ·rename_i hk;exact .inr ⟨hk,s,getM_mem h⟩
  ·cases h
theorem step_nv {v x:JV} {s:List UInt8} (h:step v s=some x):Rd.nv x<Rd.nv v:=by
 rw [nv_eq v]
 rcases step_mem h with ⟨_,hm⟩ | ⟨_,n,hm⟩
 ·have:=nvL_mem hm;omega
 ·have:=nvM_mem hm;simp only at this;omega
theorem find_len (st:Bool):∀ (ps:List (List UInt8)) (v y:JV),find st ps v=some y→(flat y).length≤Rd.nv v
 | [],v,y,h=>by
  obtain rfl:=Option.some.inj h
  unfold flat
  split
  ·have:=nvL_len v.ls;rw [nv_eq v];omega
  ·have:=Rd.nv_pos v;simp;omega
 | p::ps,v,y,h=>by
  rw [find_cons] at h
  split at h
  ·have hg:∀ (l:List JV) (r:List JV),gather (find st ps) l=some r→r.length≤Rd.nvL l:=by
    intro l
    induction l with
    | nil=>intro r hr;obtain rfl:=Option.some.inj hr;simp
    | cons x l ih=>
     intro r hr
     rw [gather_cons] at hr
     cases hx:find st ps x with
     | none=>rw [hx] at hr;cases hr
     | some z=>
      rw [hx] at hr
      cases hq:gather (find st ps) l with
      | none=>rw [hq] at hr;cases hr
      | some q=>
       rw [hq] at hr
       obtain rfl:=Option.some.inj hr
       have h1:=find_len st ps x z hx
       have h2:=ih q hq
       rw [List.length_append,Rd.nvL_cons];omega
   cases hq:gather (find st ps) v.ls with
   | none=>rw [hq] at h;cases h
   | some r=>
    rw [hq] at h
    obtain rfl:=Option.some.inj h
    have:=hg _ _ hq
    rw [nv_eq v]
    show r.length≤_
    omega
  ·cases hs:step v p with
   | none=>rw [hs] at h;cases h
   | some x=>
    rw [hs] at h
    have h1:=find_len st ps x y h
    have h2:=step_nv hs
    omega
end Go.Proofs.YtdhakbghdcfncaaGreatDoor.Pt
/- Plain: where no part holds a star, both lead to the same. -/
namespace Go.Proofs.YtdhakbghdcfncaaGreatDoor.Pt
set_option linter.unusedVariables false
set_option linter.unusedSimpArgs false

end Go.Proofs.YtdhakbghdcfncaaGreatDoor.Pt
/- The walk of point.plain. -/
namespace Go.Proofs.YtdhakbghdcfncaaGreatDoor
set_option linter.unusedVariables false
set_option linter.unusedSimpArgs false
open Go.RowKit

structure PlI (s:ByteArray) (R:Option (List UInt8)) (k:Nat) (l:List UInt8):Prop where
 eq:R=(Pt.plain (s.data.toList.drop k)).map (l ++ ·)
 len:l.length≤k
theorem drop_at {s:ByteArray} {k:Nat} (hk:k<s.size) {c:UInt8} (hc:s[k]=c):s.data.toList.drop k=c::s.data.toList.drop (k+1):=by
 have hl:k<s.data.toList.length:=by simpa using hk
 rw [List.drop_eq_getElem_cons hl]
 have:s.data.toList[k]=s[k]:=by simp;rfl
 rw [this,hc]
theorem drop_out {s:ByteArray} {k:Nat} (hk:s.size≤k):s.data.toList.drop k=[]:=List.drop_eq_nil_of_le (by simpa using hk)
theorem PlI.start (s:ByteArray):PlI s (Pt.plain s.data.toList) 0 []:=⟨by simp,by simp⟩
theorem PlI.stop {s:ByteArray} {R:Option (List UInt8)} {k:Nat} {l:List UInt8} (h:PlI s R k l) (hk:s.size≤k):R=some l:=by
 rw [h.eq,drop_out hk];simp [Pt.plain]
theorem PlI.other {s:ByteArray} {R:Option (List UInt8)} {k:Nat} {l:List UInt8} (h:PlI s R k l) (hk:k<s.size) {c:UInt8} (hc:s[k]=c) (hn:c≠126):PlI s R (k+1) (l++[c]):=by
 refine ⟨?_,by have:=h.len;simp;omega⟩
 rw [h.eq,drop_at hk hc,Pt.plain_ne _ hn]
 cases Pt.plain (s.data.toList.drop (k+1)) <;> simp
theorem PlI.last {s:ByteArray} {R:Option (List UInt8)} {k:Nat} {l:List UInt8} (h:PlI s R k l) (hk:k<s.size) (hc:s[k]=126) (h2:s.size≤k+1):R=none:=by
 rw [h.eq,drop_at hk hc,drop_out h2];simp [Pt.plain]
theorem PlI.two {s:ByteArray} {R:Option (List UInt8)} {k:Nat} {l:List UInt8} (h:PlI s R k l) (hk:k<s.size) (hc:s[k]=126) (h2:k+1<s.size) {d:UInt8} (hd:s[k+1]=d):
  (d=48→PlI s R (k+2) (l++[126]))∧(d=49→PlI s R (k+2) (l++[47]))∧(d≠48→d≠49→R=none):=by
 have e:R=((if d=48 then (Pt.plain (s.data.toList.drop (k+2))).map (126 :: ·) else if d=49 then (Pt.plain (s.data.toList.drop (k+2))).map (47 :: ·) else none)).map (l ++ ·):=by
  rw [h.eq,drop_at hk hc,drop_at h2 hd,Pt.plain_two,if_pos rfl]
 have hl:=h.len
 refine ⟨fun hd=>⟨?_,by simp;omega⟩,fun hd=>⟨?_,by simp;omega⟩,fun h1 h2=>?_⟩
 ·rw [e,if_pos hd];cases Pt.plain (s.data.toList.drop (k+2)) <;> simp
 ·rw [e,if_neg (by rw [hd];decide),if_pos hd];cases Pt.plain (s.data.toList.drop (k+2)) <;> simp
 ·rw [e,if_neg h1,if_neg h2];rfl

def PlP (w:World):Option (List UInt8)→Ending→World→Prop
 | none,e,w'=>e=.returned (.tuple #[.string ⟨#[]⟩,.bool false])∧Fr w w'
 | some t,e,w'=>e=.returned (.tuple #[.string ⟨t.toArray⟩,.bool true])∧Fr w w'

theorem pplain_is (s:ByteArray) (w:World) (hs:s.size≤140737488351232):Calls Tryz.prog 84 #[.string s] w (PlP w (Pt.plain s.data.toList)):=by
 obtain ⟨R,hR⟩:∃ R,Pt.plain s.data.toList=R:=⟨_,rfl⟩
 rw [hR]
 have H0:Hid (PlI s R 0 []):=by rw [← hR];exact PlI.start s
 have hs':(s.size:Int)≤140737488351232:=by omega
 clear hR
 go_enter Tryz.func84,Tryz.ntmps84
 go_wp2_with fail
 go_loopw [4,5] (fun v j wr=>∃ (k:Nat) (l:List UInt8),k≤s.size∧j=.int .i64 k∧Hid (PlI s R k l)∧Hid (Bs wr w.heap.size v l)∧Hid (Fr w wr)) (fun _ j _=>s.size - (intOf j).toNat)
 case atStart=>exact ⟨0,[],by omega,rfl,H0,Lib.hid (Bs.none_ _ _),Lib.hid (Fr.refl _)⟩
 case round=>
  obtain ⟨k,l,hk,rfl,hI,hbs,hfr⟩:=hrel
  have hl9:l.length≤140737488351232:=by have:=hI.out.len;omega
  by_cases hlt:k<s.size
  ·have hlt':(k:Int)<(s.size:Int):=by omega
   obtain ⟨c,hc⟩:∃ c,s[k]=c:=⟨_,rfl⟩
   have hc256:=c.toNat_lt
   have hkk:(k:Int)≤140737488351232:=by omega
   by_cases h1:c=126
   ·subst h1
    by_cases h2:s.size≤k+1
    ·have e1:((k:Int)+1 == (s.size:Int))=true:=by rw [beq_iff_eq];omega
     have hr:=hI.out.last hlt hc h2
     subst hr
     go_wp2_with fail
     go_ret2
     exact ⟨rfl,hfr.out⟩
    ·have e1:((k:Int)+1 == (s.size:Int))=false:=by rw [beq_eq_false_iff_ne];omega
     have h3:k+1<s.size:=by omega
     obtain ⟨d,hd⟩:∃ d,s[k+1]=d:=⟨_,rfl⟩
     have hd256:=d.toNat_lt
     obtain ⟨q1,q2,q3⟩:=hI.out.two hlt hc h3 hd
     by_cases h4:d=48
     ·subst h4
      have HN:=Lib.hid (q1 rfl)
      clear q1 q2 q3
      go_wp2_with (at_builtin;refine wpl_bs_lit rfl (.tmp 40) (.tmp 42) rfl w hfr.out _ l rfl hbs.out [126] rfl rfl rfl rfl rfl (by simp;omega) ?_;intro v' w2 hps2 hfr2;have HP2:=Lib.hid hps2;have HF2:=Lib.hid hfr2;clear hps2 hfr2)
      exact ⟨⟨k+2,l++[126],by omega,by go_num,HN,HP2,HF2⟩,by simp [intOf];omega⟩
     by_cases h5:d=49
     ·subst h5
      have HN:=Lib.hid (q2 rfl)
      clear q1 q2 q3 h4
      go_wp2_with (at_builtin;refine wpl_bs_lit rfl (.tmp 40) (.tmp 42) rfl w hfr.out _ l rfl hbs.out [47] rfl rfl rfl rfl rfl (by simp;omega) ?_;intro v' w2 hps2 hfr2;have HP2:=Lib.hid hps2;have HF2:=Lib.hid hfr2;clear hps2 hfr2)
      exact ⟨⟨k+2,l++[47],by omega,by go_num,HN,HP2,HF2⟩,by simp [intOf];omega⟩
     ·have hr:=q3 h4 h5
      subst hr
      have b4:((d.toNat:Int) != 48)=true:=by
       rw [bne_iff_ne];intro x;apply h4;apply UInt8.toNat_inj.1;have:=x;simp only [UInt8.reduceToNat];omega
      have b5:((d.toNat:Int) != 49)=true:=by
       rw [bne_iff_ne];intro x;apply h5;apply UInt8.toNat_inj.1;have:=x;simp only [UInt8.reduceToNat];omega
      clear q1 q2 q3
      go_wp2_with fail
      go_ret2
      exact ⟨rfl,hfr.out⟩
   ·have b1:((c.toNat:Int) == 126)=false:=by
     rw [beq_eq_false_iff_ne];intro x;apply h1;apply UInt8.toNat_inj.1;have:=x;simp only [UInt8.reduceToNat];omega
    have HN:=Lib.hid (hI.out.other hlt hc h1)
    go_wp2_with (at_builtin;refine wpl_bs_lit rfl (.tmp 40) (.tmp 42) rfl w hfr.out _ l rfl hbs.out [c] rfl rfl rfl rfl rfl (by simp;omega) ?_;intro v' w2 hps2 hfr2;have HP2:=Lib.hid hps2;have HF2:=Lib.hid hfr2;clear hps2 hfr2)
    exact ⟨⟨k+1,l++[c],by omega,by go_num,HN,HP2,HF2⟩,by simp [intOf];omega⟩
  ·have hr:=hI.out.stop (by omega)
   subst hr
   have hcv:=hbs.out.conv
   go_wp2_with fail
   go_ret2
   exact ⟨rfl,hfr.out⟩
/- The walk of point.Parts. -/

theorem el_st:El 58 9 (.string ByteArray.empty) 16:=⟨Tryz.underlying58,by kernel_rfl,rfl⟩
def svs (l:List (List UInt8)):List Value:=l.map fun s=>.string ⟨s.toArray⟩
theorem svs_len (l:List (List UInt8)):(svs l).length=l.length:=by simp [svs]
theorem svs_app (a b:List (List UInt8)):svs (a++b)=svs a++svs b:=by simp [svs]
theorem svs_one (l:List (List UInt8)):∀ u∈svs l,u.oneCell'=true:=by
 intro u hu
 simp only [svs,List.mem_map] at hu
 obtain ⟨c,_,rfl⟩:=hu
 rfl
def Ssl (w:World) (base:Nat) (v:Value) (l:List (List UInt8)):Prop:=Row w base 9 v (svs l)
theorem Ssl.none_ (w:World) (base:Nat):Ssl w base (.slice none 0 0) []:=Row.none_ w base _
theorem Ssl.keep {w w':World} {base:Nat} {v:Value} {l:List (List UInt8)} (h:Ssl w base v l) (hf:Fr w w'):Ssl w' base v l:=Row.keep h hf
theorem wpl_ss_lit {ops:Array Oper} {rest:List Oper} {o:Oper} {a:Act} {w:World} {Q:Exit→Act→World→Prop} {cs:Array Value} {ad:Addr} {n m:Nat}
  (hgd:o.guard=none) (s x:Operand) (ho:o.op=.call { callee:=.builtin .append,args:=#[s,x],argTypes:=#[58,58] })
  (w0:World) (hfr:Fr w0 w) (v:Value) (l:List (List UInt8)) (hs:a.eval s=v) (hown:Ssl w w0.heap.size v l)
  (news:List (List UInt8)) (hx:a.eval x=.slice (some ad) n m) (had:ad=⟨w.heap.size,0,none⟩) (hn:n=news.length) (hm:m=news.length) (hcs:cs=(svs news).toArray) (h63:(l.length+news.length)*16≤140737488355328)
  (h:∀ v' w',Ssl w' w0.heap.size v' (l++news)→Fr w0 w'→wpList Tryz.prog ops Q rest (a.put o.dst v') w'):
  wpList Tryz.prog ops Q (o::rest) a (w.alloc (.cells cs 9)):=by
 subst hn;subst hm;subst hcs;subst had
 refine wpl_app_lit el_st hgd s x ho w0 hfr v (svs l) hs hown (svs news) (by rw [svs_len];exact hx) (svs_one _) (by rw [svs_len,svs_len];omega) (by rw [svs_len,svs_len];omega) ?_
 intro v' w' h2 h3
 exact h v' w' (by unfold Ssl;rw [svs_app];exact h2) h3
def PsC (w:World) (A:Option Addr) (l:List (List UInt8)):Prop:=l≠[] → ∃ b o,A=some ⟨b,o,none⟩∧b<w.heap.size ∧ ∀ i (h:i<l.length),w.cell? ⟨b,o+i,none⟩=some (.string ⟨l[i].toArray⟩)
theorem PsC.keep {w w':World} {A:Option Addr} {l:List (List UInt8)} (h:PsC w A l) (hf:Fr w w'):PsC w' A l:=by
 intro hne
 obtain ⟨b,o,hA,hb,hc⟩:=h hne
 exact ⟨b,o,hA,Nat.lt_of_lt_of_le hb hf.size,fun i hi=>(hf.cell hb).trans (hc i hi)⟩
theorem PsC.tail {w:World} {b o:Nat} {p:List UInt8} {l:List (List UInt8)} (h:PsC w (some ⟨b,o,none⟩) (p::l)):PsC w (some ⟨b,o+1,none⟩) l:=by
 intro hne
 obtain ⟨b',o',hA,hb,hc⟩:=h (by simp)
 simp only [Option.some.injEq,Addr.mk.injEq,and_true] at hA
 obtain ⟨rfl,rfl⟩:=hA
 refine ⟨b,o+1,rfl,hb,fun i hi=>?_⟩
 have:=hc (i+1) (by simpa using hi)
 rw [show o+(i+1)=o+1+i by omega] at this
 simpa using this
theorem Ssl.shows {w:World} {base:Nat} {v:Value} {l:List (List UInt8)} (h:Ssl w base v l):∃ A c,v=.slice A l.length c∧PsC w A l:=by
 rcases Row.form h with ⟨rfl,he⟩ | ⟨g,cap,rfl,hb,hlt,_,_,hcells⟩
 ·have:l=[]:=by simpa [svs] using he
  subst this
  exact ⟨none,0,rfl,fun h=>absurd rfl h⟩
 ·refine ⟨some ⟨g,0,none⟩,cap,by rw [svs_len],fun _=>⟨g,0,rfl,hlt,fun i hi=>?_⟩⟩
  have:=hcells i (.string ⟨l[i].toArray⟩) (by simp [svs,List.getElem?_eq_getElem hi])
  rw [Nat.zero_add];exact this

def MxL (w:World):Prop:=∃ m:Int,w.cell? ⟨2,0,none⟩=some (.int .i64 m)
theorem MxL.keep {w w':World} (h:MxL w) (hf:Fr w w'):MxL w':=by
 obtain ⟨m,hm⟩:=h
 have hb:=World.block_lt_of_cell? w ⟨2,0,none⟩ hm
 exact ⟨m,(hf.cell hb).trans hm⟩
namespace Pt
theorem cut_len:∀ (l:List UInt8),(cut l).length≤l.length+1
 | []=>by simp [cut]
 | c::r=>by
  have:=cut_len r
  unfold cut
  split
  ·simp;omega
  ·split
   ·simp
   ·rename_i h;rw [h] at this;simp at this ⊢;omega
theorem cut_each:∀ (l:List UInt8),∀ q∈cut l,q.length≤l.length
 | [],q,h=>by simp [cut] at h;subst h;simp
 | c::r,q,h=>by
  have ih:=cut_each r
  unfold cut at h
  split at h
  ·rcases List.mem_cons.1 h with rfl | h
   ·simp
   ·have:=ih q h;simp;omega
  ·split at h
   ·simp at h;subst h;simp
   ·rename_i h2
    rcases List.mem_cons.1 h with rfl | h
    ·have:=ih _ (by rw [h2];exact List.mem_cons_self);simp at this ⊢;omega
    ·have:=ih q (by rw [h2];exact List.mem_cons_of_mem _ h);simp at this ⊢;omega
end Pt
theorem split_is (s:ByteArray) (w:World) (hs:s.size<4294967281) (hM:MxL w):
  Calls Tryz.prog 83 #[.string s,.string ⟨#[47]⟩] w fun e w'=>e=.returned (.slice (some ⟨w.heap.size,0,none⟩) (Pt.cut s.data.toList).length (Pt.cut s.data.toList).length)∧PsC w' (some ⟨w.heap.size,0,none⟩) (Pt.cut s.data.toList)∧Fr w w':=by
 obtain ⟨m,hm⟩:=hM
 have hd:(Lib.splitB ⟨#[47]⟩ 0 (Lib.countB s ⟨#[47]⟩) s).map (·.data.toList)=Pt.cut s.data.toList:=by
  rw [Lib.splitB_data];exact Pt.split_cut s.data.toList
 have hlen:Lib.countB s ⟨#[47]⟩+1=(Pt.cut s.data.toList).length:=by
  rw [← hd,List.length_map]
  exact (Lib.splitB_all ⟨#[47]⟩ (by decide) 0 _ s rfl).symm
 refine (Tryz.strings_Split s ⟨#[47]⟩ m w hs hm (by decide)).mono ?_
 rintro e w' ⟨rfl,rfl⟩
 rw [hlen]
 refine ⟨rfl,fun _=>⟨_,_,rfl,by simp,fun i hi=>?_⟩,(Fr.refl w).alloc _⟩
 rw [World.cell?_alloc_at _ _ _ _ rfl,Nat.zero_add]
 have hi2:i<(Lib.splitB ⟨#[47]⟩ 0 (Lib.countB s ⟨#[47]⟩) s).length:=by rw [← hd,List.length_map] at hi;exact hi
 have e2:(Pt.cut s.data.toList)[i]=(Lib.splitB ⟨#[47]⟩ 0 (Lib.countB s ⟨#[47]⟩) s)[i].data.toList:=by
  simp only [← hd,List.getElem_map]
 rw [e2]
 show (List.toArray _)[i]? = _
 rw [List.getElem?_toArray,List.getElem?_map,List.getElem?_eq_getElem hi2]
 simp

structure PsI (qs:List (List UInt8)) (R:Option (List (List UInt8))) (i:Nat) (acc:List (List UInt8)):Prop where
 eq:R=(Pt.allP (qs.drop i)).map (acc ++ ·)
 len:acc.length=i
theorem PsI.start (qs:List (List UInt8)):PsI qs (Pt.allP qs) 0 []:=⟨by simp,rfl⟩
theorem PsI.stop {qs:List (List UInt8)} {R:Option (List (List UInt8))} {i:Nat} {acc:List (List UInt8)} (h:PsI qs R i acc) (hi:qs.length≤i):R=some acc:=by
 rw [h.eq,List.drop_eq_nil_of_le hi];simp [Pt.allP]
theorem PsI.bad {qs:List (List UInt8)} {R:Option (List (List UInt8))} {i:Nat} {acc:List (List UInt8)} (h:PsI qs R i acc) (hi:i<qs.length) {q:List UInt8} (hq:qs[i]=q) (hp:Pt.plain q=none):R=none:=by
 rw [h.eq,List.drop_eq_getElem_cons hi,hq,Pt.allP_def,hp];rfl
theorem PsI.next {qs:List (List UInt8)} {R:Option (List (List UInt8))} {i:Nat} {acc:List (List UInt8)} (h:PsI qs R i acc) (hi:i<qs.length) {q t:List UInt8} (hq:qs[i]=q) (hp:Pt.plain q=some t):PsI qs R (i+1) (acc++[t]):=by
 refine ⟨?_,by rw [List.length_append,h.len];rfl⟩
 rw [h.eq,List.drop_eq_getElem_cons hi,hq,Pt.allP_def,hp]
 cases Pt.allP (qs.drop (i+1)) <;> simp
def PtsP (w:World):Option (List (List UInt8))→Ending→World→Prop
 | none,e,w'=>e=.returned (.tuple #[.slice none 0 0,.int .i64 80])∧Fr w w'
 | some ps,e,w'=>∃ v,e=.returned (.tuple #[v,.int .i64 0])∧Ssl w' w.heap.size v ps∧Fr w w'

theorem parts_in (s:ByteArray) (w:World) (hs:s.size<4294967281) (hM:MxL w) (h0:0<s.size) (hc:s[0]=47) (R:Option (List (List UInt8))) (hR:Pt.allP (Pt.cut (s.data.toList.drop 1))=R):
  Calls Tryz.prog 66 #[.string s] w (PtsP w R):=by
 obtain ⟨T,hT,hTd⟩:∃ T:ByteArray,T=s.extract 1 s.size∧T.data.toList=s.data.toList.drop 1:=⟨_,rfl,by rw [Lib.extract_to_end]⟩
 have hTs:T.size<4294967281:=by rw [hT,ByteArray.size_extract];omega
 have HTS:=Lib.hid hTs
 obtain ⟨qs,hqs⟩:∃ qs,Pt.cut T.data.toList=qs:=⟨_,rfl⟩
 have HQ:=Lib.hid hqs
 have hql:qs.length≤4294967281:=by rw [← hqs];have:=Pt.cut_len T.data.toList;have e:T.data.toList.length=T.size:=(by simp);omega
 have HQE:Hid (∀ q∈qs,q.length≤4294967281):=by
  intro q hq
  have:=Pt.cut_each T.data.toList q (by rw [hqs];exact hq)
  have e:T.data.toList.length=T.size:=by simp
  omega
 have H0:Hid (PsI qs R 0 []):=by rw [← hR,← hTd,hqs];exact PsI.start qs
 have HM:=Lib.hid hM
 have hne:s.toList.isEmpty=false:=by
  rw [ByteArray.toList_eq]
  cases e:s.data.toList with
  | nil=>have:s.data.toList.length=s.size:=(by simp);rw [e] at this;simp at this;omega
  | cons c l=>rfl
 have hs':(s.size:Int)≤4294967281:=by omega
 have h0':(0:Int)<(s.size:Int):=by omega
 have h1':(1:Int)≤(s.size:Int):=by omega
 clear hR hqs hM hTs hTd
 subst hT
 go_enter Tryz.func66,Tryz.ntmps66
 go_wp2_with (go_at_call 83;refine (split_is (s.extract 1 s.size) _ HTS.out HM.out).mono ?_;rw [HQ.out];rintro e w1 ⟨rfl,hps,hf⟩;have HPS:=Lib.hid hps;have HF1:=Lib.hid hf;clear hf hps)
 go_loopw [4,18] (fun v j wr=>∃ (i:Nat) (acc:List (List UInt8)),i≤qs.length∧j=.int .i64 i∧Hid (PsI qs R i acc)∧Hid (Ssl wr w1.heap.size v acc)∧Hid (Fr w1 wr)) (fun _ j _=>qs.length - (intOf j).toNat)
 case atStart=>exact ⟨0,[],by omega,rfl,H0,Lib.hid (Ssl.none_ _ _),Lib.hid (Fr.refl _)⟩
 case round=>
  obtain ⟨i,acc,hi,rfl,hI,hss,hfr⟩:=hrel
  by_cases hlt:i<qs.length
  ·have hlt':(i:Int)<(qs.length:Int):=by omega
   obtain ⟨b,o,hA,hb,hcl⟩:=HPS.out (by intro e;rw [e] at hlt;simp at hlt)
   simp only [Option.some.injEq,Addr.mk.injEq,and_true] at hA
   obtain ⟨rfl,rfl⟩:=hA
   have c0:=(hfr.out.cell hb).trans (hcl i hlt)
   rw [Nat.zero_add] at c0
   obtain ⟨q,hq⟩:∃ q,qs[i]=q:=⟨_,rfl⟩
   rw [hq] at c0
   have hqz:Hid ((⟨q.toArray⟩:ByteArray).size≤140737488351232):=by
    have:=HQE.out q (by rw [← hq];exact List.getElem_mem hlt)
    show q.toArray.size≤_;rw [List.size_toArray];omega
   have hlen:=hI.out.len
   clear hcl
   rcases hp:Pt.plain q with _ | t
   ·have hr:=hI.out.bad hlt hq hp
    subst hr
    have HP:=Lib.hid hp
    clear hp hq
    go_wp2_with (go_at_call 84;refine (pplain_is ⟨q.toArray⟩ _ hqz.out).mono ?_;rw [show Pt.plain (⟨q.toArray⟩:ByteArray).data.toList=none from HP.out];rintro e w2 ⟨rfl,hf⟩;have HF2:=Lib.hid (hfr.out.trans hf);clear hf)
    go_ret2
    exact ⟨rfl,HF1.out.trans HF2.out⟩
   ·have HN:=Lib.hid (hI.out.next hlt hq hp)
    have HP:=Lib.hid hp
    clear hp hq
    go_wp2_with (first
     | (at_builtin;refine wpl_ss_lit rfl (.tmp 29) (.tmp 31) rfl w1 HF2.out _ acc rfl HS2.out [t] rfl rfl rfl rfl rfl (by simp only [List.length_cons,List.length_nil];omega) ?_;intro v3 w3 hs3 hf3;have HS3:=Lib.hid hs3;have HF3:=Lib.hid hf3;clear hs3 hf3)
     | (go_at_call 84;refine (pplain_is ⟨q.toArray⟩ _ hqz.out).mono ?_;rw [show Pt.plain (⟨q.toArray⟩:ByteArray).data.toList=some t from HP.out];rintro e w2 ⟨rfl,hf⟩;have HS2:=Lib.hid (hss.out.keep hf);have HF2:=Lib.hid (hfr.out.trans hf);clear hf))
    exact ⟨⟨i+1,acc++[t],by omega,by go_num,HN,HS3,HF3⟩,by simp [intOf];omega⟩
  ·have hr:=hI.out.stop (by omega)
   subst hr
   go_wp2_with fail
   go_ret2
   exact ⟨_,rfl,Row.mono hss.out HF1.out.size,HF1.out.trans hfr.out⟩

theorem parts_is (s:ByteArray) (w:World) (hs:s.size<4294967281) (hM:MxL w):
  Calls Tryz.prog 66 #[.string s] w (PtsP w (Pt.parts s.data.toList)):=by
 have hz:s.data.toList.length=s.size:=by simp
 rcases hd:s.data.toList with _ | ⟨c,r⟩
 ·have h0:s.size=0:=by rw [← hz,hd];rfl
  have hne:s.toList.isEmpty=true:=by rw [ByteArray.toList_eq,hd];rfl
  show Calls _ _ _ _ (PtsP w (some []))
  clear hd hz
  go_enter Tryz.func66,Tryz.ntmps66
  go_wp2_with fail
  go_ret2
  exact ⟨_,rfl,Ssl.none_ _ _,Fr.refl _⟩
 ·have h0:0<s.size:=by rw [← hz,hd];simp
  have hc:s[0]=c:=by
   have:=drop_at h0 (c:=s[0]) rfl
   rw [List.drop_zero,hd] at this
   exact (List.cons.inj this).1.symm
  by_cases h47:c=47
  ·subst h47
   rw [show Pt.parts (47::r)=Pt.allP (Pt.cut r) from by rw [Pt.parts,if_pos rfl]]
   exact parts_in s w hs hM h0 hc _ (by rw [hd];rfl)
  ·rw [show Pt.parts (c::r)=none from by rw [Pt.parts,if_neg h47]]
   have hne:s.toList.isEmpty=false:=by rw [ByteArray.toList_eq,hd];rfl
   have b1:((c.toNat:Int) != 47)=true:=by
    rw [bne_iff_ne];intro x;apply h47;apply UInt8.toNat_inj.1;simp only [UInt8.reduceToNat];omega
   have h0':(0:Int)<(s.size:Int):=by omega
   clear hd hz
   go_enter Tryz.func66,Tryz.ntmps66
   go_wp2_with fail
   go_ret2
   exact ⟨rfl,Fr.refl _⟩
/- The walk of point.Text. -/

def Aside (W wr:World) (X:Nat) (v:Value):Prop:=wr.heap[X]? = W.heap[X]? ∧ v.ownBlock≠some X∧X<W.heap.size∧W.heap.size≤wr.heap.size
/- The walks of the document's Parts, Text, SameParts. -/

theorem bl_beq' (a b:List UInt8):((⟨a.toArray⟩:ByteArray).toList == (⟨b.toArray⟩:ByteArray).toList)=decide (a=b):=by
 rw [ByteArray.toList_eq,ByteArray.toList_eq,Bool.eq_iff_iff];simp

structure RpI (s:ByteArray) (R:Option (List (List UInt8))) (k:Nat) (acc:List (List UInt8)) (cur:List UInt8):Prop where
 eq:(k=0∧acc=[]∧cur=[]∧R=Pt.go [] [] (s.data.toList.drop 1))∨(1≤k∧R=Pt.go acc cur (s.data.toList.drop k))
 l1:acc.length≤k
 l2:cur.length≤k
end Go.Proofs.YtdhakbghdcfncaaGreatDoor
