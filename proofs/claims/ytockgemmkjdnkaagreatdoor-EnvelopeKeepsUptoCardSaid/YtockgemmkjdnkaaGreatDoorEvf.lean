/- Chapter 25: capability, and the closure that asks for it. -/
import Derived.Test.YtockgemmkjdnkaaGreatDoorEva
import Derived.Test.YtockgemmkjdnkaaGreatDoorKa
import Derived.StillTailTactics
import Derived.Deep.RegionHeld
set_option maxRecDepth 100000
set_option maxHeartbeats 4000000
set_option linter.unusedVariables false
set_option linter.unusedSimpArgs false
namespace Go.Proofs.YtockgemmkjdnkaaGreatDoor
open Go.RowKit

def Pt.cap (s:ByteArray):Bool:=s.toList == ([117,114,110,58,105,101,116,102,58,112,97,114,97,109,115,58,106,109,97,112,58,99,111,114,101]:List UInt8) || s.toList == ([117,114,110,58,105,101,116,102,58,112,97,114,97,109,115,58,106,109,97,112,58,99,111,110,116,97,99,116,115]:List UInt8)
theorem cap_is (s:ByteArray) (w:World):Calls Tryz.prog 30 #[.string s] w λe w'=>e=.returned (.bool (Pt.cap s))/\Fr w w':=by
 obtain ⟨b1,h1⟩:∃ b:Bool,(s.toList == ([117,114,110,58,105,101,116,102,58,112,97,114,97,109,115,58,106,109,97,112,58,99,111,114,101]:List UInt8))=b:=⟨_,rfl⟩;obtain ⟨b2,h2⟩:∃ b:Bool,(s.toList == ([117,114,110,58,105,101,116,102,58,112,97,114,97,109,115,58,106,109,97,112,58,99,111,110,116,97,99,116,115]:List UInt8))=b:=⟨_,rfl⟩;unfold Pt.cap;rw [h1,h2];obtain ⟨b3,h3⟩:∃ b3:Bool,(b1 || b2)=b3:=⟨_,rfl⟩;rw [h3];have H3:=LH h3;clear h3
 cases b1
 ·cases b2;all_goals
   go_enter Tryz.func30,Tryz.ntmps30
   go_wp2_with fail
   go_ret
   exact ⟨by rw [<- H3.out];rfl,FR w⟩
 ·go_enter Tryz.func30,Tryz.ntmps30
  go_wp2_with fail
  go_ret
  exact ⟨by rw [<- H3.out];rfl,FR w⟩
theorem nocap_is (s:ByteArray) (w:World):Calls Tryz.prog 29 #[.string s] w λe w'=>e=.returned (.bool (!Pt.cap s))/\Fr w w':=by
 obtain ⟨b,hb⟩:∃ b,Pt.cap s=b:=⟨_,rfl⟩;rw [hb];have HB:=LH hb;clear hb;go_enter Tryz.func29,Tryz.ntmps29
 go_wp2_with (go_at_call 30;refine (cap_is _ _).mono ?_;rw [HB.out];rintro e w1 ⟨rfl,hf⟩;have HF1:=LH hf;clear hf)
 go_ret
 exact ⟨rfl,HF1.out⟩

def Pt.odd (l:List (List UInt8)):Bool:=l.any λq=>!Pt.cap ⟨q.toArray⟩
theorem Pt.odd_take {l:List (List UInt8)} {i:Nat} (hi:i<l.length):Pt.odd (l.take (i+1))=(Pt.odd (l.take i) || !Pt.cap ⟨l[i].toArray⟩):=by
 unfold Pt.odd;rw [List.take_succ_eq_append_getElem hi,List.any_append];simp
theorem Pt.odd_at {l:List (List UInt8)} {i:Nat} (hi:i<l.length) (h:Pt.cap ⟨l[i].toArray⟩=false):Pt.odd l=true:=by
 unfold Pt.odd;rw [List.any_eq_true];exact ⟨l[i],List.getElem_mem hi,by rw [h];rfl⟩
theorem idxodd_is (l:List (List UInt8)) (A:Option Addr) (c:Nat) (w:World) (h:PsC w A l) (hl:l.length<=140737488355328):
  Calls Tryz.prog 51 #[.slice A l.length c,(Value.func (.func 29) #[] #[])] w λe w'=>(∃ z:Int,e=.returned (.int .i64 z)/\((Pt.odd l=true/\0<=z)\/(Pt.odd l=false/\z = -1)))/\Fr w w':=by
 have HP:=LH h;have hl':(l.length:Int)<=140737488355328:=by omega
 clear h;go_enter Tryz.func51,Tryz.ntmps51
 go_wp2_with fail
 go_loopw [8] (λj wr=>∃ (i:Nat),i<=l.length/\j=.int .i64 i/\Hid (Pt.odd (l.take i)=false)/\Hid (Fr w wr)) (λj _=>l.length - (intOf j).toNat)
 case atStart=>exact ⟨0,by omega,rfl,LH rfl,LH (FR w)⟩
 case round=>
  obtain ⟨i,hi,rfl,hO,hF⟩:=hrel;by_cases hlt:i<l.length
  ·have hlt':(i:Int)<(l.length:Int):=by omega
   obtain ⟨b,o,rfl,hb,hc⟩:=HP.out (λe=>by rw [e] at hlt;simp at hlt);have hci:=(hF.out.cell hb).trans (hc i hlt);obtain ⟨q,hq⟩:∃ q,l[i]=q:=⟨_,rfl⟩;rw [hq] at hci;obtain ⟨cb,hcb⟩:∃ cb,Pt.cap ⟨q.toArray⟩=cb:=⟨_,rfl⟩;have HCB:=LH hcb;have HQ:=LH hq;clear hc hb hcb hq
   cases cb
   ·go_wp2_with (go_at_call 29;refine (nocap_is _ _).mono ?_;rw [HCB.out];rintro e w1 ⟨rfl,hf⟩;have HF1:=LH (hF.out.trans hf);clear hf)
    go_ret
    exact ⟨⟨_,rfl,.inl ⟨Pt.odd_at hlt (by rw [HQ.out];exact HCB.out),by omega⟩⟩,HF1.out⟩
   ·go_wp2_with (go_at_call 29;refine (nocap_is _ _).mono ?_;rw [HCB.out];rintro e w1 ⟨rfl,hf⟩;have HF1:=LH (hF.out.trans hf);clear hf)
    exact ⟨⟨i+1,by omega,by go_num,LH (by rw [Pt.odd_take hlt,hO.out,HQ.out,HCB.out];rfl),HF1⟩,by simp [intOf];omega⟩
  ·obtain rfl:i=l.length:=by omega
   go_wp2_with fail
   go_ret
   exact ⟨⟨_,rfl,.inr ⟨by have:=hO.out;rwa [List.take_length] at this,rfl⟩⟩,hF.out⟩
theorem codd_is (l:List (List UInt8)) (A:Option Addr) (c:Nat) (w:World) (h:PsC w A l) (hl:l.length<=140737488355328) (b:Bool) (hb:Pt.odd l=b):
  Calls Tryz.prog 28 #[.slice A l.length c,(Value.func (.func 29) #[] #[])] w λe w'=>e=.returned (.bool b)/\Fr w w':=by
 have HI:Hid (Calls Tryz.prog 51 #[.slice A l.length c,(Value.func (.func 29) #[] #[])] w λe w'=>(∃ z:Int,e=.returned (.int .i64 z)/\((b=true/\0<=z)\/(b=false/\z = -1)))/\Fr w w'):=LH (by rw [<- hb];exact idxodd_is l A c w h hl);clear h hb
 cases b
 ·go_enter Tryz.func28,Tryz.ntmps28
  go_wp2_with (go_at_call 51;refine HI.out.mono ?_;rintro e w1 ⟨⟨z,rfl,hz⟩,hf⟩;obtain rfl:z = -1:=(by simpa using hz);have HF1:=LH hf;clear hf)
  go_ret
  exact ⟨rfl,HF1.out⟩
 ·go_enter Tryz.func28,Tryz.ntmps28
  go_wp2_with (go_at_call 51;refine HI.out.mono ?_;rintro e w1 ⟨⟨z,rfl,hz⟩,hf⟩;have hz0:0<=z:=(by simpa using hz);have HF1:=LH hf;clear hf hz)
  go_ret
  exact ⟨rfl,HF1.out⟩
/- Chapter 25: the closure that asks for a map. -/

theorem ismap_is (v:JV) (B:Option Addr) (d:Nat) (B':Option Addr) (d':Nat) (w:World) (b:Bool) (hb:decide (v.kd=6)=b):
  Calls Tryz.prog 24 #[.agg #[.int .i64 v.kd,.int .i64 v.nm,.string ⟨v.tx.toArray⟩,.slice B v.ls.length d,.slice B' v.ms.length d']] w λe w'=>e=.returned (.bool b)/\Fr w w':=by
 have h6:(v.kd == 6)=b:=by rw [<- hb];by_cases h:v.kd=6 <;> simp [h]
 clear hb;go_enter Tryz.func24,Tryz.ntmps24
 go_wp2_with fail
 go_ret
 exact ⟨rfl,(FR w).alloc _⟩
/- Chapter 25: Request.using. -/

theorem Row.frx {w w':World} {R base:Nat} {e:TypeId} {v:Value} {xs:List Value} (h:Row w base e v xs) (hR:R<base) (hf:FrX R w w'):Row w' base e v xs:=by
 refine ⟨h.1,?_⟩;rcases h.2 with hn | ⟨g,cap,cur,rfl,hb,hg,rest⟩
 ·exact .inl hn
 ·exact .inr ⟨g,cap,cur,rfl,hb,(hf.blk (Array.getElem?_eq_some_iff.1 hg).1 (by omega)).trans hg,rest⟩
theorem FrX.grown2 {R:Nat} {w a b:World} {v:Value} (h:FrX R w a) (hg:a.grownBy b v.ownBlock) (hv:∀ k,v.ownBlock=some k->w.heap.size<=k):FrX R w b:=
 ⟨hg.os.trans (World.grownBy.os h),hg.tape.trans (World.grownBy.tape h),hg.output.trans (World.grownBy.output h),lT h.size hg.size,λk hk hne=>by
  rw [hg.block k (lL hk h.size) (λe=>by have:=hv k e.symm;omega)];exact World.grownBy.block h k hk hne⟩
theorem wpl_sg_lit {ops:Array Oper} {rest:List Oper} {o:Oper} {a:Act} {w:World} {Q:Exit->Act->World->Prop} {cs:Array Value} {ad:Addr}
  (hgd:o.guard=none) (s x:Operand) (ho:o.op=.call { callee:=.builtin .append,args:=#[s,x],argTypes:=#[22,22] })
  (base:Nat) (hb:base<=w.heap.size) (v:Value) (l:List (List UInt8)) (hs:a.eval s=v) (hown:Ssl w base v l) (t:List UInt8) (hcs:cs=#[.string ⟨t.toArray⟩]) (hx:a.eval x=.slice (some ad) 1 1) (had:ad=⟨w.heap.size,0,none⟩) (h63:(l.length+1)*16<=140737488355328)
  (h:∀ v' w',Ssl w' base v' (l++[t])->(w.alloc (.cells cs 9)).grownBy w' v.ownBlock->wpList Tryz.prog ops Q rest (a.put o.dst v') w'):
  wpList Tryz.prog ops Q (o::rest) a (w.alloc (.cells cs 9)):=by
 subst had;have hal:=(FR w).alloc (.cells cs 9);obtain ⟨i,hi,hz,hsz,hby⟩:=info_parts el_st.info;have hbk:=Blk.made w cs 9;refine wpList_plain hgd λK2 hK=>?_
 obtain ⟨v',w',hr,h3,h4,_,_⟩:=run_append_own_at (P:=Tryz.prog) (w.alloc (.cells cs 9)) base 22 o.type 9 i _ 1 16 el_st.sl hi hz hsz hby el_st.one (by omega) v _ (svs l) (Row.keep hown hal) ⟨w.heap.size,0,none⟩ 1 1 (svs [t]) (by simp [svs_len]) (λj u hu=>by
  have hj:(Addr.mk w.heap.size 0 none).add j=⟨w.heap.size,j,none⟩:=by
   by_cases h0:j=0
   ·subst h0;simp [Addr.add]
   ·simp [Addr.add,h0]
  rw [hj,hbk.cell j];subst hcs;simpa [svs] using hu) (svs_one _) (by rw [svs_len];unfold maxLen;omega) (by rw [svs_len];omega) (by simp;omega)
 unfold Oper.wp execOp;simp only [ho,resolve,invoke,builtin,Sem.run_bind,Sem.run_pure,Result.andThen_ok,List.map_toArray,List.map_cons,List.map_nil,hs,hx,hr];exact hK _ _ (h v' w' (by unfold Ssl Row;rw [svs_app];simpa [svs_len] using h3) h4)
theorem step_sg_lit {ops:Array Oper} {o:Oper} {a:Act} {w:World} {K:Act->World->Prop} {Q:Exit->Act->World->Prop} {E:Prop} {cs:Array Value}
  (hgd:o.guard=none) (s x:Operand) (ho:o.op=.call { callee:=.builtin .append,args:=#[s,x],argTypes:=#[22,22] })
  (base:Nat) (hb:base<=w.heap.size) (v:Value) (l:List (List UInt8)) (hs:a.eval s=v) (hown:Ssl w base v l) (t:List UInt8) (hcs:cs=#[.string ⟨t.toArray⟩]) (hx:a.eval x=.slice (some ⟨w.heap.size,0,none⟩) 1 1) (h63:(l.length+1)*16<=140737488355328)
  (h:∀ v' w',Ssl w' base v' (l++[t])->(w.alloc (.cells cs 9)).grownBy w' v.ownBlock->K (a.put o.dst v') w'):
  if Region.wanted o (yielded ops a.tmps)=true then Oper.wp Tryz.prog o a (w.alloc (.cells cs 9)) K Q else E:=by
 have hw:Region.wanted o (yielded ops a.tmps)=true:=by simp [Region.wanted,hgd]
 rw [if_pos hw];have hal:=(FR w).alloc (.cells cs 9);obtain ⟨i,hi,hz,hsz,hby⟩:=info_parts el_st.info;have hbk:=Blk.made w cs 9;obtain ⟨v',w',hr,h3,h4,_,_⟩:=run_append_own_at (P:=Tryz.prog) (w.alloc (.cells cs 9)) base 22 o.type 9 i _ 1 16 el_st.sl hi hz hsz hby el_st.one (by omega) v _ (svs l) (Row.keep hown hal) ⟨w.heap.size,0,none⟩ 1 1 (svs [t]) (by simp [svs_len]) (λj u hu=>by
  have hj:(Addr.mk w.heap.size 0 none).add j=⟨w.heap.size,j,none⟩:=by
   by_cases h0:j=0
   ·subst h0;simp [Addr.add]
   ·simp [Addr.add,h0]
  rw [hj,hbk.cell j];subst hcs;simpa [svs] using hu) (svs_one _) (by rw [svs_len];unfold maxLen;omega) (by rw [svs_len];omega) (by simp;omega)
 unfold Oper.wp execOp;simp only [ho,resolve,invoke,builtin,Sem.run_bind,Sem.run_pure,Result.andThen_ok,List.map_toArray,List.map_cons,List.map_nil,hs,hx,hr];exact h v' w' (by unfold Ssl Row;rw [svs_app];simpa [svs_len] using h3) h4
theorem Row.own {w:World} {base:Nat} {e:TypeId} {v:Value} {xs:List Value} (h:Row w base e v xs) {k:Nat} (hk:v.ownBlock=some k):base<=k/\k<w.heap.size:=by
 rcases h.2 with ⟨hn,_⟩ | ⟨g,cap,cur,rfl,hb,hg,_⟩
 ·subst hn;simp [Value.ownBlock] at hk
 ·simp [Value.ownBlock] at hk
  subst hk;exact ⟨hb,(Array.getElem?_eq_some_iff.1 hg).1⟩
theorem Row.lower {w:World} {base base':Nat} {e:TypeId} {v:Value} {xs:List Value} (h:Row w base e v xs) (hle:base'<=base):Row w base' e v xs:=by
 refine ⟨h.1,?_⟩;rcases h.2 with hn | ⟨g,cap,cur,hv,hb,rest⟩
 ·exact .inl hn
 ·exact .inr ⟨g,cap,cur,hv,lT hle hb,rest⟩
theorem Row.setX {w:World} {R base:Nat} {e:TypeId} {v:Value} {xs:List Value} (h:Row w base e v xs) (hR:R<base) (u:Value):Row (w.setCell ⟨R,0,none⟩ u) base e v xs:=h.frx hR ((FrX.refl R w).setCell rfl u)
theorem box4r {w:World} {X:Nat} {a b c d:Value} {t:TypeId} (h:Blk w X #[a,b,c,d] t):(w.cell? ⟨X,0,none⟩=some a/\w.cell? ⟨X,1,none⟩=some b/\w.cell? ⟨X,2,none⟩=some c/\w.cell? ⟨X,3,none⟩=some d)/\w.frozen? ⟨X,0,none⟩=false/\w.frozen? ⟨X,1,none⟩=false/\w.frozen? ⟨X,2,none⟩=false/\w.frozen? ⟨X,3,none⟩=false:=
 ⟨⟨h.cell 0,h.cell 1,h.cell 2,h.cell 3⟩,h.free 0,h.free 1,h.free 2,h.free 3⟩
def Pt.allT (l:List JV):Bool:=l.all λu=>u.kd == 4
theorem Pt.allT_take {l:List JV} {i:Nat} (h:i<l.length):Pt.allT (l.take (i+1))=(Pt.allT (l.take i) && (l[i].kd == 4)):=by
 unfold Pt.allT;rw [List.take_succ_eq_append_getElem h,List.all_append];simp
theorem Pt.take_tx {l:List JV} {i:Nat} (h:i<l.length):(l.take (i+1)).map JV.tx=(l.take i).map JV.tx++[l[i].tx]:=by
 rw [List.take_succ_eq_append_getElem h,List.map_append];rfl
theorem Pt.allT_no {l:List JV} {i:Nat} (h:i<l.length) (hk:l[i].kd≠4):Pt.allT l=false:=by
 unfold Pt.allT;rw [List.all_eq_false];exact ⟨_,List.getElem_mem h,by simpa using hk⟩

theorem using_is (v:JV) (B:Option Addr) (d:Nat) (B':Option Addr) (d':Nat) (R:Nat) (cs crs hb:Value) (w:World) (hv:InV w (Lo R) v (vA v B d B' d')) (hr:Blk w R #[(.slice none 0 0),cs,crs,hb] 26) (hn:Rd.nv v<=1048576) (x:JV) (hx:(Pt.get v [117,115,105,110,103]).getD JV.zeroV=x) (b:Bool) (hb2:(Pt.allT x.ls && (x.kd == 5))=b):
  Calls Tryz.prog 25 #[.pointer (some ⟨R,0,none⟩),.agg #[.int .i64 v.kd,.int .i64 v.nm,.string ⟨v.tx.toArray⟩,.slice B v.ls.length d,.slice B' v.ms.length d']] w λe w'=>e=.returned (.bool b)/\FrX R w w' /\ ∃ us acc,Blk w' R #[us,cs,crs,hb] 26/\Ssl w' w.heap.size us acc/\(b=true->acc=x.ls.map JV.tx):=by
 have hRw:R<w.heap.size:=hr.lt;have HG:Hid (∀ W,Fr w W->Calls Tryz.prog 34 #[.agg #[.int .i64 v.kd,.int .i64 v.nm,.string ⟨v.tx.toArray⟩,.slice B v.ls.length d,.slice B' v.ms.length d'],.string ⟨#[117,115,105,110,103]⟩] W λe w'=>(∃ (P:Option Addr) (p:Nat) (P':Option Addr) (p':Nat) (t:Bool),e=.returned (.tuple #[.agg #[.int .i64 x.kd,.int .i64 x.nm,.string ⟨x.tx.toArray⟩,.slice P x.ls.length p,.slice P' x.ms.length p'],.bool t])/\InV w' (Lo R) x (vA x P p P' p'))/\Fr W w'):=LH (λW hW=>by
  have h1:=get_is v B d B' d' [117,115,105,110,103] W R (lT (Nat.le_of_lt hRw) hW.size) (hv.keep (Nat.le_of_lt hRw) hW)
  cases hg:Pt.get v [117,115,105,110,103] with
  | none=>
   rw [hg] at h1 hx;obtain rfl:JV.zeroV=x:=hx;refine h1.mono ?_;rintro e w' ⟨he,hf⟩;exact ⟨⟨none,0,none,0,false,he,zeroV_in w' _⟩,hf⟩
  | some y=>
   rw [hg] at h1 hx;obtain rfl:y=x:=hx;refine h1.mono ?_;rintro e w' ⟨C,f,C',f',he,hin,hf⟩;exact ⟨⟨C,f,C',f',true,he,hin⟩,hf⟩)
 have HF1:Hid (Fr w (w.alloc (.cells #[.int .i64 v.kd,.int .i64 v.nm,.string ⟨v.tx.toArray⟩,.slice B v.ls.length d,.slice B' v.ms.length d'] 29))):=(FR w).alloc _;have HR:=LH hr;obtain ⟨_,_,_,hll63,_⟩:True/\True/\True/\x.ls.length<=1048576/\True:=by
  refine ⟨trivial,trivial,trivial,?_,trivial⟩
  cases hg:Pt.get v [117,115,105,110,103] with
  | none=>rw [hg] at hx;obtain rfl:JV.zeroV=x:=hx;simp [JV.zeroV,JV.ls]
  | some y=>
   rw [hg] at hx;obtain rfl:y=x:=hx;have h1:Pt.step v [117,115,105,110,103]=some y\/Pt.get v [117,115,105,110,103]=some y:=.inr hg;have:=Pt.nvL_len y.ls;have h2:=Pt.nv_eq y;have h3:Rd.nv y<=Rd.nv v:=by
    unfold Pt.get at hg;split at hg
    ·have:=Pt.nvM_mem (Pt.getM_mem hg);have h4:=Pt.nv_eq v;simp only at this;omega
    ·cases hg
   omega
 have hlen:(x.ls.length:Int)<=140737488355328:=by omega
 have HB:=LH hb2;clear hv hr hx hb2;go_enter Tryz.func25,Tryz.ntmps25
 go_upto_region 2 with (go_at_call 34;refine (HG.out _ HF1.out).mono ?_;rintro e w1 ⟨⟨P,p,P',p',t,rfl,hin⟩,hf⟩;have HIN:=LH hin;have HF2:=LH (HF1.out.trans hf);clear hin hf)
 have hf5:=HF2.out.alloc (.cells #[.int .i64 x.kd,.int .i64 x.nm,.string ⟨x.tx.toArray⟩,.slice P x.ls.length p,.slice P' x.ms.length p'] 29);have hb5:=Blk.made w1 #[.int .i64 x.kd,.int .i64 x.nm,.string ⟨x.tx.toArray⟩,.slice P x.ls.length p,.slice P' x.ms.length p'] 29;have hi5:=HIN.out.keep (lT (Nat.le_of_lt hRw) HF2.out.size) ((FR w1).alloc (.cells #[.int .i64 x.kd,.int .i64 x.nm,.string ⟨x.tx.toArray⟩,.slice P x.ls.length p,.slice P' x.ms.length p'] 29));generalize (w1.alloc (.cells #[.int .i64 x.kd,.int .i64 x.nm,.string ⟨x.tx.toArray⟩,.slice P x.ls.length p,.slice P' x.ms.length p'] 29))=W5 at hf5 hb5 hi5 ⊢;generalize w1.heap.size=X5 at hb5 ⊢;have HR5:=LH (HR.out.keep hf5);obtain ⟨⟨b0,b1,b2,b3,b4⟩,_⟩:=box5 hb5;obtain ⟨A1,k5,A1',k6,he,hls,_⟩:=hi5.open_;have hA:P=A1:=by obtain ⟨_,_,_,e3,_⟩:=five he;injection e3
 subst hA;have HB5:=LH hb5;have HL5:=LH hls;have HX5:Hid (FrX R w W5):=FrX.of hf5;have hnX:X5≠R:=λe=>by subst e;exact absurd (HR5.out.symm.trans hb5) (by simp)
 clear hi5 hls he hf5 hb5;go_wp2_with fail
 go_loopw [17] (λj wr=>∃ (i:Nat) (us:Value) (acc:List (List UInt8)),i<=x.ls.length/\j=.int .i64 i/\Hid (FrX R W5 wr)/\Hid (Blk wr R #[us,cs,crs,hb] 26)/\Hid (Ssl wr W5.heap.size us acc)/\Hid (acc=(x.ls.take i).map JV.tx/\Pt.allT (x.ls.take i)=true)/\Hid (Blk wr X5 #[.int .i64 x.kd,.int .i64 x.nm,.string ⟨x.tx.toArray⟩,.slice P x.ls.length p,.slice P' x.ms.length p'] 29)/\Hid (LsC wr (Lo R) P x.ls)) (λj _=>x.ls.length - (intOf j).toNat)
 case atStart=>exact ⟨0,_,[],by omega,rfl,LH (FrX.refl R W5),HR5,LH (Ssl.none_ _ _),LH ⟨rfl,rfl⟩,HB5,HL5⟩
 case round=>
  obtain ⟨i,us,acc,hi,rfl,hX,hRr,hS,hA,hB,hL⟩:=hrel;obtain ⟨⟨x0,x1,x2,x3,x4⟩,_⟩:=box5 hB.out;by_cases hlt:i<x.ls.length
  ·have hlt':(i:Int)<(x.ls.length:Int):=by omega
   obtain ⟨b5,o5,E,e,E',e',rfl,hbb,⟨c1,c2,c3,c4,c5⟩,hu⟩:=hL.out i hlt;obtain ⟨u,hxu⟩:∃ u,x.ls[i]=u:=⟨_,rfl⟩;rw [hxu] at c1 c2 c3 c4 c5 hu;by_cases hk:u.kd=4
   ·have q4:(u.kd != 4)=false:=by rw [bne_eq_false_iff_eq];exact hk
    have HU4:Hid ((u.kd == 4)=true):=LH (by rw [beq_iff_eq];exact hk);clear hk;go_upto_region 7 with fail
    have hb8:=Blk.made wr #[Value.int .i64 u.kd,Value.int .i64 u.nm,.string ⟨u.tx.toArray⟩,.slice E u.ls.length e,.slice E' u.ms.length e'] 29;have hf8:Fr wr (wr.alloc (.cells #[Value.int .i64 u.kd,Value.int .i64 u.nm,.string ⟨u.tx.toArray⟩,.slice E u.ls.length e,.slice E' u.ms.length e'] 29)):=(FR wr).alloc _;generalize (wr.alloc (.cells #[Value.int .i64 u.kd,Value.int .i64 u.nm,.string ⟨u.tx.toArray⟩,.slice E u.ls.length e,.slice E' u.ms.length e'] 29))=W8 at hb8 hf8 ⊢;generalize wr.heap.size=X8 at hb8 ⊢;have hrb:=hRr.out.keep hf8;obtain ⟨⟨r0,r1,r2,r3⟩,rf0,rf1,rf2,rf3⟩:=box4r hrb;obtain ⟨⟨y0,y1,y2,y3,y4⟩,_⟩:=box5 hb8;have hle8:W5.heap.size<=W8.drew.heap.size:=lT hX.out.size hf8.size;have hs8:Ssl W8.drew W5.heap.size us acc:=(hS.out.keep hf8).keep (FR _).drew;have hk16:(acc.length+1)*16<=140737488355328:=by rw [hA.out.1];simp;omega
    obtain ⟨⟨r0a,_⟩,_⟩:=box4r (hrb.keep ((FR _).drew.alloc (.cells #[.string ⟨u.tx.toArray⟩] 9)));obtain ⟨⟨r0b,_⟩,_⟩:=box4r (hrb.keep ((FR _).alloc (.cells #[.string ⟨u.tx.toArray⟩] 9)));have hown:∀ k,us.ownBlock=some k->W5.heap.size<=k/\k<W8.drew.heap.size:=λk hk=>Row.own hs8 hk
    have hx9:∀ w9,(W8.drew.alloc (.cells #[.string ⟨u.tx.toArray⟩] 9)).grownBy w9 us.ownBlock->FrX R W5 w9:=λw9 hg=>FrX.grown2 (((hX.out.fr hf8).drew).alloc _) hg (λk hk=>(hown k hk).1)
    have rf9:∀ w9,(W8.drew.alloc (.cells #[.string ⟨u.tx.toArray⟩] 9)).grownBy w9 us.ownBlock->Blk w9 R #[us,cs,crs,hb] 26:=λw9 hg=>(hg.block R (lL hrb.lt ((FR _).drew.alloc _).size) (λe=>by have:=(hown R e.symm).1;have:=HR5.out.lt;omega)).trans (hrb.keep ((FR _).drew.alloc _))
    have hy9:∀ w9,(W8.drew.alloc (.cells #[.string ⟨u.tx.toArray⟩] 9)).grownBy w9 us.ownBlock->Blk w9 X5 #[.int .i64 x.kd,.int .i64 x.nm,.string ⟨x.tx.toArray⟩,.slice (some ⟨b5,o5,none⟩) x.ls.length p,.slice P' x.ms.length p'] 29:=λw9 hg=>HB5.out.frx (hx9 w9 hg) hnX
    have hrz:∀ w9,(W8.drew.alloc (.cells #[.string ⟨u.tx.toArray⟩] 9)).grownBy w9 us.ownBlock->R<w9.heap.size:=λw9 hg=>(rf9 w9 hg).lt
    have hl9:∀ w9,(W8.drew.alloc (.cells #[.string ⟨u.tx.toArray⟩] 9)).grownBy w9 us.ownBlock->LsC w9 (Lo R) (some ⟨b5,o5,none⟩) x.ls:=λw9 hg=>HL5.out.frx (Nat.le_of_lt HR5.out.lt) (hx9 w9 hg)
    have hR5:R<W5.heap.size:=HR5.out.lt;refine wp_region_any (by kernel_rfl) ?_;try (change wpAny _ _ _ _ _ _ _ (World.drew _))
    refine wpAny_take (i:=0) (v:=?_) rfl (by kernel_rfl) (by kernel_rfl) (by kernel_rfl) (λ_ _ _ h=>h) (Or.inl ⟨by rfl,?_⟩) ?_;rotate_left
    ·(intro w';go_simp;try with_reducible rfl)
    (try simp only [Act.put,fl]);refine wpAny_take (i:=1) (v:=?_) rfl (by kernel_rfl) (by kernel_rfl) (by kernel_rfl) (λ_ _ _ h=>h) (Or.inl ⟨by rfl,?_⟩) ?_;rotate_left
    ·(intro w';go_simp;try with_reducible rfl)
    (try simp only [Act.put,fl]);refine wpAny_take (i:=2) (v:=?_) rfl (by kernel_rfl) (by kernel_rfl) (by kernel_rfl) (λ_ _ _ h=>h) (Or.inl ⟨by rfl,?_⟩) ?_;rotate_left
    ·(intro w';go_simp;try with_reducible rfl)
    (try simp only [Act.put,fl]);refine wpAny_take (i:=3) (v:=?_) rfl (by kernel_rfl) (by kernel_rfl) (by kernel_rfl) (λ_ _ _ h=>h) (Or.inl ⟨by rfl,?_⟩) ?_;rotate_left
    ·(intro w';go_simp;try with_reducible rfl)
    (try simp only [Act.put,fl]);refine wpAny_take (i:=5) (v:=?_) rfl (by kernel_rfl) (by kernel_rfl) (by kernel_rfl) (λ_ _ _ h=>h) (Or.inl ⟨by rfl,?_⟩) ?_;rotate_left
    ·(intro w';go_simp;try with_reducible rfl)
    (try simp only [Act.put,fl]);refine wpAny_ready (rs:=[4,6]) (by kernel_rfl) (by simp) ?_;refine AllReady.cons rfl (λK hK=>?_) (AllReady.cons rfl (λK hK=>?_) AllReady.nil)
    ·go_simp
     refine hK _ _ ?_;clear hK K;(try simp only [Act.put,fl]);refine wpAny_ready (rs:=[6]) (by kernel_rfl) (by simp) ?_;refine AllReady.cons rfl (λK hK=>?_) AllReady.nil;go_simp
     refine hK _ _ ?_;clear hK K;(try simp only [Act.put,fl]);refine wpAny_ready (rs:=[7]) (by kernel_rfl) (by simp) ?_;refine AllReady.cons rfl (λK hK=>?_) AllReady.nil;go_simp
     refine hK _ _ ?_;clear hK K;(try simp only [Act.put,fl]);refine wpAny_ready (rs:=[8]) (by kernel_rfl) (by simp) ?_;refine AllReady.cons rfl (λK hK=>?_) AllReady.nil;refine step_sg_lit rfl (.tmp 28) (.tmp 31) rfl W5.heap.size hle8 us acc rfl hs8 u.tx rfl rfl hk16 ?_;intro v9 w9 hs9 hg9;refine hK _ _ ?_;clear hK K;(try simp only [Act.put,fl]);obtain ⟨A9,c9,rfl,_⟩:=hs9.shows;have h9:=LH (rf9 w9 hg9);obtain ⟨⟨g0,g1,g2,g3⟩,gf0,gf1,gf2,gf3⟩:=box4r h9.out;refine wpAny_ready (rs:=[9]) (by kernel_rfl) (by simp) ?_;refine AllReady.cons rfl (λK hK=>?_) AllReady.nil;go_simp
     refine hK _ _ ?_;clear hK K;(try simp only [Act.put,fl]);refine wpAny_ready (rs:=[10]) (by kernel_rfl) (by simp) ?_;refine AllReady.cons rfl (λK hK=>?_) AllReady.nil;go_simp
     refine hK _ _ ?_;clear hK K;(try simp only [Act.put,fl]);refine wpAny_ready (rs:=[11]) (by kernel_rfl) (by simp) ?_;refine AllReady.cons rfl (λK hK=>?_) AllReady.nil;go_simp
     refine hK _ _ ?_;clear hK K;(try simp only [Act.put,fl]);refine wpAny_done (by kernel_rfl) ?_ _;go_wp2_with fail
     exact ⟨⟨i+1,_,acc++[u.tx],by omega,by go_num,LH ((hx9 w9 hg9).setCell rfl _),LH (by have:=h9.out.set 0 (.slice A9 (acc++[u.tx]).length c9);simpa using this),LH (Row.setX hs9 hR5 _),LH (by rw [hA.out.1,Pt.take_tx hlt,hxu,Pt.allT_take hlt,hA.out.2,hxu,HU4.out];exact ⟨rfl,rfl⟩),LH ((hy9 w9 hg9).other (λe=>hnX e.symm) _),LH ((hl9 w9 hg9).frx (Nat.le_of_lt (hrz w9 hg9)) ((FrX.refl R w9).setCell rfl _))⟩,by simp [intOf];omega⟩
    ·go_simp
     refine hK _ _ ?_;clear hK K;(try simp only [Act.put,fl]);refine wpAny_ready (rs:=[4,7]) (by kernel_rfl) (by simp) ?_;refine AllReady.cons rfl (λK hK=>?_) (AllReady.cons rfl (λK hK=>?_) AllReady.nil)
     ·go_simp
      refine hK _ _ ?_;clear hK K;(try simp only [Act.put,fl]);refine wpAny_ready (rs:=[7]) (by kernel_rfl) (by simp) ?_;refine AllReady.cons rfl (λK hK=>?_) AllReady.nil;go_simp
      refine hK _ _ ?_;clear hK K;(try simp only [Act.put,fl]);refine wpAny_ready (rs:=[8]) (by kernel_rfl) (by simp) ?_;refine AllReady.cons rfl (λK hK=>?_) AllReady.nil;refine step_sg_lit rfl (.tmp 28) (.tmp 31) rfl W5.heap.size hle8 us acc rfl hs8 u.tx rfl rfl hk16 ?_;intro v9 w9 hs9 hg9;refine hK _ _ ?_;clear hK K;(try simp only [Act.put,fl]);obtain ⟨A9,c9,rfl,_⟩:=hs9.shows;have h9:=LH (rf9 w9 hg9);obtain ⟨⟨g0,g1,g2,g3⟩,gf0,gf1,gf2,gf3⟩:=box4r h9.out;refine wpAny_ready (rs:=[9]) (by kernel_rfl) (by simp) ?_;refine AllReady.cons rfl (λK hK=>?_) AllReady.nil;go_simp
      refine hK _ _ ?_;clear hK K;(try simp only [Act.put,fl]);refine wpAny_ready (rs:=[10]) (by kernel_rfl) (by simp) ?_;refine AllReady.cons rfl (λK hK=>?_) AllReady.nil;go_simp
      refine hK _ _ ?_;clear hK K;(try simp only [Act.put,fl]);refine wpAny_ready (rs:=[11]) (by kernel_rfl) (by simp) ?_;refine AllReady.cons rfl (λK hK=>?_) AllReady.nil;go_simp
      refine hK _ _ ?_;clear hK K;(try simp only [Act.put,fl]);refine wpAny_done (by kernel_rfl) ?_ _;go_wp2_with fail
      exact ⟨⟨i+1,_,acc++[u.tx],by omega,by go_num,LH ((hx9 w9 hg9).setCell rfl _),LH (by have:=h9.out.set 0 (.slice A9 (acc++[u.tx]).length c9);simpa using this),LH (Row.setX hs9 hR5 _),LH (by rw [hA.out.1,Pt.take_tx hlt,hxu,Pt.allT_take hlt,hA.out.2,hxu,HU4.out];exact ⟨rfl,rfl⟩),LH ((hy9 w9 hg9).other (λe=>hnX e.symm) _),LH ((hl9 w9 hg9).frx (Nat.le_of_lt (hrz w9 hg9)) ((FrX.refl R w9).setCell rfl _))⟩,by simp [intOf];omega⟩
     ·go_simp
      refine hK _ _ ?_;clear hK K;(try simp only [Act.put,fl]);refine wpAny_ready (rs:=[4]) (by kernel_rfl) (by simp) ?_;refine AllReady.cons rfl (λK hK=>?_) AllReady.nil;go_simp
      refine hK _ _ ?_;clear hK K;(try simp only [Act.put,fl]);refine wpAny_ready (rs:=[8]) (by kernel_rfl) (by simp) ?_;refine AllReady.cons rfl (λK hK=>?_) AllReady.nil;refine step_sg_lit rfl (.tmp 28) (.tmp 31) rfl W5.heap.size hle8 us acc rfl hs8 u.tx rfl rfl hk16 ?_;intro v9 w9 hs9 hg9;refine hK _ _ ?_;clear hK K;(try simp only [Act.put,fl]);obtain ⟨A9,c9,rfl,_⟩:=hs9.shows;have h9:=LH (rf9 w9 hg9);obtain ⟨⟨g0,g1,g2,g3⟩,gf0,gf1,gf2,gf3⟩:=box4r h9.out;refine wpAny_ready (rs:=[9]) (by kernel_rfl) (by simp) ?_;refine AllReady.cons rfl (λK hK=>?_) AllReady.nil;go_simp
      refine hK _ _ ?_;clear hK K;(try simp only [Act.put,fl]);refine wpAny_ready (rs:=[10]) (by kernel_rfl) (by simp) ?_;refine AllReady.cons rfl (λK hK=>?_) AllReady.nil;go_simp
      refine hK _ _ ?_;clear hK K;(try simp only [Act.put,fl]);refine wpAny_ready (rs:=[11]) (by kernel_rfl) (by simp) ?_;refine AllReady.cons rfl (λK hK=>?_) AllReady.nil;go_simp
      refine hK _ _ ?_;clear hK K;(try simp only [Act.put,fl]);refine wpAny_done (by kernel_rfl) ?_ _;go_wp2_with fail
      exact ⟨⟨i+1,_,acc++[u.tx],by omega,by go_num,LH ((hx9 w9 hg9).setCell rfl _),LH (by have:=h9.out.set 0 (.slice A9 (acc++[u.tx]).length c9);simpa using this),LH (Row.setX hs9 hR5 _),LH (by rw [hA.out.1,Pt.take_tx hlt,hxu,Pt.allT_take hlt,hA.out.2,hxu,HU4.out];exact ⟨rfl,rfl⟩),LH ((hy9 w9 hg9).other (λe=>hnX e.symm) _),LH ((hl9 w9 hg9).frx (Nat.le_of_lt (hrz w9 hg9)) ((FrX.refl R w9).setCell rfl _))⟩,by simp [intOf];omega⟩
   ·have q4:(u.kd != 4)=true:=(ikind hk).2;have hbf:b=false:=by rw [<- HB.out,Pt.allT_no hlt (by rw [hxu];exact hk)];rfl
    subst hbf;go_wp2_with fail
    go_ret
    exact ⟨rfl,HX5.out.trans ((hX.out.fr ((FR _).alloc _))),us,acc,hRr.out.keep ((FR _).alloc _),Row.lower (hS.out.keep ((FR _).alloc _)) HX5.out.size,by simp⟩
  ·obtain rfl:i=x.ls.length:=by omega
   have hbe:(x.kd == 5)=b:=by
    have:=HB.out;have h2:=hA.out.2;rw [List.take_length] at h2;rw [h2] at this;simpa using this
   go_wp2_with fail
   go_ret
   exact ⟨rfl,HX5.out.trans hX.out,us,acc,hRr.out,Row.lower hS.out HX5.out.size,λ_=>by rw [hA.out.1,List.take_length]⟩
/- Slices of method calls that a call made itself. -/

abbrev CallV:=(List UInt8 × JV) × List UInt8
abbrev CallX:=(List UInt8 × Value) × List UInt8
def ccs (xs:List CallX):List Value:=xs.flatMap λp=>.string ⟨p.1.1.toArray⟩::(p.1.2.cells.toList++[.string ⟨p.2.toArray⟩])
theorem ccs_len {xs:List CallX} (h:∀ p∈xs,Five p.1.2):(ccs xs).length=xs.length*7:=by
 induction xs with
 | nil=>rfl
 | cons p xs ih=>
  have:=five_cells (h p (by simp));have ih:=ih (λq hq=>h q (by simp [hq]));simp only [ccs,List.flatMap_cons,List.length_append,List.length_cons,List.length_nil] at ih ⊢;rw [ih,this];omega
theorem ccs_at {xs:List CallX} (h:∀ p∈xs,Five p.1.2) {i:Nat} (hi:i<xs.length) {j:Nat} (hj:j<7):(ccs xs)[i*7+j]? = (Value.string ⟨xs[i].1.1.toArray⟩::(xs[i].1.2.cells.toList++[.string ⟨xs[i].2.toArray⟩]))[j]?:=by
 induction xs generalizing i with
 | nil=>simp at hi
 | cons p xs ih=>
  have h5:=five_cells (h p (by simp));have e:ccs (p::xs)=(Value.string ⟨p.1.1.toArray⟩::(p.1.2.cells.toList++[.string ⟨p.2.toArray⟩]))++ccs xs:=by simp [ccs]
  have hl:(Value.string ⟨p.1.1.toArray⟩::(p.1.2.cells.toList++[.string ⟨p.2.toArray⟩])).length=7:=by simp only [List.length_cons,List.length_append,List.length_nil];omega
  rw [e]
  cases i with
  | zero=>rw [Nat.zero_mul,Nat.zero_add,List.getElem?_append_left (by omega)];rfl
  | succ i=>
   rw [List.getElem?_append_right (by omega),hl,show (i+1)*7+j - 7=i*7+j by omega];exact ih (λq hq=>h q (by simp [hq])) (by simpa using hi)
theorem ccs_app (a b:List CallX):ccs (a++b)=ccs a++ccs b:=by simp [ccs]
theorem ccs_one {xs:List CallX} (h:∀ p∈xs,Five p.1.2):∀ u∈ccs xs,u.oneCell'=true:=by
 intro u hu;simp only [ccs,List.mem_flatMap,List.mem_cons,List.mem_append,List.not_mem_nil,or_false] at hu;obtain ⟨p,hp,rfl | hu | rfl⟩:=hu
 ·rfl
 ·obtain ⟨a,b,c,d,e,he,h1,h2,h3,h4,h5⟩:=h p hp;rw [he] at hu;have:u=a\/u=b\/u=c\/u=d\/u=e:=by simpa [Value.cells] using hu
  rcases this with rfl | rfl | rfl | rfl | rfl <;> assumption
 ·rfl
theorem cb_info:(Tryz.prog.info? 50).map (λi=>(i.zero,i.size,i.bytes))=some (some (.agg #[.string ⟨#[]⟩,.int .i64 0,.int .i64 0,.string ⟨#[]⟩,.slice none 0 0,.slice none 0 0,.string ⟨#[]⟩]),7,112):=by kernel_rfl
def Cbs (w:World) (base:Nat) (v:Value) (xs:List CallX):Prop:=w.ownsRow base 50 7 v xs.length (ccs xs) /\ ∀ p∈xs,Five p.1.2
theorem Cbs.none_ (w:World) (base:Nat):Cbs w base (.slice none 0 0) []:=⟨World.ownsRow_nil w base _ 7,by simp⟩
theorem Cbs.own {w:World} {base:Nat} {v:Value} {xs:List CallX} (h:Cbs w base v xs) {k:Nat} (hk:v.ownBlock=some k):base<=k/\k<w.heap.size:=World.ownsRow.lt h.1 k hk
theorem Cbs.keep {w w':World} {base:Nat} {v:Value} {xs:List CallX} (h:Cbs w base v xs) (hf:Fr w w'):Cbs w' base v xs:=by
 refine ⟨?_,h.2⟩;refine ⟨h.1.1,?_⟩;rcases h.1.2 with hn | ⟨g,cap,cur,rfl,hb,hg,rest⟩
 ·exact .inl hn
 ·exact .inr ⟨g,cap,cur,rfl,hb,(Below.block hf g (Array.getElem?_eq_some_iff.1 hg).1).trans hg,rest⟩
theorem Cbs.frx {w w':World} {R base:Nat} {v:Value} {xs:List CallX} (h:Cbs w base v xs) (hR:R<base) (hf:FrX R w w'):Cbs w' base v xs:=by
 refine ⟨?_,h.2⟩;refine ⟨h.1.1,?_⟩;rcases h.1.2 with hn | ⟨g,cap,cur,rfl,hb,hg,rest⟩
 ·exact .inl hn
 ·exact .inr ⟨g,cap,cur,rfl,hb,(hf.blk (Array.getElem?_eq_some_iff.1 hg).1 (by omega)).trans hg,rest⟩
theorem Cbs.lower {w:World} {base base':Nat} {v:Value} {xs:List CallX} (h:Cbs w base v xs) (hle:base'<=base):Cbs w base' v xs:=by
 refine ⟨⟨h.1.1,?_⟩,h.2⟩;rcases h.1.2 with hn | ⟨g,cap,cur,hv,hb,rest⟩
 ·exact .inl hn
 ·exact .inr ⟨g,cap,cur,hv,lT hle hb,rest⟩
theorem Cbs.form {w:World} {base:Nat} {v:Value} {xs:List CallX} (h:Cbs w base v xs):(v=.slice none 0 0/\xs=[]) \/ ∃ g cap,v=.slice (some ⟨g,0,none⟩) xs.length cap/\base<=g/\g<w.heap.size /\ ∀ j u,(ccs xs)[j]? = some u->w.cell? ⟨g,j,none⟩=some u:=by
 rcases h.1.2 with ⟨hv,hn⟩ | ⟨g,cap,cur,rfl,hb,hg,hc,hm,hs,ht⟩
 ·exact .inl ⟨hv,List.eq_nil_of_length_eq_zero hn⟩
 ·refine .inr ⟨g,cap,rfl,hb,(Array.getElem?_eq_some_iff.1 hg).1,λj u hu=>?_⟩;rw [cell_of_row w g j cur _ (0,0) hg];rw [<- ht,List.getElem?_take] at hu;split at hu
  ·simpa using hu
  ·cases hu
def CsB (w:World) (S:Nat->Prop) (K:Nat) (v:Value) (m:List CallV):Prop:=((∀ b,S b->b<K)/\K<=w.heap.size) /\ ∃ xs:List CallX,Cbs w K v xs/\xs.length=m.length /\ ∀ i (h1:i<xs.length) (h2:i<m.length),(xs[i].1.1=m[i].1.1/\xs[i].2=m[i].2)/\InV w S m[i].1.2 xs[i].1.2
theorem CsB.none_ (w:World) {S:Nat->Prop} {K:Nat} (h:(∀ b,S b->b<K)/\K<=w.heap.size):CsB w S K (.slice none 0 0) []:=⟨h,[],Cbs.none_ w K,rfl,λi h=>absurd h (by simp)⟩
theorem CsB.own {w:World} {S:Nat->Prop} {K:Nat} {v:Value} {l:List CallV} (h:CsB w S K v l) {k:Nat} (hk:v.ownBlock=some k):K<=k/\k<w.heap.size:=by
 obtain ⟨_,xs,h1,_⟩:=h;exact h1.own hk
theorem InV.keepS {w w':World} {S:Nat->Prop} {v:JV} {x:Value} (h:InV w S v x) (hS:∀ b,S b->b<w.heap.size) (hf:Fr w w'):InV w' S v x:=h.map (λ_ h=>h) (λb o hb=>hf.cell (hS b hb))
theorem InV.frxS {w w':World} {S:Nat->Prop} {R:Nat} {v:JV} {x:Value} (h:InV w S v x) (hS:∀ b,S b->b<w.heap.size/\b≠R) (hf:FrX R w w'):InV w' S v x:=h.map (λ_ h=>h) (λb o hb=>hf.cell (hS b hb).1 (hS b hb).2)
theorem CsB.keep {w w':World} {S:Nat->Prop} {K:Nat} {v:Value} {l:List CallV} (h:CsB w S K v l) (hf:Fr w w'):CsB w' S K v l:=by
 obtain ⟨h0,xs,h1,h2,h3⟩:=h;exact ⟨⟨h0.1,lT h0.2 hf.size⟩,xs,h1.keep hf,h2,λi a b=>⟨(h3 i a b).1,(h3 i a b).2.keepS (λb hb=>lL (h0.1 b hb) h0.2) hf⟩⟩
theorem CsB.frx {w w':World} {S:Nat->Prop} {X K:Nat} {v:Value} {l:List CallV} (h:CsB w S K v l) (hZ:∀ b,S b->b≠X) (hX:X<K) (hf:FrX X w w'):CsB w' S K v l:=by
 obtain ⟨h0,xs,h1,h2,h3⟩:=h;exact ⟨⟨h0.1,lT h0.2 hf.size⟩,xs,h1.frx hX hf,h2,λi a b=>⟨(h3 i a b).1,(h3 i a b).2.frxS (λb hb=>⟨lL (h0.1 b hb) h0.2,hZ b hb⟩) hf⟩⟩
theorem CsB.lower {w:World} {S:Nat->Prop} {K K':Nat} {v:Value} {l:List CallV} (h:CsB w S K v l) (hZ:∀ b,S b->b<K') (hle:K'<=K):CsB w S K' v l:=by
 obtain ⟨h0,xs,h1,h2,h3⟩:=h;exact ⟨⟨hZ,lT hle h0.2⟩,xs,h1.lower hle,h2,h3⟩
theorem CsB.is_slice {w:World} {S:Nat->Prop} {K:Nat} {v:Value} {l:List CallV} (h:CsB w S K v l):∃ a c,v=.slice a l.length c:=by
 obtain ⟨_,xs,h1,h2,_⟩:=h;rcases h1.form with ⟨rfl,rfl⟩ | ⟨g,cap,rfl,_⟩
 ·exact ⟨none,0,by rw [<- h2];rfl⟩
 ·exact ⟨_,_,by rw [h2]⟩
theorem step_cB_lit {ops:Array Oper} {o:Oper} {a:Act} {w:World} {K:Act->World->Prop} {Q:Exit->Act->World->Prop} {E:Prop} {cs:Array Value}
  (hgd:o.guard=none) (s x:Operand) (ho:o.op=.call { callee:=.builtin .append,args:=#[s,x],argTypes:=#[23,23] })
  (S:Nat->Prop) (G:Nat) (v:Value) (l:List CallV) (hs:a.eval s=v) (hown:CsB w S G v l) (nm:List UInt8) (u:JV) (id:List UInt8) (C:Option Addr) (f:Nat) (C':Option Addr) (f':Nat) (hcs:cs=#[.string ⟨nm.toArray⟩,.int .i64 u.kd,.int .i64 u.nm,.string ⟨u.tx.toArray⟩,.slice C u.ls.length f,.slice C' u.ms.length f',.string ⟨id.toArray⟩]) (hu:InV w S u (vA u C f C' f')) (hx:a.eval x=.slice (some ⟨w.heap.size,0,none⟩) 1 1) (h63:(l.length+1)*112<=140737488355328)
  (h:∀ v' w',CsB w' S G v' (l++[((nm,u),id)])->(w.alloc (.cells cs 50)).grownBy w' v.ownBlock->K (a.put o.dst v') w'):
  if Region.wanted o (yielded ops a.tmps)=true then Oper.wp Tryz.prog o a (w.alloc (.cells cs 50)) K Q else E:=by
 have hw:Region.wanted o (yielded ops a.tmps)=true:=by simp [Region.wanted,hgd]
 rw [if_pos hw];have hal:=(FR w).alloc (.cells cs 50);have hb:=Blk.made w cs 50;have hk:=hown.keep hal;obtain ⟨h0,xs,hvb,hlen,hin⟩:=hk;obtain ⟨i,hi,hz,hsz,hby⟩:=info_parts cb_info;have h5:∀ p∈[((nm,vA u C f C' f'),id)],Five p.1.2:=λp hp=>by simp at hp;subst hp;exact five_vA _ _ _ _ _
 obtain ⟨v',w',hr,h3,h4,_,h6⟩:=run_append_own_at (P:=Tryz.prog) (w.alloc (.cells cs 50)) G 23 o.type 50 i _ 7 112 Tryz.underlying23 hi hz hsz hby rfl (by omega) v _ (ccs xs) hvb.1 ⟨w.heap.size,0,none⟩ 1 1 (ccs [((nm,vA u C f C' f'),id)]) (by rw [ccs_len h5];rfl) (λj y hy=>by
   have e:ccs [((nm,vA u C f C' f'),id)]=cs.toList:=by subst hcs;simp [ccs,vA,Value.cells]
   rw [e] at hy;have hj:(Addr.mk w.heap.size 0 none).add j=⟨w.heap.size,j,none⟩:=by
    by_cases h0:j=0
    ·subst h0;simp [Addr.add]
    ·simp [Addr.add,h0]
   rw [hj,hb.cell j];simpa using hy) (ccs_one h5) (by unfold maxLen;omega) (by omega) h0.2
 have hC:∀ b o,S b->w'.cell? ⟨b,o,none⟩=(w.alloc (.cells cs 50)).cell? ⟨b,o,none⟩:=λb o hbz=>by
  have hbz:b<G:=h0.1 b hbz;have:=hown.1.2;have:=hal.size;unfold World.cell?;rw [h4.block b (by omega) (λe=>by have:=(hvb.own e.symm).1;omega)]
 unfold Oper.wp execOp;simp only [ho,resolve,invoke,builtin,Sem.run_bind,Sem.run_pure,Result.andThen_ok,List.map_toArray,List.map_cons,List.map_nil,hs,hx,hr];refine h v' w' ⟨⟨h0.1,lT h0.2 h4.size⟩,xs++[((nm,vA u C f C' f'),id)],⟨?_,?_⟩,by simp [hlen],λi a b=>?_⟩ h4
 ·rw [ccs_app,List.length_append];exact h3
 ·intro p hp;rcases List.mem_append.1 hp with hp | hp
  ·exact hvb.2 p hp
  ·exact h5 p hp
 ·by_cases hil:i<l.length
  ·rw [List.getElem_append_left hil,List.getElem_append_left (by omega)];obtain ⟨e1,e2⟩:=hin i (by omega) hil;exact ⟨e1,e2.map (λ_ h=>h) hC⟩
  ·have e:i=l.length:=by simp at b;omega
   subst e;rw [List.getElem_append_right (by omega),List.getElem_append_right (by omega)];simp only [hlen,Nat.sub_self,List.getElem_cons_zero];exact ⟨by first | trivial | simp,(hu.keepS (λb hb=>lL (h0.1 b hb) hown.1.2) hal).map (λ_ h=>h) hC⟩
def OpS (S:Nat->Prop) (w:World):Option JV->Ending->World->Prop
 | none,e,w'=>e=.returned (.tuple #[.agg #[.int .i64 0,.int .i64 0,.string ⟨#[]⟩,.slice none 0 0,.slice none 0 0],.bool false])/\Fr w w'
 | some y,e,w'=>∃ (C:Option Addr) (f:Nat) (C':Option Addr) (f':Nat),e=.returned (.tuple #[.agg #[.int .i64 y.kd,.int .i64 y.nm,.string ⟨y.tx.toArray⟩,.slice C y.ls.length f,.slice C' y.ms.length f'],.bool true])/\InV w' S y (vA y C f C' f')/\Fr w w'
theorem getS_is (v:JV) (B:Option Addr) (d:Nat) (B':Option Addr) (d':Nat) (s:List UInt8) (w:World) (S:Nat->Prop) (hS:∀ b,S b->b<w.heap.size) (h:InV w S v (vA v B d B' d')):
  Calls Tryz.prog 34 #[.agg #[.int .i64 v.kd,.int .i64 v.nm,.string ⟨v.tx.toArray⟩,.slice B v.ls.length d,.slice B' v.ms.length d'],.string ⟨s.toArray⟩] w (OpS S w (Pt.get v s)):=by
 have H:=LH h;obtain ⟨A,c,A',c',he,_,hms⟩:=h.open_;have hA:B'=A':=by obtain ⟨_,_,_,_,e4⟩:=five he;injection e4
 subst hA;have hM:=h.facts.2.2.2.2;have HMS:=LH hms;have hM':(v.ms.length:Int)<=140737488355328:=by omega
 have HC:Hid (∀ W,Fr w W->Calls Tryz.prog 55 #[.agg #[.int .i64 v.kd,.int .i64 v.nm,.string ⟨v.tx.toArray⟩,.slice B v.ls.length d,.slice B' v.ms.length d'],.string ⟨s.toArray⟩] W λe w'=>e=.returned (.int .i64 (Pt.placeI v s))/\Fr W w'):=LH (λW hW=>place_is v B d B' d' s W (H.out.map (λb h=>lL (hS b h) hW.size) (λb o h=>hW.cell (hS b h))));clear h he hms;obtain ⟨r,hr⟩:∃ r,Pt.placeI v s=r:=⟨_,rfl⟩;rw [hr] at HC;have hget:(r = -1/\Pt.get v s=none) \/ ∃ i:Nat,r=(i:Nat) /\ ∃ hi:i<v.ms.length,Pt.get v s=some v.ms[i].2:=by
  rw [<- hr];unfold Pt.placeI Pt.get;split
  ·have hp:=@Pt.placeM_get v.ms s
   cases hq:Pt.placeM v.ms s with
   | none=>exact .inl ⟨rfl,hp.1 hq⟩
   | some i=>exact .inr ⟨i,rfl,hp.2 i hq⟩
  ·exact .inl ⟨rfl,rfl⟩
 clear hr;rcases hget with ⟨rfl,hg⟩ | ⟨i,rfl,hi,hg⟩
 ·rw [hg];clear hg;go_enter Tryz.func34,Tryz.ntmps34
  go_wp2_with (go_at_call 55;refine (HC.out _ (((FR w).alloc _).alloc _)).mono ?_;rintro e w1 ⟨rfl,hf⟩;have hb:=(boxz (Blk.made (w.alloc (.cells #[.int .i64 v.kd,.int .i64 v.nm,.string ⟨v.tx.toArray⟩,.slice B v.ls.length d,.slice B' v.ms.length d'] 29)) #[.int .i64 0,.int .i64 0,.string ⟨#[]⟩,.slice none 0 0,.slice none 0 0] 29)).keep hf;obtain ⟨⟨x0,x1,x2,x3,x4⟩,g0,g1,g2,g3,g4⟩:=box5 hb;have HB1:=LH hb;have HF1:=LH ((((FR w).alloc (.cells #[.int .i64 v.kd,.int .i64 v.nm,.string ⟨v.tx.toArray⟩,.slice B v.ls.length d,.slice B' v.ms.length d'] 29)).alloc (.cells #[.int .i64 0,.int .i64 0,.string ⟨#[]⟩,.slice none 0 0,.slice none 0 0] 29)).trans hf);clear hf hb)
  refine bodyPost_ret (results_cs (by rfl) rfl _ (w.heap.size+1) (by rfl) (by rfl) _ _ _ _ _ (set5 HB1.out)) rfl ?_;have hX:∀ j,w.heap.size<=(Addr.mk (w.heap.size+1) j none).block:=λj=>Nat.le_succ _
  exact ⟨rfl,((((HF1.out.setCell (hX 0) _).setCell (hX 1) _).setCell (hX 2) _).setCell (hX 3) _).setCell (hX 4) _⟩
 ·rw [hg];have hi':(i:Int)<(v.ms.length:Int):=by omega
  clear hg;obtain ⟨b,o,C,e,C',e',rfl,hb,hnl,c0,⟨c1,c2,c3,c4,c5⟩,hv⟩:=HMS.out i hi;obtain ⟨u,hu⟩:∃ u,v.ms[i].2=u:=⟨_,rfl⟩;rw [hu] at c1 c2 c3 c4 c5 hv ⊢;have HV:=LH hv;have HBB:Hid (b<w.heap.size):=hS _ hb;have HC5:Hid (w.cell? ⟨b,o+i*6+1,none⟩=some (.int .i64 u.kd)/\w.cell? ⟨b,o+i*6+1+1,none⟩=some (.int .i64 u.nm)/\w.cell? ⟨b,o+i*6+1+2,none⟩=some (.string ⟨u.tx.toArray⟩)/\w.cell? ⟨b,o+i*6+1+3,none⟩=some (.slice C u.ls.length e)/\w.cell? ⟨b,o+i*6+1+4,none⟩=some (.slice C' u.ms.length e')):=⟨c1,c2,c3,c4,c5⟩;clear hv hu c0 c1 c2 c3 c4 c5;go_enter Tryz.func34,Tryz.ntmps34
  go_wp2_with (go_at_call 55;refine (HC.out _ (((FR w).alloc _).alloc _)).mono ?_;rintro e w1 ⟨rfl,hf⟩;have hb:=(boxz (Blk.made (w.alloc (.cells #[.int .i64 v.kd,.int .i64 v.nm,.string ⟨v.tx.toArray⟩,.slice B v.ls.length d,.slice (some ⟨b,o,none⟩) v.ms.length d'] 29)) #[.int .i64 0,.int .i64 0,.string ⟨#[]⟩,.slice none 0 0,.slice none 0 0] 29)).keep hf;obtain ⟨⟨x0,x1,x2,x3,x4⟩,g0,g1,g2,g3,g4⟩:=box5 hb;have hb2:=((Blk.made w #[.int .i64 v.kd,.int .i64 v.nm,.string ⟨v.tx.toArray⟩,.slice B v.ls.length d,.slice (some ⟨b,o,none⟩) v.ms.length d'] 29).keep ((FR _).alloc _)).keep hf;obtain ⟨⟨y0,y1,y2,y3,y4⟩,_⟩:=box5 hb2;have HB1:=LH hb;have hf1:=(((FR w).alloc (.cells #[.int .i64 v.kd,.int .i64 v.nm,.string ⟨v.tx.toArray⟩,.slice B v.ls.length d,.slice (some ⟨b,o,none⟩) v.ms.length d'] 29)).alloc (.cells #[.int .i64 0,.int .i64 0,.string ⟨#[]⟩,.slice none 0 0,.slice none 0 0] 29)).trans hf;obtain ⟨c1,c2,c3,c4,c5⟩:=HC5.out;have e1:=(hf1.cell HBB.out).trans c1;have e2:=(hf1.cell HBB.out).trans c2;have e3:=(hf1.cell HBB.out).trans c3;have e4:=(hf1.cell HBB.out).trans c4;have e5:=(hf1.cell HBB.out).trans c5;have HF1:=LH hf1;clear hf hb hb2 hf1 c1 c2 c3 c4 c5)
  refine bodyPost_ret (results_cs (by rfl) rfl _ (w.heap.size+1) (by rfl) (by rfl) _ _ _ _ _ (set5 HB1.out)) rfl ?_;have hX:∀ j,w.heap.size<=(Addr.mk (w.heap.size+1) j none).block:=λj=>Nat.le_succ _
  have hfin:=((((HF1.out.setCell (hX 0) (.int .i64 u.kd)).setCell (hX 1) (.int .i64 u.nm)).setCell (hX 2) (.string ⟨u.tx.toArray⟩)).setCell (hX 3) (.slice C u.ls.length e)).setCell (hX 4) (.slice C' u.ms.length e');exact ⟨C,e,C',e',rfl,HV.out.keepS hS hfin,hfin⟩
/- Chapter 25: Request.calls. -/

def Pt.goodC (u:JV):Bool:=match u.ls with
 | [a,b,c]=>u.kd == 5 && a.kd == 4 && b.kd == 6 && c.kd == 4
 | _=>false
def Pt.callC (u:JV):CallV:=match u.ls with
 | [a,b,c]=>((a.tx,b),c.tx)
 | _=>(([],JV.zeroV),[])
theorem Pt.goodC_3 {u a b c:JV} (h:u.ls=[a,b,c]):Pt.goodC u=(u.kd == 5 && a.kd == 4 && b.kd == 6 && c.kd == 4):=by unfold Pt.goodC;rw [h]
theorem Pt.callC_3 {u a b c:JV} (h:u.ls=[a,b,c]):Pt.callC u=((a.tx,b),c.tx):=by unfold Pt.callC;rw [h]
theorem Pt.goodC_len {u:JV} (h:u.ls.length≠3):Pt.goodC u=false:=by
 unfold Pt.goodC;split
 ·rename_i h2;rw [h2] at h;simp at h
 ·rfl
theorem Pt.goodC_kd {u:JV} (h:u.kd≠5):Pt.goodC u=false:=by
 unfold Pt.goodC;split
 ·rw [(ikind h).1];rfl
 ·rfl
def Pt.allC (l:List JV):Bool:=l.all Pt.goodC
theorem Pt.allC_take {l:List JV} {i:Nat} (h:i<l.length):Pt.allC (l.take (i+1))=(Pt.allC (l.take i) && Pt.goodC l[i]):=by
 unfold Pt.allC;rw [List.take_succ_eq_append_getElem h,List.all_append];simp
theorem Pt.take_cc {l:List JV} {i:Nat} (h:i<l.length):(l.take (i+1)).map Pt.callC=(l.take i).map Pt.callC++[Pt.callC l[i]]:=by
 rw [List.take_succ_eq_append_getElem h,List.map_append];rfl
theorem Pt.allC_no {l:List JV} {i:Nat} (h:i<l.length) (hk:Pt.goodC l[i]=false):Pt.allC l=false:=by
 unfold Pt.allC;rw [List.all_eq_false];exact ⟨_,List.getElem_mem h,by rw [hk];simp⟩
theorem LsC.three {w:World} {S:Nat->Prop} {A:Option Addr} {l:List JV} {a b c:JV} (h:LsC w S A l) (hl:l=[a,b,c]):∃ g q C0 d0 C0' d0' C1 d1 C1' d1' C2 d2 C2' d2',A=some ⟨g,q,none⟩/\S g/\VC w g q a C0 d0 C0' d0'/\VC w g (q+5) b C1 d1 C1' d1'/\VC w g (q+10) c C2 d2 C2' d2'/\InV w S b (vA b C1 d1 C1' d1'):=by
 subst hl;obtain ⟨g,q,C0,d0,C0',d0',rfl,hs,h0,_⟩:=h 0 (by simp);obtain ⟨g1,q1,C1,d1,C1',d1',e1,_,h1,i1⟩:=h 1 (by simp);obtain ⟨g2,q2,C2,d2,C2',d2',e2,_,h2,_⟩:=h 2 (by simp);injection e1 with e1;injection e1 with a1 a2;subst a1;subst a2;injection e2 with e2;injection e2 with a1 a2;subst a1;subst a2;exact ⟨g,q,C0,d0,C0',d0',C1,d1,C1',d1',C2,d2,C2',d2',rfl,hs,h0,h1,h2,i1⟩

theorem LsC.frxS {w w':World} {S:Nat->Prop} {R:Nat} {A:Option Addr} {l:List JV} (h:LsC w S A l) (hS:∀ b,S b->b<w.heap.size/\b≠R) (hf:FrX R w w'):LsC w' S A l:=h.map (λ_ h=>h) (λb o hb=>hf.cell (hS b hb).1 (hS b hb).2)
theorem MsC.frxS {w w':World} {S:Nat->Prop} {R:Nat} {A:Option Addr} {l:List (List UInt8 × JV)} (h:MsC w S A l) (hS:∀ b,S b->b<w.heap.size/\b≠R) (hf:FrX R w w'):MsC w' S A l:=h.map (λ_ h=>h) (λb o hb=>hf.cell (hS b hb).1 (hS b hb).2)

theorem calls_is (v:JV) (B:Option Addr) (d:Nat) (B':Option Addr) (d':Nat) (R:Nat) (us crs hb:Value) (w:World) (Sv:Nat->Prop) (hSv:∀ b,Sv b->b<R) (hv:InV w Sv v (vA v B d B' d')) (hr:Blk w R #[us,(.slice none 0 0),crs,hb] 26) (hn:Rd.nv v<=1048576) (x:JV) (hx:(Pt.get v [109,101,116,104,111,100,67,97,108,108,115]).getD JV.zeroV=x) (b:Bool) (hb2:(Pt.allC x.ls && (x.kd == 5))=b):
  Calls Tryz.prog 26 #[.pointer (some ⟨R,0,none⟩),.agg #[.int .i64 v.kd,.int .i64 v.nm,.string ⟨v.tx.toArray⟩,.slice B v.ls.length d,.slice B' v.ms.length d']] w λe w'=>e=.returned (.bool b)/\FrX R w w' /\ ∃ cs acc,Blk w' R #[us,cs,crs,hb] 26/\CsB w' Sv w.heap.size cs acc/\(b=true->acc=x.ls.map Pt.callC):=by
 have hRw:R<w.heap.size:=hr.lt;have HG:Hid (∀ W,Fr w W->Calls Tryz.prog 34 #[.agg #[.int .i64 v.kd,.int .i64 v.nm,.string ⟨v.tx.toArray⟩,.slice B v.ls.length d,.slice B' v.ms.length d'],.string ⟨#[109,101,116,104,111,100,67,97,108,108,115]⟩] W λe w'=>(∃ (P:Option Addr) (p:Nat) (P':Option Addr) (p':Nat) (t:Bool),e=.returned (.tuple #[.agg #[.int .i64 x.kd,.int .i64 x.nm,.string ⟨x.tx.toArray⟩,.slice P x.ls.length p,.slice P' x.ms.length p'],.bool t])/\InV w' Sv x (vA x P p P' p'))/\Fr W w'):=LH (λW hW=>by
  have h1:=getS_is v B d B' d' [109,101,116,104,111,100,67,97,108,108,115] W Sv (λb hb=>lL (Nat.lt_trans (hSv b hb) hRw) hW.size) (hv.keepS (λb hb=>Nat.lt_trans (hSv b hb) hRw) hW)
  cases hg:Pt.get v [109,101,116,104,111,100,67,97,108,108,115] with
  | none=>
   rw [hg] at h1 hx;obtain rfl:JV.zeroV=x:=hx;refine h1.mono ?_;rintro e w' ⟨he,hf⟩;exact ⟨⟨none,0,none,0,false,he,zeroV_in w' _⟩,hf⟩
  | some y=>
   rw [hg] at h1 hx;obtain rfl:y=x:=hx;refine h1.mono ?_;rintro e w' ⟨C,f,C',f',he,hin,hf⟩;exact ⟨⟨C,f,C',f',true,he,hin⟩,hf⟩)
 have HF1:Hid (Fr w (w.alloc (.cells #[.int .i64 v.kd,.int .i64 v.nm,.string ⟨v.tx.toArray⟩,.slice B v.ls.length d,.slice B' v.ms.length d'] 29))):=(FR w).alloc _;have HR:=LH hr;obtain ⟨_,_,_,hll63,_⟩:True/\True/\True/\x.ls.length<=1048576/\True:=by
  refine ⟨trivial,trivial,trivial,?_,trivial⟩
  cases hg:Pt.get v [109,101,116,104,111,100,67,97,108,108,115] with
  | none=>rw [hg] at hx;obtain rfl:JV.zeroV=x:=hx;simp [JV.zeroV,JV.ls]
  | some y=>
   rw [hg] at hx;obtain rfl:y=x:=hx;have h1:Pt.step v [109,101,116,104,111,100,67,97,108,108,115]=some y\/Pt.get v [109,101,116,104,111,100,67,97,108,108,115]=some y:=.inr hg;have:=Pt.nvL_len y.ls;have h2:=Pt.nv_eq y;have h3:Rd.nv y<=Rd.nv v:=by
    unfold Pt.get at hg;split at hg
    ·have:=Pt.nvM_mem (Pt.getM_mem hg);have h4:=Pt.nv_eq v;simp only at this;omega
    ·cases hg
   omega
 have hlen:(x.ls.length:Int)<=140737488355328:=by omega
 have HB:=LH hb2;clear hv hr hx hb2;go_enter Tryz.func26,Tryz.ntmps26
 go_upto_region 2 with (go_at_call 34;refine (HG.out _ HF1.out).mono ?_;rintro e w1 ⟨⟨P,p,P',p',t,rfl,hin⟩,hf⟩;have HIN:=LH hin;have HF2:=LH (HF1.out.trans hf);clear hin hf)
 have hf5:=HF2.out.alloc (.cells #[.int .i64 x.kd,.int .i64 x.nm,.string ⟨x.tx.toArray⟩,.slice P x.ls.length p,.slice P' x.ms.length p'] 29);have hb5:=Blk.made w1 #[.int .i64 x.kd,.int .i64 x.nm,.string ⟨x.tx.toArray⟩,.slice P x.ls.length p,.slice P' x.ms.length p'] 29;have hi5:=HIN.out.keepS (λb hb=>lL (Nat.lt_trans (hSv b hb) hRw) HF2.out.size) ((FR w1).alloc (.cells #[.int .i64 x.kd,.int .i64 x.nm,.string ⟨x.tx.toArray⟩,.slice P x.ls.length p,.slice P' x.ms.length p'] 29));generalize (w1.alloc (.cells #[.int .i64 x.kd,.int .i64 x.nm,.string ⟨x.tx.toArray⟩,.slice P x.ls.length p,.slice P' x.ms.length p'] 29))=W5 at hf5 hb5 hi5 ⊢;generalize w1.heap.size=X5 at hb5 ⊢;have HR5:=LH (HR.out.keep hf5);obtain ⟨⟨b0,b1,b2,b3,b4⟩,_⟩:=box5 hb5;obtain ⟨A1,k5,A1',k6,he,hls,_⟩:=hi5.open_;have hA:P=A1:=by obtain ⟨_,_,_,e3,_⟩:=five he;injection e3
 subst hA;have HB5:=LH hb5;have HL5:=LH hls;have HX5:Hid (FrX R w W5):=FrX.of hf5;have hnX:X5≠R:=λe=>by subst e;exact absurd (HR5.out.symm.trans hb5) (by simp)
 clear hi5 hls he hf5 hb5;go_wp2_with fail
 go_loopw [17] (λj wr=>∃ (i:Nat) (cs:Value) (acc:List CallV),i<=x.ls.length/\j=.int .i64 i/\Hid (FrX R W5 wr)/\Hid (Blk wr R #[us,cs,crs,hb] 26)/\Hid (CsB wr Sv W5.heap.size cs acc)/\Hid (acc=(x.ls.take i).map Pt.callC/\Pt.allC (x.ls.take i)=true)/\Hid (Blk wr X5 #[.int .i64 x.kd,.int .i64 x.nm,.string ⟨x.tx.toArray⟩,.slice P x.ls.length p,.slice P' x.ms.length p'] 29)/\Hid (LsC wr Sv P x.ls)) (λj _=>x.ls.length - (intOf j).toNat)
 case atStart=>exact ⟨0,_,[],by omega,rfl,LH (FrX.refl R W5),HR5,LH (CsB.none_ _ ⟨λb hb=>Nat.lt_trans (hSv b hb) HR5.out.lt,lR _⟩),LH ⟨rfl,rfl⟩,HB5,HL5⟩
 case round=>
  obtain ⟨i,cs,acc,hi,rfl,hX,hRr,hS,hA,hB,hL⟩:=hrel;obtain ⟨⟨x0,x1,x2,x3,x4⟩,_⟩:=box5 hB.out;by_cases hlt:i<x.ls.length
  ·have hlt':(i:Int)<(x.ls.length:Int):=by omega
   obtain ⟨b5,o5,E,e,E',e',rfl,hbb,⟨c1,c2,c3,c4,c5⟩,hu⟩:=hL.out i hlt;obtain ⟨u,hxu⟩:∃ u,x.ls[i]=u:=⟨_,rfl⟩;rw [hxu] at c1 c2 c3 c4 c5 hu;by_cases hk:u.kd=5
   ·by_cases h3:u.ls.length=3
    ·obtain ⟨la,lb,lc,hl3⟩:∃ la lb lc,u.ls=[la,lb,lc]:=by
      match h:u.ls,h3 with
      | [a,b,c],_=>exact ⟨a,b,c,rfl⟩
     obtain ⟨Eu,ku,Eu',ku',heu,hlsu,_⟩:=hu.open_;have hEu:E=Eu:=by obtain ⟨_,_,_,e3,_⟩:=five heu;injection e3
     subst hEu;obtain ⟨g,q,_,_,_,_,D,f,D',f',_,_,_,_,rfl,hgR,⟨a0,a1,a2,_,_⟩,⟨n0,n1,n2,n3,n4⟩,⟨z0,z1,z2,_,_⟩,hil0⟩:=hlsu.three hl3;have hgc:=Pt.goodC_3 hl3;have hcu:=Pt.callC_3 hl3;rw [h3] at c4;have h5':(u.kd == 5)=true:=by rw [beq_iff_eq];exact hk
     have q5:(u.kd != 5)=false:=by rw [bne_eq_false_iff_eq];exact hk
     rw [h5'] at hgc;have HIL:=LH hil0;have HCU:=LH hcu;have HK3:=LH h3;have hgz:g<wr.heap.size:=by
      have h1:g<R:=hSv g hgR;have:=hRr.out.lt;omega
     have hal:=(FR wr).alloc (.cells #[Value.int .i64 u.kd,Value.int .i64 u.nm,.string ⟨u.tx.toArray⟩,.slice (some ⟨g,q,none⟩) 3 e,.slice E' u.ms.length e'] 29);replace a0:=(hal.cell hgz).trans a0;replace n0:=(hal.cell hgz).trans n0;replace z0:=(hal.cell hgz).trans z0;have HG8:Hid ((wr.cell? ⟨g,q+2,none⟩=some (.string ⟨la.tx.toArray⟩))/\VC wr g (q+5) lb D f D' f'/\wr.cell? ⟨g,q+10+2,none⟩=some (.string ⟨lc.tx.toArray⟩)/\g<wr.heap.size):=LH ⟨a2,⟨(hal.cell hgz).symm.trans n0,n1,n2,n3,n4⟩,z2,hgz⟩;clear hk h5' hil0 hcu h3 hl3 hlsu heu hu hal hgz a1 a2 n1 n2 n3 n4 z1 z2;by_cases ka:la.kd=4
     ·have qa:(la.kd != 4)=false:=by rw [bne_eq_false_iff_eq];exact ka
      have qa2:(la.kd == 4)=true:=by rw [beq_iff_eq];exact ka
      rw [qa2] at hgc;clear qa2 ka;by_cases kb:lb.kd=6
      ·have qb:(lb.kd != 6)=false:=by rw [bne_eq_false_iff_eq];exact kb
       have qb2:(lb.kd == 6)=true:=by rw [beq_iff_eq];exact kb
       rw [qb2] at hgc;clear qb2 kb;by_cases kc:lc.kd=4
       ·have qc:(lc.kd != 4)=false:=by rw [bne_eq_false_iff_eq];exact kc
        have qc2:(lc.kd == 4)=true:=by rw [beq_iff_eq];exact kc
        rw [qc2] at hgc;have HGC:=LH hgc;clear qc2 kc hgc;go_upto_region 7 with fail
        have hb8:=Blk.made wr #[Value.int .i64 u.kd,Value.int .i64 u.nm,.string ⟨u.tx.toArray⟩,.slice (some ⟨g,q,none⟩) 3 e,.slice E' u.ms.length e'] 29;have hf8:Fr wr (wr.alloc (.cells #[Value.int .i64 u.kd,Value.int .i64 u.nm,.string ⟨u.tx.toArray⟩,.slice (some ⟨g,q,none⟩) 3 e,.slice E' u.ms.length e'] 29)):=(FR wr).alloc _;have hgz:=HG8.out.2.2.2;have hX8:wr.heap.size≠R:=λe=>by have:=hRr.out.lt;omega
        clear a0 n0 z0;generalize (wr.alloc (.cells #[Value.int .i64 u.kd,Value.int .i64 u.nm,.string ⟨u.tx.toArray⟩,.slice (some ⟨g,q,none⟩) 3 e,.slice E' u.ms.length e'] 29))=W8 at hb8 hf8 ⊢;have hgX:wr.heap.size≠g:=by omega
        have hcsX:∀ k,cs.ownBlock=some k->k<wr.heap.size:=λk hk=>(hS.out.own hk).2
        generalize wr.heap.size=X8 at hb8 hX8 hgX hcsX ⊢;have hgR':g≠R:=by have h1:g<R:=hSv g hgR;omega
        have hgW:g<W8.heap.size:=lL hgz hf8.size;have HSW:Hid (∀ W:World,(W.heap[X8]? = W8.heap[X8]? /\ W.heap[g]? = W8.heap[g]?)->W.cell? ⟨X8,3,none⟩=some (.slice (some ⟨g,q,none⟩) 3 e)/\W.cell? ⟨g,q+2,none⟩=some (.string ⟨la.tx.toArray⟩)/\W.cell? ⟨g,q+5,none⟩=some (.int .i64 lb.kd)/\W.cell? ⟨g,q+5+1,none⟩=some (.int .i64 lb.nm)/\W.cell? ⟨g,q+5+2,none⟩=some (.string ⟨lb.tx.toArray⟩)/\W.cell? ⟨g,q+5+3,none⟩=some (.slice D lb.ls.length f)/\W.cell? ⟨g,q+5+4,none⟩=some (.slice D' lb.ms.length f')/\W.cell? ⟨g,q+10+2,none⟩=some (.string ⟨lc.tx.toArray⟩)):=LH (λW hW=>by
         obtain ⟨p2,⟨m0,m1,m2,m3,m4⟩,r2,_⟩:=HG8.out;have hc:∀ o,W.cell? ⟨g,o,none⟩=wr.cell? ⟨g,o,none⟩:=λo=>by
          rw [<- hf8.cell (o:=o) hgz];unfold World.cell?;rw [hW.2]
         have hb:Blk W X8 _ _:=hW.1.trans hb8;exact ⟨hb.cell 3,(hc _).trans p2,(hc _).trans m0,(hc _).trans m1,(hc _).trans m2,(hc _).trans m3,(hc _).trans m4,(hc _).trans r2⟩)
        have hrb:=hRr.out.keep hf8;obtain ⟨⟨r0,r1,r2,r3⟩,rf0,rf1,rf2,rf3⟩:=box4r hrb;have hR5:R<W5.heap.size:=HR5.out.lt;have hs8:CsB W8.drew Sv W5.heap.size cs acc:=(hS.out.keep hf8).keep (FR _).drew;have hil:InV W8.drew Sv lb (vA lb D f D' f'):=(HIL.out.keepS (λb hb=>Nat.lt_trans (hSv b hb) hRr.out.lt) hf8).keepS (λb hb=>Nat.lt_trans (hSv b hb) hrb.lt) (FR _).drew;have hk16:(acc.length+1)*112<=140737488355328:=by rw [hA.out.1];simp;omega
        obtain ⟨⟨_,r1a,_⟩,_⟩:=box4r (hrb.keep ((FR _).drew.alloc (.cells #[.string ⟨la.tx.toArray⟩,.int .i64 lb.kd,.int .i64 lb.nm,.string ⟨lb.tx.toArray⟩,.slice D lb.ls.length f,.slice D' lb.ms.length f',.string ⟨lc.tx.toArray⟩] 50)));obtain ⟨⟨_,r1b,_⟩,_⟩:=box4r (hrb.keep ((FR _).alloc (.cells #[.string ⟨la.tx.toArray⟩,.int .i64 lb.kd,.int .i64 lb.nm,.string ⟨lb.tx.toArray⟩,.slice D lb.ls.length f,.slice D' lb.ms.length f',.string ⟨lc.tx.toArray⟩] 50)));have hown:∀ k,cs.ownBlock=some k->W5.heap.size<=k/\k<W8.drew.heap.size:=λk hk=>hs8.own hk
        have hlX:X8<W8.heap.size:=hb8.lt;have hx7:∀ O,(W8.drew.alloc O).heap[X8]? = W8.heap[X8]? /\ (W8.drew.alloc O).heap[g]? = W8.heap[g]?:=λO=>⟨Below.block ((FR W8).drew.alloc O) _ hlX,Below.block ((FR W8).drew.alloc O) _ hgW⟩
        have hownr:∀ k,cs.ownBlock=some k->k<X8:=λk hk=>hcsX k hk
        have hx8:∀ w9,(W8.drew.alloc (.cells #[.string ⟨la.tx.toArray⟩,.int .i64 lb.kd,.int .i64 lb.nm,.string ⟨lb.tx.toArray⟩,.slice D lb.ls.length f,.slice D' lb.ms.length f',.string ⟨lc.tx.toArray⟩] 50)).grownBy w9 cs.ownBlock->(w9.heap[X8]? = W8.heap[X8]? /\ w9.heap[g]? = W8.heap[g]?):=λw9 hg=>⟨(hg.block X8 (lL hlX ((FR _).drew.alloc _).size) (λe=>by have:=hownr X8 e.symm;omega)).trans (hx7 _).1,(hg.block g (lL hgW ((FR _).drew.alloc _).size) (λe=>by have:=(hown g e.symm).1;have h1:g<R:=hSv g hgR;omega)).trans (hx7 _).2⟩
        have hx9:∀ w9,(W8.drew.alloc (.cells #[.string ⟨la.tx.toArray⟩,.int .i64 lb.kd,.int .i64 lb.nm,.string ⟨lb.tx.toArray⟩,.slice D lb.ls.length f,.slice D' lb.ms.length f',.string ⟨lc.tx.toArray⟩] 50)).grownBy w9 cs.ownBlock->FrX R W5 w9:=λw9 hg=>FrX.grown2 (((hX.out.fr hf8).drew).alloc _) hg (λk hk=>(hown k hk).1)
        have rf9:∀ w9,(W8.drew.alloc (.cells #[.string ⟨la.tx.toArray⟩,.int .i64 lb.kd,.int .i64 lb.nm,.string ⟨lb.tx.toArray⟩,.slice D lb.ls.length f,.slice D' lb.ms.length f',.string ⟨lc.tx.toArray⟩] 50)).grownBy w9 cs.ownBlock->Blk w9 R #[us,cs,crs,hb] 26:=λw9 hg=>(hg.block R (lL hrb.lt ((FR _).drew.alloc _).size) (λe=>by have:=(hown R e.symm).1;omega)).trans (hrb.keep ((FR _).drew.alloc _))
        have hy9:∀ w9,(W8.drew.alloc (.cells #[.string ⟨la.tx.toArray⟩,.int .i64 lb.kd,.int .i64 lb.nm,.string ⟨lb.tx.toArray⟩,.slice D lb.ls.length f,.slice D' lb.ms.length f',.string ⟨lc.tx.toArray⟩] 50)).grownBy w9 cs.ownBlock->Blk w9 X5 #[.int .i64 x.kd,.int .i64 x.nm,.string ⟨x.tx.toArray⟩,.slice (some ⟨b5,o5,none⟩) x.ls.length p,.slice P' x.ms.length p'] 29:=λw9 hg=>HB5.out.frx (hx9 w9 hg) hnX
        have hrz:∀ w9,(W8.drew.alloc (.cells #[.string ⟨la.tx.toArray⟩,.int .i64 lb.kd,.int .i64 lb.nm,.string ⟨lb.tx.toArray⟩,.slice D lb.ls.length f,.slice D' lb.ms.length f',.string ⟨lc.tx.toArray⟩] 50)).grownBy w9 cs.ownBlock->R<w9.heap.size:=λw9 hg=>(rf9 w9 hg).lt
        have hl9:∀ w9,(W8.drew.alloc (.cells #[.string ⟨la.tx.toArray⟩,.int .i64 lb.kd,.int .i64 lb.nm,.string ⟨lb.tx.toArray⟩,.slice D lb.ls.length f,.slice D' lb.ms.length f',.string ⟨lc.tx.toArray⟩] 50)).grownBy w9 cs.ownBlock->LsC w9 Sv (some ⟨b5,o5,none⟩) x.ls:=λw9 hg=>HL5.out.frxS (λb hb=>⟨Nat.lt_trans (hSv b hb) hR5,Nat.ne_of_lt (hSv b hb)⟩) (hx9 w9 hg)
        refine wp_region_held_drew (S:=λW=>W.cell? ⟨X8,3,none⟩=some (.slice (some ⟨g,q,none⟩) 3 e)/\W.cell? ⟨g,q+2,none⟩=some (.string ⟨la.tx.toArray⟩)/\W.cell? ⟨g,q+5,none⟩=some (.int .i64 lb.kd)/\W.cell? ⟨g,q+5+1,none⟩=some (.int .i64 lb.nm)/\W.cell? ⟨g,q+5+2,none⟩=some (.string ⟨lb.tx.toArray⟩)/\W.cell? ⟨g,q+5+3,none⟩=some (.slice D lb.ls.length f)/\W.cell? ⟨g,q+5+4,none⟩=some (.slice D' lb.ms.length f')/\W.cell? ⟨g,q+10+2,none⟩=some (.string ⟨lc.tx.toArray⟩)) (by kernel_rfl) ?_ (λhHeld=>?_)
        ·exact HSW.out _ ⟨rfl,rfl⟩
        refine tq 0 rfl hHeld ?_;(try simp only [Act.put,fl]);refine tq 1 rfl hHeld ?_;(try simp only [Act.put,fl]);refine tq 2 rfl hHeld ?_;(try simp only [Act.put,fl]);refine tq 3 rfl hHeld ?_;(try simp only [Act.put,fl]);refine tq 5 rfl hHeld ?_;(try simp only [Act.put,fl]);refine tq 6 rfl hHeld ?_;(try simp only [Act.put,fl]);refine tq 7 rfl hHeld ?_;(try simp only [Act.put,fl]);refine tq 8 rfl hHeld ?_;(try simp only [Act.put,fl]);refine tq 9 rfl hHeld ?_;(try simp only [Act.put,fl]);refine tq 10 rfl hHeld ?_;(try simp only [Act.put,fl]);refine tq 11 rfl hHeld ?_;(try simp only [Act.put,fl]);refine tq 12 rfl hHeld ?_;(try simp only [Act.put,fl]);refine tq 13 rfl hHeld ?_;(try simp only [Act.put,fl]);refine tq 14 rfl hHeld ?_;(try simp only [Act.put,fl]);refine tq 15 rfl hHeld ?_;(try simp only [Act.put,fl]);refine tq 16 rfl hHeld ?_;(try simp only [Act.put,fl]);refine tq 17 rfl hHeld ?_;(try simp only [Act.put,fl]);refine tq 18 rfl hHeld ?_;(try simp only [Act.put,fl]);refine tq 19 rfl hHeld ?_;(try simp only [Act.put,fl]);refine wpAnyH_ready (rs:=[4,20]) (by kernel_rfl) (by simp) ?_;refine AllReadyH.cons rfl (λK hK=>?_) (AllReadyH.cons rfl (λK hK=>?_) AllReadyH.nil)
        ·go_simp
         refine hK.out _ _ (HSW.out _ ⟨rfl,rfl⟩) (λhH0=>?_);clear hK K;(try simp only [Act.put,fl]);refine rq 20 rfl (λK hK=>?_);go_simp
         refine hK.out _ _ (HSW.out _ (hx7 _)) (λhH1=>?_);clear hK K;(try simp only [Act.put,fl]);refine rq 21 rfl (λK hK=>?_);refine step_cB_lit rfl (.tmp 58) (.tmp 74) rfl Sv W5.heap.size cs acc rfl hs8 la.tx lb lc.tx D f D' f' rfl hil rfl hk16 ?_;intro v9 w9 hs9 hg9;refine hK.out _ _ (HSW.out _ (hx8 w9 hg9)) (λhH=>?_);clear hK K;(try simp only [Act.put,fl]);obtain ⟨A9,c9,rfl⟩:=hs9.is_slice;have h9:=LH (rf9 w9 hg9);obtain ⟨⟨g0,g1,g2,g3⟩,gf0,gf1,gf2,gf3⟩:=box4r h9.out;refine rq 22 rfl (λK hK=>?_);go_simp
         refine hK.out _ _ (HSW.out _ (hx8 w9 hg9)) (λhH2=>?_);clear hK K;(try simp only [Act.put,fl]);refine rq 23 rfl (λK hK=>?_);go_simp
         refine hK.out _ _ (HSW.out _ (hx8 w9 hg9)) (λhH3=>?_);clear hK K;(try simp only [Act.put,fl]);refine rq 24 rfl (λK hK=>?_);go_simp
         refine hK.out _ _ (HSW.out _ ⟨(Below.heap_setCell _ _ _ _ (λe=>hX8 e)).trans (hx8 w9 hg9).1,(Below.heap_setCell _ _ _ _ (λe=>hgR' e)).trans (hx8 w9 hg9).2⟩) (λhH4=>?_);clear hK K;(try simp only [Act.put,fl]);refine wpAnyH_done (by kernel_rfl) ?_ _;go_wp2_with fail
         exact ⟨⟨i+1,_,acc++[Pt.callC u],by omega,by go_num,LH ((hx9 w9 hg9).setCell rfl _),LH (by have:=h9.out.set 1 (.slice A9 (acc++[((la.tx,lb),lc.tx)]).length c9);simpa [HCU.out] using this),LH (by rw [HCU.out];have hq:=hs9.frx (λb hb=>Nat.ne_of_lt (hSv b hb)) hR5 ((FrX.refl R w9).setCell (p:=⟨R,1,none⟩) rfl (.slice A9 (acc.length+1) c9));simpa using hq),LH (by rw [hA.out.1,Pt.take_cc hlt,hxu,Pt.allC_take hlt,hA.out.2,hxu,HGC.out];exact ⟨rfl,rfl⟩),LH ((hy9 w9 hg9).other (λe=>hnX e.symm) _),LH ((hl9 w9 hg9).frxS (λb hb=>⟨Nat.lt_trans (hSv b hb) (hrz w9 hg9),Nat.ne_of_lt (hSv b hb)⟩) ((FrX.refl R w9).setCell (p:=⟨R,1,none⟩) rfl _))⟩,by simp [intOf];omega⟩
        ·go_simp
         refine hK.out _ _ (HSW.out _ (hx7 _)) (λhH0=>?_);clear hK K;(try simp only [Act.put,fl]);refine rq 4 rfl (λK hK=>?_);go_simp
         refine hK.out _ _ (HSW.out _ (hx7 _)) (λhH1=>?_);clear hK K;(try simp only [Act.put,fl]);refine rq 21 rfl (λK hK=>?_);refine step_cB_lit rfl (.tmp 58) (.tmp 74) rfl Sv W5.heap.size cs acc rfl hs8 la.tx lb lc.tx D f D' f' rfl hil rfl hk16 ?_;intro v9 w9 hs9 hg9;refine hK.out _ _ (HSW.out _ (hx8 w9 hg9)) (λhH=>?_);clear hK K;(try simp only [Act.put,fl]);obtain ⟨A9,c9,rfl⟩:=hs9.is_slice;have h9:=LH (rf9 w9 hg9);obtain ⟨⟨g0,g1,g2,g3⟩,gf0,gf1,gf2,gf3⟩:=box4r h9.out;refine rq 22 rfl (λK hK=>?_);go_simp
         refine hK.out _ _ (HSW.out _ (hx8 w9 hg9)) (λhH2=>?_);clear hK K;(try simp only [Act.put,fl]);refine rq 23 rfl (λK hK=>?_);go_simp
         refine hK.out _ _ (HSW.out _ (hx8 w9 hg9)) (λhH3=>?_);clear hK K;(try simp only [Act.put,fl]);refine rq 24 rfl (λK hK=>?_);go_simp
         refine hK.out _ _ (HSW.out _ ⟨(Below.heap_setCell _ _ _ _ (λe=>hX8 e)).trans (hx8 w9 hg9).1,(Below.heap_setCell _ _ _ _ (λe=>hgR' e)).trans (hx8 w9 hg9).2⟩) (λhH4=>?_);clear hK K;(try simp only [Act.put,fl]);refine wpAnyH_done (by kernel_rfl) ?_ _;go_wp2_with fail
         exact ⟨⟨i+1,_,acc++[Pt.callC u],by omega,by go_num,LH ((hx9 w9 hg9).setCell rfl _),LH (by have:=h9.out.set 1 (.slice A9 (acc++[((la.tx,lb),lc.tx)]).length c9);simpa [HCU.out] using this),LH (by rw [HCU.out];have hq:=hs9.frx (λb hb=>Nat.ne_of_lt (hSv b hb)) hR5 ((FrX.refl R w9).setCell (p:=⟨R,1,none⟩) rfl (.slice A9 (acc.length+1) c9));simpa using hq),LH (by rw [hA.out.1,Pt.take_cc hlt,hxu,Pt.allC_take hlt,hA.out.2,hxu,HGC.out];exact ⟨rfl,rfl⟩),LH ((hy9 w9 hg9).other (λe=>hnX e.symm) _),LH ((hl9 w9 hg9).frxS (λb hb=>⟨Nat.lt_trans (hSv b hb) (hrz w9 hg9),Nat.ne_of_lt (hSv b hb)⟩) ((FrX.refl R w9).setCell (p:=⟨R,1,none⟩) rfl _))⟩,by simp [intOf];omega⟩
       ·have qc:(lc.kd != 4)=true:=(ikind kc).2;have hbf:b=false:=by rw [<- HB.out,Pt.allC_no hlt (by rw [hxu];rw [hgc,(ikind kc).1];rfl)];rfl
        subst hbf;go_wp2_with fail
        go_ret
        exact ⟨rfl,HX5.out.trans ((hX.out.fr ((FR _).alloc _))),cs,acc,hRr.out.keep ((FR _).alloc _),(hS.out.keep ((FR _).alloc _)).lower (λb hb=>Nat.lt_trans (hSv b hb) hRw) HX5.out.size,by simp⟩
      ·have qb:(lb.kd != 6)=true:=(ikind kb).2;have hbf:b=false:=by rw [<- HB.out,Pt.allC_no hlt (by rw [hxu];rw [hgc,(ikind kb).1];rfl)];rfl
       subst hbf;go_wp2_with fail
       go_ret
       exact ⟨rfl,HX5.out.trans ((hX.out.fr ((FR _).alloc _))),cs,acc,hRr.out.keep ((FR _).alloc _),(hS.out.keep ((FR _).alloc _)).lower (λb hb=>Nat.lt_trans (hSv b hb) hRw) HX5.out.size,by simp⟩
     ·have qa:(la.kd != 4)=true:=(ikind ka).2;have hbf:b=false:=by rw [<- HB.out,Pt.allC_no hlt (by rw [hxu];rw [hgc,(ikind ka).1];rfl)];rfl
      subst hbf;go_wp2_with fail
      go_ret
      exact ⟨rfl,HX5.out.trans ((hX.out.fr ((FR _).alloc _))),cs,acc,hRr.out.keep ((FR _).alloc _),(hS.out.keep ((FR _).alloc _)).lower (λb hb=>Nat.lt_trans (hSv b hb) hRw) HX5.out.size,by simp⟩
    ·have q3:¬ ((u.ls.length:Int)=3):=by omega
     have q3b:((u.ls.length:Int) != 3)=true:=(ikind q3).2;have h5':(u.kd == 5)=true:=by rw [beq_iff_eq];exact hk
     have q5:(u.kd != 5)=false:=by rw [bne_eq_false_iff_eq];exact hk
     clear hk h5';have hbf:b=false:=by rw [<- HB.out,Pt.allC_no hlt (by rw [hxu];exact Pt.goodC_len h3)];rfl
     subst hbf;go_wp2_with fail
     go_ret
     exact ⟨rfl,HX5.out.trans ((hX.out.fr ((FR _).alloc _))),cs,acc,hRr.out.keep ((FR _).alloc _),(hS.out.keep ((FR _).alloc _)).lower (λb hb=>Nat.lt_trans (hSv b hb) hRw) HX5.out.size,by simp⟩
   ·have q5:(u.kd != 5)=true:=(ikind hk).2;have hbf:b=false:=by rw [<- HB.out,Pt.allC_no hlt (by rw [hxu];exact Pt.goodC_kd hk)];rfl
    subst hbf;go_wp2_with fail
    go_ret
    exact ⟨rfl,HX5.out.trans ((hX.out.fr ((FR _).alloc _))),cs,acc,hRr.out.keep ((FR _).alloc _),(hS.out.keep ((FR _).alloc _)).lower (λb hb=>Nat.lt_trans (hSv b hb) hRw) HX5.out.size,by simp⟩
  ·obtain rfl:i=x.ls.length:=by omega
   have hbe:(x.kd == 5)=b:=by
    have:=HB.out;have h2:=hA.out.2;rw [List.take_length] at h2;rw [h2] at this;simpa using this
   go_wp2_with fail
   go_ret
   exact ⟨rfl,HX5.out.trans hX.out,cs,acc,hRr.out,hS.out.lower (λb hb=>Nat.lt_trans (hSv b hb) hRw) HX5.out.size,λ_=>by rw [hA.out.1,List.take_length]⟩
end Go.Proofs.YtockgemmkjdnkaaGreatDoor
