/- Chapter 25: EnvelopeBack's walk. -/
import Derived.Test.YtockgemmkjdnkaaGreatDoorEvMk
import Derived.Test.YtockgemmkjdnkaaGreatDoorEvBP
import Derived.Deep.RegionHeld
namespace Go.Proofs.YtockgemmkjdnkaaGreatDoor
set_option maxRecDepth 100000
set_option maxHeartbeats 8000000
set_option linter.unusedVariables false
set_option linter.unusedSimpArgs false
open Go.RowKit

theorem MsC.inV {w:World} {S:Nat→Prop} {A:Option Addr} {m:List (List UInt8 × JV)} (h:MsC w S A m) (h63:m.length≤140737488355328) (c:Nat):InV w S (JV.mapV m) (.agg #[.int .i64 6,.int .i64 0,.string ⟨#[]⟩,.slice none 0 0,.slice A m.length c]):=by
 by_cases h0:0<m.length
 ·obtain ⟨b,o,_,_,_,_,rfl,hb,_⟩:=h 0 h0
  refine InV.ofMap hb h63 (fun i hi=>?_)
  obtain ⟨b2,o2,C,f,C',f',he,_,hn,a0,⟨n0,n1,n2,n3,n4⟩,hx⟩:=h i hi
  injection he with he;injection he with e1 e2 _
  subst e1;subst e2
  exact ⟨hn,_,_,_,_,_,a0,n0,n1,n2,n3,n4,hx⟩
 ·obtain rfl:m=[]:=by cases m with | nil=>rfl | cons _ _=>simp at h0
  exact InV.mk 6 0 [] [] [] none A 0 c (fun _ _=>.int .i64 0) (fun _ _=>.int .i64 0) (by decide) (by decide) (by decide) (by decide) (by simp) (by simp) (by simp) (fun i h=>absurd h (by simp)) (fun h=>absurd h (by simp)) (fun i h=>absurd h (by simp)) (fun h=>absurd h (by simp))
theorem one_in {S:Nat→Prop} (w:World) (s:List UInt8) (hS:S w.heap.size) (hn:s.length≤140737488355328):InV (w.alloc (.cells #[.int .i64 4,.int .i64 0,.string ⟨s.toArray⟩,.slice none 0 0,.slice none 0 0] 29)) S (JV.listV [JV.textV s]) (.agg #[.int .i64 5,.int .i64 0,.string ⟨#[]⟩,.slice (some ⟨w.heap.size,0,none⟩) 1 1,.slice none 0 0]):=by
 have hb:=Blk.made w #[.int .i64 4,.int .i64 0,.string ⟨s.toArray⟩,.slice none 0 0,.slice none 0 0] 29
 refine InV.ofList (l:=[JV.textV s]) hS (by simp) (fun i hi2=>?_)
 obtain rfl:i=0:=by simp at hi2;omega
 exact ⟨_,_,_,_,_,hb.cell 0,hb.cell 1,hb.cell 2,hb.cell 3,hb.cell 4,txt_in _ _ _ hn⟩
namespace Pt
theorem respL_bulk (cs:List CallV):JV.bulkL (cs.map respC)≤3*bulkC cs:=by
 induction cs with
 | nil=>simp [JV.bulkL]
 | cons c r ih=>
  rw [List.map_cons,JV.bulkL_cons,bulkC]
  have:JV.bulk (respC c)≤9+c.1.1.length+JV.bulk c.1.2+c.2.length:=by
   unfold respC JV.listV JV.textV
   simp only [JV.bulk_mk,JV.bulkL_cons,JV.bulkL,JV.bulkM,JV.bulkP,List.length_nil]
   omega
  omega
theorem back_bulk (cs:List CallV) (ms:List (List UInt8 × JV)) (has:Bool):JV.bulk (backV cs ms has)≤3*bulkC cs+JV.bulkM ms+1000:=by
 have h1:=respL_bulk cs
 have h2:kUrn.length=29:=rfl
 have h3:nUsing.length=5:=rfl
 have h4:nCalls.length=11:=rfl
 have h5:nIds.length=10:=rfl
 cases has
 ·unfold backV backM
  simp only [JV.mapV,JV.listV,JV.textV,JV.bulk_mk,JV.bulkM_cons,JV.bulkL_cons,JV.bulkL,JV.bulkM,JV.bulkP,List.length_nil,if_false,Bool.false_eq_true,if_neg,not_false_eq_true]
  omega
 ·unfold backV backM
  simp only [JV.mapV,JV.listV,JV.textV,JV.bulk_mk,JV.bulkM_cons,JV.bulkL_cons,JV.bulkL,JV.bulkM,JV.bulkP,List.length_nil,if_true,List.cons_append,List.nil_append]
  omega
end Pt
theorem msb_showsB {w:World} {Z K:Nat} {v:Value} {l:List (List UInt8 × JV)} (h:MsB w Z K v l) (h63:l.length≤140737488355328):∃ A c,v=.slice A l.length c∧MsC w (Lo w.heap.size) A l:=by
 obtain ⟨A,c,rfl⟩:=h.is_slice
 obtain ⟨A1,c1,A1',c1',he,_,hm⟩:=(h.inV h63).open_
 have hA:A=A1':=by obtain ⟨_,_,_,_,e4⟩:=five he;injection e4
 subst hA
 exact ⟨A,c,rfl,hm.map (fun b hb=>by have:=h.1;show b<w.heap.size;rcases hb with hb | hb <;> omega) (fun _ _ _=>rfl)⟩
theorem JV.ok_all2 {v:JV} (h:JV.okB v=true):JV.allB v=true:=by
 induction v using JV.ind with
 | h k n s l m ihl ihm=>
  obtain ⟨a,b,c,d⟩:=(JV.ok_iff _).1 h
  rw [JV.all_mk,JV.allL_all,JV.allM_all]
  simp only [Bool.and_eq_true,List.all_eq_true]
  exact ⟨⟨fun u hu=>ihl u hu (c u hu),fun x hx=>ihm x hx (d x hx)⟩,a⟩
theorem pr_ne:Pt.prV Pt.kLim Pt.kCalls≠Pt.prV Pt.kReq []:=by
 intro h
 have:(Pt.prV Pt.kLim Pt.kCalls).ms.length=(Pt.prV Pt.kReq []).ms.length:=by rw [h]
 exact absurd this (by decide)

theorem back_law (cs:List CallV) (A:Option Addr) (c:Nat) (ms:List (List UInt8 × JV)) (B:Option Addr) (d:Nat) (has:Bool) (w:World) (hc:CsR w A cs) (hm:MsC w (Lo w.heap.size) B ms) (h1:Pt.bulkC cs≤1048576) (h2:JV.bulkM ms≤1048576) (hT:LowTabs w):
  Calls Tryz.prog 4 #[.slice A cs.length c,.slice B ms.length d,.bool has] w fun e w'=>e=.returned (.bool true)∧Fr w w':=by
 have HT:=Lib.hid hT
 have hcl:cs.length≤1048576:=Nat.le_trans (Pt.bulkC_len cs) h1
 have hml:ms.length≤1048576:=by have:=JV.bulkM_len ms;omega
 have hcl':(cs.length:Int)≤1048576:=by omega
 have hml':(ms.length:Int)≤1048576:=by omega
 have hmk:∀ W,Fr w W→MsC W (Lo W.heap.size) B ms:=fun W hW=>(hm.keep (Nat.le_refl _) hW).map (fun b hb=>Nat.lt_of_lt_of_le hb hW.size) (fun _ _ _=>rfl)
 have HCS:Hid (∀ W,Fr w W→CsR W A cs):=Lib.hid (fun W hW=>hc.keep hW)
 have HMS:Hid (∀ W,Fr w W→MsC W (Lo W.heap.size) B ms):=Lib.hid hmk
 have HFEW:Hid (∀ W,Fr w W→Calls Tryz.prog 13 #[.slice A cs.length c,.slice B ms.length d] W fun e w'=>(∃ b:Bool,e=.returned (.bool b))∧Fr W w'):=Lib.hid (fun W hW=>few25_is cs A c ms B d W (hc.keep hW) (hmk W hW) h1 h2)
 have HRR:Hid (∀ W,Fr w W→Calls Tryz.prog 16 #[.slice A cs.length c,.slice none 0 0,.bool false] W fun e w'=>(∃ (b o g:Nat) (E:Option Addr) (e2:Nat) (E':Option Addr) (e2':Nat),e=.returned (.agg #[.int .i64 6,.int .i64 0,.string ⟨#[]⟩,.slice none 0 0,.slice (some ⟨b,o,none⟩) 2 g])∧(w'.cell? ⟨b,o+1,none⟩=some (.int .i64 5)∧w'.cell? ⟨b,o+1+1,none⟩=some (.int .i64 0)∧w'.cell? ⟨b,o+1+2,none⟩=some (.string ⟨#[]⟩)∧w'.cell? ⟨b,o+1+3,none⟩=some (.slice E cs.length e2)∧w'.cell? ⟨b,o+1+4,none⟩=some (.slice E' 0 e2'))∧InV w' (Lo w'.heap.size) (JV.listV (cs.map Pt.respC)) (.agg #[.int .i64 5,.int .i64 0,.string ⟨#[]⟩,.slice E cs.length e2,.slice E' 0 e2']))∧Fr W w'):=Lib.hid (fun W hW=>by
  refine (rresp_is cs A c [] none 0 false W (hc.keep hW) (fun i h=>absurd h (by simp)) hcl (by simp) (Pt.bulkC_nm h1)).mono ?_
  rintro e w' ⟨⟨D,g,rfl,hi⟩,hf⟩
  obtain ⟨D0,d0,D1,d1,he,_,hms⟩:=hi.open_
  have hD:D=D1:=by obtain ⟨_,_,_,_,e4⟩:=five he;injection e4
  subst hD
  obtain ⟨b,o,E,e2,E',e2',rfl,_,_,_,⟨n0,n1,n2,n3,n4⟩,hx⟩:=hms 0 (by show 0<2;omega)
  have hz:(JV.listV (cs.map Pt.respC)).ls.length=cs.length:=by simp [JV.listV,JV.ls]
  have n3:w'.cell? ⟨b,o+0*6+1+3,none⟩=some (.slice E (JV.listV (cs.map Pt.respC)).ls.length e2):=n3
  have hx:InV w' (Lo w'.heap.size) (JV.listV (cs.map Pt.respC)) (.agg #[.int .i64 5,.int .i64 0,.string ⟨#[]⟩,.slice E (JV.listV (cs.map Pt.respC)).ls.length e2,.slice E' 0 e2']):=hx
  have hoo:o+0*6=o:=by omega
  rw [hz] at n3 hx
  rw [hoo] at n0 n1 n2 n3 n4
  exact ⟨⟨b,o,g,E,e2,E',e2',rfl,⟨n0,n1,n2,n3,n4⟩,hx⟩,hf⟩)
 have HA1:Hid (∀ W:World,Calls Tryz.prog 14 #[.agg #[.int .i64 0,.int .i64 0,.string ⟨#[]⟩,.slice none 0 0,.slice none 0 0],.string ⟨#[117,115,105,110,103]⟩,.agg #[.int .i64 5,.int .i64 0,.string ⟨#[]⟩,.slice (some ⟨W.heap.size,0,none⟩) 1 1,.slice none 0 0]] (W.alloc (.cells #[.int .i64 4,.int .i64 0,.string ⟨#[117,114,110,58,105,101,116,102,58,112,97,114,97,109,115,58,106,109,97,112,58,99,111,110,116,97,99,116,115]⟩,.slice none 0 0,.slice none 0 0] 29)) fun e w'=>(∃ (D:Option Addr) (g:Nat),e=.returned (.agg #[.int .i64 6,.int .i64 0,.string ⟨#[]⟩,.slice none 0 0,.slice D 1 g])∧InV w' (Lo w'.heap.size) (JV.mapV [(Pt.nUsing,JV.listV [JV.textV Pt.kUrn])]) (.agg #[.int .i64 6,.int .i64 0,.string ⟨#[]⟩,.slice none 0 0,.slice D 1 g]))∧Fr (W.alloc (.cells #[.int .i64 4,.int .i64 0,.string ⟨#[117,114,110,58,105,101,116,102,58,112,97,114,97,109,115,58,106,109,97,112,58,99,111,110,116,97,99,116,115]⟩,.slice none 0 0,.slice none 0 0] 29)) w'):=Lib.hid (fun W=>by
  refine (radd_none (JV.listV [JV.textV Pt.kUrn]) (some ⟨W.heap.size,0,none⟩) 1 none 0 [117,115,105,110,103] (W.alloc (.cells #[.int .i64 4,.int .i64 0,.string ⟨#[117,114,110,58,105,101,116,102,58,112,97,114,97,109,115,58,106,109,97,112,58,99,111,110,116,97,99,116,115]⟩,.slice none 0 0,.slice none 0 0] 29)) (Lo (W.alloc (.cells #[.int .i64 4,.int .i64 0,.string ⟨#[117,114,110,58,105,101,116,102,58,112,97,114,97,109,115,58,106,109,97,112,58,99,111,110,116,97,99,116,115]⟩,.slice none 0 0,.slice none 0 0] 29)).heap.size) (fun b hb=>(hb:b<_)) (one_in W Pt.kUrn (by show W.heap.size<_;simp) (by decide)) (by decide)).mono ?_
  rintro e w' ⟨⟨D,g,he,hi⟩,hf⟩
  exact ⟨⟨D,g,he,hi.more (fun b hb=>by rcases hb with hb | hb;exact Nat.lt_of_lt_of_le hb hf.size;exact hb.2)⟩,hf⟩)
 have HA2:Hid (∀ (W:World) (D E E':Option Addr) (g e2 e2':Nat),InV W (Lo W.heap.size) (JV.mapV [(Pt.nUsing,JV.listV [JV.textV Pt.kUrn])]) (.agg #[.int .i64 6,.int .i64 0,.string ⟨#[]⟩,.slice none 0 0,.slice D 1 g])→InV W (Lo W.heap.size) (JV.listV (cs.map Pt.respC)) (.agg #[.int .i64 5,.int .i64 0,.string ⟨#[]⟩,.slice E cs.length e2,.slice E' 0 e2'])→Calls Tryz.prog 14 #[.agg #[.int .i64 6,.int .i64 0,.string ⟨#[]⟩,.slice none 0 0,.slice D 1 g],.string ⟨#[109,101,116,104,111,100,67,97,108,108,115]⟩,.agg #[.int .i64 5,.int .i64 0,.string ⟨#[]⟩,.slice E cs.length e2,.slice E' 0 e2']] W fun e w'=>(∃ (D:Option Addr) (g:Nat),e=.returned (.agg #[.int .i64 6,.int .i64 0,.string ⟨#[]⟩,.slice none 0 0,.slice D 2 g])∧InV w' (Lo w'.heap.size) (JV.mapV (Pt.backM cs)) (.agg #[.int .i64 6,.int .i64 0,.string ⟨#[]⟩,.slice none 0 0,.slice D 2 g]))∧Fr W w'):=Lib.hid (fun W D E E' g e2 e2' hv hx=>by
  have hz:(JV.listV (cs.map Pt.respC)).ls.length=cs.length:=by simp [JV.listV,JV.ls]
  have h:=radd_map [(Pt.nUsing,JV.listV [JV.textV Pt.kUrn])] (JV.listV (cs.map Pt.respC)) D g E e2 E' e2' [109,101,116,104,111,100,67,97,108,108,115] W (Lo W.heap.size) (fun b hb=>hb) hv (by unfold vA;rw [hz];exact hx) (by simp) (by decide) 2 1 rfl rfl
  rw [hz] at h
  refine h.mono ?_
  rintro e w' ⟨⟨D,g,he,hi⟩,hf⟩
  exact ⟨⟨D,g,he,hi.more (fun b hb=>by rcases hb with hb | hb;exact Nat.lt_of_lt_of_le hb hf.size;exact hb.2)⟩,hf⟩)
 have HA3:Hid (∀ (W:World) (D:Option Addr) (g X:Nat),X≤W.heap.size→w.heap.size≤X→Fr w W→InV W (Lo X) (JV.mapV (Pt.backM cs)) (.agg #[.int .i64 6,.int .i64 0,.string ⟨#[]⟩,.slice none 0 0,.slice D 2 g])→Calls Tryz.prog 14 #[.agg #[.int .i64 6,.int .i64 0,.string ⟨#[]⟩,.slice none 0 0,.slice D 2 g],.string ⟨#[99,114,101,97,116,101,100,73,100,115]⟩,.agg #[.int .i64 6,.int .i64 0,.string ⟨#[]⟩,.slice none 0 0,.slice B ms.length d]] W fun e w'=>(∃ (D:Option Addr) (g:Nat),e=.returned (.agg #[.int .i64 6,.int .i64 0,.string ⟨#[]⟩,.slice none 0 0,.slice D 3 g])∧InV w' (NeS (Lo X) W w') (JV.mapV (Pt.backM cs++[(Pt.nIds,JV.mapV ms)])) (.agg #[.int .i64 6,.int .i64 0,.string ⟨#[]⟩,.slice none 0 0,.slice D 3 g]))∧Fr W w'):=Lib.hid (fun W D g X hX hX2 hW hv=>by
  have hx:=MsC.inV ((hm.keep (Nat.le_refl _) hW).map (fun b hb=>(Nat.lt_of_lt_of_le hb hX2:b<X)) (fun _ _ _=>rfl)) (by omega) d
  exact radd_map (Pt.backM cs) (JV.mapV ms) D g none 0 B d [99,114,101,97,116,101,100,73,100,115] W (Lo X) (fun b hb=>Nat.lt_of_lt_of_le hb hX) hv hx (by show 2≤1000;omega) (by decide) 3 2 rfl rfl)
 obtain ⟨cq,q,hcq⟩:∃ cq q,JV.chk (Pt.backV cs ms has) 1 0=(cq,q):=⟨_,_,rfl⟩
 obtain ⟨TT,hTT⟩:∃ TT,TT=if cq=0 then JV.wrt (Pt.backV cs ms has) else []:=⟨_,rfl⟩
 have hTl:TT.length≤1000000000:=by
  rw [hTT]
  split
  ·rename_i h0
   have hb:=Pt.back_bulk cs ms has
   have h3:=JV.wrt_len (Pt.backV cs ms has) (JV.ok_all2 (JV.chk_ok (Pt.backV cs ms has) 1 0 (by rw [hcq];exact h0)).1)
   omega
  ·simp
 obtain ⟨S,hS⟩:∃ S:ByteArray,S=⟨TT.toArray⟩:=⟨_,rfl⟩
 have hSs:S.size=TT.length:=by rw [hS];simp [ByteArray.size]
 have hSl:(S.size:Int)≤1000000000:=by omega
 have HTX:Hid (∀ W x,InV W (Lo W.heap.size) (Pt.backV cs ms has) x→Calls Tryz.prog 17 #[x] W fun e w'=>e=.returned (.tuple #[.string S,.int .i64 (cq:Nat)])∧Fr W w'):=Lib.hid (fun W x hx=>by
  obtain ⟨C,f,C',f',rfl⟩:=hx.shape
  rw [hS]
  exact text_is (Pt.backV cs ms has) C f C' f' W cq q TT hx hcq hTT (by omega))
 have HPA:Hid (cq=0 → ¬ (65536:Int)<(S.size:Int) → ∀ W,LowTabs W→Calls Tryz.prog 7 #[.string S] W (PrP W (Pt.backP cs ms has))):=Lib.hid (fun h0 hs W hW=>by
  have h:=parse_is S W (by omega) hW
  have hd:S.data.toList=JV.wrt (Pt.backV cs ms has):=by rw [hS,hTT,if_pos h0]
  rw [hd,Pt.parse_back cs ms has (by rw [hcq];exact h0) (by rw [hTT,if_pos h0] at hSs;omega)] at h
  exact h)
 have HBV:Hid (Pt.backV cs ms has=JV.mapV (if has then Pt.backM cs++[(Pt.nIds,JV.mapV ms)] else Pt.backM cs)):=Lib.hid rfl
 have hfd:∀ (W:World) (b o g:Nat),(Instr.field 29 (.agg #[.int .i64 6,.int .i64 0,.string ⟨#[]⟩,.slice none 0 0,.slice (some ⟨b,o,none⟩) 2 g]) 4).run Tryz.prog W=.ok (.slice (some ⟨b,o,none⟩) 2 g) W:=fun _ _ _ _=>by kernel_rfl
 clear hc hm hmk hcq hTT hTl hSs hS hT
 go_enter Tryz.func4,Tryz.ntmps4
 go_upto_region 3 with (first
  | (go_at_call 9;have hq:=HP1.out;refine (awake25 _ (HT.out.keep hq)).mono ?_;rintro e w9 ⟨rfl,hf⟩;have HF9:=Lib.hid (hq.trans hf);clear hf hq)
  | (go_at_call 9;refine (awake25 _ HT.out).mono ?_;rintro e w0 ⟨rfl,hf⟩;have HP0:=Lib.hid hf;clear hf)
  | (go_at_call 13;refine (HFEW.out _ HP0.out).mono ?_;rintro e w1 ⟨⟨bb,rfl⟩,hf⟩;have HP1:=Lib.hid (HP0.out.trans hf);clear hf;cases bb))
 ·go_wp2_with (go_at_call 9;have hq:=HP1.out;refine (awake25 _ (HT.out.keep hq)).mono ?_;rintro e w9 ⟨rfl,hf⟩;have HF9:=Lib.hid (hq.trans hf);clear hf hq)
  go_ret
  exact ⟨rfl,HF9.out⟩
 go_upto_region 4 with (first
  | (go_at_call 14;have hq:=HI3.out;refine (HA2.out _ D2 E E' g2 e2 e2' (HI2.out.go HF3.out) hq).mono ?_;rintro e w5 ⟨⟨D4,g4,rfl,hi⟩,hf⟩;have HI4:=Lib.hid hi;have HP4:=Lib.hid ((HP2.out.trans HF3.out).trans hf);clear hi hf hq)
  | (go_at_call 14;refine (HA1.out _).mono ?_;rintro e w3 ⟨⟨D2,g2,rfl,hi⟩,hf⟩;have HI2:=Lib.hid hi;have HP2:=Lib.hid ((HPT.out.alloc _).trans hf);clear hi hf)
  | (go_at_call 15;refine (rtxt_is _ _).mono ?_;rintro e w2 ⟨rfl,hf⟩;have HPT:=Lib.hid (HP1.out.trans hf);clear hf)
  | (go_at_call 16;refine (HRR.out _ HP2.out).mono ?_;rintro e w4 ⟨⟨b,o,g3,E,e2,E',e2',rfl,⟨n0,n1,n2,n3,n4⟩,hx⟩,hf⟩;have HI3:=Lib.hid hx;have HF3:=Lib.hid hf;clear hx hf))
 clear n0 n1 n2 n3 n4
 have hb7:=Blk.made w5 #[.int .i64 6,.int .i64 0,.string ⟨#[]⟩,.slice none 0 0,(.slice D4 2 g4)] 29
 have hf7:Fr w5 (w5.alloc (.cells #[.int .i64 6,.int .i64 0,.string ⟨#[]⟩,.slice none 0 0,(.slice D4 2 g4)] 29)):=(Fr.refl w5).alloc _
 have hi7:=HI4.out.keep (Nat.le_refl _) hf7
 have hw7:=HP4.out.trans hf7
 have hs5:=HP4.out.size
 have hX7:=hb7.lt
 generalize (w5.alloc (.cells #[.int .i64 6,.int .i64 0,.string ⟨#[]⟩,.slice none 0 0,(.slice D4 2 g4)] 29))=W7 at hb7 hf7 hi7 hw7 hX7 ⊢
 clear hf7
 generalize w5.heap.size=X7 at hb7 hi7 hs5 hX7 ⊢
 have HB7:=Lib.hid hb7
 have HI7:=Lib.hid hi7
 have HW7:=Lib.hid hw7
 clear hb7 hi7 hw7
 have go_on:∀ (D:Option Addr) (n g:Nat) (W8:World),Hid (Blk W8 X7 #[.int .i64 6,.int .i64 0,.string ⟨#[]⟩,.slice none 0 0,(.slice D n g)] 29)→Hid (InV W8 (Lo W8.heap.size) (Pt.backV cs ms has) (.agg #[.int .i64 6,.int .i64 0,.string ⟨#[]⟩,.slice none 0 0,.slice D n g]))→Hid (Fr w W8)→True:=fun _ _ _ _ _ _ _=>trivial
 clear go_on
 cases has with
 | false=>
  go_upto_region 6 with fail
  obtain ⟨⟨y0,y1,y2,y3,y4⟩,_⟩:=box5 HB7.out
  have HIV:Hid (InV W7 (Lo W7.heap.size) (Pt.backV cs ms false) (.agg #[.int .i64 6,.int .i64 0,.string ⟨#[]⟩,.slice none 0 0,.slice D4 2 g4])):=Lib.hid (HI7.out.lo (Nat.le_of_lt hX7))
  have HWW:=HW7
  have hcc:((cq:Int) != 0)=true∨(((cq:Int) != 0)=false∧Hid (cq=0)):=by
   by_cases h:cq=0
   ·exact .inr ⟨by rw [h];rfl,Lib.hid h⟩
   ·exact .inl (by rw [bne_iff_ne];omega)
  have hss:(65536:Int)<(S.size:Int) ∨ ¬ (65536:Int)<(S.size:Int):=by omega
  go_upto_region 7 with (go_at_call 17;refine (HTX.out _ _ HIV.out).mono ?_;rintro e w9 ⟨rfl,hf⟩;have HF9:=Lib.hid (HWW.out.trans hf);clear hf)
  clear y0 y1 y2 y3 y4
  rcases hcc with hcc | ⟨hcc,hc0⟩
  ·go_wp2_with fail
   go_ret
   exact ⟨rfl,HF9.out⟩
  rcases hss with hss | hss
  ·go_wp2_with fail
   go_ret
   exact ⟨rfl,HF9.out⟩
  have HPB:Hid (Calls Tryz.prog 7 #[.string S] w9 (PrP w9 (Pt.backP cs ms false))):=Lib.hid (HPA.out hc0.out hss _ (HT.out.keep HF9.out))
  clear HPA HTX HA1 HA2 HA3 HRR HFEW HIV HBV
  have hmap:∀ i (h:i<cs.length),(((cs[i]).1.2.kd != 6)=true→Pt.noMap cs=true):=fun i h hk=>by
   unfold Pt.noMap
   exact List.any_eq_true.2 ⟨cs[i],List.getElem_mem h,hk⟩
  have hall:(∀ i (h:i<cs.length),((cs[i]).1.2.kd != 6)=false)→Pt.noMap cs=false:=fun hk=>by
   unfold Pt.noMap
   rw [Bool.eq_false_iff]
   intro hh
   obtain ⟨x,hx,hx2⟩:=List.any_eq_true.1 hh
   obtain ⟨i,hi,rfl⟩:=List.getElem_of_mem hx
   rw [hk i hi] at hx2
   cases hx2
  have HMAP:=Lib.hid hmap
  have HALL:=Lib.hid hall
  clear hmap hall
  cases hr:Pt.backP cs ms false with
  | bad K0 L0=>
   rw [hr] at HPB
   obtain ⟨n,hn⟩:∃ n,n=(Pt.prM K0 L0).length:=⟨_,rfl⟩
   have HPC:Hid (Calls Tryz.prog 7 #[.string S] w9 fun e w'=>(∃ (D:Option Addr) (g:Nat),e=.returned (.tuple #[.agg #[.slice none 0 0,.slice none 0 0,.slice none 0 0,.bool false],.agg #[.int .i64 6,.int .i64 0,.string ⟨#[]⟩,.slice none 0 0,(.slice D n g)]])∧InV w' (Lo w'.heap.size) (Pt.prV K0 L0) (.agg #[.int .i64 6,.int .i64 0,.string ⟨#[]⟩,.slice none 0 0,.slice D n g]))∧Fr w9 w'):=Lib.hid (by
    have h:=HPB.out
    unfold PrP at h
    refine h.mono ?_
    rintro e w' ⟨⟨D,g,he,hm⟩,hf⟩
    rw [← hn] at he hm
    exact ⟨⟨D,g,he,prm_in hm⟩,hf⟩)
   have HR:=Lib.hid hr
   clear hr HPB hn
   go_upto_region 10 with (go_at_call 7;refine HPC.out.mono ?_;rintro e w1 ⟨⟨D,g,rfl,hi⟩,hf⟩;have HI1:=Lib.hid hi;have HF1:=Lib.hid (HF9.out.trans hf);clear hi hf)
   obtain ⟨W9,hW⟩:∃ W,W=((w1.alloc (.cells #[.slice none 0 0,.slice none 0 0,.slice none 0 0,.bool false] 26)).alloc (.cells #[.int .i64 6,.int .i64 0,.string ⟨#[]⟩,.slice none 0 0,(.slice D n g)] 29)):=⟨_,rfl⟩
   have hkk:Fr w1 W9:=by rw [hW];exact ((Fr.refl w1).alloc _).alloc _
   have hb2:Blk W9 (w1.heap.size+1) #[.int .i64 6,.int .i64 0,.string ⟨#[]⟩,.slice none 0 0,(.slice D n g)] 29:=by rw [hW];exact boxz (Blk.made (w1.alloc _) _ _)
   rw [← hW]
   clear hW
   have hi9:=HI1.out.go hkk
   have hw9:=HF1.out.trans hkk
   generalize w1.heap.size+1=Y1 at hb2 ⊢
   have HB2:=Lib.hid hb2
   have HI9:=Lib.hid hi9
   have HW9:=Lib.hid hw9
   clear hkk hb2 hi9 hw9 HF1 HI1
   have HSY:Hid (∀ W,Fr W9 W→W.cell? ⟨Y1,0,none⟩=some (.int .i64 6)∧W.cell? ⟨Y1,0+1,none⟩=some (.int .i64 0)∧W.cell? ⟨Y1,0+2,none⟩=some (.string ⟨#[]⟩)∧W.cell? ⟨Y1,0+3,none⟩=some (.slice none 0 0)∧W.cell? ⟨Y1,0+4,none⟩=some (.slice D n g)):=Lib.hid (fun W hW=>by
    have a:=HB2.out.keep hW
    exact ⟨a.cell 0,a.cell 1,a.cell 2,a.cell 3,a.cell 4⟩)
   have HRQ:Hid (∀ W,Calls Tryz.prog 18 #[.string ⟨#[110,111,116,82,101,113,117,101,115,116]⟩,.string ⟨#[]⟩] W fun e w'=>(∃ (D:Option Addr) (g:Nat),e=.returned (.agg #[.int .i64 6,.int .i64 0,.string ⟨#[]⟩,.slice none 0 0,.slice D 2 g])∧InV w' (Lo w'.heap.size) (Pt.prV Pt.kReq []) (.agg #[.int .i64 6,.int .i64 0,.string ⟨#[]⟩,.slice none 0 0,.slice D 2 g]))∧Fr W w'):=Lib.hid (fun W=>by
    refine (rproblem_is ⟨#[110,111,116,82,101,113,117,101,115,116]⟩ ⟨#[]⟩ W (by decide) (by decide) 2 (by decide)).mono ?_
    rintro e w' ⟨⟨D,g,he,_,hi⟩,hf⟩
    exact ⟨⟨D,g,he,hi⟩,hf⟩)
   go_upto_region 11 with fail
   go_loopw [12] (fun j wr=>∃ (i:Nat),i≤cs.length∧j=.int .i64 i∧W9=wr∧Hid (∀ k (h:k<cs.length),k<i→((cs[k]).1.2.kd != 6)=false)) (fun j _=>cs.length - (intOf j).toNat)
   case atStart=>exact ⟨0,by omega,rfl,rfl,Lib.hid (fun k _ h=>absurd h (by omega))⟩
   case round=>
    obtain ⟨i,hi,rfl,rfl,hK⟩:=hrel
    by_cases hlt:i<cs.length
    ·have hlt':(i:Int)<(cs.length:Int):=by omega
     obtain ⟨b,o,C,f,C',f',rfl,hb,a0,⟨n0,n1,n2,n3,n4⟩,a6,hxa⟩:=HCS.out _ HW9.out i hlt
     clear hb a0 n1 n2 n3 n4 a6 hxa
     have hmp:=HMAP.out i hlt
     have HKI:Hid (∀ x:Bool,((cs[i]).1.2.kd != 6)=x→x=false → ∀ k (h:k<cs.length),k<i+1→((cs[k]).1.2.kd != 6)=false):=Lib.hid (fun x hx hx2 k h hki=>by
      by_cases e:k=i
      ·subst e;rw [hx];exact hx2
      ·exact hK.out k h (by omega))
     generalize cs[i].1.2.kd=kd at n0 hmp HKI
     by_cases hkd:kd=6
     ·subst hkd
      have hk6:(((6:Int)) != 6)=false:=rfl
      clear hmp
      go_wp2_with fail
      exact ⟨⟨i+1,by omega,by go_num,by first | trivial | rfl,Lib.hid (HKI.out _ rfl hk6)⟩,by simp [intOf];omega⟩
     ·have hk6:(kd != 6)=true:=by rw [bne_iff_ne];exact hkd
      have hnm:=hmp hk6
      have hKL:K0=Pt.kReq∧L0=[]:=by
       have h:=HR.out
       unfold Pt.backP at h
       rw [if_pos hnm] at h
       injection h with h1 h2
       exact ⟨h1.symm,h2.symm⟩
      obtain ⟨rfl,rfl⟩:=hKL
      have HSQ:Hid (∀ W (D2:Option Addr) (g2:Nat),Fr W9 W→InV W (Lo W.heap.size) (Pt.prV Pt.kReq []) (.agg #[.int .i64 6,.int .i64 0,.string ⟨#[]⟩,.slice none 0 0,.slice D2 2 g2])→Calls Tryz.prog 12 #[.agg #[.int .i64 6,.int .i64 0,.string ⟨#[]⟩,.slice none 0 0,.slice D n g],.agg #[.int .i64 6,.int .i64 0,.string ⟨#[]⟩,.slice none 0 0,.slice D2 2 g2]] W fun e w'=>e=.returned (.bool true)∧Fr W w'):=Lib.hid (fun W D2 g2 hW hi2=>(same_is (Pt.prV Pt.kReq []) (Pt.prV Pt.kReq []) _ _).call true (by simp) rfl rfl (HI9.out.go hW) hi2)
      clear hmp hnm hkd HKI
      go_upto_region 14 with fail
      refine wp_region_held_drew (S:=(fun W=>W.cell? ⟨Y1,0,none⟩=some (.int .i64 6)∧W.cell? ⟨Y1,0+1,none⟩=some (.int .i64 0)∧W.cell? ⟨Y1,0+2,none⟩=some (.string ⟨#[]⟩)∧W.cell? ⟨Y1,0+3,none⟩=some (.slice none 0 0)∧W.cell? ⟨Y1,0+4,none⟩=some (.slice D n g))) (by kernel_rfl) ?_ (fun hHeld=>?_)
      ·exact HSY.out _ (Fr.refl W9).drew
      refine tk (i:=0) (v:=?_) rfl ⟨by rfl,?_⟩ hHeld ?_
      rotate_left
      ·(intro w' hSw;(try dsimp only at hSw);go_simp;try with_reducible rfl)
      try simp only [Act.put,fl]
      refine wpAnyH_ready (rs:=[1]) (by kernel_rfl) (by simp) ?_
      refine AllReadyH.cons rfl (fun K hK=>?_) AllReadyH.nil
      go_simp
      (go_at_call 18;refine (HRQ.out _).mono ?_;rintro e w2 ⟨⟨D2,g2,rfl,hi⟩,hf⟩;have HF2:Hid (Fr W9 w2):=Lib.hid ((Fr.refl W9).drew.trans hf);have HI2:=Lib.hid hi;clear hi hf)
      try (refine hK.out _ _ ?_ (fun hHeld2=>?_))
      ·exact HSY.out _ HF2.out
      clear hK K
      try simp only [Act.put,fl]
      refine wpAnyH_ready (rs:=[2]) (by kernel_rfl) (by simp) ?_
      refine AllReadyH.cons rfl (fun K hK=>?_) AllReadyH.nil
      go_simp
      (go_at_call 12;refine (HSQ.out _ D2 g2 HF2.out HI2.out).mono ?_;rintro e w3 ⟨rfl,hf⟩;have HF3:Hid (Fr W9 w3):=Lib.hid (HF2.out.trans hf);clear hf)
      try (refine hK.out _ _ ?_ (fun hHeld3=>?_))
      ·exact HSY.out _ HF3.out
      clear hK K
      try simp only [Act.put,fl]
      refine tk (i:=3) (v:=?_) rfl ⟨by rfl,?_⟩ hHeld3 ?_
      rotate_left
      ·(intro w' hSw;(try dsimp only at hSw);go_simp;try with_reducible rfl)
      try simp only [Act.put,fl]
      refine wpAnyH_done (by kernel_rfl) ?_ _
      go_wp2_with fail
      go_ret
      exact ⟨rfl,HW9.out.trans HF3.out⟩
    ·obtain rfl:i=cs.length:=by omega
     have hno:Pt.noMap cs=false:=HALL.out (fun k h=>hK.out k h h)
     obtain ⟨⟨y0,y1,y2,y3,y4⟩,_⟩:=box5 HB2.out
     have hR:(K0=Pt.kReq∧L0=[]∧false=true∧0<ms.length)∨(K0=Pt.kLim∧L0=Pt.kCalls∧16<cs.length):=by
      have h:=HR.out
      unfold Pt.backP at h
      rw [if_neg (by rw [hno];simp)] at h
      split at h
      ·rename_i hq
       injection h with h1 h2
       refine .inl ⟨h1.symm,h2.symm,?_,?_⟩
       ·simp at hq
       ·cases ms with
        | nil=>exact absurd hq (by decide)
        | cons _ _=>simp
      ·split at h
       ·rename_i hq
        injection h with h1 h2
        exact .inr ⟨h1.symm,h2.symm,hq⟩
       ·cases h
     clear hK hno
     go_upto_region 16 with fail
     clear y0 y1 y2 y3 y4
     rcases hR with ⟨rfl,rfl,hh,h0⟩ | ⟨rfl,rfl,h16⟩
     ·cases hh
     ·have h16':(16:Int)<(cs.length:Int):=by omega
      have HRL:Hid (∀ W,Calls Tryz.prog 18 #[.string ⟨#[108,105,109,105,116]⟩,.string ⟨#[109,97,120,67,97,108,108,115,73,110,82,101,113,117,101,115,116]⟩] W fun e w'=>(∃ (D:Option Addr) (g:Nat),e=.returned (.agg #[.int .i64 6,.int .i64 0,.string ⟨#[]⟩,.slice none 0 0,.slice D 3 g])∧InV w' (Lo w'.heap.size) (Pt.prV Pt.kLim Pt.kCalls) (.agg #[.int .i64 6,.int .i64 0,.string ⟨#[]⟩,.slice none 0 0,.slice D 3 g]))∧Fr W w'):=Lib.hid (fun W=>by
       refine (rproblem_is ⟨#[108,105,109,105,116]⟩ ⟨#[109,97,120,67,97,108,108,115,73,110,82,101,113,117,101,115,116]⟩ W (by decide) (by decide) 3 (by decide)).mono ?_
       rintro e w' ⟨⟨D,g,he,_,hi⟩,hf⟩
       exact ⟨⟨D,g,he,hi⟩,hf⟩)
      have HSN:Hid (∀ W (D2:Option Addr) (g2:Nat),Fr W9 W→InV W (Lo W.heap.size) (Pt.prV Pt.kReq []) (.agg #[.int .i64 6,.int .i64 0,.string ⟨#[]⟩,.slice none 0 0,.slice D2 2 g2])→Calls Tryz.prog 12 #[.agg #[.int .i64 6,.int .i64 0,.string ⟨#[]⟩,.slice none 0 0,.slice D n g],.agg #[.int .i64 6,.int .i64 0,.string ⟨#[]⟩,.slice none 0 0,.slice D2 2 g2]] W fun e w'=>e=.returned (.bool false)∧Fr W w'):=Lib.hid (fun W D2 g2 hW hi2=>(same_is (Pt.prV Pt.kLim Pt.kCalls) (Pt.prV Pt.kReq []) _ _).call false (by simp [pr_ne]) rfl rfl (HI9.out.go hW) hi2)
      have HSL:Hid (∀ W (D2:Option Addr) (g2:Nat),Fr W9 W→InV W (Lo W.heap.size) (Pt.prV Pt.kLim Pt.kCalls) (.agg #[.int .i64 6,.int .i64 0,.string ⟨#[]⟩,.slice none 0 0,.slice D2 3 g2])→Calls Tryz.prog 12 #[.agg #[.int .i64 6,.int .i64 0,.string ⟨#[]⟩,.slice none 0 0,.slice D n g],.agg #[.int .i64 6,.int .i64 0,.string ⟨#[]⟩,.slice none 0 0,.slice D2 3 g2]] W fun e w'=>e=.returned (.bool true)∧Fr W w'):=Lib.hid (fun W D2 g2 hW hi2=>(same_is (Pt.prV Pt.kLim Pt.kCalls) (Pt.prV Pt.kLim Pt.kCalls) _ _).call true (by simp) rfl rfl (HI9.out.go hW) hi2)
      go_upto_region 16 with fail
      refine wp_region_held_drew (S:=(fun W=>W.cell? ⟨Y1,0,none⟩=some (.int .i64 6)∧W.cell? ⟨Y1,0+1,none⟩=some (.int .i64 0)∧W.cell? ⟨Y1,0+2,none⟩=some (.string ⟨#[]⟩)∧W.cell? ⟨Y1,0+3,none⟩=some (.slice none 0 0)∧W.cell? ⟨Y1,0+4,none⟩=some (.slice D n g))) (by kernel_rfl) ?_ (fun hHeld=>?_)
      ·exact HSY.out _ (Fr.refl W9).drew
      refine tk (i:=0) (v:=?_) rfl ⟨by rfl,?_⟩ hHeld ?_
      rotate_left
      ·(intro w' hSw;(try dsimp only at hSw);go_simp;try with_reducible rfl)
      try simp only [Act.put,fl]
      refine wpAnyH_ready (rs:=[1]) (by kernel_rfl) (by simp) ?_
      refine AllReadyH.cons rfl (fun K hK=>?_) AllReadyH.nil
      go_simp
      (go_at_call 18;refine (HRQ.out _).mono ?_;rintro e w2 ⟨⟨D2,g2,rfl,hi⟩,hf⟩;have HF2:Hid (Fr W9 w2):=Lib.hid ((Fr.refl W9).drew.trans hf);have HI2:=Lib.hid hi;clear hi hf)
      try (refine hK.out _ _ ?_ (fun hHeld2=>?_))
      ·exact HSY.out _ HF2.out
      clear hK K
      try simp only [Act.put,fl]
      refine wpAnyH_ready (rs:=[2]) (by kernel_rfl) (by simp) ?_
      refine AllReadyH.cons rfl (fun K hK=>?_) AllReadyH.nil
      go_simp
      (go_at_call 12;refine (HSN.out _ D2 g2 HF2.out HI2.out).mono ?_;rintro e w3 ⟨rfl,hf⟩;have HF3:Hid (Fr W9 w3):=Lib.hid (HF2.out.trans hf);clear hf)
      try (refine hK.out _ _ ?_ (fun hHeld3=>?_))
      ·exact HSY.out _ HF3.out
      clear hK K
      try simp only [Act.put,fl]
      refine tk (i:=3) (v:=?_) rfl ⟨by rfl,?_⟩ hHeld3 ?_
      rotate_left
      ·(intro w' hSw;(try dsimp only at hSw);go_simp;try with_reducible rfl)
      try simp only [Act.put,fl]
      refine wpAnyH_take (i:=4) (v:=undef) rfl (by kernel_rfl) (by kernel_rfl) (by kernel_rfl) (fun _ _ _ h=>h) (Or.inr ⟨by rfl,rfl⟩) hHeld3 ?_
      try simp only [Act.put,fl]
      refine tk (i:=5) (v:=?_) rfl ⟨by rfl,?_⟩ hHeld3 ?_
      rotate_left
      ·(intro w' hSw;(try dsimp only at hSw);go_simp;try with_reducible rfl)
      try simp only [Act.put,fl]
      refine tk (i:=6) (v:=?_) rfl ⟨by rfl,?_⟩ hHeld3 ?_
      rotate_left
      ·(intro w' hSw;(try dsimp only at hSw);go_simp;try with_reducible rfl)
      try simp only [Act.put,fl]
      refine wpAnyH_take (i:=7) (v:=undef) rfl (by kernel_rfl) (by kernel_rfl) (by kernel_rfl) (fun _ _ _ h=>h) (Or.inr ⟨by rfl,rfl⟩) hHeld3 ?_
      try simp only [Act.put,fl]
      refine wpAnyH_take (i:=8) (v:=undef) rfl (by kernel_rfl) (by kernel_rfl) (by kernel_rfl) (fun _ _ _ h=>h) (Or.inr ⟨by rfl,rfl⟩) hHeld3 ?_
      try simp only [Act.put,fl]
      refine wpAnyH_take (i:=9) (v:=undef) rfl (by kernel_rfl) (by kernel_rfl) (by kernel_rfl) (fun _ _ _ h=>h) (Or.inr ⟨by rfl,rfl⟩) hHeld3 ?_
      try simp only [Act.put,fl]
      refine tk (i:=10) (v:=?_) rfl ⟨by rfl,?_⟩ hHeld3 ?_
      rotate_left
      ·(intro w' hSw;(try dsimp only at hSw);go_simp;try with_reducible rfl)
      try simp only [Act.put,fl]
      refine tk (i:=11) (v:=?_) rfl ⟨by rfl,?_⟩ hHeld3 ?_
      rotate_left
      ·(intro w' hSw;(try dsimp only at hSw);go_simp;try with_reducible rfl)
      try simp only [Act.put,fl]
      refine tk (i:=12) (v:=?_) rfl ⟨by rfl,?_⟩ hHeld3 ?_
      rotate_left
      ·(intro w' hSw;(try dsimp only at hSw);go_simp;try with_reducible rfl)
      try simp only [Act.put,fl]
      refine wpAnyH_ready (rs:=[13]) (by kernel_rfl) (by simp) ?_
      refine AllReadyH.cons rfl (fun K2 hK=>?_) AllReadyH.nil
      go_simp
      (go_at_call 18;refine (HRL.out _).mono ?_;rintro e w4 ⟨⟨D4,g4,rfl,hi⟩,hf⟩;have HF4:Hid (Fr W9 w4):=Lib.hid (HF3.out.trans hf);have HI4:=Lib.hid hi;clear hi hf)
      try (refine hK.out _ _ ?_ (fun hHeld4=>?_))
      ·exact HSY.out _ HF4.out
      clear hK K2
      try simp only [Act.put,fl]
      refine wpAnyH_ready (rs:=[14]) (by kernel_rfl) (by simp) ?_
      refine AllReadyH.cons rfl (fun K hK=>?_) AllReadyH.nil
      go_simp
      (go_at_call 12;refine (HSL.out _ D4 g4 HF4.out HI4.out).mono ?_;rintro e w5 ⟨rfl,hf⟩;have HF5:Hid (Fr W9 w5):=Lib.hid (HF4.out.trans hf);clear hf)
      try (refine hK.out _ _ ?_ (fun hHeld5=>?_))
      ·exact HSY.out _ HF5.out
      clear hK K
      try simp only [Act.put,fl]
      refine tk (i:=15) (v:=?_) rfl ⟨by rfl,?_⟩ hHeld5 ?_
      rotate_left
      ·(intro w' hSw;(try dsimp only at hSw);go_simp;try with_reducible rfl)
      try simp only [Act.put,fl]
      refine tk (i:=16) (v:=?_) rfl ⟨by rfl,?_⟩ hHeld5 ?_
      rotate_left
      ·(intro w' hSw;(try dsimp only at hSw);go_simp;try with_reducible rfl)
      try simp only [Act.put,fl]
      refine tk (i:=17) (v:=?_) rfl ⟨by rfl,?_⟩ hHeld5 ?_
      rotate_left
      ·(intro w' hSw;(try dsimp only at hSw);go_simp;try with_reducible rfl)
      try simp only [Act.put,fl]
      refine tk (i:=18) (v:=?_) rfl ⟨by rfl,?_⟩ hHeld5 ?_
      rotate_left
      ·(intro w' hSw;(try dsimp only at hSw);go_simp;try with_reducible rfl)
      try simp only [Act.put,fl]
      refine tk (i:=19) (v:=?_) rfl ⟨by rfl,?_⟩ hHeld5 ?_
      rotate_left
      ·(intro w' hSw;(try dsimp only at hSw);go_simp;try with_reducible rfl)
      try simp only [Act.put,fl]
      refine tk (i:=20) (v:=?_) rfl ⟨by rfl,?_⟩ hHeld5 ?_
      rotate_left
      ·(intro w' hSw;(try dsimp only at hSw);go_simp;try with_reducible rfl)
      try simp only [Act.put,fl]
      refine tk (i:=21) (v:=?_) rfl ⟨by rfl,?_⟩ hHeld5 ?_
      rotate_left
      ·(intro w' hSw;(try dsimp only at hSw);go_simp;try with_reducible rfl)
      try simp only [Act.put,fl]
      refine wpAnyH_done (by kernel_rfl) ?_ _
      go_wp2_with fail
      go_ret
      exact ⟨rfl,HW9.out.trans HF5.out⟩
  | ok r=>
   rw [hr] at HPB
   have hrr:r=(([Pt.kUrn],cs),([],false))∧Pt.noMap cs=false:=by
    unfold Pt.backP at hr
    split at hr
    ·cases hr
    ·rename_i hq
     split at hr
     ·cases hr
     ·split at hr
      ·cases hr
      ·injection hr with hr
       exact ⟨hr.symm,by simpa using hq⟩
   obtain ⟨rfl,hno⟩:=hrr
   clear hr
   have HPC:Hid (Calls Tryz.prog 7 #[.string S] w9 fun e w'=>(∃ (A1:Option Addr) (a1:Nat) (A2:Option Addr) (a2:Nat) (A3:Option Addr) (a3:Nat),e=.returned (.tuple #[.agg #[.slice A1 1 a1,.slice A2 cs.length a2,.slice A3 0 a3,.bool false],.agg #[.int .i64 0,.int .i64 0,.string ⟨#[]⟩,.slice none 0 0,.slice none 0 0]])∧PsC w' A1 [Pt.kUrn]∧CsR w' A2 cs∧MsC w' (Lo w'.heap.size) A3 ([]:List (List UInt8 × JV)))∧Fr w9 w'):=Lib.hid (by
    have h:=HPB.out
    unfold PrP at h
    refine h.mono ?_
    rintro e w' ⟨⟨us',cs',crs',Z,rfl,_,_,h1,h2,h3⟩,hf⟩
    obtain ⟨A1,c1,rfl,g1⟩:=h1.shows
    obtain ⟨A2,c2,rfl,g2⟩:=h2.shows
    obtain ⟨A3,c3,rfl,g3⟩:=msb_showsB h3 (by simp)
    exact ⟨⟨A1,c1,A2,c2,A3,c3,rfl,g1,g2,g3⟩,hf⟩)
   have HNO:=Lib.hid hno
   clear HPB hno
   go_upto_region 10 with (go_at_call 7;refine HPC.out.mono ?_;rintro e w1 ⟨⟨A1,a1,A2,a2,A3,a3,rfl,hm⟩,hf⟩;have HM1:=Lib.hid hm;have HF1:=Lib.hid (HF9.out.trans hf);clear hm hf)
   obtain ⟨W9,hW⟩:∃ W,W=((w1.alloc (.cells #[.slice A1 1 a1,.slice A2 cs.length a2,.slice A3 0 a3,.bool false] 26)).alloc (.cells #[.int .i64 0,.int .i64 0,.string ⟨#[]⟩,.slice none 0 0,.slice none 0 0] 29)):=⟨_,rfl⟩
   have hkk:Fr w1 W9:=by rw [hW];exact ((Fr.refl w1).alloc _).alloc _
   have hb1:Blk W9 w1.heap.size #[.slice A1 1 a1,.slice A2 cs.length a2,.slice A3 0 a3,.bool false] 26:=by rw [hW];exact (Blk.made w1 _ _).keep ((Fr.refl _).alloc _)
   have hb2:Blk W9 (w1.heap.size+1) #[.int .i64 0,.int .i64 0,.string ⟨#[]⟩,.slice none 0 0,.slice none 0 0] 29:=by rw [hW];exact boxz (Blk.made (w1.alloc _) _ _)
   rw [← hW]
   clear hW
   have hw9:=HF1.out.trans hkk
   generalize w1.heap.size+1=Y1 at hb2 ⊢
   have HM9:Hid (∀ W,Fr W9 W→PsC W A1 [Pt.kUrn]∧CsR W A2 cs∧MsC W (Lo W.heap.size) A3 ([]:List (List UInt8 × JV))):=Lib.hid (fun W hW=>⟨HM1.out.1.keep (hkk.trans hW),HM1.out.2.1.keep (hkk.trans hW),(HM1.out.2.2.keep (Nat.le_refl _) (hkk.trans hW)).map (fun b hb=>Nat.lt_of_lt_of_le hb (hkk.trans hW).size) (fun _ _ _=>rfl)⟩)
   obtain ⟨X1,hX1⟩:∃ X,w1.heap.size=X:=⟨_,rfl⟩
   rw [hX1] at hb1 ⊢
   have HB1:=Lib.hid hb1
   have HB2:=Lib.hid hb2
   have HW9:=Lib.hid hw9
   clear hkk hb1 hb2 hw9 HF1 HM1 hX1
   go_upto_region 11 with fail
   go_loopw [12] (fun j wr=>∃ (i:Nat),i≤cs.length∧j=.int .i64 i∧W9=wr) (fun j _=>cs.length - (intOf j).toNat)
   case atStart=>exact ⟨0,by omega,rfl,rfl⟩
   case round=>
    obtain ⟨i,hi,rfl,rfl⟩:=hrel
    by_cases hlt:i<cs.length
    ·have hlt':(i:Int)<(cs.length:Int):=by omega
     obtain ⟨b,o,C,f,C',f',rfl,hb,a0,⟨n0,n1,n2,n3,n4⟩,a6,hxa⟩:=HCS.out _ HW9.out i hlt
     clear hb a0 n1 n2 n3 n4 a6 hxa
     have hmp:=HMAP.out i hlt
     generalize cs[i].1.2.kd=kd at n0 hmp
     have hkd:kd=6:=by
      by_cases h:kd=6
      ·exact h
      ·exact absurd ((HNO.out).symm.trans (hmp (by rw [bne_iff_ne];exact h))) (by simp)
     subst hkd
     clear hmp
     go_wp2_with fail
     exact ⟨⟨i+1,by omega,by go_num,by first | trivial | rfl⟩,by simp [intOf];omega⟩
    ·obtain rfl:i=cs.length:=by omega
     obtain ⟨⟨y0,y1,y2,y3,y4⟩,_⟩:=box5 HB2.out
     obtain ⟨⟨x0,x1,x2,x3⟩,_⟩:=box4r HB1.out
     go_upto_region 18 with fail
     clear y0 y1 y2 y3 y4 x0 x1 x2 x3
     have hb13:=Blk.made W9 #[.slice A1 1 a1,.slice A cs.length c,.slice none 0 0,.bool false] 32
     have hf13:Fr W9 (W9.alloc (.cells #[.slice A1 1 a1,.slice A cs.length c,.slice none 0 0,.bool false] 32)):=(Fr.refl W9).alloc _
     have hs13:=hf13.size
     obtain ⟨WA,hWA⟩:∃ W,W=(W9.alloc (.cells #[.slice A1 1 a1,.slice A cs.length c,.slice none 0 0,.bool false] 32)):=⟨_,rfl⟩
     rw [← hWA] at hb13 hf13 hs13 ⊢
     clear hWA
     obtain ⟨X13,hX13⟩:∃ X,W9.heap.size=X:=⟨_,rfl⟩
     rw [hX13] at hb13 ⊢
     have HBA:=Lib.hid hb13
     have HFA:=Lib.hid hf13
     clear hb13 hf13
     have HB13:Hid (Blk WA X13 #[.slice A1 1 a1,.slice A cs.length c,.slice none 0 0,.bool false] 32):=HBA
     have HB1A:=Lib.hid (HB1.out.keep HFA.out)
     have HSM:Hid (∀ W,Fr WA W→Calls Tryz.prog 10 #[.agg #[.slice A1 1 a1,.slice A2 cs.length a2,.slice A3 0 a3,.bool false],.agg #[.slice A1 1 a1,.slice A cs.length c,.slice none 0 0,.bool false]] W fun e w'=>e=.returned (.bool true)∧Fr W w'):=Lib.hid (fun W hW=>by
      have hW2:=HFA.out.trans hW
      obtain ⟨p1,p2,p3⟩:=HM9.out W hW2
      have q2:=HCS.out W (HW9.out.trans hW2)
      have q3:MsC W (Lo W.heap.size) none ([]:List (List UInt8 × JV)):=fun i h=>absurd h (by simp)
      exact same25 [Pt.kUrn] cs [] false A1 a1 A2 a2 A3 a3 A1 a1 A c none 0 W p1 p1 p2 q2 p3 q3 (by simp) (by omega) (by simp))
     have HWA:=Lib.hid (HW9.out.trans HFA.out)
     clear HFA HB1 HM9 HBA HB2
     obtain ⟨HB1,_⟩:Hid (Blk WA X1 #[.slice A1 1 a1,.slice A2 cs.length a2,.slice A3 0 a3,.bool false] 26)∧True:=⟨HB1A,trivial⟩
     clear HW9 HB1A
     obtain ⟨W9,hq9⟩:∃ W,W=WA:=⟨WA,rfl⟩
     subst hq9
     have HSX:Hid (∀ W,Fr W9 W→(W.cell? ⟨X1,0,none⟩=some (.slice A1 1 a1)∧W.cell? ⟨X1,0+1,none⟩=some (.slice A2 cs.length a2)∧W.cell? ⟨X1,0+2,none⟩=some (.slice A3 0 a3)∧W.cell? ⟨X1,0+3,none⟩=some (.bool false))∧(W.cell? ⟨X13,0,none⟩=some (.slice A1 1 a1)∧W.cell? ⟨X13,0+1,none⟩=some (.slice A cs.length c)∧W.cell? ⟨X13,0+2,none⟩=some (.slice none 0 0)∧W.cell? ⟨X13,0+3,none⟩=some (.bool false))):=Lib.hid (fun W hW=>by
      have a:=HB1.out.keep hW
      have b:=HB13.out.keep hW
      exact ⟨⟨a.cell 0,a.cell 1,a.cell 2,a.cell 3⟩,⟨b.cell 0,b.cell 1,b.cell 2,b.cell 3⟩⟩)
     go_upto_region 20 with fail
     refine wp_region_held_drew (S:=(fun W=>(W.cell? ⟨X1,0,none⟩=some (.slice A1 1 a1)∧W.cell? ⟨X1,0+1,none⟩=some (.slice A2 cs.length a2)∧W.cell? ⟨X1,0+2,none⟩=some (.slice A3 0 a3)∧W.cell? ⟨X1,0+3,none⟩=some (.bool false))∧(W.cell? ⟨X13,0,none⟩=some (.slice A1 1 a1)∧W.cell? ⟨X13,0+1,none⟩=some (.slice A cs.length c)∧W.cell? ⟨X13,0+2,none⟩=some (.slice none 0 0)∧W.cell? ⟨X13,0+3,none⟩=some (.bool false)))) (by kernel_rfl) ?_ (fun hHeld=>?_)
     ·exact HSX.out _ (Fr.refl W9).drew
     refine tk (i:=0) (v:=?_) rfl ⟨by rfl,?_⟩ hHeld ?_
     rotate_left
     ·(intro w' hSw;(try dsimp only at hSw);go_simp;try with_reducible rfl)
     try simp only [Act.put,fl]
     refine tk (i:=2) (v:=?_) rfl ⟨by rfl,?_⟩ hHeld ?_
     rotate_left
     ·(intro w' hSw;(try dsimp only at hSw);go_simp;try with_reducible rfl)
     try simp only [Act.put,fl]
     refine wpAnyH_ready (rs:=[1]) (by kernel_rfl) (by simp) ?_
     refine AllReadyH.cons rfl (fun K hK=>?_) AllReadyH.nil
     go_simp
     (go_at_call 11;refine (req_is _ _ _ _ _ _ _ _ _ _ _).mono ?_;rintro e w2 ⟨rfl,hf⟩;have HF2:Hid (Fr W9 w2):=Lib.hid ((Fr.refl W9).drew.trans hf);clear hf)
     try (refine hK.out _ _ ?_ (fun hHeld2=>?_))
     ·exact HSX.out _ HF2.out
     clear hK K
     try simp only [Act.put,fl]
     refine wpAnyH_ready (rs:=[3]) (by kernel_rfl) (by simp) ?_
     refine AllReadyH.cons rfl (fun K hK=>?_) AllReadyH.nil
     go_simp
     (go_at_call 10;refine (HSM.out _ HF2.out).mono ?_;rintro e w3 ⟨rfl,hf⟩;have HF3:Hid (Fr W9 w3):=Lib.hid (HF2.out.trans hf);clear hf)
     try (refine hK.out _ _ ?_ (fun hHeld3=>?_))
     ·exact HSX.out _ HF3.out
     clear hK K
     try simp only [Act.put,fl]
     refine tk (i:=4) (v:=?_) rfl ⟨by rfl,?_⟩ hHeld3 ?_
     rotate_left
     ·(intro w' hSw;(try dsimp only at hSw);go_simp;try with_reducible rfl)
     try simp only [Act.put,fl]
     refine wpAnyH_done (by kernel_rfl) ?_ _
     go_wp2_with fail
     go_ret
     exact ⟨rfl,HWA.out.trans HF3.out⟩
 | true=>
  obtain ⟨⟨y0,y1,y2,y3,y4⟩,_⟩:=box5 HB7.out
  go_upto_region 6 with (go_at_call 14;refine (HA3.out _ D4 g4 X7 (Nat.le_of_lt hX7) hs5 HW7.out HI7.out).mono ?_;rintro e w8 ⟨⟨D6,g6,rfl,hi⟩,hf⟩;have hb8:=HB7.out.keep hf;obtain ⟨⟨z0,z1,z2,z3,z4⟩,zf0,zf1,zf2,zf3,zf4⟩:=box5 hb8;have HB8:=Lib.hid hb8;have HI6:=Lib.hid hi;have HF8:=Lib.hid hf;clear hi hf hb8)
  have hlow:∀ k,NeS (Lo X7) W7 w8 k→k<w8.heap.size∧k≠X7:=fun k hk=>by
   have h1:=HF8.out.size
   rcases hk with hk | hk
   ·have hk:k<X7:=hk
    exact ⟨by omega,by omega⟩
   ·exact ⟨hk.2,by omega⟩
  have hi8:=(HI6.out.frxS hlow (st5_frx w8 X7 (.int .i64 6) (.int .i64 0) (.string ⟨#[]⟩) (.slice none 0 0) (.slice D6 3 g6)))
  have hs8:=st5_size w8 X7 (.int .i64 6) (.int .i64 0) (.string ⟨#[]⟩) (.slice none 0 0) (.slice D6 3 g6)
  have hi9:InV (st5 w8 X7 (.int .i64 6) (.int .i64 0) (.string ⟨#[]⟩) (.slice none 0 0) (.slice D6 3 g6)) (Lo (st5 w8 X7 (.int .i64 6) (.int .i64 0) (.string ⟨#[]⟩) (.slice none 0 0) (.slice D6 3 g6)).heap.size) (Pt.backV cs ms true) (.agg #[.int .i64 6,.int .i64 0,.string ⟨#[]⟩,.slice none 0 0,.slice D6 3 g6]):=hi8.more (fun k hk=>by show k<_;rw [hs8];exact (hlow k hk).1)
  have hb9:=st5_x HB8.out (.int .i64 6) (.int .i64 0) (.string ⟨#[]⟩) (.slice none 0 0) (.slice D6 3 g6)
  have hw9:=st5_fr (HW7.out.trans HF8.out) hs5 (.int .i64 6) (.int .i64 0) (.string ⟨#[]⟩) (.slice none 0 0) (.slice D6 3 g6)
  clear hi8 hs8 hlow
  unfold st5 at hi9 hb9 hw9
  clear z0 z1 z2 z3 z4 zf0 zf1 zf2 zf3 zf4 y0 y1 y2 y3 y4 HB8 HI6 HF8 HB7 HI7 HW7
  generalize (((((w8.setCell ⟨X7,0,none⟩ (.int .i64 6)).setCell ⟨X7,1,none⟩ (.int .i64 0)).setCell ⟨X7,2,none⟩ (.string ⟨#[]⟩)).setCell ⟨X7,3,none⟩ (.slice none 0 0)).setCell ⟨X7,4,none⟩ (.slice D6 3 g6))=W8 at hi9 hb9 hw9 ⊢
  have HIV:=Lib.hid hi9
  have HWW:=Lib.hid hw9
  obtain ⟨⟨y0,y1,y2,y3,y4⟩,_⟩:=box5 hb9
  clear hi9 hb9 hw9
  have hcc:((cq:Int) != 0)=true∨(((cq:Int) != 0)=false∧Hid (cq=0)):=by
   by_cases h:cq=0
   ·exact .inr ⟨by rw [h];rfl,Lib.hid h⟩
   ·exact .inl (by rw [bne_iff_ne];omega)
  have hss:(65536:Int)<(S.size:Int) ∨ ¬ (65536:Int)<(S.size:Int):=by omega
  go_upto_region 7 with (go_at_call 17;refine (HTX.out _ _ HIV.out).mono ?_;rintro e w9 ⟨rfl,hf⟩;have HF9:=Lib.hid (HWW.out.trans hf);clear hf)
  clear y0 y1 y2 y3 y4
  rcases hcc with hcc | ⟨hcc,hc0⟩
  ·go_wp2_with fail
   go_ret
   exact ⟨rfl,HF9.out⟩
  rcases hss with hss | hss
  ·go_wp2_with fail
   go_ret
   exact ⟨rfl,HF9.out⟩
  have HPB:Hid (Calls Tryz.prog 7 #[.string S] w9 (PrP w9 (Pt.backP cs ms true))):=Lib.hid (HPA.out hc0.out hss _ (HT.out.keep HF9.out))
  clear HPA HTX HA1 HA2 HA3 HRR HFEW HIV HBV
  have hmap:∀ i (h:i<cs.length),(((cs[i]).1.2.kd != 6)=true→Pt.noMap cs=true):=fun i h hk=>by
   unfold Pt.noMap
   exact List.any_eq_true.2 ⟨cs[i],List.getElem_mem h,hk⟩
  have hall:(∀ i (h:i<cs.length),((cs[i]).1.2.kd != 6)=false)→Pt.noMap cs=false:=fun hk=>by
   unfold Pt.noMap
   rw [Bool.eq_false_iff]
   intro hh
   obtain ⟨x,hx,hx2⟩:=List.any_eq_true.1 hh
   obtain ⟨i,hi,rfl⟩:=List.getElem_of_mem hx
   rw [hk i hi] at hx2
   cases hx2
  have HMAP:=Lib.hid hmap
  have HALL:=Lib.hid hall
  clear hmap hall
  cases hr:Pt.backP cs ms true with
  | bad K0 L0=>
   rw [hr] at HPB
   obtain ⟨n,hn⟩:∃ n,n=(Pt.prM K0 L0).length:=⟨_,rfl⟩
   have HPC:Hid (Calls Tryz.prog 7 #[.string S] w9 fun e w'=>(∃ (D:Option Addr) (g:Nat),e=.returned (.tuple #[.agg #[.slice none 0 0,.slice none 0 0,.slice none 0 0,.bool false],.agg #[.int .i64 6,.int .i64 0,.string ⟨#[]⟩,.slice none 0 0,(.slice D n g)]])∧InV w' (Lo w'.heap.size) (Pt.prV K0 L0) (.agg #[.int .i64 6,.int .i64 0,.string ⟨#[]⟩,.slice none 0 0,.slice D n g]))∧Fr w9 w'):=Lib.hid (by
    have h:=HPB.out
    unfold PrP at h
    refine h.mono ?_
    rintro e w' ⟨⟨D,g,he,hm⟩,hf⟩
    rw [← hn] at he hm
    exact ⟨⟨D,g,he,prm_in hm⟩,hf⟩)
   have HR:=Lib.hid hr
   clear hr HPB hn
   go_upto_region 10 with (go_at_call 7;refine HPC.out.mono ?_;rintro e w1 ⟨⟨D,g,rfl,hi⟩,hf⟩;have HI1:=Lib.hid hi;have HF1:=Lib.hid (HF9.out.trans hf);clear hi hf)
   obtain ⟨W9,hW⟩:∃ W,W=((w1.alloc (.cells #[.slice none 0 0,.slice none 0 0,.slice none 0 0,.bool false] 26)).alloc (.cells #[.int .i64 6,.int .i64 0,.string ⟨#[]⟩,.slice none 0 0,(.slice D n g)] 29)):=⟨_,rfl⟩
   have hkk:Fr w1 W9:=by rw [hW];exact ((Fr.refl w1).alloc _).alloc _
   have hb2:Blk W9 (w1.heap.size+1) #[.int .i64 6,.int .i64 0,.string ⟨#[]⟩,.slice none 0 0,(.slice D n g)] 29:=by rw [hW];exact boxz (Blk.made (w1.alloc _) _ _)
   rw [← hW]
   clear hW
   have hi9:=HI1.out.go hkk
   have hw9:=HF1.out.trans hkk
   generalize w1.heap.size+1=Y1 at hb2 ⊢
   have HB2:=Lib.hid hb2
   have HI9:=Lib.hid hi9
   have HW9:=Lib.hid hw9
   clear hkk hb2 hi9 hw9 HF1 HI1
   have HSY:Hid (∀ W,Fr W9 W→W.cell? ⟨Y1,0,none⟩=some (.int .i64 6)∧W.cell? ⟨Y1,0+1,none⟩=some (.int .i64 0)∧W.cell? ⟨Y1,0+2,none⟩=some (.string ⟨#[]⟩)∧W.cell? ⟨Y1,0+3,none⟩=some (.slice none 0 0)∧W.cell? ⟨Y1,0+4,none⟩=some (.slice D n g)):=Lib.hid (fun W hW=>by
    have a:=HB2.out.keep hW
    exact ⟨a.cell 0,a.cell 1,a.cell 2,a.cell 3,a.cell 4⟩)
   have HRQ:Hid (∀ W,Calls Tryz.prog 18 #[.string ⟨#[110,111,116,82,101,113,117,101,115,116]⟩,.string ⟨#[]⟩] W fun e w'=>(∃ (D:Option Addr) (g:Nat),e=.returned (.agg #[.int .i64 6,.int .i64 0,.string ⟨#[]⟩,.slice none 0 0,.slice D 2 g])∧InV w' (Lo w'.heap.size) (Pt.prV Pt.kReq []) (.agg #[.int .i64 6,.int .i64 0,.string ⟨#[]⟩,.slice none 0 0,.slice D 2 g]))∧Fr W w'):=Lib.hid (fun W=>by
    refine (rproblem_is ⟨#[110,111,116,82,101,113,117,101,115,116]⟩ ⟨#[]⟩ W (by decide) (by decide) 2 (by decide)).mono ?_
    rintro e w' ⟨⟨D,g,he,_,hi⟩,hf⟩
    exact ⟨⟨D,g,he,hi⟩,hf⟩)
   go_upto_region 11 with fail
   go_loopw [12] (fun j wr=>∃ (i:Nat),i≤cs.length∧j=.int .i64 i∧W9=wr∧Hid (∀ k (h:k<cs.length),k<i→((cs[k]).1.2.kd != 6)=false)) (fun j _=>cs.length - (intOf j).toNat)
   case atStart=>exact ⟨0,by omega,rfl,rfl,Lib.hid (fun k _ h=>absurd h (by omega))⟩
   case round=>
    obtain ⟨i,hi,rfl,rfl,hK⟩:=hrel
    by_cases hlt:i<cs.length
    ·have hlt':(i:Int)<(cs.length:Int):=by omega
     obtain ⟨b,o,C,f,C',f',rfl,hb,a0,⟨n0,n1,n2,n3,n4⟩,a6,hxa⟩:=HCS.out _ HW9.out i hlt
     clear hb a0 n1 n2 n3 n4 a6 hxa
     have hmp:=HMAP.out i hlt
     have HKI:Hid (∀ x:Bool,((cs[i]).1.2.kd != 6)=x→x=false → ∀ k (h:k<cs.length),k<i+1→((cs[k]).1.2.kd != 6)=false):=Lib.hid (fun x hx hx2 k h hki=>by
      by_cases e:k=i
      ·subst e;rw [hx];exact hx2
      ·exact hK.out k h (by omega))
     generalize cs[i].1.2.kd=kd at n0 hmp HKI
     by_cases hkd:kd=6
     ·subst hkd
      have hk6:(((6:Int)) != 6)=false:=rfl
      clear hmp
      go_wp2_with fail
      exact ⟨⟨i+1,by omega,by go_num,by first | trivial | rfl,Lib.hid (HKI.out _ rfl hk6)⟩,by simp [intOf];omega⟩
     ·have hk6:(kd != 6)=true:=by rw [bne_iff_ne];exact hkd
      have hnm:=hmp hk6
      have hKL:K0=Pt.kReq∧L0=[]:=by
       have h:=HR.out
       unfold Pt.backP at h
       rw [if_pos hnm] at h
       injection h with h1 h2
       exact ⟨h1.symm,h2.symm⟩
      obtain ⟨rfl,rfl⟩:=hKL
      have HSQ:Hid (∀ W (D2:Option Addr) (g2:Nat),Fr W9 W→InV W (Lo W.heap.size) (Pt.prV Pt.kReq []) (.agg #[.int .i64 6,.int .i64 0,.string ⟨#[]⟩,.slice none 0 0,.slice D2 2 g2])→Calls Tryz.prog 12 #[.agg #[.int .i64 6,.int .i64 0,.string ⟨#[]⟩,.slice none 0 0,.slice D n g],.agg #[.int .i64 6,.int .i64 0,.string ⟨#[]⟩,.slice none 0 0,.slice D2 2 g2]] W fun e w'=>e=.returned (.bool true)∧Fr W w'):=Lib.hid (fun W D2 g2 hW hi2=>(same_is (Pt.prV Pt.kReq []) (Pt.prV Pt.kReq []) _ _).call true (by simp) rfl rfl (HI9.out.go hW) hi2)
      clear hmp hnm hkd HKI
      go_upto_region 14 with fail
      refine wp_region_held_drew (S:=(fun W=>W.cell? ⟨Y1,0,none⟩=some (.int .i64 6)∧W.cell? ⟨Y1,0+1,none⟩=some (.int .i64 0)∧W.cell? ⟨Y1,0+2,none⟩=some (.string ⟨#[]⟩)∧W.cell? ⟨Y1,0+3,none⟩=some (.slice none 0 0)∧W.cell? ⟨Y1,0+4,none⟩=some (.slice D n g))) (by kernel_rfl) ?_ (fun hHeld=>?_)
      ·exact HSY.out _ (Fr.refl W9).drew
      refine tk (i:=0) (v:=?_) rfl ⟨by rfl,?_⟩ hHeld ?_
      rotate_left
      ·(intro w' hSw;(try dsimp only at hSw);go_simp;try with_reducible rfl)
      try simp only [Act.put,fl]
      refine wpAnyH_ready (rs:=[1]) (by kernel_rfl) (by simp) ?_
      refine AllReadyH.cons rfl (fun K hK=>?_) AllReadyH.nil
      go_simp
      (go_at_call 18;refine (HRQ.out _).mono ?_;rintro e w2 ⟨⟨D2,g2,rfl,hi⟩,hf⟩;have HF2:Hid (Fr W9 w2):=Lib.hid ((Fr.refl W9).drew.trans hf);have HI2:=Lib.hid hi;clear hi hf)
      try (refine hK.out _ _ ?_ (fun hHeld2=>?_))
      ·exact HSY.out _ HF2.out
      clear hK K
      try simp only [Act.put,fl]
      refine wpAnyH_ready (rs:=[2]) (by kernel_rfl) (by simp) ?_
      refine AllReadyH.cons rfl (fun K hK=>?_) AllReadyH.nil
      go_simp
      (go_at_call 12;refine (HSQ.out _ D2 g2 HF2.out HI2.out).mono ?_;rintro e w3 ⟨rfl,hf⟩;have HF3:Hid (Fr W9 w3):=Lib.hid (HF2.out.trans hf);clear hf)
      try (refine hK.out _ _ ?_ (fun hHeld3=>?_))
      ·exact HSY.out _ HF3.out
      clear hK K
      try simp only [Act.put,fl]
      refine tk (i:=3) (v:=?_) rfl ⟨by rfl,?_⟩ hHeld3 ?_
      rotate_left
      ·(intro w' hSw;(try dsimp only at hSw);go_simp;try with_reducible rfl)
      try simp only [Act.put,fl]
      refine wpAnyH_done (by kernel_rfl) ?_ _
      go_wp2_with fail
      go_ret
      exact ⟨rfl,HW9.out.trans HF3.out⟩
    ·obtain rfl:i=cs.length:=by omega
     have hno:Pt.noMap cs=false:=HALL.out (fun k h=>hK.out k h h)
     obtain ⟨⟨y0,y1,y2,y3,y4⟩,_⟩:=box5 HB2.out
     have hR:(K0=Pt.kReq∧L0=[]∧true=true∧0<ms.length)∨(K0=Pt.kLim∧L0=Pt.kCalls∧16<cs.length):=by
      have h:=HR.out
      unfold Pt.backP at h
      rw [if_neg (by rw [hno];simp)] at h
      split at h
      ·rename_i hq
       injection h with h1 h2
       refine .inl ⟨h1.symm,h2.symm,?_,?_⟩
       ·rfl
       ·cases ms with
        | nil=>exact absurd hq (by decide)
        | cons _ _=>simp
      ·split at h
       ·rename_i hq
        injection h with h1 h2
        exact .inr ⟨h1.symm,h2.symm,hq⟩
       ·cases h
     clear hK hno
     go_upto_region 16 with fail
     clear y0 y1 y2 y3 y4
     rcases hR with ⟨rfl,rfl,hh,h0⟩ | ⟨rfl,rfl,h16⟩
     ·have h0':(0:Int)<(ms.length:Int):=by omega
      have HSQ:Hid (∀ W (D2:Option Addr) (g2:Nat),Fr W9 W→InV W (Lo W.heap.size) (Pt.prV Pt.kReq []) (.agg #[.int .i64 6,.int .i64 0,.string ⟨#[]⟩,.slice none 0 0,.slice D2 2 g2])→Calls Tryz.prog 12 #[.agg #[.int .i64 6,.int .i64 0,.string ⟨#[]⟩,.slice none 0 0,.slice D n g],.agg #[.int .i64 6,.int .i64 0,.string ⟨#[]⟩,.slice none 0 0,.slice D2 2 g2]] W fun e w'=>e=.returned (.bool true)∧Fr W w'):=Lib.hid (fun W D2 g2 hW hi2=>(same_is (Pt.prV Pt.kReq []) (Pt.prV Pt.kReq []) _ _).call true (by simp) rfl rfl (HI9.out.go hW) hi2)
      clear hh
      go_upto_region 16 with fail
      refine wp_region_held_drew (S:=(fun W=>W.cell? ⟨Y1,0,none⟩=some (.int .i64 6)∧W.cell? ⟨Y1,0+1,none⟩=some (.int .i64 0)∧W.cell? ⟨Y1,0+2,none⟩=some (.string ⟨#[]⟩)∧W.cell? ⟨Y1,0+3,none⟩=some (.slice none 0 0)∧W.cell? ⟨Y1,0+4,none⟩=some (.slice D n g))) (by kernel_rfl) ?_ (fun hHeld=>?_)
      ·exact HSY.out _ (Fr.refl W9).drew
      refine tk (i:=0) (v:=?_) rfl ⟨by rfl,?_⟩ hHeld ?_
      rotate_left
      ·(intro w' hSw;(try dsimp only at hSw);go_simp;try with_reducible rfl)
      try simp only [Act.put,fl]
      refine wpAnyH_ready (rs:=[1]) (by kernel_rfl) (by simp) ?_
      refine AllReadyH.cons rfl (fun K hK=>?_) AllReadyH.nil
      go_simp
      (go_at_call 18;refine (HRQ.out _).mono ?_;rintro e w2 ⟨⟨D2,g2,rfl,hi⟩,hf⟩;have HF2:Hid (Fr W9 w2):=Lib.hid ((Fr.refl W9).drew.trans hf);have HI2:=Lib.hid hi;clear hi hf)
      try (refine hK.out _ _ ?_ (fun hHeld2=>?_))
      ·exact HSY.out _ HF2.out
      clear hK K
      try simp only [Act.put,fl]
      refine wpAnyH_ready (rs:=[2]) (by kernel_rfl) (by simp) ?_
      refine AllReadyH.cons rfl (fun K hK=>?_) AllReadyH.nil
      go_simp
      (go_at_call 12;refine (HSQ.out _ D2 g2 HF2.out HI2.out).mono ?_;rintro e w3 ⟨rfl,hf⟩;have HF3:Hid (Fr W9 w3):=Lib.hid (HF2.out.trans hf);clear hf)
      try (refine hK.out _ _ ?_ (fun hHeld3=>?_))
      ·exact HSY.out _ HF3.out
      clear hK K
      try simp only [Act.put,fl]
      refine tk (i:=3) (v:=?_) rfl ⟨by rfl,?_⟩ hHeld3 ?_
      rotate_left
      ·(intro w' hSw;(try dsimp only at hSw);go_simp;try with_reducible rfl)
      try simp only [Act.put,fl]
      refine tk (i:=4) (v:=?_) rfl ⟨by rfl,?_⟩ hHeld3 ?_
      rotate_left
      ·(intro w' hSw;(try dsimp only at hSw);go_simp;try with_reducible rfl)
      try simp only [Act.put,fl]
      refine tk (i:=5) (v:=?_) rfl ⟨by rfl,?_⟩ hHeld3 ?_
      rotate_left
      ·(intro w' hSw;(try dsimp only at hSw);go_simp;try with_reducible rfl)
      try simp only [Act.put,fl]
      refine tk (i:=6) (v:=?_) rfl ⟨by rfl,?_⟩ hHeld3 ?_
      rotate_left
      ·(intro w' hSw;(try dsimp only at hSw);go_simp;try with_reducible rfl)
      try simp only [Act.put,fl]
      refine tk (i:=7) (v:=?_) rfl ⟨by rfl,?_⟩ hHeld3 ?_
      rotate_left
      ·(intro w' hSw;(try dsimp only at hSw);go_simp;try with_reducible rfl)
      try simp only [Act.put,fl]
      refine tk (i:=8) (v:=?_) rfl ⟨by rfl,?_⟩ hHeld3 ?_
      rotate_left
      ·(intro w' hSw;(try dsimp only at hSw);go_simp;try with_reducible rfl)
      try simp only [Act.put,fl]
      refine tk (i:=9) (v:=?_) rfl ⟨by rfl,?_⟩ hHeld3 ?_
      rotate_left
      ·(intro w' hSw;(try dsimp only at hSw);go_simp;try with_reducible rfl)
      try simp only [Act.put,fl]
      refine tk (i:=10) (v:=?_) rfl ⟨by rfl,?_⟩ hHeld3 ?_
      rotate_left
      ·(intro w' hSw;(try dsimp only at hSw);go_simp;try with_reducible rfl)
      try simp only [Act.put,fl]
      refine tk (i:=11) (v:=?_) rfl ⟨by rfl,?_⟩ hHeld3 ?_
      rotate_left
      ·(intro w' hSw;(try dsimp only at hSw);go_simp;try with_reducible rfl)
      try simp only [Act.put,fl]
      refine wpAnyH_take (i:=12) (v:=undef) rfl (by kernel_rfl) (by kernel_rfl) (by kernel_rfl) (fun _ _ _ h=>h) (Or.inr ⟨by rfl,rfl⟩) hHeld3 ?_
      try simp only [Act.put,fl]
      refine wpAnyH_take (i:=13) (v:=undef) rfl (by kernel_rfl) (by kernel_rfl) (by kernel_rfl) (fun _ _ _ h=>h) (Or.inr ⟨by rfl,rfl⟩) hHeld3 ?_
      try simp only [Act.put,fl]
      refine wpAnyH_take (i:=14) (v:=undef) rfl (by kernel_rfl) (by kernel_rfl) (by kernel_rfl) (fun _ _ _ h=>h) (Or.inr ⟨by rfl,rfl⟩) hHeld3 ?_
      try simp only [Act.put,fl]
      refine wpAnyH_take (i:=15) (v:=undef) rfl (by kernel_rfl) (by kernel_rfl) (by kernel_rfl) (fun _ _ _ h=>h) (Or.inr ⟨by rfl,rfl⟩) hHeld3 ?_
      try simp only [Act.put,fl]
      refine wpAnyH_take (i:=16) (v:=undef) rfl (by kernel_rfl) (by kernel_rfl) (by kernel_rfl) (fun _ _ _ h=>h) (Or.inr ⟨by rfl,rfl⟩) hHeld3 ?_
      try simp only [Act.put,fl]
      refine wpAnyH_take (i:=17) (v:=undef) rfl (by kernel_rfl) (by kernel_rfl) (by kernel_rfl) (fun _ _ _ h=>h) (Or.inr ⟨by rfl,rfl⟩) hHeld3 ?_
      try simp only [Act.put,fl]
      refine wpAnyH_take (i:=18) (v:=undef) rfl (by kernel_rfl) (by kernel_rfl) (by kernel_rfl) (fun _ _ _ h=>h) (Or.inr ⟨by rfl,rfl⟩) hHeld3 ?_
      try simp only [Act.put,fl]
      refine wpAnyH_take (i:=19) (v:=undef) rfl (by kernel_rfl) (by kernel_rfl) (by kernel_rfl) (fun _ _ _ h=>h) (Or.inr ⟨by rfl,rfl⟩) hHeld3 ?_
      try simp only [Act.put,fl]
      refine tk (i:=20) (v:=?_) rfl ⟨by rfl,?_⟩ hHeld3 ?_
      rotate_left
      ·(intro w' hSw;(try dsimp only at hSw);go_simp;try with_reducible rfl)
      try simp only [Act.put,fl]
      refine tk (i:=21) (v:=?_) rfl ⟨by rfl,?_⟩ hHeld3 ?_
      rotate_left
      ·(intro w' hSw;(try dsimp only at hSw);go_simp;try with_reducible rfl)
      try simp only [Act.put,fl]
      refine wpAnyH_done (by kernel_rfl) ?_ _
      go_wp2_with fail
      go_ret
      exact ⟨rfl,HW9.out.trans HF3.out⟩
     ·have h16':(16:Int)<(cs.length:Int):=by omega
      have HRL:Hid (∀ W,Calls Tryz.prog 18 #[.string ⟨#[108,105,109,105,116]⟩,.string ⟨#[109,97,120,67,97,108,108,115,73,110,82,101,113,117,101,115,116]⟩] W fun e w'=>(∃ (D:Option Addr) (g:Nat),e=.returned (.agg #[.int .i64 6,.int .i64 0,.string ⟨#[]⟩,.slice none 0 0,.slice D 3 g])∧InV w' (Lo w'.heap.size) (Pt.prV Pt.kLim Pt.kCalls) (.agg #[.int .i64 6,.int .i64 0,.string ⟨#[]⟩,.slice none 0 0,.slice D 3 g]))∧Fr W w'):=Lib.hid (fun W=>by
       refine (rproblem_is ⟨#[108,105,109,105,116]⟩ ⟨#[109,97,120,67,97,108,108,115,73,110,82,101,113,117,101,115,116]⟩ W (by decide) (by decide) 3 (by decide)).mono ?_
       rintro e w' ⟨⟨D,g,he,_,hi⟩,hf⟩
       exact ⟨⟨D,g,he,hi⟩,hf⟩)
      have HSN:Hid (∀ W (D2:Option Addr) (g2:Nat),Fr W9 W→InV W (Lo W.heap.size) (Pt.prV Pt.kReq []) (.agg #[.int .i64 6,.int .i64 0,.string ⟨#[]⟩,.slice none 0 0,.slice D2 2 g2])→Calls Tryz.prog 12 #[.agg #[.int .i64 6,.int .i64 0,.string ⟨#[]⟩,.slice none 0 0,.slice D n g],.agg #[.int .i64 6,.int .i64 0,.string ⟨#[]⟩,.slice none 0 0,.slice D2 2 g2]] W fun e w'=>e=.returned (.bool false)∧Fr W w'):=Lib.hid (fun W D2 g2 hW hi2=>(same_is (Pt.prV Pt.kLim Pt.kCalls) (Pt.prV Pt.kReq []) _ _).call false (by simp [pr_ne]) rfl rfl (HI9.out.go hW) hi2)
      have HSL:Hid (∀ W (D2:Option Addr) (g2:Nat),Fr W9 W→InV W (Lo W.heap.size) (Pt.prV Pt.kLim Pt.kCalls) (.agg #[.int .i64 6,.int .i64 0,.string ⟨#[]⟩,.slice none 0 0,.slice D2 3 g2])→Calls Tryz.prog 12 #[.agg #[.int .i64 6,.int .i64 0,.string ⟨#[]⟩,.slice none 0 0,.slice D n g],.agg #[.int .i64 6,.int .i64 0,.string ⟨#[]⟩,.slice none 0 0,.slice D2 3 g2]] W fun e w'=>e=.returned (.bool true)∧Fr W w'):=Lib.hid (fun W D2 g2 hW hi2=>(same_is (Pt.prV Pt.kLim Pt.kCalls) (Pt.prV Pt.kLim Pt.kCalls) _ _).call true (by simp) rfl rfl (HI9.out.go hW) hi2)
      go_upto_region 16 with fail
      refine wp_region_held_drew (S:=(fun W=>W.cell? ⟨Y1,0,none⟩=some (.int .i64 6)∧W.cell? ⟨Y1,0+1,none⟩=some (.int .i64 0)∧W.cell? ⟨Y1,0+2,none⟩=some (.string ⟨#[]⟩)∧W.cell? ⟨Y1,0+3,none⟩=some (.slice none 0 0)∧W.cell? ⟨Y1,0+4,none⟩=some (.slice D n g))) (by kernel_rfl) ?_ (fun hHeld=>?_)
      ·exact HSY.out _ (Fr.refl W9).drew
      refine tk (i:=0) (v:=?_) rfl ⟨by rfl,?_⟩ hHeld ?_
      rotate_left
      ·(intro w' hSw;(try dsimp only at hSw);go_simp;try with_reducible rfl)
      try simp only [Act.put,fl]
      refine wpAnyH_ready (rs:=[1]) (by kernel_rfl) (by simp) ?_
      refine AllReadyH.cons rfl (fun K hK=>?_) AllReadyH.nil
      go_simp
      (go_at_call 18;refine (HRQ.out _).mono ?_;rintro e w2 ⟨⟨D2,g2,rfl,hi⟩,hf⟩;have HF2:Hid (Fr W9 w2):=Lib.hid ((Fr.refl W9).drew.trans hf);have HI2:=Lib.hid hi;clear hi hf)
      try (refine hK.out _ _ ?_ (fun hHeld2=>?_))
      ·exact HSY.out _ HF2.out
      clear hK K
      try simp only [Act.put,fl]
      refine wpAnyH_ready (rs:=[2]) (by kernel_rfl) (by simp) ?_
      refine AllReadyH.cons rfl (fun K hK=>?_) AllReadyH.nil
      go_simp
      (go_at_call 12;refine (HSN.out _ D2 g2 HF2.out HI2.out).mono ?_;rintro e w3 ⟨rfl,hf⟩;have HF3:Hid (Fr W9 w3):=Lib.hid (HF2.out.trans hf);clear hf)
      try (refine hK.out _ _ ?_ (fun hHeld3=>?_))
      ·exact HSY.out _ HF3.out
      clear hK K
      try simp only [Act.put,fl]
      refine tk (i:=3) (v:=?_) rfl ⟨by rfl,?_⟩ hHeld3 ?_
      rotate_left
      ·(intro w' hSw;(try dsimp only at hSw);go_simp;try with_reducible rfl)
      try simp only [Act.put,fl]
      refine wpAnyH_take (i:=4) (v:=undef) rfl (by kernel_rfl) (by kernel_rfl) (by kernel_rfl) (fun _ _ _ h=>h) (Or.inr ⟨by rfl,rfl⟩) hHeld3 ?_
      try simp only [Act.put,fl]
      refine tk (i:=5) (v:=?_) rfl ⟨by rfl,?_⟩ hHeld3 ?_
      rotate_left
      ·(intro w' hSw;(try dsimp only at hSw);go_simp;try with_reducible rfl)
      try simp only [Act.put,fl]
      refine tk (i:=6) (v:=?_) rfl ⟨by rfl,?_⟩ hHeld3 ?_
      rotate_left
      ·(intro w' hSw;(try dsimp only at hSw);go_simp;try with_reducible rfl)
      try simp only [Act.put,fl]
      refine wpAnyH_take (i:=7) (v:=undef) rfl (by kernel_rfl) (by kernel_rfl) (by kernel_rfl) (fun _ _ _ h=>h) (Or.inr ⟨by rfl,rfl⟩) hHeld3 ?_
      try simp only [Act.put,fl]
      refine wpAnyH_take (i:=8) (v:=undef) rfl (by kernel_rfl) (by kernel_rfl) (by kernel_rfl) (fun _ _ _ h=>h) (Or.inr ⟨by rfl,rfl⟩) hHeld3 ?_
      try simp only [Act.put,fl]
      refine wpAnyH_take (i:=9) (v:=undef) rfl (by kernel_rfl) (by kernel_rfl) (by kernel_rfl) (fun _ _ _ h=>h) (Or.inr ⟨by rfl,rfl⟩) hHeld3 ?_
      try simp only [Act.put,fl]
      refine tk (i:=10) (v:=?_) rfl ⟨by rfl,?_⟩ hHeld3 ?_
      rotate_left
      ·(intro w' hSw;(try dsimp only at hSw);go_simp;try with_reducible rfl)
      try simp only [Act.put,fl]
      refine tk (i:=11) (v:=?_) rfl ⟨by rfl,?_⟩ hHeld3 ?_
      rotate_left
      ·(intro w' hSw;(try dsimp only at hSw);go_simp;try with_reducible rfl)
      try simp only [Act.put,fl]
      refine tk (i:=12) (v:=?_) rfl ⟨by rfl,?_⟩ hHeld3 ?_
      rotate_left
      ·(intro w' hSw;(try dsimp only at hSw);go_simp;try with_reducible rfl)
      try simp only [Act.put,fl]
      refine wpAnyH_ready (rs:=[13]) (by kernel_rfl) (by simp) ?_
      refine AllReadyH.cons rfl (fun K2 hK=>?_) AllReadyH.nil
      go_simp
      (go_at_call 18;refine (HRL.out _).mono ?_;rintro e w4 ⟨⟨D4,g4,rfl,hi⟩,hf⟩;have HF4:Hid (Fr W9 w4):=Lib.hid (HF3.out.trans hf);have HI4:=Lib.hid hi;clear hi hf)
      try (refine hK.out _ _ ?_ (fun hHeld4=>?_))
      ·exact HSY.out _ HF4.out
      clear hK K2
      try simp only [Act.put,fl]
      refine wpAnyH_ready (rs:=[14]) (by kernel_rfl) (by simp) ?_
      refine AllReadyH.cons rfl (fun K hK=>?_) AllReadyH.nil
      go_simp
      (go_at_call 12;refine (HSL.out _ D4 g4 HF4.out HI4.out).mono ?_;rintro e w5 ⟨rfl,hf⟩;have HF5:Hid (Fr W9 w5):=Lib.hid (HF4.out.trans hf);clear hf)
      try (refine hK.out _ _ ?_ (fun hHeld5=>?_))
      ·exact HSY.out _ HF5.out
      clear hK K
      try simp only [Act.put,fl]
      refine tk (i:=15) (v:=?_) rfl ⟨by rfl,?_⟩ hHeld5 ?_
      rotate_left
      ·(intro w' hSw;(try dsimp only at hSw);go_simp;try with_reducible rfl)
      try simp only [Act.put,fl]
      refine tk (i:=16) (v:=?_) rfl ⟨by rfl,?_⟩ hHeld5 ?_
      rotate_left
      ·(intro w' hSw;(try dsimp only at hSw);go_simp;try with_reducible rfl)
      try simp only [Act.put,fl]
      refine tk (i:=17) (v:=?_) rfl ⟨by rfl,?_⟩ hHeld5 ?_
      rotate_left
      ·(intro w' hSw;(try dsimp only at hSw);go_simp;try with_reducible rfl)
      try simp only [Act.put,fl]
      refine tk (i:=18) (v:=?_) rfl ⟨by rfl,?_⟩ hHeld5 ?_
      rotate_left
      ·(intro w' hSw;(try dsimp only at hSw);go_simp;try with_reducible rfl)
      try simp only [Act.put,fl]
      refine tk (i:=19) (v:=?_) rfl ⟨by rfl,?_⟩ hHeld5 ?_
      rotate_left
      ·(intro w' hSw;(try dsimp only at hSw);go_simp;try with_reducible rfl)
      try simp only [Act.put,fl]
      refine tk (i:=20) (v:=?_) rfl ⟨by rfl,?_⟩ hHeld5 ?_
      rotate_left
      ·(intro w' hSw;(try dsimp only at hSw);go_simp;try with_reducible rfl)
      try simp only [Act.put,fl]
      refine tk (i:=21) (v:=?_) rfl ⟨by rfl,?_⟩ hHeld5 ?_
      rotate_left
      ·(intro w' hSw;(try dsimp only at hSw);go_simp;try with_reducible rfl)
      try simp only [Act.put,fl]
      refine wpAnyH_done (by kernel_rfl) ?_ _
      go_wp2_with fail
      go_ret
      exact ⟨rfl,HW9.out.trans HF5.out⟩
  | ok r=>
   rw [hr] at HPB
   have hrr:r=(([Pt.kUrn],cs),(ms,true))∧Pt.noMap cs=false:=by
    unfold Pt.backP at hr
    split at hr
    ·cases hr
    ·rename_i hq
     split at hr
     ·cases hr
     ·split at hr
      ·cases hr
      ·injection hr with hr
       exact ⟨hr.symm,by simpa using hq⟩
   obtain ⟨rfl,hno⟩:=hrr
   clear hr
   have HPC:Hid (Calls Tryz.prog 7 #[.string S] w9 fun e w'=>(∃ (A1:Option Addr) (a1:Nat) (A2:Option Addr) (a2:Nat) (A3:Option Addr) (a3:Nat),e=.returned (.tuple #[.agg #[.slice A1 1 a1,.slice A2 cs.length a2,.slice A3 ms.length a3,.bool true],.agg #[.int .i64 0,.int .i64 0,.string ⟨#[]⟩,.slice none 0 0,.slice none 0 0]])∧PsC w' A1 [Pt.kUrn]∧CsR w' A2 cs∧MsC w' (Lo w'.heap.size) A3 ms)∧Fr w9 w'):=Lib.hid (by
    have h:=HPB.out
    unfold PrP at h
    refine h.mono ?_
    rintro e w' ⟨⟨us',cs',crs',Z,rfl,_,_,h1,h2,h3⟩,hf⟩
    obtain ⟨A1,c1,rfl,g1⟩:=h1.shows
    obtain ⟨A2,c2,rfl,g2⟩:=h2.shows
    obtain ⟨A3,c3,rfl,g3⟩:=msb_showsB h3 (by show ms.length≤_;omega)
    exact ⟨⟨A1,c1,A2,c2,A3,c3,rfl,g1,g2,g3⟩,hf⟩)
   have HNO:=Lib.hid hno
   clear HPB hno
   go_upto_region 10 with (go_at_call 7;refine HPC.out.mono ?_;rintro e w1 ⟨⟨A1,a1,A2,a2,A3,a3,rfl,hm⟩,hf⟩;have HM1:=Lib.hid hm;have HF1:=Lib.hid (HF9.out.trans hf);clear hm hf)
   obtain ⟨W9,hW⟩:∃ W,W=((w1.alloc (.cells #[.slice A1 1 a1,.slice A2 cs.length a2,.slice A3 ms.length a3,.bool true] 26)).alloc (.cells #[.int .i64 0,.int .i64 0,.string ⟨#[]⟩,.slice none 0 0,.slice none 0 0] 29)):=⟨_,rfl⟩
   have hkk:Fr w1 W9:=by rw [hW];exact ((Fr.refl w1).alloc _).alloc _
   have hb1:Blk W9 w1.heap.size #[.slice A1 1 a1,.slice A2 cs.length a2,.slice A3 ms.length a3,.bool true] 26:=by rw [hW];exact (Blk.made w1 _ _).keep ((Fr.refl _).alloc _)
   have hb2:Blk W9 (w1.heap.size+1) #[.int .i64 0,.int .i64 0,.string ⟨#[]⟩,.slice none 0 0,.slice none 0 0] 29:=by rw [hW];exact boxz (Blk.made (w1.alloc _) _ _)
   rw [← hW]
   clear hW
   have hw9:=HF1.out.trans hkk
   generalize w1.heap.size+1=Y1 at hb2 ⊢
   have HM9:Hid (∀ W,Fr W9 W→PsC W A1 [Pt.kUrn]∧CsR W A2 cs∧MsC W (Lo W.heap.size) A3 ms):=Lib.hid (fun W hW=>⟨HM1.out.1.keep (hkk.trans hW),HM1.out.2.1.keep (hkk.trans hW),(HM1.out.2.2.keep (Nat.le_refl _) (hkk.trans hW)).map (fun b hb=>Nat.lt_of_lt_of_le hb (hkk.trans hW).size) (fun _ _ _=>rfl)⟩)
   obtain ⟨X1,hX1⟩:∃ X,w1.heap.size=X:=⟨_,rfl⟩
   rw [hX1] at hb1 ⊢
   have HB1:=Lib.hid hb1
   have HB2:=Lib.hid hb2
   have HW9:=Lib.hid hw9
   clear hkk hb1 hb2 hw9 HF1 HM1 hX1
   go_upto_region 11 with fail
   go_loopw [12] (fun j wr=>∃ (i:Nat),i≤cs.length∧j=.int .i64 i∧W9=wr) (fun j _=>cs.length - (intOf j).toNat)
   case atStart=>exact ⟨0,by omega,rfl,rfl⟩
   case round=>
    obtain ⟨i,hi,rfl,rfl⟩:=hrel
    by_cases hlt:i<cs.length
    ·have hlt':(i:Int)<(cs.length:Int):=by omega
     obtain ⟨b,o,C,f,C',f',rfl,hb,a0,⟨n0,n1,n2,n3,n4⟩,a6,hxa⟩:=HCS.out _ HW9.out i hlt
     clear hb a0 n1 n2 n3 n4 a6 hxa
     have hmp:=HMAP.out i hlt
     generalize cs[i].1.2.kd=kd at n0 hmp
     have hkd:kd=6:=by
      by_cases h:kd=6
      ·exact h
      ·exact absurd ((HNO.out).symm.trans (hmp (by rw [bne_iff_ne];exact h))) (by simp)
     subst hkd
     clear hmp
     go_wp2_with fail
     exact ⟨⟨i+1,by omega,by go_num,by first | trivial | rfl⟩,by simp [intOf];omega⟩
    ·obtain rfl:i=cs.length:=by omega
     obtain ⟨⟨y0,y1,y2,y3,y4⟩,_⟩:=box5 HB2.out
     obtain ⟨⟨x0,x1,x2,x3⟩,_⟩:=box4r HB1.out
     go_upto_region 18 with fail
     clear y0 y1 y2 y3 y4 x0 x1 x2 x3
     have hb13:=Blk.made W9 #[.slice A1 1 a1,.slice A cs.length c,.slice none 0 0,.bool true] 32
     have hf13:Fr W9 (W9.alloc (.cells #[.slice A1 1 a1,.slice A cs.length c,.slice none 0 0,.bool true] 32)):=(Fr.refl W9).alloc _
     have hs13:=hf13.size
     obtain ⟨WA,hWA⟩:∃ W,W=(W9.alloc (.cells #[.slice A1 1 a1,.slice A cs.length c,.slice none 0 0,.bool true] 32)):=⟨_,rfl⟩
     rw [← hWA] at hb13 hf13 hs13 ⊢
     clear hWA
     obtain ⟨X13,hX13⟩:∃ X,W9.heap.size=X:=⟨_,rfl⟩
     rw [hX13] at hb13 ⊢
     have HBA:=Lib.hid hb13
     have HFA:=Lib.hid hf13
     clear hb13 hf13
     obtain ⟨⟨y0,y1,y2,y3⟩,yf0,yf1,yf2,yf3⟩:=box4r HBA.out
     go_upto_region 20 with fail
     have hbz:=HBA.out.set 2 (.slice B ms.length d)
     have hfz:=HFA.out.setCell (p:=⟨X13,2,none⟩) (by show W9.heap.size≤X13;omega) (.slice B ms.length d)
     clear y0 y1 y2 y3 yf0 yf1 yf2 yf3 HBA HFA
     generalize (WA.setCell ⟨X13,2,none⟩ (.slice B ms.length d))=WZ at hbz hfz ⊢
     have HBA:=Lib.hid hbz
     have HFA:=Lib.hid hfz
     clear hbz hfz
     obtain ⟨WA,hWA⟩:∃ W,W=WZ:=⟨WZ,rfl⟩
     subst hWA
     have HB13:Hid (Blk WA X13 #[.slice A1 1 a1,.slice A cs.length c,.slice B ms.length d,.bool true] 32):=HBA
     have HB1A:=Lib.hid (HB1.out.keep HFA.out)
     have HSM:Hid (∀ W,Fr WA W→Calls Tryz.prog 10 #[.agg #[.slice A1 1 a1,.slice A2 cs.length a2,.slice A3 ms.length a3,.bool true],.agg #[.slice A1 1 a1,.slice A cs.length c,.slice B ms.length d,.bool true]] W fun e w'=>e=.returned (.bool true)∧Fr W w'):=Lib.hid (fun W hW=>by
      have hW2:=HFA.out.trans hW
      obtain ⟨p1,p2,p3⟩:=HM9.out W hW2
      have q2:=HCS.out W (HW9.out.trans hW2)
      have q3:MsC W (Lo W.heap.size) B ms:=HMS.out W (HW9.out.trans hW2)
      exact same25 [Pt.kUrn] cs ms true A1 a1 A2 a2 A3 a3 A1 a1 A c B d W p1 p1 p2 q2 p3 q3 (by simp) (by omega) (by omega))
     have HWA:=Lib.hid (HW9.out.trans HFA.out)
     clear HFA HB1 HM9 HBA HB2
     obtain ⟨HB1,_⟩:Hid (Blk WA X1 #[.slice A1 1 a1,.slice A2 cs.length a2,.slice A3 ms.length a3,.bool true] 26)∧True:=⟨HB1A,trivial⟩
     clear HW9 HB1A
     obtain ⟨W9,hq9⟩:∃ W,W=WA:=⟨WA,rfl⟩
     subst hq9
     have HSX:Hid (∀ W,Fr W9 W→(W.cell? ⟨X1,0,none⟩=some (.slice A1 1 a1)∧W.cell? ⟨X1,0+1,none⟩=some (.slice A2 cs.length a2)∧W.cell? ⟨X1,0+2,none⟩=some (.slice A3 ms.length a3)∧W.cell? ⟨X1,0+3,none⟩=some (.bool true))∧(W.cell? ⟨X13,0,none⟩=some (.slice A1 1 a1)∧W.cell? ⟨X13,0+1,none⟩=some (.slice A cs.length c)∧W.cell? ⟨X13,0+2,none⟩=some (.slice B ms.length d)∧W.cell? ⟨X13,0+3,none⟩=some (.bool true))):=Lib.hid (fun W hW=>by
      have a:=HB1.out.keep hW
      have b:=HB13.out.keep hW
      exact ⟨⟨a.cell 0,a.cell 1,a.cell 2,a.cell 3⟩,⟨b.cell 0,b.cell 1,b.cell 2,b.cell 3⟩⟩)
     go_upto_region 20 with fail
     refine wp_region_held_drew (S:=(fun W=>(W.cell? ⟨X1,0,none⟩=some (.slice A1 1 a1)∧W.cell? ⟨X1,0+1,none⟩=some (.slice A2 cs.length a2)∧W.cell? ⟨X1,0+2,none⟩=some (.slice A3 ms.length a3)∧W.cell? ⟨X1,0+3,none⟩=some (.bool true))∧(W.cell? ⟨X13,0,none⟩=some (.slice A1 1 a1)∧W.cell? ⟨X13,0+1,none⟩=some (.slice A cs.length c)∧W.cell? ⟨X13,0+2,none⟩=some (.slice B ms.length d)∧W.cell? ⟨X13,0+3,none⟩=some (.bool true)))) (by kernel_rfl) ?_ (fun hHeld=>?_)
     ·exact HSX.out _ (Fr.refl W9).drew
     refine tk (i:=0) (v:=?_) rfl ⟨by rfl,?_⟩ hHeld ?_
     rotate_left
     ·(intro w' hSw;(try dsimp only at hSw);go_simp;try with_reducible rfl)
     try simp only [Act.put,fl]
     refine tk (i:=2) (v:=?_) rfl ⟨by rfl,?_⟩ hHeld ?_
     rotate_left
     ·(intro w' hSw;(try dsimp only at hSw);go_simp;try with_reducible rfl)
     try simp only [Act.put,fl]
     refine wpAnyH_ready (rs:=[1]) (by kernel_rfl) (by simp) ?_
     refine AllReadyH.cons rfl (fun K hK=>?_) AllReadyH.nil
     go_simp
     (go_at_call 11;refine (req_is _ _ _ _ _ _ _ _ _ _ _).mono ?_;rintro e w2 ⟨rfl,hf⟩;have HF2:Hid (Fr W9 w2):=Lib.hid ((Fr.refl W9).drew.trans hf);clear hf)
     try (refine hK.out _ _ ?_ (fun hHeld2=>?_))
     ·exact HSX.out _ HF2.out
     clear hK K
     try simp only [Act.put,fl]
     refine wpAnyH_ready (rs:=[3]) (by kernel_rfl) (by simp) ?_
     refine AllReadyH.cons rfl (fun K hK=>?_) AllReadyH.nil
     go_simp
     (go_at_call 10;refine (HSM.out _ HF2.out).mono ?_;rintro e w3 ⟨rfl,hf⟩;have HF3:Hid (Fr W9 w3):=Lib.hid (HF2.out.trans hf);clear hf)
     try (refine hK.out _ _ ?_ (fun hHeld3=>?_))
     ·exact HSX.out _ HF3.out
     clear hK K
     try simp only [Act.put,fl]
     refine tk (i:=4) (v:=?_) rfl ⟨by rfl,?_⟩ hHeld3 ?_
     rotate_left
     ·(intro w' hSw;(try dsimp only at hSw);go_simp;try with_reducible rfl)
     try simp only [Act.put,fl]
     refine wpAnyH_done (by kernel_rfl) ?_ _
     go_wp2_with fail
     go_ret
     exact ⟨rfl,HWA.out.trans HF3.out⟩
end Go.Proofs.YtockgemmkjdnkaaGreatDoor
