/- Plain mathematics of numbers in digits: no program in sight. -/

namespace Go.Proofs.YtdhakbghdcfncaaGreatDoor.Nm
set_option maxRecDepth 100000
set_option linter.unusedVariables false
set_option linter.unusedSimpArgs false

def isDig (c:UInt8):Bool:=decide (48≤c.toNat) && decide (c.toNat≤57)
theorem isDig_pos {c:UInt8} (h:48≤c.toNat) (h':c.toNat≤57):isDig c=true:=by simp [isDig,h,h']
theorem isDig_iff {c:UInt8}:isDig c=true↔48≤c.toNat∧c.toNat≤57:=by simp [isDig]

def digLen:List UInt8→Nat
 | []=>0
 | c::l=>if isDig c then digLen l+1 else 0
theorem digLen_le (l:List UInt8):digLen l≤l.length:=by
 induction l with
 | nil=>simp [digLen]
 | cons c l ih=>unfold digLen;split <;> simp <;> omega

def valFrom (n:Nat):List UInt8→Option Nat
 | []=>some n
 | c::l=>if n*10+(c.toNat - 48) > 9007199254740991 then none else valFrom (n*10+(c.toNat - 48)) l

theorem drop_cons (l:List UInt8) (k:Nat) (h:k<l.length):l.drop k=l[k]::l.drop (k+1):=by
 rw [List.drop_eq_getElem_cons h]

def putNat (n:Nat):List UInt8:=if n<10 then [UInt8.ofNat (48+n)] else putNat (n / 10)++[UInt8.ofNat (48+n % 10)]
theorem putNat_lt {n:Nat} (h:n<10):putNat n=[UInt8.ofNat (48+n)]:=by rw [putNat,if_pos h]
theorem putNat_ge {n:Nat} (h:¬ n<10):putNat n=putNat (n / 10)++[UInt8.ofNat (48+n % 10)]:=by rw [putNat,if_neg h]
def put (n:Int):List UInt8:=if n<0 then 45::putNat n.natAbs else putNat n.natAbs

structure PutInv (n:Int) (m:Nat) (r:Int) (t:List UInt8):Prop where
 len:m+t.length=20
 lo:-9223372036854775808≤r
 hi:r≤9223372036854775807
 sign:(n<0→r≤0)∧(0≤n→0≤r)
 bound:r.natAbs*10 ^ t.length≤9223372036854775808
 one:t=[]∨1≤r.natAbs
 eq:putNat n.natAbs=putNat r.natAbs++t

theorem PutInv.start (n:Int) (h:-9223372036854775808≤n) (h':n≤9223372036854775807):PutInv n 20 n []:=
 ⟨rfl,h,h',⟨fun h=>by omega,fun h=>h⟩,by simp;omega,.inl rfl,by simp⟩

theorem PutInv.room {n:Int} {m:Nat} {r:Int} {t:List UInt8} (h:PutInv n m r t):2≤m:=by
 have h1:=h.len
 have h2:=h.bound
 by_cases hm:2≤m
 ·exact hm
 ·exfalso
  have hl:19≤t.length:=by omega
  have h3:1≤r.natAbs:=by
   rcases h.one with e | e
   ·subst e;simp at hl
   ·exact e
  have h4:10 ^ 19≤10 ^ t.length:=Nat.pow_le_pow_right (by omega) hl
  have h5:1*10 ^ t.length≤r.natAbs*10 ^ t.length:=Nat.mul_le_mul_right _ h3
  omega

theorem natAbs_tdiv_ten (r:Int):(r.tdiv 10).natAbs=r.natAbs / 10:=by
 rw [Int.natAbs_tdiv];rfl
theorem natAbs_tmod_ten (r:Int):(r.tmod 10).natAbs=r.natAbs % 10:=by
 rw [Int.natAbs_tmod];rfl

theorem PutInv.step {n:Int} {m:Nat} {r:Int} {t:List UInt8} (h:PutInv n (m+1) r t) (hr:r.tdiv 10≠0):
  PutInv n m (r.tdiv 10) (UInt8.ofNat (48+r.natAbs % 10)::t):=by
 have hd:=natAbs_tdiv_ten r
 have h1:1≤(r.tdiv 10).natAbs:=by omega
 have hlo:=h.lo
 have hhi:=h.hi
 refine ⟨by have:=h.len;simp;omega,by omega,by omega,?_,?_,.inr h1,?_⟩
 ·refine ⟨fun e=>?_,fun e=>?_⟩
  ·have:=h.sign.1 e
   have h3:=Int.tdiv_nonneg (a:=-r) (b:=10) (by omega) (by omega)
   rw [Int.neg_tdiv] at h3
   omega
  ·have:=h.sign.2 e
   exact Int.tdiv_nonneg this (by omega)
 ·have hb:=h.bound
  rw [hd,List.length_cons,Nat.pow_succ,Nat.mul_comm (10 ^ t.length) 10,← Nat.mul_assoc]
  exact Nat.le_trans (Nat.mul_le_mul_right _ (Nat.div_mul_le_self _ _)) hb
 ·rw [h.eq,hd,putNat_ge (n:=r.natAbs) (by omega)]
  simp

theorem PutInv.stop {n:Int} {m:Nat} {r:Int} {t:List UInt8} (h:PutInv n (m+1) r t) (hr:r.tdiv 10=0):
  putNat n.natAbs=UInt8.ofNat (48+r.natAbs % 10)::t:=by
 have hd:=natAbs_tdiv_ten r
 have h1:r.natAbs<10:=by omega
 rw [h.eq,putNat_lt h1,Nat.mod_eq_of_lt h1]
 rfl

theorem tmod_bound (r:Int):-9≤r.tmod 10∧r.tmod 10≤9:=by
 have:=natAbs_tmod_ten r
 omega

def readNum (l:List UInt8) (a:Int):Int × Int × Int:=
 if a<0∨(l.length:Int)≤a then (0,a,30) else
 let k:=a.toNat
 let f:=if l.getD k 0=45 then k+1 else k
 let E:=f+digLen (l.drop f)
 if E=f∨(l.getD f 0=48∧1<E - f)∨(E<l.length∧(l.getD E 0=46∨l.getD E 0=101∨l.getD E 0=69)) then (0,a,30) else
 match valFrom 0 ((l.drop f).take (E - f)) with
 | none=>(0,a,30)
 | some n=>(if l.getD k 0=45 then -(n:Int) else n,E,0)

theorem readNum_out {l:List UInt8} {a:Int} (h:a<0∨(l.length:Int)≤a):readNum l a=(0,a,30):=by
 unfold readNum;rw [if_pos h]
theorem readNum_bad {l:List UInt8} {k f E:Nat} (hk:k<l.length) (hf:f=if l.getD k 0=45 then k+1 else k) (hE:f+digLen (l.drop f)=E)
  (h:E=f∨(l.getD f 0=48∧1<E - f)∨(E<l.length∧(l.getD E 0=46∨l.getD E 0=101∨l.getD E 0=69))):readNum l k=(0,(k:Int),30):=by
 unfold readNum
 rw [if_neg (by omega)]
 simp only [Int.toNat_natCast]
 rw [← hf,hE,if_pos h]
theorem readNum_good {l:List UInt8} {k f E:Nat} (hk:k<l.length) (hf:f=if l.getD k 0=45 then k+1 else k) (hE:f+digLen (l.drop f)=E)
  (h:¬ (E=f∨(l.getD f 0=48∧1<E - f)∨(E<l.length∧(l.getD E 0=46∨l.getD E 0=101∨l.getD E 0=69)))):
  readNum l k=match valFrom 0 ((l.drop f).take (E - f)) with
   | none=>(0,(k:Int),30)
   | some n=>(if l.getD k 0=45 then -(n:Int) else n,E,0):=by
 unfold readNum
 rw [if_neg (by omega)]
 simp only [Int.toNat_natCast]
 rw [← hf,hE,if_neg h]

theorem digLen_take (l:List UInt8):∀ c∈l.take (digLen l),isDig c=true:=by
 induction l with
 | nil=>simp
 | cons c l ih=>
  unfold digLen
  split
  ·intro d hd
   simp at hd
   rcases hd with rfl | hd
   ·assumption
   ·exact ih d hd
  ·simp

structure RefInv (D:List UInt8) (n:Nat) (g:Bool) (rest:List UInt8):Prop where
 le:n≤9007199254740999
 eq:valFrom 0 D=if g then none else if n > 9007199254740991 then none else valFrom n rest

end Go.Proofs.YtdhakbghdcfncaaGreatDoor.Nm
/- Plain laws of numbers in digits: what is written is read again; All; a digit more. -/
namespace Go.Proofs.YtdhakbghdcfncaaGreatDoor.Nm
set_option linter.unusedVariables false
set_option linter.unusedSimpArgs false

def allNum (l:List UInt8):Option Int:=
 if (readNum l 0).2.2=0∧(readNum l 0).2.1=l.length∧put (readNum l 0).1=l then some (readNum l 0).1 else none
def refAll (l:List UInt8):Option Int:=
 if (readNum l 0).2.2=0∧(readNum l 0).2.1=l.length∧l≠[45,48] then some (readNum l 0).1 else none

theorem readNum_ok {l:List UInt8} {k:Nat} (h:(readNum l k).2.2=0):
  ∃ f E n,k<l.length∧(f=if l.getD k 0=45 then k+1 else k)∧f+digLen (l.drop f)=E ∧
   ¬ (E=f∨(l.getD f 0=48∧1<E - f)∨(E<l.length∧(l.getD E 0=46∨l.getD E 0=101∨l.getD E 0=69))) ∧
   valFrom 0 ((l.drop f).take (E - f))=some n∧readNum l k=(if l.getD k 0=45 then -(n:Int) else n,(E:Int),0):=by
 by_cases hk:k<l.length
 ·obtain ⟨f,hf⟩:∃ f,f=if l.getD k 0=45 then k+1 else k:=⟨_,rfl⟩
  obtain ⟨E,hE⟩:∃ E,f+digLen (l.drop f)=E:=⟨_,rfl⟩
  by_cases hb:E=f∨(l.getD f 0=48∧1<E - f)∨(E<l.length∧(l.getD E 0=46∨l.getD E 0=101∨l.getD E 0=69))
  ·rw [readNum_bad hk hf hE hb] at h;cases h
  ·have hg:=readNum_good hk hf hE hb
   cases hv:valFrom 0 ((l.drop f).take (E - f)) with
   | none=>rw [hg,hv] at h;cases h
   | some n=>exact ⟨f,E,n,hk,hf,hE,hb,hv,by rw [hg,hv]⟩
 ·rw [readNum_out (by omega)] at h;cases h

theorem readNum_cases (l:List UInt8) (a:Int):(readNum l a).2.2=0∨readNum l a=(0,a,30):=by
 by_cases ha:a<0∨(l.length:Int)≤a
 ·right;exact readNum_out ha
 ·obtain ⟨k,rfl⟩:∃ k:Nat,a=k:=⟨a.toNat,by omega⟩
  have hk:k<l.length:=by omega
  obtain ⟨f,hf⟩:∃ f,f=if l.getD k 0=45 then k+1 else k:=⟨_,rfl⟩
  obtain ⟨E,hE⟩:∃ E,f+digLen (l.drop f)=E:=⟨_,rfl⟩
  by_cases hb:E=f∨(l.getD f 0=48∧1<E - f)∨(E<l.length∧(l.getD E 0=46∨l.getD E 0=101∨l.getD E 0=69))
  ·right;exact readNum_bad hk hf hE hb
  ·have hg:=readNum_good hk hf hE hb
   cases hv:valFrom 0 ((l.drop f).take (E - f)) with
   | none=>right;rw [hg,hv]
   | some n=>left;rw [hg,hv]

theorem valFrom_le:∀ (l:List UInt8) (n m:Nat),n≤9007199254740991→valFrom n l=some m→m≤9007199254740991
 | [],n,m,h,e=>by simp [valFrom] at e;omega
 | c::l,n,m,h,e=>by
  unfold valFrom at e
  split at e
  ·simp at e
  ·exact valFrom_le l _ m (by omega) e

theorem readNum_bounds (l:List UInt8) (a:Int):-9007199254740991≤(readNum l a).1∧(readNum l a).1≤9007199254740991:=by
 rcases readNum_cases l a with h | h
 ·by_cases ha:0≤a
  ·obtain ⟨k,rfl⟩:∃ k:Nat,a=k:=⟨a.toNat,by omega⟩
   obtain ⟨f,E,n,_,_,_,_,hv,e⟩:=readNum_ok h
   have:=valFrom_le _ 0 n (by omega) hv
   rw [e]
   simp only
   split <;> omega
  ·rw [readNum_out (.inl (by omega))];simp
 ·rw [h];simp

end Go.Proofs.YtdhakbghdcfncaaGreatDoor.Nm
/- Plain laws: a number that is written is read as it was; a digit more. -/
namespace Go.Proofs.YtdhakbghdcfncaaGreatDoor.Nm
set_option linter.unusedVariables false
set_option linter.unusedSimpArgs false

def ends:List UInt8→Bool
 | []=>true
 | c::_=>!(isDig c || c == 46 || c == 101 || c == 69)

def more (n:Int) (d:Nat):Option Int:=
 if n=0 then none
 else if n<0 then (if -9007199254740991≤n*10 - d then some (n*10 - d) else none)
 else (if n*10+d≤9007199254740991 then some (n*10+d) else none)

end Go.Proofs.YtdhakbghdcfncaaGreatDoor.Nm
/- Plain mathematics of points and their bytes: no program in sight. -/
namespace Go.Proofs.YtdhakbghdcfncaaGreatDoor.Utf
set_option linter.unusedVariables false
set_option linter.unusedSimpArgs false

def isPt (p:Nat):Bool:=decide (p≤1114111) && (decide (p<55296) || decide (57343<p))
theorem isPt_iff {p:Nat}:isPt p=true↔p≤1114111∧(p<55296∨57343<p):=by simp [isPt]
def bytes (p:Nat):List UInt8:=
 if p<128 then [UInt8.ofNat p]
 else if p<2048 then [UInt8.ofNat (192+p / 64),UInt8.ofNat (128+p % 64)]
 else if p<65536 then [UInt8.ofNat (224+p / 4096),UInt8.ofNat (128+p / 64 % 64),UInt8.ofNat (128+p % 64)]
 else [UInt8.ofNat (240+p / 262144),UInt8.ofNat (128+p / 4096 % 64),UInt8.ofNat (128+p / 64 % 64),UInt8.ofNat (128+p % 64)]
def bytesO (p:Nat):List UInt8:=if isPt p then bytes p else []

def cont (c:UInt8):Bool:=decide (128≤c.toNat) && decide (c.toNat≤191)
theorem cont_iff {c:UInt8}:cont c=true↔128≤c.toNat∧c.toNat≤191:=by simp [cont]

def sz (a:UInt8):Nat × Nat:=
 if a.toNat<128 then (1,a.toNat) else if a.toNat<194 then (0,0) else if a.toNat<224 then (2,a.toNat % 32)
 else if a.toNat<240 then (3,a.toNat % 16) else if a.toNat<245 then (4,a.toNat % 8) else (0,0)
theorem sz_bound (a:UInt8):(sz a).1≤4∧((sz a).1=4→(sz a).2<8)∧((sz a).1=3→(sz a).2<16)∧((sz a).1=2→(sz a).2<32)∧((sz a).1≤1→(sz a).2<128):=by
 unfold sz;have:=a.toNat_lt
 repeat' split
 all_goals simp;try omega

def tailv (p:Nat):List UInt8→Nat→Option Nat
 | _,0=>some p
 | [],_+1=>none
 | b::l,k+1=>if cont b then tailv (p*64+b.toNat % 64) l k else none
theorem tailv_zero (p:Nat) (l:List UInt8):tailv p l 0=some p:=by cases l <;> rfl

def fits (p n:Nat):Bool:=
 if n=3 then decide (2048≤p) && (decide (p<55296) || decide (57343<p)) else if n=4 then decide (65536≤p) && decide (p≤1114111) else true

def one:List UInt8→Nat × Nat
 | []=>(0,0)
 | a::r=>
  if (sz a).1=0∨r.length+1<(sz a).1 then (0,0) else
  match tailv (sz a).2 r ((sz a).1 - 1) with
  | none=>(0,0)
  | some p=>if fits p (sz a).1 then (p,(sz a).1) else (0,0)

theorem toNat_ofNat {n:Nat} (h:n<256):(UInt8.ofNat n).toNat=n:=by simp [UInt8.toNat_ofNat'];omega
theorem ofNat_eq {n:Nat} {c:UInt8} (h:n=c.toNat):UInt8.ofNat n=c:=by subst h;simp

theorem one_bytes {p:Nat} (h:isPt p=true) (t:List UInt8):one (bytes p++t)=(p,(bytes p).length):=by
 have h:=isPt_iff.1 h
 unfold bytes
 split
 ·have e1:=toNat_ofNat (n:=p) (by omega)
  have hs:sz (UInt8.ofNat p)=(1,p):=by
   unfold sz;rw [e1,if_pos (by omega)]
  simp only [List.cons_append,List.nil_append,one,hs,tailv_zero]
  rw [if_neg (by simp)]
  simp [fits,tailv_zero]
 split
 ·have e1:=toNat_ofNat (n:=192+p / 64) (by omega)
  have e2:=toNat_ofNat (n:=128+p % 64) (by omega)
  have hs:sz (UInt8.ofNat (192+p / 64))=(2,p / 64):=by
   unfold sz;rw [e1,if_neg (by omega),if_neg (by omega),if_pos (by omega)];congr 1;omega
  have hc:cont (UInt8.ofNat (128+p % 64))=true:=cont_iff.2 (by omega)
  simp only [List.cons_append,List.nil_append,one,hs,tailv,hc,if_true,e2,tailv_zero]
  rw [if_neg (by simp),show p / 64*64+(128+p % 64) % 64=p by omega]
  simp [fits]
 split
 ·have e1:=toNat_ofNat (n:=224+p / 4096) (by omega)
  have e2:=toNat_ofNat (n:=128+p / 64 % 64) (by omega)
  have e3:=toNat_ofNat (n:=128+p % 64) (by omega)
  have hs:sz (UInt8.ofNat (224+p / 4096))=(3,p / 4096):=by
   unfold sz;rw [e1,if_neg (by omega),if_neg (by omega),if_neg (by omega),if_pos (by omega)];congr 1;omega
  have hc:cont (UInt8.ofNat (128+p % 64))=true:=cont_iff.2 (by omega)
  have hc2:cont (UInt8.ofNat (128+p / 64 % 64))=true:=cont_iff.2 (by omega)
  simp only [List.cons_append,List.nil_append,one,hs,tailv,hc,hc2,if_true,e2,e3,tailv_zero]
  rw [if_neg (by simp),show (p / 4096*64+(128+p / 64 % 64) % 64)*64+(128+p % 64) % 64=p by omega]
  simp [fits]
  omega
 ·have e1:=toNat_ofNat (n:=240+p / 262144) (by omega)
  have e2:=toNat_ofNat (n:=128+p / 4096 % 64) (by omega)
  have e3:=toNat_ofNat (n:=128+p / 64 % 64) (by omega)
  have e4:=toNat_ofNat (n:=128+p % 64) (by omega)
  have hs:sz (UInt8.ofNat (240+p / 262144))=(4,p / 262144):=by
   unfold sz;rw [e1,if_neg (by omega),if_neg (by omega),if_neg (by omega),if_neg (by omega),if_pos (by omega)];congr 1;omega
  have hc:cont (UInt8.ofNat (128+p % 64))=true:=cont_iff.2 (by omega)
  have hc2:cont (UInt8.ofNat (128+p / 64 % 64))=true:=cont_iff.2 (by omega)
  have hc3:cont (UInt8.ofNat (128+p / 4096 % 64))=true:=cont_iff.2 (by omega)
  simp only [List.cons_append,List.nil_append,one,hs,tailv,hc,hc2,hc3,if_true,e2,e3,e4,tailv_zero]
  rw [if_neg (by simp),show ((p / 262144*64+(128+p / 4096 % 64) % 64)*64+(128+p / 64 % 64) % 64)*64+(128+p % 64) % 64=p by omega]
  simp [fits]
  omega

theorem bytes_pos (p:Nat):1≤(bytes p).length:=by
 unfold bytes
 repeat' split
 all_goals simp
theorem bytes_le (p:Nat):(bytes p).length≤4:=by
 unfold bytes
 repeat' split
 all_goals simp
theorem one_cons (a:UInt8) (r:List UInt8):one (a::r)=if (sz a).1=0∨r.length+1<(sz a).1 then (0,0) else
  match tailv (sz a).2 r ((sz a).1 - 1) with
  | none=>(0,0)
  | some p=>if fits p (sz a).1 then (p,(sz a).1) else (0,0):=rfl

theorem one_sound {l:List UInt8} {p n:Nat} (h:one l=(p,n)) (hn:n≠0):isPt p=true∧n=(bytes p).length∧l=bytes p++l.drop n:=by
 rcases l with _ | ⟨a,r⟩
 ·simp [one] at h;omega
 have ha:=a.toNat_lt
 rw [one_cons] at h
 by_cases h0:(sz a).1=0∨r.length+1<(sz a).1
 ·rw [if_pos h0] at h;simp at h;omega
 rw [if_neg h0] at h
 rcases ht:tailv (sz a).2 r ((sz a).1 - 1) with _ | q
 ·rw [ht] at h;simp at h;omega
 rw [ht] at h
 simp only at h
 by_cases hf:fits q (sz a).1=true
 case neg=>rw [if_neg hf] at h;simp at h;omega
 rw [if_pos hf] at h
 simp at h
 obtain ⟨rfl,hn'⟩:=h
 unfold sz at *
 by_cases c1:a.toNat<128
 ·simp only [if_pos c1] at *
  rw [show 1 - 1=0 from rfl,tailv_zero] at ht
  obtain rfl:a.toNat=q:=by simpa using ht
  subst hn'
  refine ⟨isPt_iff.2 (by omega),by simp [bytes,c1],?_⟩
  simp [bytes,c1]
 simp only [if_neg c1] at *
 by_cases c2:a.toNat<194
 ·simp only [if_pos c2] at *;omega
 simp only [if_neg c2] at *
 by_cases c3:a.toNat<224
 ·simp only [if_pos c3] at *
  rcases r with _ | ⟨b,r⟩
  ·simp at h0
  have hb:=b.toNat_lt
  simp only [tailv,tailv_zero] at ht
  by_cases hc:cont b=true
  case neg=>rw [if_neg hc] at ht;simp at ht
  rw [if_pos hc] at ht
  have hc:=cont_iff.1 hc
  simp at ht
  subst hn'
  have e:bytes q=[a,b]:=by
   unfold bytes
   rw [if_neg (by omega),if_pos (by omega),ofNat_eq (c:=a) (by omega),ofNat_eq (c:=b) (by omega)]
  rw [e]
  exact ⟨isPt_iff.2 (by omega),rfl,rfl⟩
 simp only [if_neg c3] at *
 by_cases c4:a.toNat<240
 ·simp only [if_pos c4] at *
  rcases r with _ | ⟨b,_ | ⟨c,r⟩⟩
  ·simp at h0
  ·simp at h0
  have hb:=b.toNat_lt
  have hcc:=c.toNat_lt
  simp only [tailv,tailv_zero] at ht
  by_cases hc:cont b=true
  case neg=>rw [if_neg hc] at ht;simp at ht
  by_cases hd:cont c=true
  case neg=>rw [if_pos hc,if_neg hd] at ht;simp at ht
  rw [if_pos hc,if_pos hd] at ht
  have hc:=cont_iff.1 hc
  have hd:=cont_iff.1 hd
  simp at ht
  simp [fits] at hf
  subst hn'
  have e:bytes q=[a,b,c]:=by
   unfold bytes
   rw [if_neg (by omega),if_neg (by omega),if_pos (by omega),ofNat_eq (c:=a) (by omega),ofNat_eq (c:=b) (by omega),ofNat_eq (c:=c) (by omega)]
  rw [e]
  exact ⟨isPt_iff.2 (by omega),rfl,rfl⟩
 simp only [if_neg c4] at *
 by_cases c5:a.toNat<245
 ·simp only [if_pos c5] at *
  rcases r with _ | ⟨b,_ | ⟨c,_ | ⟨d,r⟩⟩⟩
  ·simp at h0
  ·simp at h0
  ·simp at h0
  have hb:=b.toNat_lt
  have hcc:=c.toNat_lt
  have hdd:=d.toNat_lt
  simp only [tailv,tailv_zero] at ht
  by_cases hc:cont b=true
  case neg=>rw [if_neg hc] at ht;simp at ht
  by_cases hd:cont c=true
  case neg=>rw [if_pos hc,if_neg hd] at ht;simp at ht
  by_cases he:cont d=true
  case neg=>rw [if_pos hc,if_pos hd,if_neg he] at ht;simp at ht
  rw [if_pos hc,if_pos hd,if_pos he] at ht
  have hc:=cont_iff.1 hc
  have hd:=cont_iff.1 hd
  have he:=cont_iff.1 he
  simp at ht
  simp [fits] at hf
  subst hn'
  have e:bytes q=[a,b,c,d]:=by
   unfold bytes
   rw [if_neg (by omega),if_neg (by omega),if_neg (by omega),ofNat_eq (c:=a) (by omega),ofNat_eq (c:=b) (by omega),ofNat_eq (c:=c) (by omega),ofNat_eq (c:=d) (by omega)]
  rw [e]
  exact ⟨isPt_iff.2 (by omega),rfl,rfl⟩
 ·simp only [if_neg c5] at *;omega

theorem one_sound' {l:List UInt8} (h:(one l).2≠0):isPt (one l).1=true∧(one l).2=(bytes (one l).1).length∧l=bytes (one l).1++l.drop (one l).2:=
 one_sound (p:=(one l).1) (n:=(one l).2) rfl h

theorem one_len {l:List UInt8}:(one l).2≤l.length∧(one l).2≤4:=by
 by_cases h:(one l).2=0
 ·omega
 ·have h1:=one_sound' h
  have h2:=congrArg List.length h1.2.2
  have h3:=bytes_le (one l).1
  simp only [List.length_append,List.length_drop] at h2
  omega
theorem one_zero {l:List UInt8} (h:(one l).2=0):one l=(0,0):=by
 rcases l with _ | ⟨a,r⟩
 ·rfl
 rw [one_cons] at h ⊢
 by_cases h0:(sz a).1=0∨r.length+1<(sz a).1
 ·rw [if_pos h0]
 ·rw [if_neg h0] at h ⊢
  rcases ht:tailv (sz a).2 r ((sz a).1 - 1) with _ | q
  ·rfl
  ·rw [ht] at h
   simp only at h ⊢
   split
   ·rename_i hf;rw [if_pos hf] at h;simp at h;omega
   ·rfl
theorem one_bound (l:List UInt8):(one l).1≤1114111:=by
 by_cases h:(one l).2=0
 ·rw [one_zero h];simp
 ·have h1:=one_sound' h
  have:=isPt_iff.1 h1.1
  omega

def rn (a:UInt8):Nat:=if 240≤a.toNat then 4 else if 224≤a.toNat then 3 else if 192≤a.toNat then 2 else 1
def rp (a:UInt8):Nat:=if 240≤a.toNat then a.toNat - 240 else if 224≤a.toNat then a.toNat - 224 else if 192≤a.toNat then a.toNat - 192 else a.toNat
def rtail (p:Nat):List UInt8→Nat→Nat
 | _,0=>p
 | [],_+1=>p
 | b::l,k+1=>rtail (p*64+b.toNat % 64) l k
def badF:Nat→List UInt8→Nat
 | 0,_=>0
 | k+1,l=>if (one l).2=0 then 0 else (one l).2+badF k (l.drop (one l).2)
def bad (l:List UInt8):Nat:=badF l.length l
def ptsF:Nat→List UInt8→List Nat
 | 0,_=>[]
 | k+1,l=>if (one l).2=0 then [] else (one l).1::ptsF k (l.drop (one l).2)
def pts (l:List UInt8):List Nat:=ptsF l.length l
theorem one_nil:one []=(0,0):=rfl
theorem badF_more:∀ (k m:Nat) (l:List UInt8),l.length≤k→l.length≤m→badF k l=badF m l
 | 0,0,l,h,h'=>rfl
 | 0,m+1,l,h,h'=>by obtain rfl:l=[]:=List.eq_nil_of_length_eq_zero (by omega);simp [badF,one_nil]
 | k+1,0,l,h,h'=>by obtain rfl:l=[]:=List.eq_nil_of_length_eq_zero (by omega);simp [badF,one_nil]
 | k+1,m+1,l,h,h'=>by
  unfold badF
  split
  ·rfl
  ·rw [badF_more k m (l.drop (one l).2) (by simp;omega) (by simp;omega)]
theorem ptsF_more:∀ (k m:Nat) (l:List UInt8),l.length≤k→l.length≤m→ptsF k l=ptsF m l
 | 0,0,l,h,h'=>rfl
 | 0,m+1,l,h,h'=>by obtain rfl:l=[]:=List.eq_nil_of_length_eq_zero (by omega);simp [ptsF,one_nil]
 | k+1,0,l,h,h'=>by obtain rfl:l=[]:=List.eq_nil_of_length_eq_zero (by omega);simp [ptsF,one_nil]
 | k+1,m+1,l,h,h'=>by
  unfold ptsF
  split
  ·rfl
  ·rw [ptsF_more k m (l.drop (one l).2) (by simp;omega) (by simp;omega)]
theorem bad_stop {l:List UInt8} (h:(one l).2=0):bad l=0:=by
 unfold bad
 cases hl:l.length with
 | zero=>rfl
 | succ k=>unfold badF;rw [if_pos h]
theorem bad_step {l:List UInt8} (h:(one l).2≠0):bad l=(one l).2+bad (l.drop (one l).2):=by
 have h1:=one_len (l:=l)
 unfold bad
 cases hl:l.length with
 | zero=>omega
 | succ k=>
  conv=>lhs;unfold badF
  rw [if_neg h,badF_more k _ (l.drop (one l).2) (by simp;omega) (Nat.le_refl _)]
theorem pts_step {l:List UInt8} (h:(one l).2≠0):pts l=(one l).1::pts (l.drop (one l).2):=by
 have h1:=one_len (l:=l)
 unfold pts
 cases hl:l.length with
 | zero=>omega
 | succ k=>
  conv=>lhs;unfold ptsF
  rw [if_neg h,ptsF_more k _ (l.drop (one l).2) (by simp;omega) (Nat.le_refl _)]
theorem bad_le (l:List UInt8):bad l≤l.length:=by
 unfold bad
 have:∀ (k:Nat) (l:List UInt8),badF k l≤l.length:=by
  intro k
  induction k with
  | zero=>intro l;simp [badF]
  | succ k ih=>
   intro l
   unfold badF
   split
   ·omega
   ·have h1:=ih (l.drop (one l).2)
    have h2:=one_len (l:=l)
    simp at h1
    omega
 exact this _ _
theorem bad_nil:bad []=0:=rfl
theorem pts_nil:pts []=[]:=rfl

theorem pts_sound:∀ (n:Nat) (l:List UInt8),l.length≤n→bad l=l.length→l=(pts l).flatMap bytes ∧ ∀ p∈pts l,isPt p=true
 | 0,l,h,hb=>by obtain rfl:l=[]:=List.eq_nil_of_length_eq_zero (by omega);simp [pts_nil]
 | n+1,l,h,hb=>by
  by_cases h0:(one l).2=0
  ·have h1:=bad_stop h0
   obtain rfl:l=[]:=List.eq_nil_of_length_eq_zero (by omega)
   simp [pts_nil]
  ·have h1:=one_sound' h0
   have h2:=bad_step h0
   have h3:=one_len (l:=l)
   have h4:=pts_sound n (l.drop (one l).2) (by simp;omega) (by simp;omega)
   rw [pts_step h0]
   refine ⟨?_,?_⟩
   ·rw [List.flatMap_cons,← h4.1,← h1.2.2]
   ·intro p hp
    rcases List.mem_cons.1 hp with rfl | hp
    ·exact h1.1
    ·exact h4.2 p hp
theorem pts_complete:∀ (ps:List Nat) (t:List UInt8),(∀ p∈ps,isPt p=true)→pts (ps.flatMap bytes++t)=ps++pts t∧bad (ps.flatMap bytes++t)=(ps.flatMap bytes).length+bad t
 | [],t,h=>by simp
 | p::ps,t,h=>by
  have h1:=one_bytes (h p (by simp)) (ps.flatMap bytes++t)
  have h2:=bytes_pos p
  have h3:=pts_complete ps t (fun q hq=>h q (by simp [hq]))
  rw [List.flatMap_cons,List.append_assoc]
  have h4:(one (bytes p++(ps.flatMap bytes++t))).2≠0:=by rw [h1];simp;intro e;rw [e] at h2;simp at h2
  rw [pts_step h4,bad_step h4,h1]
  simp only [List.drop_left,h3.1,h3.2,List.length_append,List.cons_append]
  exact ⟨trivial,by omega⟩

end Go.Proofs.YtdhakbghdcfncaaGreatDoor.Utf
/- Plain mathematics of texts between quotes: no program in sight. -/
namespace Go.Proofs.YtdhakbghdcfncaaGreatDoor.Chr
set_option linter.unusedVariables false
set_option linter.unusedSimpArgs false
open Utf

def letter (c:UInt8):UInt8:=if c=34 then 34 else if c=92 then 92 else if c=8 then 98 else if c=9 then 116 else if c=10 then 110 else if c=12 then 102 else if c=13 then 114 else 0
def hexd (n:Nat):UInt8:=if n<10 then UInt8.ofNat (48+n) else UInt8.ofNat (87+n)
def esc (c:UInt8):List UInt8:=if letter c≠0 then [92,letter c] else if c.toNat<32 then [92,117,48,48,hexd (c.toNat / 16),hexd (c.toNat % 16)] else [c]
def quote (l:List UInt8):List UInt8:=34::(l.flatMap esc++[34])
def quoteO (l:List UInt8):List UInt8 × Bool:=if bad l=l.length then (quote l,true) else ([],false)

def plain (c:UInt8):Option UInt8:=if c=34 then some 34 else if c=92 then some 92 else if c=47 then some 47 else if c=98 then some 8 else if c=102 then some 12 else if c=110 then some 10 else if c=114 then some 13 else if c=116 then some 9 else none
def hexv (c:UInt8):Option Nat:=if 48≤c.toNat∧c.toNat≤57 then some (c.toNat - 48) else if 65≤c.toNat∧c.toNat≤70 then some (c.toNat - 55) else if 97≤c.toNat∧c.toNat≤102 then some (c.toNat - 87) else none
def hexs (n:Nat):List UInt8→Option Nat
 | []=>some n
 | c::l=>match hexv c with | some d=>hexs (n*16+d) l | none=>none
def unitv:List UInt8→Option Nat
 | a::b::d0::d1::d2::d3::_=>if a=92∧b=117 then hexs 0 [d0,d1,d2,d3] else none
 | _=>none
theorem hexv_lt {c:UInt8} {d:Nat} (h:hexv c=some d):d<16:=by
 unfold hexv at h;repeat' split at h
 all_goals simp at h;try omega
theorem hexs_lt:∀ {l:List UInt8} {n a:Nat},hexs n l=some a→a<(n+1)*16 ^ l.length
 | [],n,a,h=>by simp [hexs] at h;simp;omega
 | c::l,n,a,h=>by
  unfold hexs at h
  rcases hc:hexv c with _ | d
  ·rw [hc] at h;simp at h
  ·rw [hc] at h
   have h1:=hexs_lt h
   have h2:=hexv_lt hc
   have h3:(n*16+d+1)*16 ^ l.length≤((n+1)*16)*16 ^ l.length:=Nat.mul_le_mul_right _ (by omega)
   rw [List.length_cons,Nat.pow_succ,Nat.mul_comm (16 ^ l.length) 16,← Nat.mul_assoc]
   omega
theorem unitv_lt {l:List UInt8} {a:Nat} (h:unitv l=some a):a<65536:=by
 unfold unitv at h
 split at h
 ·split at h
  ·have:=hexs_lt h;simpa using this
  ·cases h
 ·cases h
theorem unitv_len {l:List UInt8} {a:Nat} (h:unitv l=some a):6≤l.length:=by
 unfold unitv at h
 split at h
 ·simp
 ·cases h
def escu (l:List UInt8):Option (Nat × Nat):=
 match unitv l with
 | none=>none
 | some a=>if a<55296∨57343<a then some (a,6) else
  match unitv (l.drop 6) with
  | none=>none
  | some b=>if a≤56319∧56320≤b∧b≤57343 then some (65536+(a - 55296)*1024+(b - 56320),12) else none
def escd (l:List UInt8):Option (Nat × Nat):=
 match plain (l.getD 1 0) with
 | some p=>some (p.toNat,2)
 | none=>escu l
theorem plain_lt {c p:UInt8} (h:plain c=some p):p.toNat<128:=by
 unfold plain at h;repeat' split at h
 all_goals simp at h
 all_goals subst h;decide
theorem escu_pt {l:List UInt8} {p n:Nat} (h:escu l=some (p,n)):isPt p=true∧(n=6∨n=12)∧n≤l.length:=by
 unfold escu at h
 rcases ha:unitv l with _ | a
 ·rw [ha] at h;cases h
 rw [ha] at h
 have h1:=unitv_lt ha
 have h2:=unitv_len ha
 simp only at h
 split at h
 ·simp at h;obtain ⟨rfl,rfl⟩:=h;exact ⟨isPt_iff.2 (by omega),.inl rfl,h2⟩
 ·rcases hb:unitv (l.drop 6) with _ | b
  ·rw [hb] at h;cases h
  rw [hb] at h
  have h3:=unitv_lt hb
  have h4:=unitv_len hb
  simp only at h
  split at h
  ·simp at h;obtain ⟨rfl,rfl⟩:=h;simp at h4;exact ⟨isPt_iff.2 (by omega),.inr rfl,by omega⟩
  ·cases h
theorem escd_pt {l:List UInt8} {p n:Nat} (h:escd l=some (p,n)):isPt p=true∧2≤n∧n≤l.length∧n≤12:=by
 unfold escd at h
 rcases hp:plain (l.getD 1 0) with _ | c
 ·rw [hp] at h
  have:=escu_pt h
  exact ⟨this.1,by omega,by omega,by omega⟩
 ·rw [hp] at h
  simp at h
  obtain ⟨rfl,rfl⟩:=h
  have:=plain_lt hp
  refine ⟨isPt_iff.2 (by omega),by omega,?_,by omega⟩
  rcases l with _ | ⟨x,_ | ⟨y,l⟩⟩
  ·simp [plain] at hp
  ·simp [plain] at hp
  ·simp

inductive Tok
 | fin:Tok
 | bad:Nat→Tok
 | pc:Nat→Nat→Tok

def tok:List UInt8→Tok
 | []=>.bad 20
 | c::r=>if c=34 then .fin else if c.toNat<32 then .bad 20 else
  if c=92 then (match escd (c::r) with | none=>.bad 20 | some (p,n)=>.pc p n) else
  if (one (c::r)).2=0 then .bad 10 else .pc (one (c::r)).1 (one (c::r)).2
theorem tok_cons (c:UInt8) (r:List UInt8):tok (c::r)=if c=34 then .fin else if c.toNat<32 then .bad 20 else
  if c=92 then (match escd (c::r) with | none=>.bad 20 | some (p,n)=>.pc p n) else
  if (one (c::r)).2=0 then .bad 10 else .pc (one (c::r)).1 (one (c::r)).2:=rfl
theorem tok_pc {l:List UInt8} {p n:Nat} (h:tok l=.pc p n):isPt p=true∧1≤n∧n≤l.length∧n≤12:=by
 rcases l with _ | ⟨c,r⟩
 ·simp [tok] at h
 rw [tok_cons] at h
 split at h
 ·cases h
 split at h
 ·cases h
 split at h
 ·rcases he:escd (c::r) with _ | ⟨q,m⟩
  ·rw [he] at h;cases h
  ·rw [he] at h
   simp only [Tok.pc.injEq] at h
   obtain ⟨rfl,rfl⟩:=h
   have:=escd_pt he
   exact ⟨this.1,by omega,this.2.2.1,this.2.2.2⟩
 split at h
 ·cases h
 ·rename_i h0
  simp only [Tok.pc.injEq] at h
  obtain ⟨rfl,rfl⟩:=h
  have h1:=one_sound (l:=c::r) (p:=(one (c::r)).1) rfl h0
  have h2:=one_len (l:=c::r)
  exact ⟨h1.1,by omega,h2.1,by omega⟩
theorem tok_bad {l:List UInt8} {e:Nat} (h:tok l=.bad e):e=20∨(e=10∧l≠[]):=by
 rcases l with _ | ⟨c,r⟩
 ·simp [tok] at h;omega
 rw [tok_cons] at h
 split at h
 ·cases h
 split at h
 ·cases h;omega
 split at h
 ·rcases he:escd (c::r) with _ | ⟨q,m⟩
  ·rw [he] at h;cases h;omega
  ·rw [he] at h;cases h
 split at h
 ·cases h;exact .inr ⟨rfl,by simp⟩
 ·cases h

def rdF:Nat→List UInt8→List Nat × Nat × Nat
 | 0,_=>([],0,20)
 | k+1,l=>match tok l with
  | .fin=>([],1,0)
  | .bad e=>([],0,e)
  | .pc p n=>(p::(rdF k (l.drop n)).1,n+(rdF k (l.drop n)).2.1,(rdF k (l.drop n)).2.2)
def rd (l:List UInt8):List Nat × Nat × Nat:=rdF (l.length+1) l
theorem rdF_more:∀ (k m:Nat) (l:List UInt8),l.length<k→l.length<m→rdF k l=rdF m l
 | 0,_,l,h,_=>by omega
 | _,0,l,_,h=>by omega
 | k+1,m+1,l,h,h'=>by
  unfold rdF
  rcases ht:tok l with _ | e | ⟨p,n⟩
  ·rfl
  ·rfl
  ·have:=tok_pc ht
   simp only
   rw [rdF_more k m (l.drop n) (by simp;omega) (by simp;omega)]
theorem rd_fin {l:List UInt8} (h:tok l=.fin):rd l=([],1,0):=by unfold rd rdF;rw [h]
theorem rd_bad {l:List UInt8} {e:Nat} (h:tok l=.bad e):rd l=([],0,e):=by unfold rd rdF;rw [h]
theorem rd_pc {l:List UInt8} {p n:Nat} (h:tok l=.pc p n):rd l=(p::(rd (l.drop n)).1,n+(rd (l.drop n)).2.1,(rd (l.drop n)).2.2):=by
 have h1:=tok_pc h
 conv=>lhs;unfold rd rdF
 rw [h]
 simp only
 rw [rdF_more l.length ((l.drop n).length+1) (l.drop n) (by simp;omega) (by omega)]
 rfl
theorem tok_cut {l:List UInt8}:tok l=.fin → ∃ r,l=34::r:=by
 rcases l with _ | ⟨c,r⟩
 ·simp [tok]
 ·rw [tok_cons]
  split
  ·rename_i h;subst h;intro _;exact ⟨r,rfl⟩
  ·repeat' split
   all_goals intro h;cases h

theorem rd_all:∀ (n:Nat) (l:List UInt8),l.length≤n→(∀ p∈(rd l).1,isPt p=true)∧(rd l).2.1≤l.length∧((rd l).2.2=0∨(rd l).2.2=10∨(rd l).2.2=20)∧((rd l).2.2=0→1≤(rd l).2.1∧l.getD ((rd l).2.1 - 1) 0=34)∧((rd l).1.flatMap bytes).length≤4*(rd l).2.1∧((rd l).2.2=10→(rd l).2.1<l.length)
 | n,l,hn=>by
  rcases ht:tok l with _ | e | ⟨p,m⟩
  ·obtain ⟨r,rfl⟩:=tok_cut ht
   rw [rd_fin ht];simp
  ·rw [rd_bad ht]
   have:=tok_bad ht
   refine ⟨by simp,by simp,by simp;omega,by simp;omega,by simp,?_⟩
   intro h
   simp at h
   rcases this with h1 | ⟨_,h1⟩
   ·omega
   ·exact List.length_pos_iff.2 h1
  ·have h1:=tok_pc ht
   rw [rd_pc ht]
   cases n with
   | zero=>omega
   | succ n=>
    have h2:=rd_all n (l.drop m) (by simp;omega)
    obtain ⟨a,b,c,d,f,g⟩:=h2
    rw [List.length_drop] at b g
    have hb4:=bytes_le p
    refine ⟨?_,by simp only;omega,c,?_,?_,?_⟩
    ·intro q hq
     rcases List.mem_cons.1 hq with rfl | hq
     ·exact h1.1
     ·exact a q hq
    ·intro h0
     have d:=d h0
     refine ⟨by simp only;omega,?_⟩
     have e:=d.2
     simp only [List.getD_eq_getElem?_getD,List.getElem?_drop] at e ⊢
     rw [← e]
     congr 2
     omega
    ·simp only [List.flatMap_cons,List.length_append]
     omega
    ·intro h0;have:=g h0;simp only;omega

def read (l:List UInt8) (a:Int):List UInt8 × Int × Int:=
 if a<0∨(l.length:Int)≤a∨l.getD a.toNat 0≠34 then ([],a,20) else
 (if (rd (l.drop (a.toNat+1))).2.2=0 then (rd (l.drop (a.toNat+1))).1.flatMap bytes else [],a+1+(rd (l.drop (a.toNat+1))).2.1,(((rd (l.drop (a.toNat+1))).2.2:Nat):Int))
theorem read_out {l:List UInt8} {a:Int} (h:a<0∨(l.length:Int)≤a∨l.getD a.toNat 0≠34):read l a=([],a,20):=by unfold read;rw [if_pos h]
theorem read_in {l:List UInt8} {k:Nat} (hk:k<l.length) (h:l.getD k 0=34):
  read l k=(if (rd (l.drop (k+1))).2.2=0 then (rd (l.drop (k+1))).1.flatMap bytes else [],(k:Int)+1+(rd (l.drop (k+1))).2.1,(((rd (l.drop (k+1))).2.2:Nat):Int)):=by
 unfold read
 rw [if_neg (by simp only [Int.toNat_natCast];intro e;rcases e with e | e | e <;> first | omega | exact e h)]
 simp only [Int.toNat_natCast]

end Go.Proofs.YtdhakbghdcfncaaGreatDoor.Chr
/- Plain laws of texts between quotes. -/
namespace Go.Proofs.YtdhakbghdcfncaaGreatDoor.Chr
set_option linter.unusedVariables false
set_option linter.unusedSimpArgs false
open Utf

def escP (p:Nat):List UInt8:=
 if letter (UInt8.ofNat p)≠0∧p<128 then [92,letter (UInt8.ofNat p)] else if p<32 then [92,117,48,48,hexd (p / 16),hexd (p % 16)] else bytes p

theorem letter_lt {c:UInt8} (h:letter c≠0):c.toNat<128:=by
 unfold letter at h
 repeat' split at h
 all_goals first | (subst c;decide) | exact absurd rfl h
theorem esc_high {c:UInt8} (h:128≤c.toNat):esc c=[c]:=by
 unfold esc
 rw [if_neg (fun e=>by have:=letter_lt e;omega),if_neg (by omega)]
theorem flat_high:∀ {l:List UInt8},(∀ c∈l,128≤c.toNat)→l.flatMap esc=l
 | [],_=>rfl
 | c::l,h=>by rw [List.flatMap_cons,esc_high (h c (by simp)),flat_high (fun d hd=>h d (by simp [hd]))];rfl
theorem bytes_high {p:Nat} (h:isPt p=true) (h':128≤p):∀ c∈bytes p,128≤c.toNat:=by
 have h:=isPt_iff.1 h
 unfold bytes
 rw [if_neg (by omega)]
 split
 ·intro c hc
  simp only [List.mem_cons,List.not_mem_nil,or_false] at hc
  rcases hc with rfl | rfl <;> rw [toNat_ofNat (by omega)] <;> omega
 split
 ·intro c hc
  simp only [List.mem_cons,List.not_mem_nil,or_false] at hc
  rcases hc with rfl | rfl | rfl <;> rw [toNat_ofNat (by omega)] <;> omega
 ·intro c hc
  simp only [List.mem_cons,List.not_mem_nil,or_false] at hc
  rcases hc with rfl | rfl | rfl | rfl <;> rw [toNat_ofNat (by omega)] <;> omega
theorem esc_bytes {p:Nat} (h:isPt p=true):(bytes p).flatMap esc=escP p:=by
 by_cases h1:p<128
 ·have e:bytes p=[UInt8.ofNat p]:=by unfold bytes;rw [if_pos h1]
  have e2:=toNat_ofNat (n:=p) (by omega)
  rw [e]
  simp only [List.flatMap_cons,List.flatMap_nil,List.append_nil]
  unfold esc escP
  rw [e2,e]
  by_cases h2:letter (UInt8.ofNat p)≠0
  ·rw [if_pos h2,if_pos ⟨h2,h1⟩]
  ·rw [if_neg h2]
   conv=>rhs;rw [if_neg (fun x=>h2 x.1)]
 ·rw [flat_high (bytes_high h (by omega))]
  unfold escP
  rw [if_neg (by omega),if_neg (by omega)]
theorem quote_pts {l:List UInt8} (h:bad l=l.length):l.flatMap esc=(pts l).flatMap escP:=by
 have h1:=pts_sound _ l (Nat.le_refl _) h
 conv=>lhs;rw [h1.1]
 have:∀ (ps:List Nat),(∀ p∈ps,isPt p=true)→(ps.flatMap bytes).flatMap esc=ps.flatMap escP:=by
  intro ps
  induction ps with
  | nil=>simp
  | cons p ps ih=>
   intro h
   rw [List.flatMap_cons,List.flatMap_append,List.flatMap_cons,esc_bytes (h p (by simp)),ih (fun q hq=>h q (by simp [hq]))]
 exact this _ h1.2

theorem read_right {l:List UInt8} {a:Int} (h:(read l a).2.2=0):bad (read l a).1=(read l a).1.length∧0≤a∧a<(read l a).2.1∧(read l a).2.1≤l.length∧l.getD ((read l a).2.1.toNat - 1) 0=34:=by
 unfold read at *
 split at h
 ·simp at h
 rename_i hc
 rw [if_neg hc]
 have h0:¬ a<0:=fun e=>hc (.inl e)
 have h1:¬ (l.length:Int)≤a:=fun e=>hc (.inr (.inl e))
 obtain ⟨k,rfl⟩:∃ k:Nat,a=k:=⟨a.toNat,by omega⟩
 simp only [Int.toNat_natCast] at *
 have h:(rd (l.drop (k+1))).2.2=0:=by omega
 have h2:=rd_all _ (l.drop (k+1)) (Nat.le_refl _)
 obtain ⟨a1,a2,a3,a4,a5,a6⟩:=h2
 have a4:=a4 h
 rw [List.length_drop] at a2
 rw [if_pos h]
 have h3:=pts_complete _ [] a1
 simp only [List.append_nil,bad_nil,Nat.add_zero] at h3
 refine ⟨h3.2,by omega,by omega,by omega,?_⟩
 have e:=a4.2
 simp only [List.getD_eq_getElem?_getD,List.getElem?_drop] at e ⊢
 rw [← e]
 congr 2
 omega
theorem read_code (l:List UInt8) (a:Int):((read l a).2.2=0∨(read l a).2.2=10∨(read l a).2.2=20)∧((read l a).2.2≠0→(read l a).1=[]):=by
 unfold read
 split
 ·simp
 ·have h2:=rd_all _ (l.drop (a.toNat+1)) (Nat.le_refl _)
  obtain ⟨a1,a2,a3,a4,a5,a6⟩:=h2
  simp only
  refine ⟨by omega,?_⟩
  intro h
  rw [if_neg (by omega)]

end Go.Proofs.YtdhakbghdcfncaaGreatDoor.Chr
/- What is read is quoted again in no more bytes. -/
namespace Go.Proofs.YtdhakbghdcfncaaGreatDoor.Chr
set_option linter.unusedVariables false
set_option linter.unusedSimpArgs false
open Utf

theorem plain_len:∀ i:Fin 256,((plain (UInt8.ofNat i.val)).all fun x=>decide ((escP x.toNat).length≤2))=true:=by decide +kernel
theorem plain_len' {c x:UInt8} (h:plain c=some x):(escP x.toNat).length≤2:=by
 have h1:=plain_len ⟨c.toNat,c.toNat_lt⟩
 simp only [UInt8.ofNat_toNat,h,Option.all_some,decide_eq_true_eq] at h1
 exact h1
theorem escP_le (p:Nat):(escP p).length≤6:=by
 unfold escP
 have:=bytes_le p
 split
 ·simp
 split
 ·simp
 ·omega
theorem letter_low:∀ i:Fin 128,32≤i.val→i.val≠34→i.val≠92→letter (UInt8.ofNat i.val)=0:=by decide +kernel
theorem escP_len {l:List UInt8} {p n:Nat} (h:tok l=.pc p n):(escP p).length≤n:=by
 rcases l with _ | ⟨c,r⟩
 ·simp [tok] at h
 rw [tok_cons] at h
 split at h
 ·cases h
 rename_i h34
 split at h
 ·cases h
 rename_i h32
 split at h
 ·rcases he:escd (c::r) with _ | ⟨q,m⟩
  ·rw [he] at h;cases h
  ·rw [he] at h
   simp only [Tok.pc.injEq] at h
   obtain ⟨rfl,rfl⟩:=h
   unfold escd at he
   rcases hp:plain ((c::r).getD 1 0) with _ | x
   ·rw [hp] at he
    have h1:=escu_pt he
    have h2:=escP_le q
    omega
   ·rw [hp] at he
    simp at he
    obtain ⟨rfl,rfl⟩:=he
    exact plain_len' hp
 rename_i h92
 split at h
 ·cases h
 ·rename_i h0
  simp only [Tok.pc.injEq] at h
  obtain ⟨rfl,rfl⟩:=h
  have h1:=one_sound' h0
  have hpt:=isPt_iff.1 h1.1
  generalize (one (c::r)).1=p at h1 hpt ⊢
  generalize (one (c::r)).2=n at h1 ⊢
  have hb:escP p=bytes p:=by
   unfold escP
   by_cases hp:p<128
   ·have e:bytes p=[UInt8.ofNat p]:=by unfold bytes;rw [if_pos hp]
    have hc:=h1.2.2
    rw [e] at hc
    have hc1:c=UInt8.ofNat p:=(List.cons.inj hc).1
    have hcn:c.toNat=p:=by rw [hc1];exact toNat_ofNat (by omega)
    rw [if_neg,if_neg (by omega)]
    intro hx
    apply hx.1
    exact letter_low ⟨p,hp⟩ (by simp only;omega) (by
     simp only
     intro e2
     apply h34
     rw [hc1,e2];rfl) (by
     simp only
     intro e2
     apply h92
     rw [hc1,e2];rfl)
   ·rw [if_neg (fun x=>hp x.2),if_neg (by omega)]
  rw [hb]
  omega
theorem rd_escP:∀ (k:Nat) (l:List UInt8),l.length≤k→(rd l).2.2=0→((rd l).1.flatMap escP).length+1≤(rd l).2.1
 | k,l,hk,h=>by
  rcases ht:tok l with _ | e | ⟨p,n⟩
  ·rw [rd_fin ht];simp
  ·rw [rd_bad ht] at h
   have:=tok_bad ht
   simp at h
   omega
  ·have h1:=tok_pc ht
   have h2:=escP_len ht
   cases k with
   | zero=>omega
   | succ k=>
    rw [rd_pc ht] at h ⊢
    have ih:=rd_escP k (l.drop n) (by simp;omega) h
    simp only [List.flatMap_cons,List.length_append]
    omega
theorem read_quote {l:List UInt8} {a:Int} (h:(read l a).2.2=0):(quote (read l a).1).length≤l.length:=by
 unfold read at *
 split at h
 ·simp at h
 rename_i hc
 rw [if_neg hc]
 have h0:¬ a<0:=fun e=>hc (.inl e)
 have h1:¬ (l.length:Int)≤a:=fun e=>hc (.inr (.inl e))
 obtain ⟨k,rfl⟩:∃ k:Nat,a=k:=⟨a.toNat,by omega⟩
 simp only [Int.toNat_natCast] at *
 have h:(rd (l.drop (k+1))).2.2=0:=by omega
 have h2:=rd_all _ (l.drop (k+1)) (Nat.le_refl _)
 obtain ⟨a1,a2,a3,a4,a5,a6⟩:=h2
 have h3:=pts_complete _ [] a1
 simp only [List.append_nil,bad_nil,Nat.add_zero,pts_nil] at h3
 have h4:=rd_escP _ (l.drop (k+1)) (Nat.le_refl _) h
 rw [List.length_drop] at a2
 rw [if_pos h]
 unfold quote
 rw [quote_pts h3.2,h3.1]
 simp only [List.length_cons,List.length_append,List.length_nil]
 omega

end Go.Proofs.YtdhakbghdcfncaaGreatDoor.Chr
/- Plain mathematics of tokens: no program in sight. -/
namespace Go.Proofs.YtdhakbghdcfncaaGreatDoor.Scn
set_option linter.unusedVariables false
set_option linter.unusedSimpArgs false

structure Tok where
 kind:Nat
 n:Int
 s:List UInt8
 at_:Nat

def white (c:UInt8):Bool:=c == 32 || c == 9 || c == 10 || c == 13
def part (c:UInt8):Bool:=(decide (97≤c.toNat) && decide (c.toNat≤122)) || (decide (65≤c.toNat) && decide (c.toNat≤90)) || (decide (48≤c.toNat) && decide (c.toNat≤57)) || c == 95
def mark (c:UInt8):Bool:=c == 123 || c == 125 || c == 91 || c == 93 || c == 58 || c == 44
def pre (w d:List UInt8):Bool:=d.take w.length == w && (d.length == w.length || !part (d.getD w.length 0))
def wTrue:List UInt8:=[116,114,117,101]
def wFalse:List UInt8:=[102,97,108,115,101]
def wNull:List UInt8:=[110,117,108,108]
def wordLen (d:List UInt8):Nat:=if pre wTrue d then 4 else if pre wFalse d then 5 else if pre wNull d then 4 else 0

inductive TR
 | err:Nat→Nat→TR
 | tok:Tok→Nat→TR

def tokAt (l:List UInt8) (k:Nat):TR:=
 let c:=l.getD k 0
 if c=34 then (let r:=Chr.read l k;if r.2.2=0 then .tok ⟨4,0,r.1,k⟩ r.2.1.toNat else .err r.2.2.toNat r.2.1.toNat)
 else if c=45∨(48≤c.toNat∧c.toNat≤57) then (let r:=Nm.readNum l k;if r.2.2=0 then .tok ⟨3,r.1,[],k⟩ r.2.1.toNat else .err r.2.2.toNat r.2.1.toNat)
 else if mark c then .tok ⟨1,0,[c],k⟩ (k+1)
 else if wordLen (l.drop k)=0 then .err 40 k
 else .tok ⟨2,0,(l.drop k).take (wordLen (l.drop k)),k⟩ (k+wordLen (l.drop k))

def toks:Nat→List UInt8→Nat→List Tok × Nat × Nat
 | 0,_,_=>([],0,0)
 | f+1,l,k=>
  if l.length≤k then ([],0,0)
  else if white (l.getD k 0) then toks f l (k+1)
  else match tokAt l k with
   | .err e p=>([],p,e)
   | .tok t n=>if (toks f l n).2.2=0 then (t::(toks f l n).1,0,0) else ([],(toks f l n).2)
def tokens (l:List UInt8):List Tok × Nat × Nat:=if 65536<l.length then ([],0,2) else toks (l.length+1) l 0

theorem pre_len {w d:List UInt8} (h:pre w d=true):w.length≤d.length:=by
 simp only [pre,Bool.and_eq_true,beq_iff_eq] at h
 have:=congrArg List.length h.1
 simp at this
 omega
theorem wordLen_le (d:List UInt8):wordLen d≤d.length∧wordLen d≤5:=by
 unfold wordLen
 split
 ·rename_i h;have:=pre_len h;simp [wTrue] at this;omega
 split
 ·rename_i h;have:=pre_len h;simp [wFalse] at this;omega
 split
 ·rename_i h;have:=pre_len h;simp [wNull] at this;omega
 ·omega

theorem readNum_code (l:List UInt8) (a:Int):(Nm.readNum l a).2.2=0∨((Nm.readNum l a).2.2=30∧(Nm.readNum l a).2.1=a):=by
 by_cases ho:a<0∨(l.length:Int)≤a
 ·rw [Nm.readNum_out ho];right;exact ⟨rfl,rfl⟩
 obtain ⟨k,rfl⟩:∃ k:Nat,a=k:=⟨a.toNat,by omega⟩
 have hk:k<l.length:=by omega
 obtain ⟨f,hf⟩:∃ f,f=if l.getD k 0=45 then k+1 else k:=⟨_,rfl⟩
 obtain ⟨E,hE⟩:∃ E,f+Nm.digLen (l.drop f)=E:=⟨_,rfl⟩
 by_cases hb:E=f∨(l.getD f 0=48∧1<E - f)∨(E<l.length∧(l.getD E 0=46∨l.getD E 0=101∨l.getD E 0=69))
 ·rw [Nm.readNum_bad hk hf hE hb];right;exact ⟨rfl,rfl⟩
 ·rw [Nm.readNum_good hk hf hE hb]
  cases hv:Nm.valFrom 0 ((l.drop f).take (E - f)) with
  | none=>right;exact ⟨rfl,rfl⟩
  | some n=>left;rfl
theorem readNum_next {l:List UInt8} {k:Nat} (hk:k<l.length) (h:(Nm.readNum l k).2.2=0):(k:Int)<(Nm.readNum l k).2.1∧(Nm.readNum l k).2.1≤l.length:=by
 obtain ⟨f,hf⟩:∃ f,f=if l.getD k 0=45 then k+1 else k:=⟨_,rfl⟩
 obtain ⟨E,hE⟩:∃ E,f+Nm.digLen (l.drop f)=E:=⟨_,rfl⟩
 have hd:=Nm.digLen_le (l.drop f)
 have hfk:k≤f∧f≤k+1:=by subst hf;split <;> omega
 simp only [List.length_drop] at hd
 by_cases hb:E=f∨(l.getD f 0=48∧1<E - f)∨(E<l.length∧(l.getD E 0=46∨l.getD E 0=101∨l.getD E 0=69))
 ·rw [Nm.readNum_bad hk hf hE hb] at h;simp at h
 ·rw [Nm.readNum_good hk hf hE hb] at h ⊢
  cases hv:Nm.valFrom 0 ((l.drop f).take (E - f)) with
  | none=>rw [hv] at h;simp at h
  | some n=>
   have:E≠f:=fun e=>hb (.inl e)
   simp only
   omega

theorem tokAt_next {l:List UInt8} {k n:Nat} {t:Tok} (hk:k<l.length) (h:tokAt l k=.tok t n):k<n∧n≤l.length∧t.at_=k:=by
 unfold tokAt at h
 simp only at h
 split at h
 ·split at h
  ·rename_i h0
   simp only [TR.tok.injEq] at h
   obtain ⟨rfl,rfl⟩:=h
   have hr:=Chr.rd_all _ (l.drop (k+1)) (Nat.le_refl _)
   rename_i h34 
   have e:=Chr.read_in hk h34
   rw [e] at h0 ⊢
   simp only at h0 ⊢
   rw [List.length_drop] at hr
   refine ⟨by omega,by omega,?_⟩
   trivial
  ·cases h
 split at h
 ·split at h
  ·rename_i h0
   simp only [TR.tok.injEq] at h
   obtain ⟨rfl,rfl⟩:=h
   have:=readNum_next hk h0
   exact ⟨by omega,by omega,rfl⟩
  ·cases h
 split at h
 ·simp only [TR.tok.injEq] at h
  obtain ⟨rfl,rfl⟩:=h
  exact ⟨by omega,by omega,rfl⟩
 split at h
 ·cases h
 ·simp only [TR.tok.injEq] at h
  obtain ⟨rfl,rfl⟩:=h
  have:=wordLen_le (l.drop k)
  simp only [List.length_drop] at this
  exact ⟨by omega,by omega,rfl⟩

theorem toks_more:∀ (f g:Nat) (l:List UInt8) (k:Nat),l.length<k+f→l.length<k+g→toks f l k=toks g l k
 | 0,0,l,k,_,_=>rfl
 | 0,g+1,l,k,h,_=>by unfold toks;rw [if_pos (by omega)]
 | f+1,0,l,k,_,h=>by
  conv=>lhs;unfold toks;rw [if_pos (by omega)]
  rfl
 | f+1,g+1,l,k,h,h'=>by
  unfold toks
  by_cases h1:l.length≤k
  ·rw [if_pos h1,if_pos h1]
  rw [if_neg h1,if_neg h1]
  by_cases h2:white (l.getD k 0)=true
  ·rw [if_pos h2,if_pos h2]
   exact toks_more f g l (k+1) (by omega) (by omega)
  rw [if_neg h2,if_neg h2]
  rcases ht:tokAt l k with ⟨e,p⟩ | ⟨t,n⟩
  ·rfl
  ·have:=tokAt_next (by omega) ht
   simp only
   rw [toks_more f g l n (by omega) (by omega)]
def tk (l:List UInt8) (k:Nat):List Tok × Nat × Nat:=toks (l.length+1) l k
theorem tk_end {l:List UInt8} {k:Nat} (h:l.length≤k):tk l k=([],0,0):=by unfold tk toks;rw [if_pos h]
theorem tk_white {l:List UInt8} {k:Nat} (h:k<l.length) (hw:white (l.getD k 0)=true):tk l k=tk l (k+1):=by
 conv=>lhs;unfold tk toks
 rw [if_neg (by omega),if_pos hw]
 exact toks_more _ _ l (k+1) (by omega) (by omega)
theorem tk_err {l:List UInt8} {k e p:Nat} (h:k<l.length) (hw:white (l.getD k 0)=false) (ht:tokAt l k=.err e p):tk l k=([],p,e):=by
 unfold tk toks
 rw [if_neg (by omega),if_neg (by rw [hw];simp),ht]
theorem tk_tok {l:List UInt8} {k n:Nat} {t:Tok} (h:k<l.length) (hw:white (l.getD k 0)=false) (ht:tokAt l k=.tok t n):tk l k=if (tk l n).2.2=0 then (t::(tk l n).1,0,0) else ([],(tk l n).2):=by
 have h1:=tokAt_next h ht
 conv=>lhs;unfold tk toks
 rw [if_neg (by omega),if_neg (by rw [hw];simp),ht]
 simp only
 rw [toks_more l.length (l.length+1) l n (by omega) (by omega)]
 rfl

end Go.Proofs.YtdhakbghdcfncaaGreatDoor.Scn
/- Plain laws of tokens. -/
namespace Go.Proofs.YtdhakbghdcfncaaGreatDoor.Scn
set_option linter.unusedVariables false
set_option linter.unusedSimpArgs false

theorem tokAt_err {l:List UInt8} {k e p:Nat} (hk:k<l.length) (h:tokAt l k=.err e p):p≤l.length∧e≠0:=by
 unfold tokAt at h
 simp only at h
 split at h
 ·rename_i h34
  split at h
  ·cases h
  ·rename_i h0
   simp only [TR.err.injEq] at h
   obtain ⟨rfl,rfl⟩:=h
   have hr:=Chr.rd_all _ (l.drop (k+1)) (Nat.le_refl _)
   have e:=Chr.read_in hk h34
   rw [e] at h0 ⊢
   simp only at h0 ⊢
   rw [List.length_drop] at hr
   refine ⟨by omega,by omega⟩
 split at h
 ·split at h
  ·cases h
  ·rename_i h0
   simp only [TR.err.injEq] at h
   obtain ⟨rfl,rfl⟩:=h
   have:=readNum_code l k
   refine ⟨by omega,by omega⟩
 split at h
 ·cases h
 split at h
 ·simp only [TR.err.injEq] at h
  obtain ⟨rfl,rfl⟩:=h
  exact ⟨by omega,by omega⟩
 ·cases h

theorem tk_ok:∀ (n:Nat) (l:List UInt8) (k:Nat),l.length≤k+n→(tk l k).2.2=0→(tk l k).2.1=0∧(∀ t∈(tk l k).1,k≤t.at_∧t.at_<l.length∧white (l.getD t.at_ 0)=false)∧(tk l k).1.Pairwise (fun a b=>a.at_<b.at_)
 | n,l,k,hn,h=>by
  by_cases h1:l.length≤k
  ·rw [tk_end h1];simp
  by_cases h2:white (l.getD k 0)=true
  ·rw [tk_white (by omega) h2] at h ⊢
   cases n with
   | zero=>omega
   | succ n=>
    obtain ⟨a,b,c⟩:=tk_ok n l (k+1) (by omega) h
    refine ⟨a,fun t ht=>?_,c⟩
    have:=b t ht
    exact ⟨by omega,this.2⟩
  have h2':white (l.getD k 0)=false:=by simpa using h2
  rcases ht:tokAt l k with ⟨e,p⟩ | ⟨t,m⟩
  ·have:=tokAt_err (by omega) ht
   rw [tk_err (by omega) h2' ht] at h
   exact absurd h this.2
  ·have hm:=tokAt_next (by omega) ht
   rw [tk_tok (by omega) h2' ht] at h ⊢
   cases n with
   | zero=>omega
   | succ n=>
    by_cases h3:(tk l m).2.2=0
    ·rw [if_pos h3] at h ⊢
     obtain ⟨a,b,c⟩:=tk_ok n l m (by omega) h3
     refine ⟨rfl,?_,?_⟩
     ·intro u hu
      rcases List.mem_cons.1 hu with rfl | hu
      ·rw [hm.2.2];exact ⟨by omega,by omega,h2'⟩
      ·have:=b u hu
       exact ⟨by omega,this.2⟩
     ·refine List.pairwise_cons.2 ⟨fun u hu=>?_,c⟩
      have:=b u hu
      omega
    ·rw [if_neg h3] at h
     exact absurd h h3
theorem tk_bad:∀ (n:Nat) (l:List UInt8) (k:Nat),l.length≤k+n→(tk l k).2.2≠0→(tk l k).1=[]∧(tk l k).2.1≤l.length
 | n,l,k,hn,h=>by
  by_cases h1:l.length≤k
  ·rw [tk_end h1];simp
  by_cases h2:white (l.getD k 0)=true
  ·rw [tk_white (by omega) h2] at h ⊢
   cases n with
   | zero=>omega
   | succ n=>exact tk_bad n l (k+1) (by omega) h
  have h2':white (l.getD k 0)=false:=by simpa using h2
  rcases ht:tokAt l k with ⟨e,p⟩ | ⟨t,m⟩
  ·have:=tokAt_err (by omega) ht
   rw [tk_err (by omega) h2' ht]
   exact ⟨rfl,this.1⟩
  ·have hm:=tokAt_next (by omega) ht
   rw [tk_tok (by omega) h2' ht] at h ⊢
   cases n with
   | zero=>omega
   | succ n=>
    by_cases h3:(tk l m).2.2=0
    ·rw [if_pos h3] at h;simp at h
    ·rw [if_neg h3]
     have:=tk_bad n l m (by omega) h3
     exact ⟨rfl,this.2⟩

end Go.Proofs.YtdhakbghdcfncaaGreatDoor.Scn
/- Tokens further on: what stands ahead of a text moves its tokens. -/
namespace Go.Proofs.YtdhakbghdcfncaaGreatDoor.Scn
set_option linter.unusedVariables false
set_option linter.unusedSimpArgs false

def shTok (m:Nat) (t:Tok):Tok:={ t with at_:=t.at_+m }
def shTR (m:Nat):TR→TR
 | .err e q=>.err e (q+m)
 | .tok t n=>.tok (shTok m t) (n+m)
end Go.Proofs.YtdhakbghdcfncaaGreatDoor.Scn
/- A token is told by its own bytes and by white space behind them. -/
namespace Go.Proofs.YtdhakbghdcfncaaGreatDoor.Scn
set_option linter.unusedVariables false
set_option linter.unusedSimpArgs false

end Go.Proofs.YtdhakbghdcfncaaGreatDoor.Scn
/- Tokens that are written with white space between them are scanned as they were. -/
namespace Go.Proofs.YtdhakbghdcfncaaGreatDoor.Scn
set_option linter.unusedVariables false
set_option linter.unusedSimpArgs false

def wr (t:Tok):List UInt8:=if t.kind=3 then Nm.put t.n else if t.kind=4 then (Chr.quoteO t.s).1 else t.s
inductive Good:Tok→Prop
 | mark (c:UInt8) (a:Nat):Scn.mark c=true→Good ⟨1,0,[c],a⟩
 | word (w:List UInt8) (a:Nat):w=wTrue∨w=wFalse∨w=wNull→Good ⟨2,0,w,a⟩
 | num (n:Int) (a:Nat):-9007199254740991≤n→n≤9007199254740991→Good ⟨3,n,[],a⟩
 | text (s:List UInt8) (a:Nat):Utf.bad s=s.length→Good ⟨4,0,s,a⟩
theorem wordLen_take {d:List UInt8} (h:wordLen d≠0):d.take (wordLen d)=wTrue∨d.take (wordLen d)=wFalse∨d.take (wordLen d)=wNull:=by
 unfold wordLen at *
 by_cases h1:pre wTrue d=true
 ·rw [if_pos h1];left
  simp only [pre,Bool.and_eq_true,beq_iff_eq] at h1;exact h1.1
 rw [if_neg h1] at h ⊢
 by_cases h2:pre wFalse d=true
 ·rw [if_pos h2];right;left
  simp only [pre,Bool.and_eq_true,beq_iff_eq] at h2;exact h2.1
 rw [if_neg h2] at h ⊢
 by_cases h3:pre wNull d=true
 ·rw [if_pos h3];right;right
  simp only [pre,Bool.and_eq_true,beq_iff_eq] at h3;exact h3.1
 rw [if_neg h3] at h
 exact absurd rfl h
theorem tokAt_good {l:List UInt8} {k n:Nat} {t:Tok} (h:tokAt l k=.tok t n):Good t:=by
 unfold tokAt at h
 simp only at h
 split at h
 ·split at h
  ·rename_i h0
   simp only [TR.tok.injEq] at h
   rw [← h.1]
   exact .text _ _ (Chr.read_right h0).1
  ·cases h
 split at h
 ·split at h
  ·simp only [TR.tok.injEq] at h
   rw [← h.1]
   have:=Nm.readNum_bounds l k
   exact .num _ _ this.1 this.2
  ·cases h
 split at h
 ·rename_i hm
  simp only [TR.tok.injEq] at h
  rw [← h.1]
  exact .mark _ _ hm
 split at h
 ·cases h
 ·rename_i hw
  simp only [TR.tok.injEq] at h
  rw [← h.1]
  exact .word _ _ (wordLen_take hw)
theorem tk_good:∀ (n:Nat) (l:List UInt8) (k:Nat),l.length≤k+n → ∀ t∈(tk l k).1,Good t
 | n,l,k,hn,t,ht=>by
  by_cases h1:l.length≤k
  ·rw [tk_end h1] at ht;simp at ht
  by_cases h2:white (l.getD k 0)=true
  ·rw [tk_white (by omega) h2] at ht
   cases n with
   | zero=>omega
   | succ n=>exact tk_good n l (k+1) (by omega) t ht
  have h2':white (l.getD k 0)=false:=by simpa using h2
  rcases he:tokAt l k with ⟨e,q⟩ | ⟨u,m⟩
  ·rw [tk_err (by omega) h2' he] at ht;simp at ht
  ·have hm:=tokAt_next (by omega) he
   rw [tk_tok (by omega) h2' he] at ht
   cases n with
   | zero=>omega
   | succ n=>
    split at ht
    ·rcases List.mem_cons.1 ht with rfl | ht
     ·exact tokAt_good he
     ·exact tk_good n l m (by omega) t ht
    ·simp at ht

theorem mark_cases {c:UInt8} (h:mark c=true):c=123∨c=125∨c=91∨c=93∨c=58∨c=44:=by
 simp [mark] at h
 rcases h with ((((h | h) | h) | h) | h) | h <;> simp [h]
def core (t:Tok):Nat × Int × List UInt8:=(t.kind,t.n,t.s)
end Go.Proofs.YtdhakbghdcfncaaGreatDoor.Scn
/- Tokens: what stands at a place, case by case; how the list grows. No program in sight. -/
namespace Go.Proofs.YtdhakbghdcfncaaGreatDoor.Scn
set_option linter.unusedVariables false
set_option linter.unusedSimpArgs false

theorem tokAt_text {l:List UInt8} {k:Nat} (hk:k<l.length) (h:l.getD k 0=34):
  (∃ (d:List UInt8) (n:Nat),Chr.read l k=(d,(n:Int),0)∧tokAt l k=.tok ⟨4,0,d,k⟩ n) ∨
  (∃ (n e:Nat),(e=10∨e=20)∧n≤l.length∧Chr.read l k=([],(n:Int),(e:Int))∧tokAt l k=.err e n):=by
 have e0:=Chr.read_code l (k:Int)
 have hr:=Chr.rd_all _ (l.drop (k+1)) (Nat.le_refl _)
 have e:=Chr.read_in hk h
 have hpos:0≤(Chr.read l k).2.1∧(Chr.read l k).2.1≤l.length:=by
  rw [e]
  simp only
  rw [List.length_drop] at hr
  omega
 obtain ⟨n,hn⟩:∃ n:Nat,(Chr.read l k).2.1=n:=⟨(Chr.read l k).2.1.toNat,by omega⟩
 have ht:tokAt l k=if (Chr.read l k).2.2=0 then .tok ⟨4,0,(Chr.read l k).1,k⟩ (Chr.read l k).2.1.toNat else .err (Chr.read l k).2.2.toNat (Chr.read l k).2.1.toNat:=by
  unfold tokAt;simp only;rw [if_pos h]
 rcases e0.1 with e1 | e1 | e1
 ·left
  refine ⟨(Chr.read l k).1,n,?_,?_⟩
  ·rw [← hn,← e1]
  ·rw [ht,if_pos e1,hn];rfl
 ·right
  have e2:=e0.2 (by omega)
  refine ⟨n,10,.inl rfl,by omega,?_,?_⟩
  ·rw [← hn,show ((10:Nat):Int)=(Chr.read l k).2.2 by rw [e1];rfl,← e2]
  ·rw [ht,if_neg (by omega),hn,e1];rfl
 ·right
  have e2:=e0.2 (by omega)
  refine ⟨n,20,.inr rfl,by omega,?_,?_⟩
  ·rw [← hn,show ((20:Nat):Int)=(Chr.read l k).2.2 by rw [e1];rfl,← e2]
  ·rw [ht,if_neg (by omega),hn,e1];rfl
theorem tokAt_num {l:List UInt8} {k:Nat} (hk:k<l.length) (h:l.getD k 0=45∨(48≤(l.getD k 0).toNat∧(l.getD k 0).toNat≤57)):
  (∃ (v:Int) (n:Nat),Nm.readNum l k=(v,(n:Int),0)∧tokAt l k=.tok ⟨3,v,[],k⟩ n) ∨
  (∃ v:Int,Nm.readNum l k=(v,(k:Int),30)∧tokAt l k=.err 30 k):=by
 have h34:l.getD k 0≠34:=by
  rintro h2;rw [h2] at h;rcases h with h | h
  ·cases h
  ·have:((34:UInt8)).toNat=34:=rfl
   omega
 have ht:tokAt l k=if (Nm.readNum l k).2.2=0 then .tok ⟨3,(Nm.readNum l k).1,[],k⟩ (Nm.readNum l k).2.1.toNat else .err (Nm.readNum l k).2.2.toNat (Nm.readNum l k).2.1.toNat:=by
  unfold tokAt;simp only;rw [if_neg h34,if_pos h]
 rcases readNum_code l (k:Int) with e | ⟨e,e2⟩
 ·left
  have hn:=readNum_next hk e
  obtain ⟨n,hn2⟩:∃ n:Nat,(Nm.readNum l k).2.1=n:=⟨(Nm.readNum l k).2.1.toNat,by omega⟩
  refine ⟨(Nm.readNum l k).1,n,?_,?_⟩
  ·rw [← hn2,← e]
  ·rw [ht,if_pos e,hn2];rfl
 ·right
  refine ⟨(Nm.readNum l k).1,?_,?_⟩
  ·exact Prod.ext rfl (Prod.ext e2 e)
  ·rw [ht,if_neg (by omega),e,e2];rfl
theorem tokAt_mark {l:List UInt8} {k:Nat} (h:mark (l.getD k 0)=true):tokAt l k=.tok ⟨1,0,[l.getD k 0],k⟩ (k+1):=by
 unfold tokAt
 simp only
 have hc:=mark_cases h
 rw [if_neg (by rcases hc with h | h | h | h | h | h <;> rw [h] <;> decide),if_neg (by rcases hc with h | h | h | h | h | h <;> rw [h] <;> decide),if_pos h]
theorem tokAt_word {l:List UInt8} {k:Nat} (h34:l.getD k 0≠34) (hn:¬ (l.getD k 0=45∨(48≤(l.getD k 0).toNat∧(l.getD k 0).toNat≤57))) (hm:mark (l.getD k 0)=false) (h:wordLen (l.drop k)≠0):
  tokAt l k=.tok ⟨2,0,(l.drop k).take (wordLen (l.drop k)),k⟩ (k+wordLen (l.drop k)):=by
 unfold tokAt
 simp only
 rw [if_neg h34,if_neg hn,if_neg (by rw [hm];simp),if_neg h]
theorem tokAt_none {l:List UInt8} {k:Nat} (h34:l.getD k 0≠34) (hn:¬ (l.getD k 0=45∨(48≤(l.getD k 0).toNat∧(l.getD k 0).toNat≤57))) (hm:mark (l.getD k 0)=false) (h:wordLen (l.drop k)=0):
  tokAt l k=.err 40 k:=by
 unfold tokAt
 simp only
 rw [if_neg h34,if_neg hn,if_neg (by rw [hm];simp),if_pos h]

structure TkInv (l:List UInt8) (i:Nat) (ts:List Tok):Prop where
 hi:i≤l.length
 len:ts.length≤i
 eq:tk l 0=if (tk l i).2.2=0 then (ts++(tk l i).1,0,0) else ([],(tk l i).2)
theorem TkInv.start (l:List UInt8):TkInv l 0 []:=by
 refine ⟨by omega,by simp,?_⟩
 by_cases h:(tk l 0).2.2=0
 ·rw [if_pos h]
  have:=(tk_ok _ l 0 (Nat.le_add_left _ _) h).1
  rw [List.nil_append]
  exact Prod.ext rfl (Prod.ext this h)
 ·rw [if_neg h]
  have:=(tk_bad _ l 0 (Nat.le_add_left _ _) h).1
  exact Prod.ext this rfl
theorem TkInv.white {l:List UInt8} {i:Nat} {ts:List Tok} (h:TkInv l i ts) (hi:i<l.length) (hw:Scn.white (l.getD i 0)=true):TkInv l (i+1) ts:=by
 refine ⟨by omega,by have:=h.len;omega,?_⟩
 rw [h.eq,tk_white hi hw]
theorem TkInv.tok {l:List UInt8} {i n:Nat} {ts:List Tok} {t:Tok} (h:TkInv l i ts) (hi:i<l.length) (hw:Scn.white (l.getD i 0)=false) (ht:tokAt l i=.tok t n):TkInv l n (ts++[t])∧i<n:=by
 have hn:=tokAt_next hi ht
 refine ⟨⟨hn.2.1,by have:=h.len;simp;omega,?_⟩,hn.1⟩
 rw [h.eq,tk_tok hi hw ht]
 by_cases h0:(tk l n).2.2=0
 ·rw [if_pos h0,if_pos h0];simp
 ·rw [if_neg h0,if_neg h0];simp [h0]
theorem TkInv.err {l:List UInt8} {i p e:Nat} {ts:List Tok} (h:TkInv l i ts) (hi:i<l.length) (hw:Scn.white (l.getD i 0)=false) (ht:tokAt l i=.err e p):tk l 0=([],p,e):=by
 have:=tokAt_err hi ht
 rw [h.eq,tk_err hi hw ht]
 rw [if_neg (by exact this.2)]
theorem TkInv.stop {l:List UInt8} {i:Nat} {ts:List Tok} (h:TkInv l i ts) (hi:l.length≤i):tk l 0=(ts,0,0):=by
 rw [h.eq,tk_end hi];simp
theorem tokens_long {l:List UInt8} (h:65536<l.length):tokens l=([],0,2):=by unfold tokens;rw [if_pos h]
theorem tokens_short {l:List UInt8} (h:¬ 65536<l.length):tokens l=tk l 0:=by unfold tokens;rw [if_neg h];rfl
end Go.Proofs.YtdhakbghdcfncaaGreatDoor.Scn
/- Plain mathematics of values and their texts: no program in sight. -/
namespace Go.Proofs.YtdhakbghdcfncaaGreatDoor
set_option linter.unusedVariables false
set_option linter.unusedSimpArgs false

inductive JV where
 | mk (k n:Int) (s:List UInt8) (l:List JV) (m:List (List UInt8 × JV))
namespace JV
def kd:JV→Int | .mk k _ _ _ _=>k
def nm:JV→Int | .mk _ n _ _ _=>n
def tx:JV→List UInt8 | .mk _ _ s _ _=>s
def ls:JV→List JV | .mk _ _ _ l _=>l
def ms:JV→List (List UInt8 × JV) | .mk _ _ _ _ m=>m
theorem ind {P:JV→Prop} (h:∀ k n s l m,(∀ v∈l,P v)→(∀ p∈m,P p.2)→P (.mk k n s l m)) (v:JV):P v:=by
 refine JV.rec (motive_1:=P) (motive_2:=fun l=>∀ v∈l,P v) (motive_3:=fun m=>∀ p∈m,P p.2) (motive_4:=fun p=>P p.2) ?_ ?_ ?_ ?_ ?_ ?_ v
 ·intro k n s l m h1 h2;exact h k n s l m h1 h2
 ·intro v hv;cases hv
 ·intro v l h1 h2 u hu
  rcases List.mem_cons.1 hu with rfl | hu
  ·exact h1
  ·exact h2 u hu
 ·intro v hv;cases hv
 ·intro v l h1 h2 u hu
  rcases List.mem_cons.1 hu with rfl | hu
  ·exact h1
  ·exact h2 u hu
 ·intro s v h;exact h

def nullV:JV:=.mk 1 0 [] [] []
def zeroV:JV:=.mk 0 0 [] [] []
def boolV (n:Int):JV:=.mk 2 n [] [] []
def intV (n:Int):JV:=.mk 3 n [] [] []
def textV (s:List UInt8):JV:=.mk 4 0 s [] []
def listV (l:List JV):JV:=.mk 5 0 [] l []
def mapV (m:List (List UInt8 × JV)):JV:=.mk 6 0 [] [] m

def tNull:List UInt8:=[110,117,108,108]
def tTrue:List UInt8:=[116,114,117,101]
def tFalse:List UInt8:=[102,97,108,115,101]
def q (s:List UInt8):List UInt8:=(Chr.quoteO s).1
mutual
def wrt:JV→List UInt8
 | .mk k n s l m=>if k=1 then tNull else if k=2 then (if n=1 then tTrue else tFalse) else if k=3 then Nm.put n else if k=4 then q s else if k=5 then 91::(wrtL l true++[93]) else 123::(wrtM m true++[125])
termination_by structural v=>v
def wrtL:List JV→Bool→List UInt8
 | [],_=>[]
 | v::l,b=>(if b then [] else [44])++wrt v++wrtL l false
termination_by structural v=>v
def wrtM:List (List UInt8 × JV)→Bool→List UInt8
 | [],_=>[]
 | p::m,b=>(if b then [] else [44])++wrtP p++wrtM m false
termination_by structural v=>v
def wrtP:List UInt8 × JV→List UInt8
 | (s,v)=>q s++58::wrt v
termination_by structural v=>v
end

def namesB (m:List (List UInt8 × JV)):Bool:=(m.all fun p=>Utf.bad p.1 == p.1.length) && decide (m.map (·.1)).Nodup
def bareB:JV→Bool
 | .mk k n s l m=>(n == 0 || k == 2 || k == 3) && (s.length == 0 || k == 4) && (l.length == 0 || k == 5) && (m.length == 0 || k == 6)
def rightB:JV→Bool
 | .mk k n s l m=>
 decide (1≤k) && decide (k≤6) && bareB (.mk k n s l m) && (Utf.bad s == s.length) &&
 (if k=2 then (n == 0 || n == 1) else if k=3 then decide (-9007199254740991≤n) && decide (n≤9007199254740991) else if k=6 then decide (8192<m.length) || namesB m else true)
mutual
def chk:JV→Nat→Nat→Nat × Nat
 | .mk k n s l m,d,p=>
  if 16<d then (51,p) else if 8192≤p then (53,p) else if rightB (.mk k n s l m)=false then (1,p)
  else (let r:=chkL l (d+1) (p+1);if r.1≠0 then r else chkM m (d+1) r.2)
termination_by structural v=>v
def chkL:List JV→Nat→Nat→Nat × Nat
 | [],_,p=>(0,p)
 | v::l,d,p=>let r:=chk v d p;if r.1≠0 then r else chkL l d r.2
termination_by structural v=>v
def chkM:List (List UInt8 × JV)→Nat→Nat→Nat × Nat
 | [],_,p=>(0,p)
 | x::m,d,p=>let r:=chkP x d p;if r.1≠0 then r else chkM m d r.2
termination_by structural v=>v
def chkP:List UInt8 × JV→Nat→Nat→Nat × Nat
 | (_,v),d,p=>chk v d p
termination_by structural v=>v
end
mutual
def allB:JV→Bool
 | .mk k n s l m=>allL l && allM m && rightB (.mk k n s l m)
termination_by structural v=>v
def allL:List JV→Bool
 | []=>true
 | v::l=>allB v && allL l
termination_by structural v=>v
def allM:List (List UInt8 × JV)→Bool
 | []=>true
 | x::m=>allP x && allM m
termination_by structural v=>v
def allP:List UInt8 × JV→Bool
 | (_,v)=>allB v
termination_by structural v=>v
end
mutual
def bulk:JV→Nat
 | .mk k n s l m=>3+s.length+bulkL l+bulkM m
termination_by structural v=>v
def bulkL:List JV→Nat
 | []=>0
 | v::l=>bulk v+bulkL l
termination_by structural v=>v
def bulkM:List (List UInt8 × JV)→Nat
 | []=>0
 | x::m=>bulkP x+bulkM m
termination_by structural v=>v
def bulkP:List UInt8 × JV→Nat
 | (s,v)=>1+s.length+bulk v
termination_by structural v=>v
end

theorem bulk_pos (v:JV):3≤bulk v:=by cases v;unfold bulk;omega
end JV
end Go.Proofs.YtdhakbghdcfncaaGreatDoor
/- Plain laws of values: which are right; how long their texts are. -/
namespace Go.Proofs.YtdhakbghdcfncaaGreatDoor.JV
set_option linter.unusedVariables false
set_option linter.unusedSimpArgs false

theorem chk_mk (k n:Int) (s:List UInt8) (l:List JV) (m:List (List UInt8 × JV)) (d p:Nat):chk (.mk k n s l m) d p =
  if 16<d then (51,p) else if 8192≤p then (53,p) else if rightB (.mk k n s l m)=false then (1,p)
  else if (chkL l (d+1) (p+1)).1≠0 then chkL l (d+1) (p+1) else chkM m (d+1) (chkL l (d+1) (p+1)).2:=by
 conv=>lhs;unfold chk
theorem chkL_nil (d p:Nat):chkL [] d p=(0,p):=by unfold chkL;rfl
theorem chkM_nil (d p:Nat):chkM [] d p=(0,p):=by unfold chkM;rfl
theorem chkL_cons (v:JV) (l:List JV) (d p:Nat):chkL (v::l) d p=if (chk v d p).1≠0 then chk v d p else chkL l d (chk v d p).2:=by
 conv=>lhs;unfold chkL
theorem chkM_cons (x:List UInt8 × JV) (m:List (List UInt8 × JV)) (d p:Nat):chkM (x::m) d p=if (chk x.2 d p).1≠0 then chk x.2 d p else chkM m d (chk x.2 d p).2:=by
 conv=>lhs;unfold chkM
 unfold chkP
 rfl
theorem bulk_mk (k n:Int) (s:List UInt8) (l:List JV) (m:List (List UInt8 × JV)):bulk (.mk k n s l m)=3+s.length+bulkL l+bulkM m:=by conv=>lhs;unfold bulk
theorem bulkL_cons (v:JV) (l:List JV):bulkL (v::l)=bulk v+bulkL l:=by conv=>lhs;unfold bulkL
theorem bulkM_cons (x:List UInt8 × JV) (m:List (List UInt8 × JV)):bulkM (x::m)=1+x.1.length+bulk x.2+bulkM m:=by conv=>lhs;unfold bulkM bulkP
theorem bulkL_len (l:List JV):l.length*3≤bulkL l:=by
 induction l with
 | nil=>simp
 | cons v l ih=>rw [bulkL_cons];have:=bulk_pos v;simp;omega
theorem bulkM_len (l:List (List UInt8 × JV)):l.length*4≤bulkM l:=by
 induction l with
 | nil=>simp
 | cons v l ih=>rw [bulkM_cons];have:=bulk_pos v.2;simp;omega
theorem putNat_len2:∀ (k n:Nat),n<10 ^ k→0<k→(Nm.putNat n).length≤k
 | 0,n,h,h0=>by omega
 | k+1,n,h,_=>by
  unfold Nm.putNat
  split
  ·simp
  ·rename_i h10
   have hk:0<k:=by
    rcases Nat.eq_zero_or_pos k with h0 | h0
    ·subst h0;omega
    ·exact h0
   have:=putNat_len2 k (n / 10) (by rw [Nat.pow_succ] at h;omega) hk
   rw [List.length_append]
   simp only [List.length_cons,List.length_nil]
   omega
theorem put_len2 (n:Int) (h:-9007199254740991≤n) (h2:n≤9007199254740991):(Nm.put n).length≤17:=by
 unfold Nm.put
 have h0:(10:Nat) ^ 16=10000000000000000:=by decide
 split
 ·have:=putNat_len2 16 n.natAbs (by omega) (by omega)
  simp only [List.length_cons]
  omega
 ·have:=putNat_len2 16 n.natAbs (by omega) (by omega)
  omega
end Go.Proofs.YtdhakbghdcfncaaGreatDoor.JV
/- Plain laws of values: right forms; unlike values have unlike texts. -/
namespace Go.Proofs.YtdhakbghdcfncaaGreatDoor.JV
set_option linter.unusedVariables false
set_option linter.unusedSimpArgs false

mutual
def okB:JV→Bool
 | .mk k n s l m=>okL l && okM m && (rightB (.mk k n s l m) && (!(k == 6) || namesB m))
termination_by structural v=>v
def okL:List JV→Bool
 | []=>true
 | v::l=>okB v && okL l
termination_by structural v=>v
def okM:List (List UInt8 × JV)→Bool
 | []=>true
 | x::m=>okP x && okM m
termination_by structural v=>v
def okP:List UInt8 × JV→Bool
 | (_,v)=>okB v
termination_by structural v=>v
end
theorem ok_mk (k n:Int) (s:List UInt8) (l:List JV) (m:List (List UInt8 × JV)):okB (.mk k n s l m)=(okL l && okM m && (rightB (.mk k n s l m) && (!(k == 6) || namesB m))):=by conv=>lhs;unfold okB
theorem okL_all:∀ l:List JV,okL l=l.all okB
 | []=>by unfold okL;rfl
 | v::l=>by unfold okL;rw [okL_all l];rfl
theorem okM_all:∀ m:List (List UInt8 × JV),okM m=m.all fun x=>okB x.2
 | []=>by unfold okM;rfl
 | x::m=>by unfold okM okP;rw [okM_all m];rfl
theorem ok_iff (v:JV):okB v=true↔rightB v=true∧(v.kd=6→namesB v.ms=true)∧(∀ u∈v.ls,okB u=true) ∧ ∀ x∈v.ms,okB x.2=true:=by
 cases v with
 | mk k n s l m=>
  rw [ok_mk,okL_all,okM_all]
  simp only [Bool.and_eq_true,List.all_eq_true,ls,ms,kd,Bool.or_eq_true,Bool.not_eq_true',beq_eq_false_iff_ne]
  constructor
  ·rintro ⟨⟨a,b⟩,c,d⟩;exact ⟨c,fun hk=>d.resolve_left (fun h=>h hk),a,b⟩
  ·rintro ⟨c,d,a,b⟩
   refine ⟨⟨a,b⟩,c,?_⟩
   by_cases hk:k=6
   ·exact .inr (d hk)
   ·exact .inl hk
theorem chk_ok (v:JV):∀ d p,(chk v d p).1=0→okB v=true∧p<(chk v d p).2∧(chk v d p).2≤8192:=by
 induction v using JV.ind with
 | h k n s l m ihl ihm=>
  intro d p
  have hL:∀ (l:List JV) (d p:Nat),(∀ v∈l,∀ d p,(chk v d p).1=0→okB v=true∧p<(chk v d p).2∧(chk v d p).2≤8192)→(chkL l d p).1=0→okL l=true∧p+l.length≤(chkL l d p).2∧(p≤8192→(chkL l d p).2≤8192):=by
   intro l
   induction l with
   | nil=>intro d p _ _;rw [chkL_nil,okL_all];simp
   | cons v l ih=>
    intro d p h h0
    rw [chkL_cons] at h0 ⊢
    rw [okL_all]
    by_cases hv0:(chk v d p).1=0
    ·rw [if_neg (by simp [hv0])] at h0 ⊢
     have hv:=h v (by simp) d p hv0
     have hi:=ih d (chk v d p).2 (fun u hu=>h u (by simp [hu])) h0
     rw [okL_all] at hi
     refine ⟨?_,by simp only [List.length_cons];omega,fun _=>hi.2.2 hv.2.2⟩
     rw [List.all_cons,hv.1,hi.1];rfl
    ·rw [if_pos hv0] at h0;exact absurd h0 hv0
  have hM:∀ (l:List (List UInt8 × JV)) (d p:Nat),(∀ v∈l,∀ d p,(chk v.2 d p).1=0→okB v.2=true∧p<(chk v.2 d p).2∧(chk v.2 d p).2≤8192)→(chkM l d p).1=0→okM l=true∧p+l.length≤(chkM l d p).2∧(p≤8192→(chkM l d p).2≤8192):=by
   intro l
   induction l with
   | nil=>intro d p _ _;rw [chkM_nil,okM_all];simp
   | cons v l ih=>
    intro d p h h0
    rw [chkM_cons] at h0 ⊢
    rw [okM_all]
    by_cases hv0:(chk v.2 d p).1=0
    ·rw [if_neg (by simp [hv0])] at h0 ⊢
     have hv:=h v (by simp) d p hv0
     have hi:=ih d (chk v.2 d p).2 (fun u hu=>h u (by simp [hu])) h0
     rw [okM_all] at hi
     refine ⟨?_,by simp only [List.length_cons];omega,fun _=>hi.2.2 hv.2.2⟩
     rw [List.all_cons,hv.1,hi.1];rfl
    ·rw [if_pos hv0] at h0;exact absurd h0 hv0
  intro h
  rw [chk_mk] at h ⊢
  by_cases h1:16<d
  ·rw [if_pos h1] at h;cases h
  rw [if_neg h1] at h ⊢
  by_cases h2:8192≤p
  ·rw [if_pos h2] at h;cases h
  rw [if_neg h2] at h ⊢
  by_cases h3:rightB (.mk k n s l m)=false
  ·rw [if_pos h3] at h;cases h
  rw [if_neg h3] at h ⊢
  by_cases h4:(chkL l (d+1) (p+1)).1=0
  ·rw [if_neg (by simp [h4])] at h ⊢
   have a:=hL l (d+1) (p+1) ihl h4
   have b:=hM m (d+1) (chkL l (d+1) (p+1)).2 ihm h
   have a3:=a.2.2 (by omega)
   have b3:=b.2.2 a3
   refine ⟨?_,by omega,b3⟩
   have hr:rightB (.mk k n s l m)=true:=by simpa using h3
   rw [ok_mk,a.1,b.1,hr]
   simp only [Bool.true_and,Bool.or_eq_true,Bool.not_eq_true',beq_eq_false_iff_ne]
   by_cases hk:k=6
   ·right
    simp only [rightB,kd,ms,Bool.and_eq_true] at hr
    have h5:=hr.2
    subst hk
    simp only [if_neg (show ¬ (6:Int)=2 by decide),if_neg (show ¬ (6:Int)=3 by decide),if_true,Bool.or_eq_true,decide_eq_true_eq] at h5
    rcases h5 with h5 | h5
    ·omega
    ·exact h5
   ·exact .inl hk
  ·rw [if_pos h4] at h;exact absurd h h4

theorem right_form {v:JV} (h:rightB v=true):v=nullV∨(∃ n:Int,(n=0∨n=1)∧v=boolV n)∨(∃ n:Int,-9007199254740991≤n∧n≤9007199254740991∧v=intV n)∨(∃ s,Utf.bad s=s.length∧v=textV s)∨(∃ l,v=listV l) ∨ ∃ m,v=mapV m:=by
 cases v with
 | mk k n s l m=>
  simp only [rightB,kd,nm,tx,ms,bareB,Bool.and_eq_true,Bool.or_eq_true,beq_iff_eq,decide_eq_true_eq,List.length_eq_zero_iff] at h
  obtain ⟨⟨⟨⟨h1,h2⟩,⟨⟨hn,hs⟩,hl⟩,hm⟩,hu⟩,hx⟩:=h
  rcases (by omega:k=1∨k=2∨k=3∨k=4∨k=5∨k=6) with rfl | rfl | rfl | rfl | rfl | rfl
  ·left
   have e1:n=0:=by omega
   have e2:s=[]:=by rcases hs with h | h;exact h;omega
   have e3:l=[]:=by rcases hl with h | h;exact h;omega
   have e4:m=[]:=by rcases hm with h | h;exact h;omega
   subst e1;subst e2;subst e3;subst e4;rfl
  ·right;left
   have e2:s=[]:=by rcases hs with h | h;exact h;omega
   have e3:l=[]:=by rcases hl with h | h;exact h;omega
   have e4:m=[]:=by rcases hm with h | h;exact h;omega
   subst e2;subst e3;subst e4
   simp only [if_true,Bool.or_eq_true,beq_iff_eq] at hx
   exact ⟨n,hx,rfl⟩
  ·right;right;left
   have e2:s=[]:=by rcases hs with h | h;exact h;omega
   have e3:l=[]:=by rcases hl with h | h;exact h;omega
   have e4:m=[]:=by rcases hm with h | h;exact h;omega
   subst e2;subst e3;subst e4
   simp only [if_neg (show ¬ (3:Int)=2 by decide),if_true,Bool.and_eq_true,decide_eq_true_eq] at hx
   exact ⟨n,hx.1,hx.2,rfl⟩
  ·right;right;right;left
   have e1:n=0:=by omega
   have e3:l=[]:=by rcases hl with h | h;exact h;omega
   have e4:m=[]:=by rcases hm with h | h;exact h;omega
   subst e1;subst e3;subst e4
   exact ⟨s,hu,rfl⟩
  ·right;right;right;right;left
   have e1:n=0:=by omega
   have e2:s=[]:=by rcases hs with h | h;exact h;omega
   have e4:m=[]:=by rcases hm with h | h;exact h;omega
   subst e1;subst e2;subst e4
   exact ⟨l,rfl⟩
  ·right;right;right;right;right
   have e1:n=0:=by omega
   have e2:s=[]:=by rcases hs with h | h;exact h;omega
   have e3:l=[]:=by rcases hl with h | h;exact h;omega
   subst e1;subst e2;subst e3
   exact ⟨m,rfl⟩
def headB:JV→UInt8→Prop
 | .mk k n _ _ _,c=>(k=1∧c=110)∨(k=2∧n=1∧c=116)∨(k=2∧n≠1∧c=102)∨(k=3∧(c=45∨(48≤c.toNat∧c.toNat≤57)))∨(k=4∧c=34)∨(k=5∧c=91)∨(k=6∧c=123)
def Dl (t:List UInt8):Prop:=t=[] ∨ ∃ c r,t=c::r∧(c=44∨c=93∨c=125)
end Go.Proofs.YtdhakbghdcfncaaGreatDoor.JV
/- Plain: tokens are no longer than the text. -/
namespace Go.Proofs.YtdhakbghdcfncaaGreatDoor.Scn
set_option linter.unusedVariables false
set_option linter.unusedSimpArgs false

theorem tokAt_size {l:List UInt8} {k n:Nat} {t:Tok} (h:tokAt l k=.tok t n):(wr t).length≤l.length+17∧t.s.length≤l.length+17:=by
 have hg:=tokAt_good h
 unfold tokAt at h
 simp only at h
 split at h
 ·split at h
  ·rename_i h0
   simp only [TR.tok.injEq] at h
   rw [← h.1]
   have hr:=Chr.read_right h0
   have hq:=Chr.read_quote h0
   have hQT:((Chr.read l k).1).length≤(Chr.quote (Chr.read l k).1).length:=by
    unfold Chr.quote
    have:∀ l:List UInt8,l.length≤(l.flatMap Chr.esc).length:=by
     intro l
     induction l with
     | nil=>simp
     | cons x l ih=>
      rw [List.flatMap_cons,List.length_append,List.length_cons]
      have:1≤(Chr.esc x).length:=by unfold Chr.esc;(repeat' split);all_goals simp
      omega
    have:=this (Chr.read l k).1
    simp only [List.length_cons,List.length_append,List.length_nil]
    omega
   unfold wr Chr.quoteO
   simp only [hr.1,if_true]
   simp only [if_neg (show ¬ (4:Nat)=3 by omega)]
   omega
  ·cases h
 split at h
 ·split at h
  ·simp only [TR.tok.injEq] at h
   rw [← h.1]
   have hb:=Nm.readNum_bounds l k
   have:=JV.put_len2 _ hb.1 hb.2
   unfold wr
   simp only [if_true,List.length_nil]
   omega
  ·cases h
 split at h
 ·simp only [TR.tok.injEq] at h
  rw [← h.1]
  unfold wr
  simp
 split at h
 ·cases h
 ·simp only [TR.tok.injEq] at h
  rw [← h.1]
  unfold wr
  simp only [if_neg (show ¬ (2:Nat)=3 by omega),if_neg (show ¬ (2:Nat)=4 by omega),List.length_take,List.length_drop]
  omega
theorem tk_size:∀ (n:Nat) (l:List UInt8) (k:Nat),l.length≤k+n → ∀ t∈(tk l k).1,(wr t).length≤l.length+17∧t.s.length≤l.length+17
 | n,l,k,hn,t,ht=>by
  by_cases h1:l.length≤k
  ·rw [tk_end h1] at ht;simp at ht
  cases n with
  | zero=>omega
  | succ n=>
   by_cases h2:Scn.white (l.getD k 0)=true
   ·rw [tk_white (by omega) h2] at ht
    exact tk_size n l (k+1) (by omega) t ht
   have h2':Scn.white (l.getD k 0)=false:=by simpa using h2
   rcases hh:tokAt l k with ⟨e,p⟩ | ⟨u,m⟩
   ·rw [tk_err (by omega) h2' hh] at ht;simp at ht
   ·have hm:=tokAt_next (by omega) hh
    rw [tk_tok (by omega) h2' hh] at ht
    by_cases h3:(tk l m).2.2=0
    ·rw [if_pos h3] at ht
     rcases List.mem_cons.1 ht with rfl | ht
     ·exact tokAt_size hh
     ·exact tk_size n l m (by omega) t ht
    ·rw [if_neg h3] at ht;simp at ht
end Go.Proofs.YtdhakbghdcfncaaGreatDoor.Scn
