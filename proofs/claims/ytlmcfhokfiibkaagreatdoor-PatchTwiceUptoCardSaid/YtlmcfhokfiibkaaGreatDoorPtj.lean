/- The walks of point.lead, Find, Each. -/
import Derived.Test.YtlmcfhokfiibkaaGreatDoorPtI
import Derived.Test.YtlmcfhokfiibkaaGreatDoorRdd
import Derived.Test.YtlmcfhokfiibkaaGreatDoorEe
namespace Go.Proofs.YtlmcfhokfiibkaaGreatDoor
set_option maxRecDepth 100000
set_option maxHeartbeats 2000000
set_option linter.unusedVariables false
set_option linter.unusedSimpArgs false
open Go.RowKit

namespace Pt
theorem plain_len:∀ (n:Nat) (l t:List UInt8),l.length≤n→plain l=some t→t.length≤l.length:=by
 intro n
 induction n with
 | zero=>
  intro l t hl h
  have:l=[]:=List.eq_nil_of_length_eq_zero (by omega)
  subst this
  obtain rfl:=Option.some.inj h;simp
 | succ n ih=>
  intro l t hl h
  match l,hl with
  | [],_=>obtain rfl:=Option.some.inj h;simp
  | c::r,hl=>
   have hr:r.length≤n:=by simp at hl;omega
   by_cases hc:c=126
   ·subst hc
    match r,hr with
    | [],_=>simp [plain] at h
    | d::r,hr=>
     have hr2:r.length≤n:=by simp at hr;omega
     rw [plain_two,if_pos rfl] at h
     cases hp:plain r with
     | none=>rw [hp] at h;split at h <;> (try split at h) <;> cases h
     | some q=>
      have:=ih r q hr2 hp
      rw [hp] at h
      split at h
      ·obtain rfl:=Option.some.inj h;simp;omega
      ·split at h
       ·obtain rfl:=Option.some.inj h;simp;omega
       ·cases h
   ·rw [plain_ne _ hc] at h
    cases hp:plain r with
    | none=>rw [hp] at h;cases h
    | some q=>
     have:=ih r q hr hp
     rw [hp] at h
     obtain rfl:=Option.some.inj h;simp;omega
theorem allP_each:∀ (qs ps:List (List UInt8)),allP qs=some ps→ps.length=qs.length ∧ ∀ p∈ps,∃ q∈qs,p.length≤q.length
 | [],ps,h=>by obtain rfl:=Option.some.inj h;exact ⟨rfl,by simp⟩
 | q::qs,ps,h=>by
  rw [allP_def] at h
  cases hp:plain q with
  | none=>rw [hp] at h;cases h
  | some t=>
   rw [hp] at h
   cases hq:allP qs with
   | none=>rw [hq] at h;cases h
   | some r=>
    rw [hq] at h
    obtain rfl:=Option.some.inj h
    obtain ⟨h1,h2⟩:=allP_each qs r hq
    refine ⟨by simp [h1],fun p hp2=>?_⟩
    rcases List.mem_cons.1 hp2 with rfl | hp2
    ·exact ⟨q,by simp,plain_len _ q p (Nat.le_refl _) hp⟩
    ·obtain ⟨q',hq',hl⟩:=h2 p hp2
     exact ⟨q',by simp [hq'],hl⟩
theorem parts_len {s:List UInt8} {ps:List (List UInt8)} (h:parts s=some ps):ps.length≤s.length+1 ∧ ∀ p∈ps,p.length≤s.length:=by
 cases s with
 | nil=>obtain rfl:=Option.some.inj h;simp
 | cons c r=>
  rw [show parts (c::r)=if c=47 then allP (cut r) else none from rfl] at h
  by_cases hc:c=47
  ·rw [if_pos hc] at h
   obtain ⟨h1,h2⟩:=allP_each _ _ h
   have:=cut_len r
   refine ⟨by rw [h1];simp;omega,fun p hp=>?_⟩
   obtain ⟨q,hq,hl⟩:=h2 p hp
   have:=cut_each r q hq
   simp;omega
  ·rw [if_neg hc] at h;cases h
end Pt
theorem Ssl.caps {w:World} {base:Nat} {A:Option Addr} {n c:Nat} {l:List (List UInt8)} (h:Ssl w base (.slice A n c) l):l.length≤c∧c≤9223372036854775807:=by
 rcases h.2 with ⟨hv,hn⟩ | ⟨g,cap,cur,hv,hb,hg,hc,hm,hs,ht⟩
 ·injection hv with _ _ h3
  rw [svs_len] at hn
  omega
 ·injection hv with _ _ h3
  rw [svs_len] at hc
  unfold maxLen at hm
  omega
def LdP (Z:Nat) (w:World) (ps:Option (List (List UInt8))) (st:Bool) (v:JV):Ending→World→Prop:=match ps with
 | none=>fun e w'=>e=.returned (.tuple #[.agg #[.int .i64 0,.int .i64 0,.string ⟨#[]⟩,.slice none 0 0,.slice none 0 0],.int .i64 80])∧Fr w w'
 | some ps=>FdP Z w (Pt.find st ps v)
/- The walks of point.Find and point.Each. -/

/- What chapter 08's awake sees. -/

def aw8y:JV:=JV.listV [JV.intV 1,JV.intV 2,JV.intV 3]
def aw8:JV:=JV.mapV [([97],JV.listV [JV.mapV [([98],JV.intV 1)],JV.mapV [([98],JV.listV [JV.intV 2,JV.intV 3])]])]
/- The walk of chapter 08's law of the parts. -/

/- The walk of chapter 08's law of the texts. -/

/- The walk of chapter 08's hasStar. -/

end Go.Proofs.YtlmcfhokfiibkaaGreatDoor
