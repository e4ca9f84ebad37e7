/- How long a right value's text is. -/
import Derived.Test.YtlmcfhokfiibkaaGreatDoorPa
namespace Go.Proofs.YtlmcfhokfiibkaaGreatDoor.JV
set_option maxRecDepth 100000
set_option linter.unusedVariables false
set_option linter.unusedSimpArgs false
theorem qw_len (s:List UInt8):(q s).length≤6*s.length+2:=by
 unfold q Chr.quoteO
 split
 ·simp only
  unfold Chr.quote
  have:∀ l:List UInt8,(l.flatMap Chr.esc).length≤6*l.length:=by
   intro l
   induction l with
   | nil=>simp
   | cons x l ih=>
    rw [List.flatMap_cons,List.length_append,List.length_cons]
    have:(Chr.esc x).length≤6:=by unfold Chr.esc;(repeat' split);all_goals simp
    omega
  have:=this s
  simp only [List.length_cons,List.length_append,List.length_nil]
  omega
 ·simp
theorem right_numw {k n:Int} {s:List UInt8} {l:List JV} {m:List (List UInt8 × JV)} (h:rightB (.mk k n s l m)=true) (hk:k=3):-9007199254740991≤n∧n≤9007199254740991:=by
 subst hk
 simp only [rightB,kd,nm,Bool.and_eq_true] at h
 have:=h.2
 simp only [if_neg (show ¬ (3:Int)=2 by decide),if_true,Bool.and_eq_true,decide_eq_true_eq] at this
 exact this
theorem okw_len (v:JV):okB v=true→(wrt v).length+2≤8*bulk v:=by
 induction v using JV.ind with
 | h k n s l m ihl ihm=>
  intro h
  obtain ⟨hr,_,hl,hm⟩:=(ok_iff _).1 h
  rw [bulk_mk,wrt_mk]
  split
  ·simp only [tNull,List.length_cons,List.length_nil];omega
  split
  ·split
   ·simp only [tTrue,List.length_cons,List.length_nil];omega
   ·simp only [tFalse,List.length_cons,List.length_nil];omega
  split
  ·rename_i hk
   have h3:=right_numw hr hk
   have:=put_len2 n h3.1 h3.2
   omega
  split
  ·have:=qw_len s;omega
  split
  ·have hL:∀ (l:List JV) (b:Bool),(∀ v∈l,(wrt v).length+2≤8*bulk v)→(wrtL l b).length≤8*bulkL l:=by
    intro l
    induction l with
    | nil=>intro b _;rw [wrtL_nil];simp
    | cons v l ih=>
     intro b h
     have h1:=h v (by simp)
     have h2:=ih false (fun u hu=>h u (by simp [hu]))
     rw [wrtL_cons,bulkL_cons,List.length_append,List.length_append]
     have:(if b then ([]:List UInt8) else [44]).length≤1:=by split <;> simp
     omega
   have:=hL l true (fun v hv=>ihl v hv (hl v hv))
   simp only [List.length_cons,List.length_append,List.length_nil]
   omega
  ·have hM:∀ (l:List (List UInt8 × JV)) (b:Bool),(∀ v∈l,(wrt v.2).length+2≤8*bulk v.2)→(wrtM l b).length≤8*bulkM l:=by
    intro l
    induction l with
    | nil=>intro b _;rw [wrtM_nil];simp
    | cons v l ih=>
     intro b h
     have h1:=h v (by simp)
     have h2:=ih false (fun u hu=>h u (by simp [hu]))
     have h3:=qw_len v.1
     rw [wrtM_cons,bulkM_cons,List.length_append,List.length_append,List.length_append,List.length_cons]
     have:(if b then ([]:List UInt8) else [44]).length≤1:=by split <;> simp
     omega
   have:=hM m true (fun v hv=>ihm v hv (hm v hv))
   simp only [List.length_cons,List.length_append,List.length_nil]
   omega
end Go.Proofs.YtlmcfhokfiibkaaGreatDoor.JV
