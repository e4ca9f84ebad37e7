/- Chapter 09: PatchTwice' walk. -/
import Derived.Test.YtlmcfhokfiibkaaGreatDoorPcr
import Derived.Test.YtlmcfhokfiibkaaGreatDoorSameV
namespace Go.Proofs.YtlmcfhokfiibkaaGreatDoor
set_option maxRecDepth 100000
set_option maxHeartbeats 4000000
set_option linter.unusedVariables false
set_option linter.unusedSimpArgs false
open Go.RowKit

theorem papply_x (v p:JV) (A:Option Addr) (c0:Nat) (A':Option Addr) (c0':Nat) (C:Option Addr) (f:Nat) (C':Option Addr) (f':Nat) (w:World) (hv:InV w (Lo w.heap.size) v (vA v A c0 A' c0')) (hp:InV w (Lo w.heap.size) p (vA p C f C' f')) (hn:Rd.nv v+Rd.nv p≤1048576) (hbp:JV.bulk p≤1048576) (hM:MxL w):
  Calls Tryz.prog 11 #[.agg #[.int .i64 v.kd,.int .i64 v.nm,.string ⟨v.tx.toArray⟩,.slice A v.ls.length c0,.slice A' v.ms.length c0'],.agg #[.int .i64 p.kd,.int .i64 p.nm,.string ⟨p.tx.toArray⟩,.slice C p.ls.length f,.slice C' p.ms.length f']] w (ApP w (Pc.apply v p)):=
 papply_is v p A c0 A' c0' C f C' f' w hv hp hbp hM (fun l hc hf k=>by
  have h1:=Pc.fits_nv hc hf k
  omega)
theorem ApP.some_ {w w':World} {x:JV} {e:Ending} (h:ApP w (some x) e w'):(∃ (D1:Option Addr) (g1:Nat) (D1':Option Addr) (g1':Nat),e=.returned (.tuple #[.agg #[.int .i64 x.kd,.int .i64 x.nm,.string ⟨x.tx.toArray⟩,.slice D1 x.ls.length g1,.slice D1' x.ms.length g1'],.int .i64 0])∧InV w' (Lo w'.heap.size) x (vA x D1 g1 D1' g1'))∧Fr w w':=by
 obtain ⟨⟨D1,g1,D1',g1',rfl,hi⟩,hf⟩:=h
 exact ⟨⟨D1,g1,D1',g1',rfl,hi.more (fun b hb=>hb.2)⟩,hf⟩
theorem same_self (x:JV) (D1:Option Addr) (g1:Nat) (D1':Option Addr) (g1':Nat) (D2:Option Addr) (g2:Nat) (D2':Option Addr) (g2':Nat) (W:World) (h1:InV W (Lo W.heap.size) x (vA x D1 g1 D1' g1')) (h2:InV W (Lo W.heap.size) x (vA x D2 g2 D2' g2')):
  Calls Tryz.prog 13 #[.agg #[.int .i64 x.kd,.int .i64 x.nm,.string ⟨x.tx.toArray⟩,.slice D1 x.ls.length g1,.slice D1' x.ms.length g1'],.agg #[.int .i64 x.kd,.int .i64 x.nm,.string ⟨x.tx.toArray⟩,.slice D2 x.ls.length g2,.slice D2' x.ms.length g2']] W fun e w'=>e=.returned (.bool true)∧Fr W w':=
 (same_is x x (vA x D1 g1 D1' g1') (vA x D2 g2 D2' g2')).call true (by simp) rfl rfl h1 h2
end Go.Proofs.YtlmcfhokfiibkaaGreatDoor
