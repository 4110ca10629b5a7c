/-
  Walks: the reference's Checked.
-/
import Derived.Test.YteidgoldnllabaaGreatDoorMR2H
import Derived.Test.YteidgoldnllabaaGreatDoorMKnuE
import Derived.Test.YteidgoldnllabaaGreatDoorMTpoN
namespace Go.Proofs.YteidgoldnllabaaGreatDoor
open Go.RowKit
theorem rd_pair (w:World) (x y:Nat) (hx:x<4294967296) (hy:y<4294967296) (u v:Int) (hu:u=x) (hv:v=y):Rd (w.alloc (.cells #[.int .u32 u,.int .u32 v] 213)) (some ⟨w.heap.size,0,none⟩) [x,y]:=by
 subst hu hv
 refine⟨.cons hx (.cons hy .nil),.inr ⟨_,_,rfl,fun i hi=>?_⟩⟩
 match i,hi with
 | 0,_=>simp[nth]
 | 1,_=>simp[nth]
 | i+2,hi=>exact absurd hi (by simp)
end Go.Proofs.YteidgoldnllabaaGreatDoor
