/-
  Walks: the reference's bits, Neg.
-/
import Derived.Test.YteidgoldnllabaaGreatDoorTKnuE
import Derived.Test.YteidgoldnllabaaGreatDoorTRoE
import Derived.Test.YteidgoldnllabaaGreatDoorTTpoN
import Derived.Deep.DeepFit
import Derived.Deep.CutRange
import Derived.Test.YteidgoldnllabaaGreatDoorTIvA
import Derived.Test.YteidgoldnllabaaGreatDoorTIncP
namespace Go.Proofs.YteidgoldnllabaaGreatDoor
open Go.RowKit
theorem limbs_top_ne {n:Nat} (h:n≠0):nth (limbs n) ((limbs n).length-1)≠0:=by
 have hl:0<(limbs n).length:=by
  rw[List.length_pos_iff,Ne,limbs_eq_nil];exact h
 have ht:=limbs_top n
 unfold Top at ht
 rw[List.getLast?_eq_getElem?,List.getElem?_eq_getElem (by omega)] at ht
 rw[nth_eq (by omega)]
 exact fun e=>ht (congrArg some e)
theorem bits_top {n:Nat} (h:n≠0):bits n=32*((limbs n).length-1)+bits (nth (limbs n) ((limbs n).length-1))∧nth (limbs n) ((limbs n).length-1)≠0:=by
 have hl:0<(limbs n).length:=by
  rw[List.length_pos_iff,Ne,limbs_eq_nil];exact h
 have ht:nth (limbs n) ((limbs n).length-1)≠0:=limbs_top_ne h
 have h32:=limbs_lt32 n
 have hv:=val_limbs n
 generalize limbs n=xs at *
 have e:xs=xs.take (xs.length-1)++[nth xs (xs.length-1)]:=by
  rw[nth_eq (by omega),← List.take_succ_eq_append_getElem (by omega),List.take_of_length_le (by omega)]
 have hb:=bits_val_snoc (h32.take (xs.length-1)) ht
 rw[← e,hv,List.length_take,Nat.min_eq_left (by omega)] at hb
 exact⟨hb,ht⟩
theorem rd_pair (w:World) (x y:Nat) (hx:x<4294967296) (hy:y<4294967296) (u v:Int) (hu:u=x) (hv:v=y):Rd (w.alloc (.cells #[.int .u32 u,.int .u32 v] 213)) (some ⟨w.heap.size,0,none⟩) [x,y]:=by
 subst hu hv
 refine⟨.cons hx (.cons hy .nil),.inr ⟨_,_,rfl,fun i hi=>?_⟩⟩
 match i,hi with
 | 0,_=>simp[nth]
 | 1,_=>simp[nth]
 | i+2,hi=>exact absurd hi (by simp)
theorem Dy.opp_ok' {d:Dy} (h:d.ok):d.opp.ok:=by
 unfold Dy.opp
 split
 ·exact Dy.ok_zero
 next h0 =>
 rcases h with h | h
 ·exact absurd h.1 h0
 exact .inr h
end Go.Proofs.YteidgoldnllabaaGreatDoor
