/-
  Walks: the law's awake.
-/
import Derived.Test.YteidgoldnllabaaGreatDoorTEqU
namespace Go.Proofs.YteidgoldnllabaaGreatDoor
open Go.RowKit
section
section
variable {d f:Dy} {p:Nat} {low:Int} {up:Bool}
end
end
theorem Top_rok (x:RD) (w:World) (h:x.ok w) :
  Calls Tryz.prog 169 #[.agg #[.bool x.neg,.slice x.a x.xs.length x.c,.int .i64 x.e]] w fun e w'=>e=.returned (.int .i64 (topI x.dy))∧Kp w w':=by
 have H:=Top_ok x.dy x.a x.c w (rdok_at h)
 rw[rdok_limbs h] at H
 exact H
section
structure PI where
 lo:Dy
 hi:Dy
 all:Bool
section
variable {K p q:Nat} {S T:Int} {x y:Dy}
end
theorem iv_sg {d:Dy}:d.iv=sg d.neg d.m*2 ^ (d.e+16384).toNat:=by
 unfold Dy.iv sg
 split
 ·rw[Int.neg_mul];push_cast;rfl
 push_cast;rfl
end
def intD (n:Int):Dy:=canon (decide (n<0)) n.natAbs 0
theorem intD_iv (n:Int):(intD n).iv=n*2 ^ 16384:=by
 unfold intD
 rw[canon_iv _ _ _ (by omega),show ((0:Int)+16384).toNat=16384 from rfl]
 generalize (16384:Nat)=q
 unfold sg
 by_cases h:n<0
 ·rw[decide_eq_true h,if_pos rfl,Int.natCast_mul,Int.natCast_pow]
  have:((n.natAbs:Nat):Int)=-n:=by omega
  rw[this,Int.neg_mul,Int.neg_neg];rfl
 rw[decide_eq_false h,if_neg (by decide),Int.natCast_mul,Int.natCast_pow]
 have:((n.natAbs:Nat):Int)=n:=by omega
 rw[this];rfl
theorem intD_isP {n:Int} {p:Nat} (hp:0<p) (hp2:p≤4096) (h:n.natAbs<2 ^ p):isP p (intD n):=by
 unfold intD
 by_cases h0:n.natAbs=0
 ·rw[h0,canon_zero];exact isP.zero p
 have hb:bits n.natAbs≤p:=bits_le.2 h
 have hm:(canon (decide (n<0)) n.natAbs 0).m=oddp n.natAbs:=by unfold canon;rw[if_neg h0]
 have ho:=bits_oddp h0
 have ho2:=(oddp_spec h0).1
 refine⟨(canon_ok_iff _ _ _).2 ?_,by rw[hm];omega⟩
 unfold inr canon
 rw[if_neg h0]
 refine .inr ?_
 dsimp only
 omega
end Go.Proofs.YteidgoldnllabaaGreatDoor
