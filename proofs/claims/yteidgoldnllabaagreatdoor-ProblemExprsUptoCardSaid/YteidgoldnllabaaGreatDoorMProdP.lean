/-
  Plain: the rounded product is the exact one rounded, where that is a valid number.
-/
import Derived.Test.YteidgoldnllabaaGreatDoorMRoSq
import Derived.Test.YteidgoldnllabaaGreatDoorMRoE
import Derived.Test.YteidgoldnllabaaGreatDoorMEqU
import Derived.Deep.DeepFit
import Derived.Test.YteidgoldnllabaaGreatDoorMIvB
import Derived.Test.YteidgoldnllabaaGreatDoorMDyA
import Derived.Laws.Rows
import Derived.Laws.Tables
namespace Go.Proofs.YteidgoldnllabaaGreatDoor
open Go.RowKit
section
structure PI where
 lo:Dy
 hi:Dy
 all:Bool
def RI.pl (x:RI):PI:=⟨x.lo.dy,x.hi.dy,x.all⟩
def PI.whole:PI:=⟨.zero,.zero,true⟩
def PI.ok (X:PI):Prop:=if X.all=true then X.lo=.zero∧X.hi=.zero else X.lo.ok∧X.hi.ok∧X.lo.iv≤X.hi.iv
theorem PI.ok_le {X:PI} (h:X.ok):X.lo.iv≤X.hi.iv:=by
 unfold PI.ok at h
 split at h
 ·rw[h.1,h.2];exact Int.le_refl _
 exact h.2.2
theorem RD.zr_parts {x:RD}:x.zr=true↔x.neg=false∧x.xs=[]∧x.e=0:=by
 unfold RD.zr
 simp[List.length_eq_zero_iff]
theorem RI.pl_ok {w:World} {x:RI} (h:x.rd w) (hv:x.vl=true):x.pl.ok:=by
 unfold PI.ok RI.pl
 cases ha:x.all with
 | false =>
  have hk:x.ok w:=⟨h,ha,hv⟩
  have:=hk.parts.2.2
  simp only[Bool.false_eq_true,if_false]
  exact⟨rdok_dy hk.lo,rdok_dy hk.hi,this⟩
 | true =>
 unfold RI.vl at hv
 rw[ha] at hv
 simp only[if_true,Bool.and_eq_true] at hv ⊢
 obtain⟨a1,a2,a3⟩:=RD.zr_parts.1 hv.1
 obtain⟨b1,b2,b3⟩:=RD.zr_parts.1 hv.2
 constructor
 ·show RD.dy x.lo=_
  unfold RD.dy;rw[a1,a2,a3];rfl
 show RD.dy x.hi=_
 unfold RD.dy;rw[b1,b2,b3];rfl
section
variable {K p q:Nat} {S T:Int} {x y:Dy}
end
end
def intD (n:Int):Dy:=canon (decide (n<0)) n.natAbs 0
theorem intD_isP {n:Int} {p:Nat} (hp:0<p) (hp2:p≤4096) (h:n.natAbs<2 ^ p):isP p (intD n):=by
 unfold intD
 by_cases h0:n.natAbs=0
 ·rw[h0,canon_zero];exact isP.zero p
 have hb:bits n.natAbs≤p:=bits_le.2 h
 have hm:(canon (decide (n<0)) n.natAbs 0).m=oddp n.natAbs:=by unfold canon;rw[if_neg h0]
 have ho:=bits_oddp h0
 have ho2:=(oddp_spec h0).1
 refine⟨(canon_ok_iff _ _ _).2 ?_,by rw[hm];omega⟩
 unfold inr canon
 rw[if_neg h0]
 refine .inr ?_
 dsimp only
 omega
def PI.neg (X:PI):PI:=if X.all then .whole else ⟨X.hi.opp,X.lo.opp,false⟩
section
def insP (X Y:PI):Prop:=Y.all=true∨X.all=false∧Y.all=false∧Y.lo.iv≤X.lo.iv∧X.hi.iv≤Y.hi.iv
theorem insP.refl (X:PI):insP X X:=by
 cases h:X.all with
 | false=>exact .inr ⟨h,h,Int.le_refl _,Int.le_refl _⟩
 | true=>exact .inl h
theorem insP.whole (X:PI):insP X .whole:=.inl rfl
section
variable {K p q:Nat} {S T:Int}
end
end
def hasV (X:PI) (v:Int):Prop:=X.all=true∨X.lo.iv≤v∧v≤X.hi.iv
theorem hasV.lo {X:PI} (h:X.ok):hasV X X.lo.iv:=.inr ⟨Int.le_refl _,PI.ok_le h⟩
theorem hasV.hi {X:PI} (h:X.ok):hasV X X.hi.iv:=.inr ⟨PI.ok_le h,Int.le_refl _⟩
theorem hasV.whole (v:Int):hasV .whole v:=.inl rfl
theorem Var7.new1 (w:World) (t:TypeId) (o1:Obj):Var7 ((w.alloc o1).alloc (.cells #[.bool false,.slice none 0 0,.int .i64 0,.bool false,.slice none 0 0,.int .i64 0,.bool false] t)) (w.heap.size+1):=by
 have:=Var7.new (w.alloc o1) t
 rwa [World.size_alloc] at this
theorem Upd.rdD {g:Nat} {w W:World} (h:Upd g w W) {x:RD} (hx:x.rd w):x.rd W:=⟨h.2.1 _ _ hx.1,hx.2⟩
theorem Upd.rdI {g:Nat} {w W:World} (h:Upd g w W) {x:RI} (hx:x.rd w):x.rd W:=⟨h.rdD hx.1,h.rdD hx.2⟩
end Go.Proofs.YteidgoldnllabaaGreatDoor
