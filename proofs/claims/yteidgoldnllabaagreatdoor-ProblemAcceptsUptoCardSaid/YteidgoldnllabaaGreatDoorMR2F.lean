/-
  Walks: the reference's bits, Neg.
-/
import Derived.Test.YteidgoldnllabaaGreatDoorMKnuE
import Derived.Test.YteidgoldnllabaaGreatDoorMRoE
namespace Go.Proofs.YteidgoldnllabaaGreatDoor
open Go.RowKit
open Lib (hid)
theorem limbs_top_ne {n:Nat} (h:n≠0):nth (limbs n) ((limbs n).length-1)≠0:=by
 have hl:0<(limbs n).length:=by
  rw[List.length_pos_iff,Ne,limbs_eq_nil];exact h
 have ht:=limbs_top n
 unfold Top at ht
 rw[List.getLast?_eq_getElem?,List.getElem?_eq_getElem (by omega)] at ht
 rw[nth_eq (by omega)]
 exact fun e=>ht (congrArg some e)
theorem bits_top {n:Nat} (h:n≠0):bits n=32*((limbs n).length-1)+bits (nth (limbs n) ((limbs n).length-1))∧nth (limbs n) ((limbs n).length-1)≠0:=by
 have hl:0<(limbs n).length:=by
  rw[List.length_pos_iff,Ne,limbs_eq_nil];exact h
 have ht:nth (limbs n) ((limbs n).length-1)≠0:=limbs_top_ne h
 have h32:=limbs_lt32 n
 have hv:=val_limbs n
 generalize limbs n=xs at *
 have e:xs=xs.take (xs.length-1)++[nth xs (xs.length-1)]:=by
  rw[nth_eq (by omega),← List.take_succ_eq_append_getElem (by omega),List.take_of_length_le (by omega)]
 have hb:=bits_val_snoc (h32.take (xs.length-1)) ht
 rw[← e,hv,List.length_take,Nat.min_eq_left (by omega)] at hb
 exact⟨hb,ht⟩
set_option maxHeartbeats 1000000 in
theorem r2bits_any (a:Option Addr) (n:Nat) (c:Nat) (w:World) (h:Rd w a (limbs n)) (hl:(limbs n).length≤1100000) :
  Calls Tryz.prog 203 #[.slice a (limbs n).length c] w fun e w'=>e=.returned (.int .i64 (bits n))∧w=w':=by
 by_cases h0:n=0
 ·have hz:=len_is0 h0
  have hb:=hid (show bits n=0 by rw[h0,bits_zero])
  clear h0
  go_enter Tryz.func203,Tryz.ntmps203
  go_wp2_with fail
  go_ret
  rw[hb.out]
  exact⟨rfl,rfl⟩
 have hz:=len_ne h0
 obtain⟨hb,ht⟩:=bits_top h0
 have hpos:0<(limbs n).length:=by
  rw[List.length_pos_iff,Ne,limbs_eq_nil];exact h0
 have hnt:=(limbs_lt32 n).nth ((limbs n).length-1)
 have hbt:bits (nth (limbs n) ((limbs n).length-1))≤32:=bits_le.2 hnt
 obtain⟨b,o,rfl,hcell⟩:=h.some hpos
 have hx:=hcell ((limbs n).length-1) (by omega)
 have Hb:=hid hb
 clear hcell h hb h0
 generalize (limbs n).length=L at *
 generalize nth (limbs n) (L-1)=t at *
 have hi1:(0:Int)≤((L-1:Nat):Int):=by omega
 have hi2:((L-1:Nat):Int)<(L:Int):=by omega
 have hL1:(L:Int)-1=((L-1:Nat):Int):=by omega
 go_enter Tryz.func203,Tryz.ntmps203
 go_wp2_with fail
 go_loop [3,4] (fun v x=>∃ (y j:Nat),x=.int .u32 y∧v=.int .i64 ((32*(L-1)+j:Nat):Int)∧j+bits y=bits t∧y<4294967296) (fun _ x=>(intOf x).toNat)
 case atStart=>exact⟨t,0,rfl,by congr 1 <;> omega,by omega,hnt⟩
 case round =>
 obtain⟨y,j,rfl,rfl,hj,hy⟩:=hrel
 by_cases hy0:y=0
 ·subst hy0
  rw[bits_zero] at hj
  have HB:=hid (show bits n=32*(L-1)+j by rw[Hb.out];omega)
  go_wp2_with fail
  go_ret
  rw[HB.out]
  exact⟨rfl,rfl⟩
 have h2:=bits_half hy0
 have h3:0<y:=by omega
 go_wp2_with fail
 go_round
 case measure=>simp[intOf];omega
 case rel=>exact⟨y/2,j+1,by go_num,by congr 1 <;> omega,by omega,by omega⟩
set_option maxHeartbeats 1000000 in
theorem r2Neg_ok (x:RD) (w:World) (h:x.ok w) :
  Calls Tryz.prog 207 #[.agg #[.bool x.neg,.slice x.a x.xs.length x.c,.int .i64 x.e]] w (NumOut w x.dy.opp):=by
 have hxd:=rdok_dy h
 have hz:=rdok_zero h
 have hlim:=rdok_limbs h
 have Ho:=hid (show x.dy.opp=(RD.mk (!x.neg&&decide (0<x.xs.length)) x.a x.xs x.c x.e).dy by
  unfold Dy.opp
  by_cases h0:x.dy.m=0
  ·rw[if_pos h0]
   have e:=x.dy.eq_zero hxd h0
   have hl:=hz.2 h0
   have hs:x.xs=[]:=List.eq_nil_of_length_eq_zero hl
   have he:x.e=0:=congrArg Dy.e e
   unfold RD.dy
   simp only[hs,he,List.length_nil,Nat.lt_irrefl,decide_false,Bool.and_false]
   rfl
  ·rw[if_neg h0]
   have hl:0<x.xs.length:=Nat.pos_of_ne_zero (fun e=>h0 (hz.1 e))
   unfold RD.dy
   simp only[hl,decide_true,Bool.and_true])
 have Hv:=hid (show (x.dy.opp.ok→(RD.mk (!x.neg&&decide (0<x.xs.length)) x.a x.xs x.c x.e).vl=true) from fun hok=>by
  have:=ok_vld hok
  rw[Ho.out] at this
  rw[show limbs (RD.mk (!x.neg&&decide (0<x.xs.length)) x.a x.xs x.c x.e).dy.m=x.xs from hlim] at this
  exact this)
 have hrd:=h.1
 clear hz hlim hxd
 obtain⟨B,hB⟩:∃ B:Bool,B=(!x.neg&&decide (0<x.xs.length)):=⟨_,rfl⟩
 rw[← hB] at Ho Hv
 have goal:∀ W:World,Kp w W→x.rd W→NumOut w x.dy.opp (.returned (.agg #[.bool B,.slice x.a x.xs.length x.c,.int .i64 x.e])) W:=fun W k r=>⟨RD.mk B x.a x.xs x.c x.e,rfl,⟨r.1,r.2⟩,Ho.out.symm,Hv.out,k⟩
 have Goal:=hid goal
 clear goal Ho Hv
 cases hn:x.neg with
 | false =>
  rw[hn] at hB
  simp only[Bool.not_false,Bool.true_and] at hB
  subst hB
  go_enter Tryz.func207,Tryz.ntmps207
  go_wp2_with fail
  generalize hW:((w.alloc _).alloc _)=W at *
  have hk:Kp w W:=hW▸((Kp.refl w).alloc _).alloc _
  obtain⟨q0,q1,q2,f0,f1,f2⟩:Box3 W (w.heap.size+1) (.bool (decide (0<x.xs.length))) (.slice x.a x.xs.length x.c) (.int .i64 x.e):=hW▸Box3.new2 _ _ _ _ _ _
  clear hW
  refine bodyPost_ret (v:=.agg #[.bool (decide (0<x.xs.length)),.slice x.a x.xs.length x.c,.int .i64 x.e]) (by simp[results,Tryz.results207,go_sem,q0,q1,q2]) rfl ?_
  exact Goal.out _ hk (hrd.kp hk)
 | true =>
 rw[hn] at hB
 simp only[Bool.not_true,Bool.false_and] at hB
 subst hB
 go_enter Tryz.func207,Tryz.ntmps207
 go_wp2_with fail
 generalize hW:((w.alloc _).alloc _)=W at *
 have hk:Kp w W:=hW▸((Kp.refl w).alloc _).alloc _
 obtain⟨q0,q1,q2,f0,f1,f2⟩:Box3 W (w.heap.size+1) (.bool false) (.slice x.a x.xs.length x.c) (.int .i64 x.e):=hW▸Box3.new2 _ _ _ _ _ _
 clear hW
 refine bodyPost_ret (v:=.agg #[.bool false,.slice x.a x.xs.length x.c,.int .i64 x.e]) (by simp[results,Tryz.results207,go_sem,q0,q1,q2]) rfl ?_
 exact Goal.out _ hk (hrd.kp hk)
end Go.Proofs.YteidgoldnllabaaGreatDoor
