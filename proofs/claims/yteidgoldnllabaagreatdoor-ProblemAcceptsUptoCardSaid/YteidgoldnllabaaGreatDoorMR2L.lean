/-
  Walks: the reference's Sum, whole; Add, Sub of valid numbers.
-/
import Derived.Test.YteidgoldnllabaaGreatDoorMR2K
import Derived.Test.YteidgoldnllabaaGreatDoorMRoE
import Derived.Deep.DeepFit
import Derived.Deep.CutRange
import Derived.Test.YteidgoldnllabaaGreatDoorMR2F
import Derived.Test.YteidgoldnllabaaGreatDoorMCmpD
import Derived.Test.YteidgoldnllabaaGreatDoorMProdP
import Derived.Deep.LoopGhost
import Derived.Test.YteidgoldnllabaaGreatDoorMIdxR
import Derived.Deep.AppendLies
import Derived.Test.YteidgoldnllabaaGreatDoorMKnuE
import Derived.Deep.RegionLaw
import Derived.Laws.EntriesVeiled
import Derived.Test.YteidgoldnllabaaGreatDoorMTpoN
namespace Go.Proofs.YteidgoldnllabaaGreatDoor
open Go.RowKit
open Lib (hid)
set_option maxHeartbeats 1000000 in
theorem r2sum_z1 (d f:Dy) (a b:Option Addr) (c k:Nat) (w:World) (hd:DyAt w d a c) (hf:DyAt w f b k) (hd0:d.m=0) :
  Calls Tryz.prog 206 #[.agg #[.bool d.neg,.slice a (limbs d.m).length c,.int .i64 d.e],.agg #[.bool f.neg,.slice b (limbs f.m).length k,.int .i64 f.e]] w (DyOut w (sumD d f)):=by
 have Hs:=hid (show sumD d f=f by rw[d.eq_zero hd.1 hd0,sumD_zero hf.1])
 have z1:=len_is0 hd0
 clear hd0
 go_enter Tryz.func206,Tryz.ntmps206
 go_wp2_with fail
 generalize hW:(((w.alloc _).alloc _).alloc _)=W at *
 have hk:Kp w W:=hW▸(((Kp.refl w).alloc _).alloc _).alloc _
 obtain⟨q0,q1,q2,f0,f1,f2⟩:Box3 W (w.heap.size+2) (.bool f.neg) (.slice b (limbs f.m).length k) (.int .i64 f.e):=hW▸Box3.new3 _ _ _ _ _ _ _
 clear hW
 refine bodyPost_ret (v:=.agg #[.bool f.neg,.slice b (limbs f.m).length k,.int .i64 f.e]) (by simp[results,Tryz.results206,go_sem,q0,q1,q2]) rfl ?_
 rw[Hs.out]
 exact⟨b,k,rfl,hf.2.1.kp hk,hf.2.2.1,hf.2.2.2,hk⟩
set_option maxHeartbeats 1000000 in
theorem r2sum_z2 (d f:Dy) (a b:Option Addr) (c k:Nat) (w:World) (hd:DyAt w d a c) (hf:DyAt w f b k) (hd0:d.m≠0) (hf0:f.m=0) :
  Calls Tryz.prog 206 #[.agg #[.bool d.neg,.slice a (limbs d.m).length c,.int .i64 d.e],.agg #[.bool f.neg,.slice b (limbs f.m).length k,.int .i64 f.e]] w (DyOut w (sumD d f)):=by
 have Hs:=hid (show sumD d f=d by rw[f.eq_zero hf.1 hf0,sumD_zero' hd.1])
 have z1:=len_ne hd0
 have z2:=len_is0 hf0
 clear hd0 hf0
 go_enter Tryz.func206,Tryz.ntmps206
 go_wp2_with fail
 generalize hW:(((w.alloc _).alloc _).alloc _)=W at *
 have hk:Kp w W:=hW▸(((Kp.refl w).alloc _).alloc _).alloc _
 obtain⟨q0,q1,q2,f0,f1,f2⟩:Box3 W (w.heap.size+2) (.bool d.neg) (.slice a (limbs d.m).length c) (.int .i64 d.e):=hW▸Box3.new3 _ _ _ _ _ _ _
 clear hW
 refine bodyPost_ret (v:=.agg #[.bool d.neg,.slice a (limbs d.m).length c,.int .i64 d.e]) (by simp[results,Tryz.results206,go_sem,q0,q1,q2]) rfl ?_
 rw[Hs.out]
 exact⟨a,c,rfl,hd.2.1.kp hk,hd.2.2.1,hd.2.2.2,hk⟩
theorem r2sum_ok (d f:Dy) (a b:Option Addr) (c k:Nat) (w:World) (hd:DyAt w d a c) (hf:DyAt w f b k) :
  Calls Tryz.prog 206 #[.agg #[.bool d.neg,.slice a (limbs d.m).length c,.int .i64 d.e],.agg #[.bool f.neg,.slice b (limbs f.m).length k,.int .i64 f.e]] w (DyOut w (sumD d f)):=by
 by_cases hd0:d.m=0
 ·exact r2sum_z1 d f a b c k w hd hf hd0
 by_cases hf0:f.m=0
 ·exact r2sum_z2 d f a b c k w hd hf hd0 hf0
 by_cases hs:d.neg=f.neg
 ·exact r2sum_same d f a b c k w hd hf hd0 hf0 hs
 rcases Nat.lt_or_ge (d.m*2 ^ (d.e-min d.e f.e).toNat) (f.m*2 ^ (f.e-min d.e f.e).toNat) with h | h
 ·exact r2sum_lt d f a b c k w hd hf hd0 hf0 hs h
 exact r2sum_ge d f a b c k w hd hf hd0 hf0 hs h
set_option maxHeartbeats 2000000 in
theorem r2sign_dy (d:Dy) (a:Option Addr) (c:Nat) (w:World) :
  Calls Tryz.prog 204 #[.agg #[.bool d.neg,.slice a (limbs d.m).length c,.int .i64 d.e]] w fun e w'=>e=.returned (.int .i64 (sgn d))∧Kp w w':=by
 by_cases h0:d.m=0
 ·have H:=hid (show sgn d=0 by unfold sgn;rw[if_pos h0])
  have hl:(limbs d.m).length=0:=by rw[h0,limbs_zero];rfl
  have hz:(((limbs d.m).length:Int)==0)=true:=beq_iff_eq.2 (by omega)
  clear h0 hl
  go_enter Tryz.func204,Tryz.ntmps204
  go_wp2_with fail
  go_ret
  exact⟨ret_int H.out.symm,(Kp.refl w).alloc _⟩
 have hl:(limbs d.m).length≠0:=fun h=>h0 (limbs_eq_nil.1 (List.length_eq_zero_iff.1 h))
 have hz:(((limbs d.m).length:Int)==0)=false:=beq_eq_false_iff_ne.2 (by omega)
 cases hn:d.neg with
 | false =>
  have H:=hid (show sgn d=1 by unfold sgn;rw[if_neg h0,hn];rfl)
  clear h0 hl hn
  go_enter Tryz.func204,Tryz.ntmps204
  go_wp2_with fail
  go_ret
  exact⟨ret_int H.out.symm,(Kp.refl w).alloc _⟩
 | true =>
 have H:=hid (show sgn d=-1 by unfold sgn;rw[if_neg h0,hn];rfl)
 clear h0 hl hn
 go_enter Tryz.func204,Tryz.ntmps204
 go_wp2_with fail
 go_ret
 exact⟨ret_int H.out.symm,(Kp.refl w).alloc _⟩
theorem r2sign_rok (x:RD) (w:World) (h:x.ok w) :
  Calls Tryz.prog 204 #[.agg #[.bool x.neg,.slice x.a x.xs.length x.c,.int .i64 x.e]] w fun e w'=>e=.returned (.int .i64 (sgn x.dy))∧Kp w w':=by
 have H:=r2sign_dy x.dy x.a x.c w
 rw[rdok_limbs h] at H
 exact H
set_option maxHeartbeats 2000000 in
theorem r2top_rok (x:RD) (w:World) (h:x.ok w) (h0:x.dy.m≠0) :
  Calls Tryz.prog 205 #[.agg #[.bool x.neg,.slice x.a x.xs.length x.c,.int .i64 x.e]] w fun e w'=>e=.returned (.int .i64 (topI x.dy))∧Kp w w':=by
 have hl:x.xs.length≠0:=fun k=>h0 ((rdok_zero h).1 k)
 have hz:((x.xs.length:Int)==0)=false:=beq_eq_false_iff_ne.2 (by omega)
 have he:=rdok_e h
 have hb:bits x.dy.m≤4096:=by
  rcases rdok_dy h with k | k
  ·exact absurd k.1 h0
  ·exact k.2.1
 have k1:=(Kp.refl w).alloc (.cells #[.bool x.neg,.slice x.a x.xs.length x.c,.int .i64 x.e] 113)
 have hr:=(h.1.1.kp k1).kp (Kp.refl _).drew
 have hlen:=rdok_len h
 have hlim:=rdok_limbs h
 have HB:=hid (fun W (k:Rd W x.a x.xs)=>by
  have q:=r2bits_any x.a x.dy.m x.c W (by rw[hlim];exact k) (by rw[hlim];omega)
  rw[hlim] at q
  exact q)
 have Hm:=hid h0
 clear h0 hl hlim h
 have HI:=hid (show topI x.dy=(bits x.dy.m:Int)+x.e by unfold topI;rw[if_neg Hm.out];rfl)
 rw[HI.out]
 generalize hD:x.dy.m=D at *
 clear hD
 go_enter Tryz.func205,Tryz.ntmps205
 go_upto_region 3 with fail
 generalize hW:(w.alloc (.cells #[.bool x.neg,.slice x.a x.xs.length x.c,.int .i64 x.e] 113))=W at *
 have hS:W.cell? ⟨w.heap.size,0,none⟩=some (.bool x.neg)∧W.cell? ⟨w.heap.size,1,none⟩=some (.slice x.a x.xs.length x.c)∧W.cell? ⟨w.heap.size,2,none⟩=some (.int .i64 x.e):=by rw[← hW];simp
 clear hW
 have hSd:=keep3 (Kp.refl W).drew hS
 clear hS
 go_region_held3 (fun w'=>w'.cell? ⟨w.heap.size,0,none⟩=some (.bool x.neg)∧w'.cell? ⟨w.heap.size,1,none⟩=some (.slice x.a x.xs.length x.c)∧w'.cell? ⟨w.heap.size,2,none⟩=some (.int .i64 x.e)) (first | with_reducible assumption | with_reducible exact keep3 (by assumption) (by assumption))
  (first
   | (go_at_call 203;go_fit (HB.out _ hr);rintro e w4 ⟨rfl,rfl⟩)
   | fail)
 go_wp2_with fail
 go_ret
 exact⟨ret_int (IntWalk.i64_in _ (by omega)),k1.trans (Kp.refl W).drew⟩
theorem r2sumDy (x y:RD) (w:World) (hx:x.ok w) (hy:y.ok w) :
  Calls Tryz.prog 206 #[.agg #[.bool x.neg,.slice x.a x.xs.length x.c,.int .i64 x.e],.agg #[.bool y.neg,.slice y.a y.xs.length y.c,.int .i64 y.e]] w (DyOut w (sumD x.dy y.dy)):=by
 have H:=r2sum_ok x.dy y.dy x.a y.a x.c y.c w (rdok_at hx) (rdok_at hy)
 rw[rdok_limbs hx,rdok_limbs hy] at H
 exact H
theorem topI_lt {d f:Dy} (hd:d.ok) (hf:f.ok) (hd0:d.m≠0) (hf0:f.m≠0) (h:topI d<topI f):d.av<f.av:=by
 have e1:=(ok_e hd).1
 have e2:=(ok_e hf).1
 have b1:bits d.av=bits d.m+(d.e+16384).toNat:=bits_mul_pow hd0
 have b2:bits f.av=bits f.m+(f.e+16384).toNat:=bits_mul_pow hf0
 unfold topI at h
 rw[if_neg hd0,if_neg hf0] at h
 apply Classical.byContradiction
 intro hc
 have:=bits_mono (show f.av≤d.av by omega)
 omega
theorem cmp_tops {d f:Dy} (hd:d.ok) (hf:f.ok) (hs:sgn d=sgn f) (h0:sgn d≠0) (ht:topI d≠topI f):cmpZ d.iv f.iv=if (decide (topI d<topI f)==decide (0<sgn d))=true then -1 else 1:=by
 have hd0:d.m≠0:=fun h=>h0 (by unfold sgn;rw[if_pos h])
 have hf0:f.m≠0:=fun h=>h0 (by rw[hs];unfold sgn;rw[if_pos h])
 rw[cmp_sgn_eq hs h0]
 rcases sgn_range d with h1 | h1 | h1
 ·rw[h1]
  rcases Int.lt_or_gt_of_ne ht with h2 | h2
  ·rw[cmpN_lt (topI_lt hd hf hd0 hf0 h2),decide_eq_true h2];rfl
  rw[cmpN_gt (topI_lt hf hd hf0 hd0 h2),decide_eq_false (by omega)];rfl
 ·exact absurd h1 h0
 rw[h1]
 rcases Int.lt_or_gt_of_ne ht with h2 | h2
 ·rw[cmpN_lt (topI_lt hd hf hd0 hf0 h2),decide_eq_true h2];rfl
 rw[cmpN_gt (topI_lt hf hd hf0 hd0 h2),decide_eq_false (by omega)];rfl
theorem sgn_diff (d f:Dy):sgn (sumD d f.opp)=cmpZ d.iv f.iv:=by
 have h1:=sgn_iv (sumD d f.opp)
 have h2:=sgn_range (sumD d f.opp)
 rw[sumD_iv,Dy.opp_iv] at h1
 have e1:=@cmpZ_lt d.iv f.iv
 have e2:=@cmpZ_gt d.iv f.iv
 have e3:=@cmpZ_eq d.iv f.iv
 have e4:=cmpZ_bound d.iv f.iv
 omega
theorem Dy.opp_ok' {d:Dy} (h:d.ok):d.opp.ok:=by
 unfold Dy.opp
 split
 ·exact Dy.ok_zero
 next h0 =>
 rcases h with h | h
 ·exact absurd h.1 h0
 exact .inr h
set_option maxRecDepth 100000 in
set_option maxHeartbeats 8000000 in
theorem r2cmp_rok (x y:RD) (w:World) (hx:x.ok w) (hy:y.ok w) :
   Calls Tryz.prog 166 #[.agg #[.bool x.neg,.slice x.a x.xs.length x.c,.int .i64 x.e],.agg #[.bool y.neg,.slice y.a y.xs.length y.c,.int .i64 y.e]] w fun e w'=>e=.returned (.int .i64 (cmpZ x.iv y.iv))∧Kp w w':=by
 have hs1:=sgn_range x.dy
 have hs2:=sgn_range y.dy
 go_enter Tryz.func166,Tryz.ntmps166
 go_wp2_with fail
 generalize hW:((w.alloc _).alloc _)=W at *
 have hk:Kp w W:=hW▸((Kp.refl w).alloc _).alloc _
 have hS:W.cell? ⟨w.heap.size,0,none⟩=some (.bool x.neg)∧W.cell? ⟨w.heap.size,1,none⟩=some (.slice x.a x.xs.length x.c)∧W.cell? ⟨w.heap.size,2,none⟩=some (.int .i64 x.e)∧W.cell? ⟨w.heap.size+1,0,none⟩=some (.bool y.neg)∧W.cell? ⟨w.heap.size+1,1,none⟩=some (.slice y.a y.xs.length y.c)∧W.cell? ⟨w.heap.size+1,2,none⟩=some (.int .i64 y.e):=by rw[← hW];exact keep6 (Kp.refl _) (by simp)
 clear hW
 have kd:=(Kp.refl W).drew
 have hSd:=keepRR kd hS
 have hkd:=hk.trans kd
 have Ox:=hid ((hx.kp hk).kp kd)
 have Oy:=hid ((hy.kp hk).kp kd)
 clear hS hk
 go_region_held3 (fun w'=>w'.cell? ⟨w.heap.size,0,none⟩=some (.bool x.neg)∧w'.cell? ⟨w.heap.size,1,none⟩=some (.slice x.a x.xs.length x.c)∧w'.cell? ⟨w.heap.size,2,none⟩=some (.int .i64 x.e)∧w'.cell? ⟨w.heap.size+1,0,none⟩=some (.bool y.neg)∧w'.cell? ⟨w.heap.size+1,1,none⟩=some (.slice y.a y.xs.length y.c)∧w'.cell? ⟨w.heap.size+1,2,none⟩=some (.int .i64 y.e)) (first | with_reducible assumption | with_reducible exact keepRR (by assumption) (by assumption))
   (first
     | (go_at_call 204;go_fit (r2sign_rok x _ Ox.out);rintro e w4 ⟨rfl,hk4⟩)
     | (go_at_call 204;go_fit (r2sign_rok y _ (Oy.out.kp hk4));rintro e w5 ⟨rfl,hk5⟩)
     | fail)
 have hk6:=(hkd.trans hk4).trans hk5
 have hS6:=keepRR hk5 (keepRR hk4 hSd)
 have Ox6:=hid ((Ox.out.kp hk4).kp hk5)
 have Oy6:=hid ((Oy.out.kp hk4).kp hk5)
 clear hSd Ox Oy hk4 hk5 hkd kd
 rcases Int.lt_trichotomy (sgn x.dy) (sgn y.dy) with ht | ht | ht
 · have H:=hid (show cmpZ x.iv y.iv=-1 from cmp_sgn_lt ht)
   have b1:(sgn x.dy==sgn y.dy)=false:=beq_eq_false_iff_ne.2 (by omega)
   have b2:(sgn x.dy != sgn y.dy)=true:=by rw[bne,b1];rfl
   clear hS6
   go_wp2_with fail
   go_ret
   exact⟨ret_int H.out.symm,hk6⟩
 · by_cases h0:sgn x.dy=0
   · have H:=hid (show cmpZ x.iv y.iv=0 from cmp_sgn_zero ht h0)
     have b1:(sgn x.dy==sgn y.dy)=true:=beq_iff_eq.2 ht
     have b2:(sgn x.dy != sgn y.dy)=false:=by rw[bne,b1];rfl
     have b3:(sgn x.dy==0)=true:=beq_iff_eq.2 h0
     clear ht h0 hS6
     go_wp2_with fail
     go_ret
     exact⟨ret_int H.out.symm,hk6⟩
   have hm:x.dy.m≠0:=fun h1=>h0 (by unfold sgn;rw[if_pos h1])
   have hg:y.dy.m≠0:=fun h1=>h0 (by rw[ht];unfold sgn;rw[if_pos h1])
   have b1:(sgn x.dy==sgn y.dy)=true:=beq_iff_eq.2 ht
   have b2:(sgn x.dy != sgn y.dy)=false:=by rw[bne,b1];rfl
   have b3:(sgn x.dy==0)=false:=beq_eq_false_iff_ne.2 h0
   have HT:=hid (fun h=>cmp_tops (rdok_dy Ox6.out) (rdok_dy Oy6.out) ht h0 h)
   clear ht h0
   have kd:=(Kp.refl w5).drew
   have hSd:=keepRR kd hS6
   have hkd:=hk6.trans kd
   have Ox7:=hid (Ox6.out.kp kd)
   have Oy7:=hid (Oy6.out.kp kd)
   clear hS6 hk6 Ox6 Oy6 kd
   go_wp2_with fail
   go_region_held3 (fun w'=>w'.cell? ⟨w.heap.size,0,none⟩=some (.bool x.neg)∧w'.cell? ⟨w.heap.size,1,none⟩=some (.slice x.a x.xs.length x.c)∧w'.cell? ⟨w.heap.size,2,none⟩=some (.int .i64 x.e)∧w'.cell? ⟨w.heap.size+1,0,none⟩=some (.bool y.neg)∧w'.cell? ⟨w.heap.size+1,1,none⟩=some (.slice y.a y.xs.length y.c)∧w'.cell? ⟨w.heap.size+1,2,none⟩=some (.int .i64 y.e)) (first | with_reducible assumption | with_reducible exact keepRR (by assumption) (by assumption))
     (first
       | (go_at_call 205;go_fit (r2top_rok x _ Ox7.out hm);rintro e wa ⟨rfl,ja⟩)
       | (go_at_call 205;go_fit (r2top_rok y _ (Oy7.out.kp ja) hg);rintro e wb ⟨rfl,jb⟩)
       | fail)
   have hk8:=(hkd.trans ja).trans jb
   have hS8:=keepRR jb (keepRR ja hSd)
   have Ox8:=hid ((Ox7.out.kp ja).kp jb)
   have Oy8:=hid ((Oy7.out.kp ja).kp jb)
   clear hSd hkd Ox7 Oy7 ja jb
   by_cases htt:topI x.dy=topI y.dy
   · have c1:(topI x.dy==topI y.dy)=true:=beq_iff_eq.2 htt
     have c2:(topI x.dy != topI y.dy)=false:=by rw[bne,c1];rfl
     clear htt HT hm hg
     have kd:=(Kp.refl wb).drew
     have hSd:=keepRR kd hS8
     have hkd:=hk8.trans kd
     have Ox9:=hid (Ox8.out.kp kd)
     have Oy9:=hid (Oy8.out.kp kd)
     have HS:=hid (sgn_diff x.dy y.dy)
     clear hS8 hk8 Ox8 Oy8 kd
     go_wp2_with fail
     go_region_held3 (fun w'=>w'.cell? ⟨w.heap.size,0,none⟩=some (.bool x.neg)∧w'.cell? ⟨w.heap.size,1,none⟩=some (.slice x.a x.xs.length x.c)∧w'.cell? ⟨w.heap.size,2,none⟩=some (.int .i64 x.e)∧w'.cell? ⟨w.heap.size+1,0,none⟩=some (.bool y.neg)∧w'.cell? ⟨w.heap.size+1,1,none⟩=some (.slice y.a y.xs.length y.c)∧w'.cell? ⟨w.heap.size+1,2,none⟩=some (.int .i64 y.e)) (first | with_reducible assumption | with_reducible exact keepRR (by assumption) (by assumption))
       (first
         | (go_at_call 207; go_fit (r2Neg_ok y _ Oy9.out); rintro e wd ⟨n, rfl, rn, dn, vn, ja⟩
            have On:=hid (show n.ok wd from ⟨rn,vn (Dy.opp_ok' (rdok_dy Oy9.out))⟩)
            have DN:=hid dn
            clear rn dn vn)
         | (go_at_call 206;go_fit (r2sumDy x n _ (Ox9.out.kp ja) On.out);rintro e we ⟨a9,c9,rfl,_,_,_,jb⟩)
         | (go_at_call 204;go_fit (r2sign_dy (sumD x.dy n.dy) a9 c9 _);rintro e wf ⟨rfl,jc⟩)
         | fail)
     go_wp2_with fail
     go_ret
     exact⟨ret_int (by rw[DN.out];exact HS.out),((hkd.trans ja).trans jb).trans jc⟩
   have c1:(topI x.dy==topI y.dy)=false:=beq_eq_false_iff_ne.2 htt
   have c2:(topI x.dy != topI y.dy)=true:=by rw[bne,c1];rfl
   have HT2:=hid (HT.out htt)
   clear htt HT
   have kd:=(Kp.refl wb).drew
   have hSd:=keepRR kd hS8
   have hkd:=hk8.trans kd
   have Ox9:=hid (Ox8.out.kp kd)
   have Oy9:=hid (Oy8.out.kp kd)
   clear hS8 hk8 Ox8 Oy8 kd
   go_wp2_with fail
   go_region_held3 (fun w'=>w'.cell? ⟨w.heap.size,0,none⟩=some (.bool x.neg)∧w'.cell? ⟨w.heap.size,1,none⟩=some (.slice x.a x.xs.length x.c)∧w'.cell? ⟨w.heap.size,2,none⟩=some (.int .i64 x.e)∧w'.cell? ⟨w.heap.size+1,0,none⟩=some (.bool y.neg)∧w'.cell? ⟨w.heap.size+1,1,none⟩=some (.slice y.a y.xs.length y.c)∧w'.cell? ⟨w.heap.size+1,2,none⟩=some (.int .i64 y.e)) (first | with_reducible assumption | with_reducible exact keepRR (by assumption) (by assumption))
     (first
       | (go_at_call 205;go_fit (r2top_rok x _ Ox9.out hm);rintro e wd ⟨rfl,ja⟩)
       | (go_at_call 205;go_fit (r2top_rok y _ (Oy9.out.kp ja) hg);rintro e we ⟨rfl,jb⟩)
       | fail)
   have hk10:=(hkd.trans ja).trans jb
   clear hSd Ox9 Oy9 hm hg
   cases hB:(decide (topI x.dy<topI y.dy)==decide (0<sgn x.dy)) with
   | false =>
     have H:=hid (show cmpZ x.iv y.iv=1 from by rw[show cmpZ x.iv y.iv=cmpZ x.dy.iv y.dy.iv from rfl,HT2.out,hB];rfl)
     go_wp2_with fail
     go_ret
     exact⟨ret_int H.out.symm,hk10⟩
   | true =>
   have H:=hid (show cmpZ x.iv y.iv=-1 from by rw[show cmpZ x.iv y.iv=cmpZ x.dy.iv y.dy.iv from rfl,HT2.out,if_pos hB])
   go_wp2_with fail
   go_ret
   exact⟨ret_int H.out.symm,hk10⟩
 have H:=hid (show cmpZ x.iv y.iv=1 from cmp_sgn_gt ht)
 have b0:¬ sgn x.dy<sgn y.dy:=by omega
 have b1:(sgn x.dy==sgn y.dy)=false:=beq_eq_false_iff_ne.2 (by omega)
 have b2:(sgn x.dy != sgn y.dy)=true:=by rw[bne,b1];rfl
 clear hS6
 go_wp2_with fail
 go_ret
 exact⟨ret_int H.out.symm,hk6⟩
theorem r2Valid_raw (x:RD) (w:World) (h:x.rd w) :
  Calls Tryz.prog 165 #[.agg #[.bool x.neg,.slice x.a x.xs.length x.c,.int .i64 x.e]] w fun e w'=>e=.returned (.bool x.vl)∧Kp w w' :=
 r2Valid_any x.neg x.a x.xs x.c x.e w h.1 h.2.2.2.1 h.2.2.2.2
theorem r2cmp_raw (x y:RD) (w:World) (hx:x.rd w) (hy:y.rd w) (vx:x.vl=true) (vy:y.vl=true) :
  Calls Tryz.prog 166 #[.agg #[.bool x.neg,.slice x.a x.xs.length x.c,.int .i64 x.e],.agg #[.bool y.neg,.slice y.a y.xs.length y.c,.int .i64 y.e]] w fun e w'=>e=.returned (.int .i64 (cmpZ x.iv y.iv))∧Kp w w':=r2cmp_rok x y w ⟨hx,vx⟩ ⟨hy,vy⟩
set_option maxHeartbeats 2000000 in
theorem r5zero_raw (x:RD) (w:World) :
  Calls Tryz.prog 164 #[.agg #[.bool x.neg,.slice x.a x.xs.length x.c,.int .i64 x.e]] w fun e w'=>e=.returned (.bool x.zr)∧Kp w w':=by
 have H:=hid (show x.zr=(!x.neg&&(decide (x.xs.length=0)&&decide (x.e=0))) from rfl)
 go_enter Tryz.func164,Tryz.ntmps164
 cases hn:x.neg with
 | true =>
  rw[hn] at H
  clear hn
  go_wp2_with fail
  go_ret
  exact⟨ret_bool H.out.symm,((Kp.refl w).alloc _)⟩
 | false =>
 rw[hn] at H
 clear hn
 by_cases h0:x.xs.length=0
 ·have hz:((x.xs.length:Int)==0)=true:=beq_iff_eq.2 (by omega)
  rw[decide_eq_true h0] at H
  clear h0
  go_wp2_with fail
  go_ret
  exact⟨ret_bool (by rw[H.out];exact Bool.eq_iff_iff.2 (by simp)),((Kp.refl w).alloc _)⟩
 have hz:((x.xs.length:Int)==0)=false:=beq_eq_false_iff_ne.2 (by omega)
 rw[decide_eq_false h0] at H
 clear h0
 go_wp2_with fail
 go_ret
 exact⟨ret_bool (by rw[H.out];simp),((Kp.refl w).alloc _)⟩
set_option maxHeartbeats 4000000 in
theorem r5Valid_raw (x:RI) (w:World) (h:x.rd w) :
  Calls Tryz.prog 117 #[.agg #[.bool x.lo.neg,.slice x.lo.a x.lo.xs.length x.lo.c,.int .i64 x.lo.e,.bool x.hi.neg,.slice x.hi.a x.hi.xs.length x.hi.c,.int .i64 x.hi.e,.bool x.all]] w fun e w'=>e=.returned (.bool x.vl)∧Kp w w':=by
 have H:=hid (show x.vl=if x.all then x.lo.zr&&x.hi.zr else x.lo.vl&&(x.hi.vl&&decide (cmpZ x.lo.iv x.hi.iv≤0)) from rfl)
 go_enter Tryz.func117,Tryz.ntmps117
 cases ha:x.all with
 | true =>
  rw[ha] at H
  clear ha
  go_wp2_with fail
  refine (r5zero_raw x.lo _).mono ?_
  rintro e w1 ⟨rfl,hk1⟩
  have hS:=keep7 hk1 (show (w.alloc (.cells #[.bool x.lo.neg,.slice x.lo.a x.lo.xs.length x.lo.c,.int .i64 x.lo.e,.bool x.hi.neg,.slice x.hi.a x.hi.xs.length x.hi.c,.int .i64 x.hi.e,.bool true] 115)).cell? ⟨w.heap.size,0,none⟩=some (.bool x.lo.neg)∧(w.alloc (.cells #[.bool x.lo.neg,.slice x.lo.a x.lo.xs.length x.lo.c,.int .i64 x.lo.e,.bool x.hi.neg,.slice x.hi.a x.hi.xs.length x.hi.c,.int .i64 x.hi.e,.bool true] 115)).cell? ⟨w.heap.size,1,none⟩=some (.slice x.lo.a x.lo.xs.length x.lo.c)∧(w.alloc (.cells #[.bool x.lo.neg,.slice x.lo.a x.lo.xs.length x.lo.c,.int .i64 x.lo.e,.bool x.hi.neg,.slice x.hi.a x.hi.xs.length x.hi.c,.int .i64 x.hi.e,.bool true] 115)).cell? ⟨w.heap.size,2,none⟩=some (.int .i64 x.lo.e)∧(w.alloc (.cells #[.bool x.lo.neg,.slice x.lo.a x.lo.xs.length x.lo.c,.int .i64 x.lo.e,.bool x.hi.neg,.slice x.hi.a x.hi.xs.length x.hi.c,.int .i64 x.hi.e,.bool true] 115)).cell? ⟨w.heap.size,3,none⟩=some (.bool x.hi.neg)∧(w.alloc (.cells #[.bool x.lo.neg,.slice x.lo.a x.lo.xs.length x.lo.c,.int .i64 x.lo.e,.bool x.hi.neg,.slice x.hi.a x.hi.xs.length x.hi.c,.int .i64 x.hi.e,.bool true] 115)).cell? ⟨w.heap.size,4,none⟩=some (.slice x.hi.a x.hi.xs.length x.hi.c)∧(w.alloc (.cells #[.bool x.lo.neg,.slice x.lo.a x.lo.xs.length x.lo.c,.int .i64 x.lo.e,.bool x.hi.neg,.slice x.hi.a x.hi.xs.length x.hi.c,.int .i64 x.hi.e,.bool true] 115)).cell? ⟨w.heap.size,5,none⟩=some (.int .i64 x.hi.e)∧(w.alloc (.cells #[.bool x.lo.neg,.slice x.lo.a x.lo.xs.length x.lo.c,.int .i64 x.lo.e,.bool x.hi.neg,.slice x.hi.a x.hi.xs.length x.hi.c,.int .i64 x.hi.e,.bool true] 115)).cell? ⟨w.heap.size,6,none⟩=some (.bool true) by simp)
  have hk2:=((Kp.refl w).alloc _).trans hk1
  clear hk1
  cases hz:x.lo.zr with
  | false =>
   rw[hz] at H
   clear hz
   go_wp2_with fail
   go_ret
   exact⟨ret_bool H.out.symm,hk2⟩
  | true =>
  rw[hz] at H
  clear hz
  go_wp2_with fail
  refine (r5zero_raw x.hi _).mono ?_
  rintro e w3 ⟨rfl,hk3⟩
  go_wp2_with fail
  go_ret
  exact⟨ret_bool (by rw[H.out];simp),hk2.trans hk3⟩
 | false =>
 rw[ha] at H
 clear ha
 go_wp2_with fail
 have hk0:=((Kp.refl w).alloc (.cells #[.bool x.lo.neg,.slice x.lo.a x.lo.xs.length x.lo.c,.int .i64 x.lo.e,.bool x.hi.neg,.slice x.hi.a x.hi.xs.length x.hi.c,.int .i64 x.hi.e,.bool false] 115))
 refine (r2Valid_raw x.lo _ (h.1.kp hk0)).mono ?_
 rintro e w1 ⟨rfl,hk1⟩
 have hS:=keep7 hk1 (show (w.alloc (.cells #[.bool x.lo.neg,.slice x.lo.a x.lo.xs.length x.lo.c,.int .i64 x.lo.e,.bool x.hi.neg,.slice x.hi.a x.hi.xs.length x.hi.c,.int .i64 x.hi.e,.bool false] 115)).cell? ⟨w.heap.size,0,none⟩=some (.bool x.lo.neg)∧(w.alloc (.cells #[.bool x.lo.neg,.slice x.lo.a x.lo.xs.length x.lo.c,.int .i64 x.lo.e,.bool x.hi.neg,.slice x.hi.a x.hi.xs.length x.hi.c,.int .i64 x.hi.e,.bool false] 115)).cell? ⟨w.heap.size,1,none⟩=some (.slice x.lo.a x.lo.xs.length x.lo.c)∧(w.alloc (.cells #[.bool x.lo.neg,.slice x.lo.a x.lo.xs.length x.lo.c,.int .i64 x.lo.e,.bool x.hi.neg,.slice x.hi.a x.hi.xs.length x.hi.c,.int .i64 x.hi.e,.bool false] 115)).cell? ⟨w.heap.size,2,none⟩=some (.int .i64 x.lo.e)∧(w.alloc (.cells #[.bool x.lo.neg,.slice x.lo.a x.lo.xs.length x.lo.c,.int .i64 x.lo.e,.bool x.hi.neg,.slice x.hi.a x.hi.xs.length x.hi.c,.int .i64 x.hi.e,.bool false] 115)).cell? ⟨w.heap.size,3,none⟩=some (.bool x.hi.neg)∧(w.alloc (.cells #[.bool x.lo.neg,.slice x.lo.a x.lo.xs.length x.lo.c,.int .i64 x.lo.e,.bool x.hi.neg,.slice x.hi.a x.hi.xs.length x.hi.c,.int .i64 x.hi.e,.bool false] 115)).cell? ⟨w.heap.size,4,none⟩=some (.slice x.hi.a x.hi.xs.length x.hi.c)∧(w.alloc (.cells #[.bool x.lo.neg,.slice x.lo.a x.lo.xs.length x.lo.c,.int .i64 x.lo.e,.bool x.hi.neg,.slice x.hi.a x.hi.xs.length x.hi.c,.int .i64 x.hi.e,.bool false] 115)).cell? ⟨w.heap.size,5,none⟩=some (.int .i64 x.hi.e)∧(w.alloc (.cells #[.bool x.lo.neg,.slice x.lo.a x.lo.xs.length x.lo.c,.int .i64 x.lo.e,.bool x.hi.neg,.slice x.hi.a x.hi.xs.length x.hi.c,.int .i64 x.hi.e,.bool false] 115)).cell? ⟨w.heap.size,6,none⟩=some (.bool false) by simp)
 have hk2:=hk0.trans hk1
 clear hk0 hk1
 cases hz:x.lo.vl with
 | false =>
  rw[hz] at H
  clear hz
  go_wp2_with fail
  go_ret
  exact⟨ret_bool H.out.symm,hk2⟩
 | true =>
 rw[hz] at H
 have Hz:=hid hz
 clear hz
 go_wp2_with fail
 refine (r2Valid_raw x.hi _ (h.2.kp hk2)).mono ?_
 rintro e w3 ⟨rfl,hk3⟩
 have hS2:=keep7 hk3 hS
 have hk4:=hk2.trans hk3
 clear hk2 hk3 hS
 cases hy:x.hi.vl with
 | false =>
  rw[hy] at H
  clear hy
  go_wp2_with fail
  go_ret
  exact⟨ret_bool H.out.symm,hk4⟩
 | true =>
 rw[hy] at H
 have Hy:=hid hy
 clear hy
 go_wp2_with fail
 refine (r2cmp_raw x.lo x.hi _ (h.1.kp hk4) (h.2.kp hk4) Hz.out Hy.out).mono ?_
 rintro e w5 ⟨rfl,hk5⟩
 go_wp2_with fail
 go_ret
 exact⟨ret_bool H.out.symm,hk4.trans hk5⟩
def RowN (w:World) (a:Option Addr) (m:List (List RD)):Prop :=
 ∀ i r,m[i]? = some r→∃ b o ra rc,a=some ⟨b,o,none⟩∧w.cell? ⟨b,o+i,none⟩=some (.slice ra r.length rc)∧RowD w ra r∧r.length≤1100000
theorem RowN.kp {w w':World} {a:Option Addr} {m:List (List RD)} (h:RowN w a m) (k:Kp w w'):RowN w' a m:=by
 intro i r hi
 obtain⟨b,o,ra,rc,h1,h2,h3,h4⟩:=h i r hi
 exact⟨b,o,ra,rc,h1,k.cell h2,h3.kp k,h4⟩
def RowT (w:World) (a:Option Addr) (m:List (List (List RI))):Prop :=
 ∀ i r,m[i]? = some r→∃ b o ra rc,a=some ⟨b,o,none⟩∧w.cell? ⟨b,o+i,none⟩=some (.slice ra r.length rc)∧RowM w ra r∧r.length≤1100000
theorem RowT.kp {w w':World} {a:Option Addr} {m:List (List (List RI))} (h:RowT w a m) (k:Kp w w'):RowT w' a m:=by
 intro i r hi
 obtain⟨b,o,ra,rc,h1,h2,h3,h4⟩:=h i r hi
 exact⟨b,o,ra,rc,h1,k.cell h2,h3.kp k,h4⟩
end Go.Proofs.YteidgoldnllabaaGreatDoor
