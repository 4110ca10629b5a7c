/-
  Walks: round.add.
-/
import Derived.Test.YtbhmhfnfceakoaaGreatDoorMRoSum
import Derived.Test.YtbhmhfnfceakoaaGreatDoorMAwk3
import Derived.Test.YtbhmhfnfceakoaaGreatDoorMSig
import Derived.Test.YtbhmhfnfceakoaaGreatDoorMSumG
import Derived.Deep.DeepFit
import Derived.Test.YtbhmhfnfceakoaaGreatDoorMOpen
namespace Go.Proofs.YtbhmhfnfceakoaaGreatDoor
open Go.RowKit
open Lib (hid)
def addB (x y:RD) (p:Int) (up:Bool):Dy×Int :=
 if fltB p [x,y]=0 then rndE (rnd 0 (x.iv+y.iv) p.toNat up) else (.zero,fltB p [x,y])
set_option maxRecDepth 100000 in
set_option maxHeartbeats 16000000 in
theorem add_rd (x y:RD) (p:Int) (up:Bool) (w:World) (hx:x.rd w) (hy:y.rd w) (hT:Tab w) :
  Calls Tryz.prog 190 #[.agg #[.bool x.neg,.slice x.a x.xs.length x.c,.int .i64 x.e],.agg #[.bool y.neg,.slice y.a y.xs.length y.c,.int .i64 y.e],.int .i64 p,.bool up] w (NumE w (addB x y p up).1 (addB x y p up).2):=by
 obtain⟨D,hD⟩:∃ D,D=addB x y p up:=⟨_,rfl⟩
 have HD:=hid hD
 rw[← hD]
 clear hD
 go_enter Tryz.func190,Tryz.ntmps190
 go_wp2_with fail
 generalize hW:(((w.alloc _).alloc _).alloc _)=W at *
 have hk:Kp w W:=hW▸(((Kp.refl w).alloc _).alloc _).alloc _
 have hS:W.cell? ⟨w.heap.size,0,none⟩=some (.bool x.neg)∧W.cell? ⟨w.heap.size,1,none⟩=some (.slice x.a x.xs.length x.c)∧W.cell? ⟨w.heap.size,2,none⟩=some (.int .i64 x.e)∧W.cell? ⟨w.heap.size+1,0,none⟩=some (.bool y.neg)∧W.cell? ⟨w.heap.size+1,1,none⟩=some (.slice y.a y.xs.length y.c)∧W.cell? ⟨w.heap.size+1,2,none⟩=some (.int .i64 y.e):=by rw[← hW];exact keep6 ((Kp.refl _).alloc _) (by simp)
 have hB:Box3 W (w.heap.size+2) (.bool false) (.slice none 0 0) (.int .i64 0):=hW▸Box3.new3 _ _ _ _ _ _ _
 have hsz:W.heap.size=w.heap.size+1+1+1:=by rw[← hW];simp
 have hBX:Box3 W w.heap.size (.bool x.neg) (.slice x.a x.xs.length x.c) (.int .i64 x.e):=hW▸((Box3.new w _ _ _ _).kp ((Kp.refl _).alloc _)).kp ((Kp.refl _).alloc _)
 have hBY:Box3 W (w.heap.size+1) (.bool y.neg) (.slice y.a y.xs.length y.c) (.int .i64 y.e):=hW▸(Box3.new2 _ _ _ _ _ _).kp ((Kp.refl _).alloc _)
 clear hW
 have hka:=(Kp.refl W).alloc (.cells #[.bool x.neg,.slice x.a x.xs.length x.c,.int .i64 x.e,.bool y.neg,.slice y.a y.xs.length y.c,.int .i64 y.e] 38)
 have hRw:=rowD_two W x y (hx.kp hk) (hy.kp hk) 38
 rw[hsz] at hRw
 clear hsz
 refine (fault_any p _ [x,y] 2 _ hRw (by simp)).mono ?_
 rintro e w1 ⟨rfl,hk1⟩
 have hS1:=keepRR (hka.trans hk1) hS
 have hB1:=hB.kp (hka.trans hk1)
 have hBX1:=hBX.kp (hka.trans hk1)
 have hBY1:=hBY.kp (hka.trans hk1)
 have hk2:=hk.trans (hka.trans hk1)
 clear hS hB hk hk1 hka hRw hBX hBY
 by_cases h0:fltB p [x,y]=0
 rotate_left
 ·have hz:(fltB p [x,y]==0)=false:=beq_eq_false_iff_ne.2 h0
  have hz2:(fltB p [x,y] != 0)=true:=by rw[bne,hz];rfl
  have HD2:=hid (show D=(.zero,fltB p [x,y]) by rw[HD.out];unfold addB;rw[if_neg h0])
  clear h0 hS1
  obtain⟨q0,q1,q2,f0,f1,f2⟩:=hB1
  go_wp2_with fail
  have hst:=stored q0 q1 q2 nofun nofun nofun (.bool false) (.slice none 0 0) (.int .i64 0)
  generalize (((w1.setCell _ _).setCell _ _).setCell _ _)=W9 at hst ⊢
  obtain⟨s0,s1,s2,_,s4,s5,_,_⟩:=hst
  refine bodyPost_ret (v:=.tuple #[.agg #[.bool false,.slice none 0 0,.int .i64 0],.int .i64 (fltB p [x,y])]) (by simp[results,Tryz.results190,go_sem,s0,s1,s2]) rfl ?_
  rw[HD2.out]
  exact numE_zero rfl (s5 _ hk2 (by omega))
 obtain⟨hv,hp0,hp1⟩:=fltB_zero.1 h0
 obtain⟨q,rfl⟩:=Int.eq_ofNat_of_zero_le (show 0≤p by omega)
 have hxo:x.ok w1:=⟨hx.kp hk2,by simpa using (List.all_eq_true.1 hv) x (by simp)⟩
 have hyo:y.ok w1:=⟨hy.kp hk2,by simpa using (List.all_eq_true.1 hv) y (by simp)⟩
 have HD2:=hid (show D=rndE (rnd 0 (x.iv+y.iv) q up) by rw[HD.out];unfold addB;rw[if_pos h0];rfl)
 rw[h0]
 clear h0 hv
 have hT1:=hT.kp hk2
 by_cases hx0:x.xs.length=0
 ·have hz:((x.xs.length:Int)==0)=true:=beq_iff_eq.2 (by omega)
  have HD3:=hid (show D=rndB y (q:Int) up by
   rw[HD2.out,rndB_rnd hyo hp0 hp1]
   have:x.iv=0:=Dy.iv_eq_zero.2 ((rdok_zero hxo).1 hx0)
   rw[this,Int.zero_add];rfl)
  obtain⟨s0,s1,s2,t0,t1,t2⟩:=hS1
  clear hx0 hBX1 hBY1
  go_wp2_with fail
  refine (Round_any y (q:Int) up _ hyo.1 hT1).mono ?_
  rintro e w9 ⟨z,rfl,hzr,hzd,hzv,hk9⟩
  obtain⟨q0,q1,q2,f0,f1,f2⟩:=hB1.kp hk9
  have hkk:=hk2.trans hk9
  clear s0 s1 s2 t0 t1 t2
  have hst:=stored q0 q1 q2 nofun nofun nofun (.bool z.neg) (.slice z.a z.xs.length z.c) (.int .i64 z.e)
  go_wp2_with fail
  generalize (((w9.setCell _ _).setCell _ _).setCell _ _)=W2 at hst ⊢
  obtain⟨s0,s1,s2,_,s4,s5,_,_⟩:=hst
  refine bodyPost_ret (v:=.tuple #[.agg #[.bool z.neg,.slice z.a z.xs.length z.c,.int .i64 z.e],.int .i64 (rndB y (q:Int) up).2]) (by simp[results,Tryz.results190,go_sem,s0,s1,s2]) rfl ?_
  rw[HD3.out]
  exact⟨z,rfl,⟨s4 _ _ hzr.1,hzr.2⟩,hzd,hzv,s5 _ hkk (by omega)⟩
 have hz:((x.xs.length:Int)==0)=false:=beq_eq_false_iff_ne.2 (by omega)
 have hxm:=hid (show x.dy.m≠0 from fun h=>hx0 ((rdok_zero hxo).2 h))
 clear hx0
 by_cases hy0:y.xs.length=0
 ·have hz2:((y.xs.length:Int)==0)=true:=beq_iff_eq.2 (by omega)
  have HD3:=hid (show D=rndB x (q:Int) up by
   rw[HD2.out,rndB_rnd hxo hp0 hp1]
   have:y.iv=0:=Dy.iv_eq_zero.2 ((rdok_zero hyo).1 hy0)
   rw[this,Int.add_zero];rfl)
  obtain⟨s0,s1,s2,t0,t1,t2⟩:=hS1
  clear hy0 hBX1 hBY1
  go_wp2_with fail
  refine (Round_any x (q:Int) up _ hxo.1 hT1).mono ?_
  rintro e w9 ⟨z,rfl,hzr,hzd,hzv,hk9⟩
  obtain⟨q0,q1,q2,f0,f1,f2⟩:=hB1.kp hk9
  have hkk:=hk2.trans hk9
  clear s0 s1 s2 t0 t1 t2
  have hst:=stored q0 q1 q2 nofun nofun nofun (.bool z.neg) (.slice z.a z.xs.length z.c) (.int .i64 z.e)
  go_wp2_with fail
  generalize (((w9.setCell _ _).setCell _ _).setCell _ _)=W2 at hst ⊢
  obtain⟨s0,s1,s2,_,s4,s5,_,_⟩:=hst
  refine bodyPost_ret (v:=.tuple #[.agg #[.bool z.neg,.slice z.a z.xs.length z.c,.int .i64 z.e],.int .i64 (rndB x (q:Int) up).2]) (by simp[results,Tryz.results190,go_sem,s0,s1,s2]) rfl ?_
  rw[HD3.out]
  exact⟨z,rfl,⟨s4 _ _ hzr.1,hzr.2⟩,hzd,hzv,s5 _ hkk (by omega)⟩
 have hz2:((y.xs.length:Int)==0)=false:=beq_eq_false_iff_ne.2 (by omega)
 have hym:=hid (show y.dy.m≠0 from fun h=>hy0 ((rdok_zero hyo).2 h))
 clear hy0
 obtain⟨s0,s1,s2,t0,t1,t2⟩:=id hS1
 go_wp2_with fail
 clear s0 s1 s2 t0 t1 t2
 have hx2:=hxo.drew
 have hy2:=hyo.drew
 have hT2:=hT1.kp (Kp.refl w1).drew
 have hS2:=keepRR (Kp.refl w1).drew hS1
 have hB2:=hB1.kp (Kp.refl w1).drew
 have hBX2:=hBX1.kp (Kp.refl w1).drew
 have hBY2:=hBY1.kp (Kp.refl w1).drew
 have hk3:=hk2.drew
 have RX:=hid hx2
 have RY:=hid hy2
 clear hxo hyo hT1 hS1 hB1 hBX1 hBY1 hk2
 go_region_held3 (fun w'=>w'.cell? ⟨w.heap.size,0,none⟩=some (.bool x.neg)∧w'.cell? ⟨w.heap.size,1,none⟩=some (.slice x.a x.xs.length x.c)∧w'.cell? ⟨w.heap.size,2,none⟩=some (.int .i64 x.e)∧w'.cell? ⟨w.heap.size+1,0,none⟩=some (.bool y.neg)∧w'.cell? ⟨w.heap.size+1,1,none⟩=some (.slice y.a y.xs.length y.c)∧w'.cell? ⟨w.heap.size+1,2,none⟩=some (.int .i64 y.e)) (first | with_reducible assumption | with_reducible exact keepRR (by assumption) (by assumption))
  (first
   | (go_at_call 120;(with_reducible refine (Top_rok x _ RX.out).mono ?_);rintro e w4 ⟨rfl,hk5⟩)
   | (go_at_call 120;(with_reducible refine (Top_rok y _ (RY.out.kp hk5)).mono ?_);rintro e w5 ⟨rfl,hk6⟩)
   | fail)
 have hkk:=hk5.trans hk6
 have hx5:=hx2.kp hkk
 have hy5:=hy2.kp hkk
 have hT5:=hT2.kp hkk
 have B1:=hid (hBX2.kp hkk)
 have B2:=hid (hBY2.kp hkk)
 have hB5:=hB2.kp hkk
 have hk7:=hk3.trans hkk
 clear hx2 hy2 hT2 hS2 hB2 hBX2 hBY2 hk3 hk5 hk6 hkk RX RY
 go_upto_if 48 with fail
 go_cut [] from 10 (fun wx=>∃ X Y:RD,(wx.cell? ⟨w.heap.size,0,none⟩=some (.bool X.neg)∧wx.cell? ⟨w.heap.size,1,none⟩=some (.slice X.a X.xs.length X.c)∧wx.cell? ⟨w.heap.size,2,none⟩=some (.int .i64 X.e)∧wx.cell? ⟨w.heap.size+1,0,none⟩=some (.bool Y.neg)∧wx.cell? ⟨w.heap.size+1,1,none⟩=some (.slice Y.a Y.xs.length Y.c)∧wx.cell? ⟨w.heap.size+1,2,none⟩=some (.int .i64 Y.e))∧X.ok wx∧Y.ok wx∧X.dy.m≠0∧Y.dy.m≠0∧topI Y.dy≤topI X.dy∧X.iv+Y.iv=x.iv+y.iv∧Box3 wx (w.heap.size+2) (.bool false) (.slice none 0 0) (.int .i64 0)∧Kp w wx)
 case first =>
  obtain⟨q0,q1,q2,f0,f1,f2⟩:=B1.out
  obtain⟨r0,r1,r2,g0,g1,g2⟩:=B2.out
  by_cases hc:topI x.dy<topI y.dy
  rotate_left
  ·have Hc:=hid hc
   have hE:=hid (And.intro q0 (And.intro q1 (And.intro q2 (And.intro r0 (And.intro r1 r2)))))
   clear q0 q1 q2 f0 f1 f2 r0 r1 r2 g0 g1 g2
   go_wp2_with fail
   go_meet
   case rel=>exact⟨x,y,hE.out,hx5,hy5,hxm.out,hym.out,by have:=Hc.out;omega,rfl,hB5,hk7⟩
  have Hc:=hid hc
  have hst:=hid (stored q0 q1 q2 nofun nofun nofun (.bool y.neg) (.slice y.a y.xs.length y.c) (.int .i64 y.e))
  have Hst2:=hid (fun (W:World) z0 z1 z2=>stored (w:=W) (g:=w.heap.size+1) (y0:=.bool y.neg) (y1:=.slice y.a y.xs.length y.c) (y2:=.int .i64 y.e) z0 z1 z2 nofun nofun nofun (.bool x.neg) (.slice x.a x.xs.length x.c) (.int .i64 x.e))
  have Hr:=hid (And.intro r0 (And.intro r1 r2))
  go_wp2_with fail
  go_meet
  case rel =>
  obtain⟨s0,s1,s2,_,s4,s5,s6,_⟩:=hst.out
  obtain⟨r0,r1,r2⟩:=Hr.out
  have ne:w.heap.size+1≠w.heap.size:=by omega
  obtain⟨a0,a1,a2⟩:=set3x ne ⟨r0,r1,r2⟩
  obtain⟨u0,u1,u2,_,u4,u5,u6,_⟩:=Hst2.out _ a0 a1 a2
  obtain⟨c0,c1,c2⟩:=set3x (Ne.symm ne) ⟨s0,s1,s2⟩
  obtain⟨m0,m1,m2,n0,n1,n2⟩:=hB5
  refine⟨y,x,⟨c0,c1,c2,u0,u1,u2⟩,⟨⟨u4 _ _ (s4 _ _ hy5.1.1),hy5.1.2⟩,hy5.2⟩,⟨⟨u4 _ _ (s4 _ _ hx5.1.1),hx5.1.2⟩,hx5.2⟩,hym.out,hxm.out,by have:=Hc.out;omega,Int.add_comm _ _,⟨?_,?_,?_,?_,?_,?_⟩,u5 _ (s5 _ hk7 (by omega)) (by omega)⟩
  ·rw[u6 _ (by simp),s6 _ (by simp)];exact m0
  ·rw[u6 _ (by simp),s6 _ (by simp)];exact m1
  ·rw[u6 _ (by simp),s6 _ (by simp)];exact m2
  ·simp[n0]
  ·simp[n1]
  simp[n2]
 case rest =>
 obtain⟨X,Y,hS8,hX,hY,hXm,hYm,hXY,hsum,hB8,hk8⟩:=hcut
 obtain⟨W8,hW8⟩:∃ W8:World,W8=wc:=⟨_,rfl⟩
 subst hW8
 have hT8:=hT.kp hk8
 obtain⟨s0,s1,s2,t0,t1,t2⟩:=hS8
 have HXm:=hid hXm
 have HYm:=hid hYm
 have HXY:=hid hXY
 have Hsum:=hid hsum
 clear hXm hYm hXY hsum B1 B2 hx5 hy5 hT5 hB5 hk7
 go_wp2_with fail
 refine (sumS_any X Y q _ hX hY HXm.out HYm.out HXY.out (by omega) (by omega) hT8).mono ?_
 rintro e w9 ⟨a9,c9,M,l,lost,T,rfl,l9,m9,r9,hML,hl0,hl1,k9,hz0,hz1⟩
 have Hz0:=hid hz0
 have Hz1:=hid hz1
 clear hz0 hz1
 have ka:=(Kp.refl w9).alloc (.cells #[.slice a9 (limbs M).length c9,.int .i64 l,.bool lost] 158)
 by_cases hM:(limbs M).length=0
 rotate_left
 ·have hMz:(((limbs M).length:Int)==0)=false:=beq_eq_false_iff_ne.2 (by omega)
  have HNZ:=hid (show ¬ (M=0∧lost=false) from fun h=>hM (by rw[h.1,limbs_zero];rfl))
  clear hM
  have Hsg:=signed_any (X.neg != T) a9 (limbs M) c9 l lost q up _ (r9.kp ka) hML l9 m9 hl0 hl1 (by omega) (by omega) ((hT8.kp k9).kp ka)
  rw[val_limbs,Hz1.out HNZ.out up,Hsum.out] at Hsg
  have Hsg2:=hid Hsg
  have hB10:=(hB8.kp k9).kp ka
  have hk10:=(hk8.trans k9).trans ka
  have v0:=(k9.trans ka).cell s0
  clear Hsg s0 s1 s2 t0 t1 t2 hT8 hB8 hk8 HD
  go_wp2_with fail
  refine Hsg2.out.mono ?_
  rintro e w11 ⟨z,rfl,hzr,hzd,hzv,hk11⟩
  obtain⟨q0,q1,q2,f0,f1,f2⟩:=hB10.kp hk11
  have hkk:=hk10.trans hk11
  clear hB10 hk10 hk11 v0 Hsg2
  have hst:=stored q0 q1 q2 nofun nofun nofun (.bool z.neg) (.slice z.a z.xs.length z.c) (.int .i64 z.e)
  go_wp2_with fail
  generalize (((w11.setCell _ _).setCell _ _).setCell _ _)=W2 at hst ⊢
  obtain⟨s0,s1,s2,_,s4,s5,_,_⟩:=hst
  refine bodyPost_ret (v:=.tuple #[.agg #[.bool z.neg,.slice z.a z.xs.length z.c,.int .i64 z.e],.int .i64 (rndE (rnd 0 (x.iv+y.iv) q up)).2]) (by simp[results,Tryz.results190,go_sem,s0,s1,s2]) rfl ?_
  rw[HD2.out]
  exact⟨z,rfl,⟨s4 _ _ hzr.1,hzr.2⟩,hzd,hzv,s5 _ hkk (by omega)⟩
 have hMz:(((limbs M).length:Int)==0)=true:=beq_iff_eq.2 (by omega)
 have HM0:=hid (show M=0 from limbs_eq_nil.1 (List.length_eq_zero_iff.1 hM))
 clear hM
 cases lost with
 | false =>
  have HS:=hid (Hz0.out ⟨HM0.out,rfl⟩)
  have hB10:=(hB8.kp k9).kp ka
  have hk10:=(hk8.trans k9).trans ka
  obtain⟨q0,q1,q2,f0,f1,f2⟩:=hB10
  clear s0 s1 s2 t0 t1 t2 hT8 hB8 hk8 HD hX hY r9
  go_wp2_with fail
  generalize w9.alloc _=A9 at *
  have hst:=stored q0 q1 q2 nofun nofun nofun (.bool false) (.slice none 0 0) (.int .i64 0)
  generalize (((A9.setCell _ _).setCell _ _).setCell _ _)=W2 at hst ⊢
  obtain⟨s0,s1,s2,_,s4,s5,_,_⟩:=hst
  refine bodyPost_ret (v:=.tuple #[.agg #[.bool false,.slice none 0 0,.int .i64 0],.int .i64 0]) (by simp[results,Tryz.results190,go_sem,s0,s1,s2]) rfl ?_
  rw[HD2.out,← Hsum.out,HS.out,rnd_zero]
  exact numE_zero rfl (s5 _ hk10 (by omega))
 | true =>
 have HNZ:=hid (show ¬ (M=0∧true=false) from fun h=>by cases h.2)
 have Hsg:=signed_any (X.neg != T) a9 (limbs M) c9 l true q up _ (r9.kp ka) hML l9 m9 hl0 hl1 (by omega) (by omega) ((hT8.kp k9).kp ka)
 rw[val_limbs,Hz1.out HNZ.out up,Hsum.out] at Hsg
 have Hsg2:=hid Hsg
 have hB10:=(hB8.kp k9).kp ka
 have hk10:=(hk8.trans k9).trans ka
 have v0:=(k9.trans ka).cell s0
 clear Hsg s0 s1 s2 t0 t1 t2 hT8 hB8 hk8 HD
 go_wp2_with fail
 refine Hsg2.out.mono ?_
 rintro e w11 ⟨z,rfl,hzr,hzd,hzv,hk11⟩
 obtain⟨q0,q1,q2,f0,f1,f2⟩:=hB10.kp hk11
 have hkk:=hk10.trans hk11
 clear hB10 hk10 hk11 v0 Hsg2
 have hst:=stored q0 q1 q2 nofun nofun nofun (.bool z.neg) (.slice z.a z.xs.length z.c) (.int .i64 z.e)
 go_wp2_with fail
 generalize (((w11.setCell _ _).setCell _ _).setCell _ _)=W2 at hst ⊢
 obtain⟨s0,s1,s2,_,s4,s5,_,_⟩:=hst
 refine bodyPost_ret (v:=.tuple #[.agg #[.bool z.neg,.slice z.a z.xs.length z.c,.int .i64 z.e],.int .i64 (rndE (rnd 0 (x.iv+y.iv) q up)).2]) (by simp[results,Tryz.results190,go_sem,s0,s1,s2]) rfl ?_
 rw[HD2.out]
 exact⟨z,rfl,⟨s4 _ _ hzr.1,hzr.2⟩,hzd,hzv,s5 _ hkk (by omega)⟩
theorem chk0 {d:Dy} (h:(chk d).2=0):(chk d).1=d:=by
 unfold chk at h ⊢
 split at h
 ·next h'=>rw[if_pos h']
 next h'=>cases h
section
structure PI where
 lo:Dy
 hi:Dy
 all:Bool
def RI.pl (x:RI):PI:=⟨x.lo.dy,x.hi.dy,x.all⟩
def PI.whole:PI:=⟨.zero,.zero,true⟩
def PI.ok (X:PI):Prop:=if X.all=true then X.lo=.zero∧X.hi=.zero else X.lo.ok∧X.hi.ok∧X.lo.iv≤X.hi.iv
theorem PI.ok_le {X:PI} (h:X.ok):X.lo.iv≤X.hi.iv:=by
 unfold PI.ok at h
 split at h
 ·rw[h.1,h.2];exact Int.le_refl _
 exact h.2.2
theorem RD.zr_parts {x:RD}:x.zr=true↔x.neg=false∧x.xs=[]∧x.e=0:=by
 unfold RD.zr
 simp[List.length_eq_zero_iff]
section
variable {K p q:Nat} {S T:Int} {x y:Dy}
theorem rndK_down (hp:0<p) (hp2:p≤4096) (h:rnd K S p false=some x):isP p x∧x.iv*2 ^ K≤S∧∀ d',isP p d'→d'.iv*2 ^ K≤S→d'.iv≤x.iv:=by
 rcases rnd_down (K:=K) (S:=S) hp hp2 with ⟨h1,_⟩ | ⟨d,h1,h2,h3,h4⟩
 ·rw[h1] at h;cases h
 rw[h1] at h;cases h
 exact⟨h2,h3,h4⟩
theorem rndK_up (hp:0<p) (hp2:p≤4096) (h:rnd K S p true=some x):isP p x∧S≤x.iv*2 ^ K∧∀ d',isP p d'→S≤d'.iv*2 ^ K→x.iv≤d'.iv:=by
 rcases rnd_up (K:=K) (S:=S) hp hp2 with ⟨h1,_⟩ | ⟨d,h1,h2,h3,h4⟩
 ·rw[h1] at h;cases h
 rw[h1] at h;cases h
 exact⟨h2,h3,h4⟩
theorem twoK_pos (K:Nat):(0:Int)<2 ^ K:=by exact_mod_cast two_pow_pos K
theorem rndE_ok (hp:0<p) (hp2:p≤4096) (up:Bool):(rndE (rnd K S p up)).1.ok:=by
 cases h:rnd K S p up with
 | some d=>exact (rnd_isP hp hp2 h).1
 | none=>exact Dy.ok_zero
theorem rndE_between (hp:0<p) (hp2:p≤4096) (hq:0<q) (hq2:q≤4096) (hST:S≤T) (h1:(rndE (rnd K S p false)).2=0) (h2:(rndE (rnd K T q true)).2=0):(rndE (rnd K S p false)).1.iv≤(rndE (rnd K T q true)).1.iv:=by
 have a:=(rndK_down hp hp2 (rndE_some h1)).2.1
 have b:=(rndK_up hq hq2 (rndE_some h2)).2.1
 exact Int.le_of_mul_le_mul_right (Int.le_trans a (Int.le_trans hST b)) (twoK_pos K)
end
def adP (a b:Dy) (p:Nat) (up:Bool):Dy×Int:=rndE (rnd 0 (a.iv+b.iv) p up)
def muP (a b:Dy) (p:Nat) (up:Bool):Dy×Int:=rndE (rnd 16384 (a.iv*b.iv) p up)
theorem adP_ok (a b:Dy) {p:Nat} (hp:8≤p) (hp2:p≤512) (up:Bool):(adP a b p up).1.ok:=rndE_ok (by omega) (by omega) up
theorem muP_ok (a b:Dy) {p:Nat} (hp:8≤p) (hp2:p≤512) (up:Bool):(muP a b p up).1.ok:=rndE_ok (by omega) (by omega) up
theorem addB_dy {w:World} {x y:RD} {p:Nat} (hx:x.ok w) (hy:y.ok w) (h0:8≤p) (h1:p≤512) (up:Bool):addB x y p up=adP x.dy y.dy p up:=by
 unfold addB
 rw[if_pos (fltB_ok (by simp[hx.2,hy.2]) h0 h1)]
 rfl
theorem iv_sg {d:Dy}:d.iv=sg d.neg d.m*2 ^ (d.e+16384).toNat:=by
 unfold Dy.iv sg
 split
 ·rw[Int.neg_mul];push_cast;rfl
 push_cast;rfl
theorem sg_prod (s t:Bool) (m n:Nat):sg s m*sg t n=sg (s != t) (m*n):=by
 unfold sg
 cases s <;> cases t <;> simp[Int.neg_mul,Int.mul_neg]
theorem prod_iv {a b:Dy} (ha:-16384≤a.e) (hb:-16384≤b.e):a.iv*b.iv=sg (a.neg != b.neg) (a.m*b.m)*2 ^ (a.e+b.e+32768).toNat:=by
 rw[iv_sg,iv_sg,← sg_prod,show (a.e+b.e+32768).toNat=(a.e+16384).toNat+(b.e+16384).toNat from by omega,Int.pow_add,Int.mul_assoc,Int.mul_assoc]
 congr 1
 rw[← Int.mul_assoc,Int.mul_comm _ (sg b.neg b.m),Int.mul_assoc]
theorem muP_rndS {a b:Dy} (ha:-16384≤a.e) (hb:-16384≤b.e) (h0:a.m*b.m≠0) (p:Nat) (up:Bool):rndS (a.neg != b.neg) (a.m*b.m) (a.e+b.e) false p up=rnd 16384 (a.iv*b.iv) p up:=by
 rw[rndS_rnde h0,← rnde_rnd,prod_iv ha hb,show (-16384-((16384:Nat):Int))=a.e+b.e-((a.e+b.e+32768).toNat:Nat) from by omega,rnde_shift]
theorem mulB_dy {w:World} {x y:RD} {p:Nat} (hx:x.ok w) (hy:y.ok w) (h0:8≤p) (h1:p≤512) (up:Bool):mulB x y p up=muP x.dy y.dy p up:=by
 unfold mulB
 rw[if_pos (fltB_ok (by simp[hx.2,hy.2]) h0 h1)]
 have zx:=rdok_zero hx
 have zy:=rdok_zero hy
 unfold muP
 by_cases hz:x.xs.length=0∨y.xs.length=0
 ·rw[if_pos hz]
  have:x.dy.iv*y.dy.iv=0:=by
   rcases hz with h | h
   ·rw[Dy.iv_eq_zero.2 (zx.1 h),Int.zero_mul]
   ·rw[Dy.iv_eq_zero.2 (zy.1 h),Int.mul_zero]
  rw[this,rnd_zero];rfl
 rw[if_neg hz]
 have hm:x.dy.m*y.dy.m≠0:=Nat.mul_ne_zero (fun h=>hz (.inl (zx.2 h))) (fun h=>hz (.inr (zy.2 h)))
 have:=muP_rndS (a:=x.dy) (b:=y.dy) (ok_e (rdok_dy hx)).1 (ok_e (rdok_dy hy)).1 hm p up
 rw[← this];rfl
def mkI (l h:Dy×Int):PI:=if l.2≠0∨h.2≠0 then .whole else ⟨l.1,h.1,false⟩
def pAdd (X Y:PI) (p:Nat):PI:=if (X.all||Y.all)=true then .whole else mkI (adP X.lo Y.lo p false) (adP X.hi Y.hi p true)
def fourP (op:Dy→Dy→Bool→Dy×Int):List (Dy×Dy)→Option (Dy×Dy)→PI
 | [],none=>.whole
 | [],some (l,h)=>⟨l,h,false⟩
 | (a,b)::r,acc =>
  if (op a b false).2≠0∨(op a b true).2≠0 then .whole
  else match acc with
   | none=>fourP op r (some ((op a b false).1,(op a b true).1))
   | some (l,h)=>fourP op r (some (if (op a b false).1.iv<l.iv then (op a b false).1 else l,if h.iv<(op a b true).1.iv then (op a b true).1 else h))
def pairsP (X Y:PI):List (Dy×Dy):=[(X.lo,Y.lo),(X.lo,Y.hi),(X.hi,Y.lo),(X.hi,Y.hi)]
def pMul (X Y:PI) (p:Nat):PI:=if (X.all||Y.all)=true then .whole else fourP (fun a b up=>muP a b p up) (pairsP X Y) none
theorem muP_le (a b:Dy) {p:Nat} (hp:8≤p) (hp2:p≤512) (h1:(muP a b p false).2=0) (h2:(muP a b p true).2=0):(muP a b p false).1.iv≤(muP a b p true).1.iv :=
 rndE_between (by omega) (by omega) (by omega) (by omega) (Int.le_refl _) h1 h2
def IvOut (w:World) (X:PI) (e:Ending) (w':World):Prop:=∃ z:RI,e=.returned (.agg #[.bool z.lo.neg,.slice z.lo.a z.lo.xs.length z.lo.c,.int .i64 z.lo.e,.bool z.hi.neg,.slice z.hi.a z.hi.xs.length z.hi.c,.int .i64 z.hi.e,.bool z.all])∧z.rd w'∧z.pl=X∧z.vl=true∧Kp w w'
end
theorem rnd_exact {K p:Nat} {S:Int} {d:Dy} (hp:0<p) (hp2:p≤4096) (hd:isP p d) (h:S=d.iv*2 ^ K) (up:Bool):rnd K S p up=some d:=by
 subst h
 cases up with
 | true =>
  rcases rnd_up (K:=K) (S:=d.iv*2 ^ K) hp hp2 with ⟨_,h2⟩ | ⟨x,h1,h2,h3,h4⟩
  ·exact absurd (Int.le_refl _) (h2 d hd)
  rw[h1]
  have a:=Int.le_of_mul_le_mul_right h3 (twoK_pos K)
  have b:=h4 d hd (Int.le_refl _)
  exact congrArg some (Dy.iv_inj h2.1 hd.1 (Int.le_antisymm b a))
 | false =>
 rcases rnd_down (K:=K) (S:=d.iv*2 ^ K) hp hp2 with ⟨_,h2⟩ | ⟨x,h1,h2,h3,h4⟩
 ·exact absurd (Int.le_refl _) (h2 d hd)
 rw[h1]
 have a:=Int.le_of_mul_le_mul_right h3 (twoK_pos K)
 have b:=h4 d hd (Int.le_refl _)
 exact congrArg some (Dy.iv_inj h2.1 hd.1 (Int.le_antisymm a b))
def intD (n:Int):Dy:=canon (decide (n<0)) n.natAbs 0
theorem intD_iv (n:Int):(intD n).iv=n*2 ^ 16384:=by
 unfold intD
 rw[canon_iv _ _ _ (by omega),show ((0:Int)+16384).toNat=16384 from rfl]
 generalize (16384:Nat)=q
 unfold sg
 by_cases h:n<0
 ·rw[decide_eq_true h,if_pos rfl,Int.natCast_mul,Int.natCast_pow]
  have:((n.natAbs:Nat):Int)=-n:=by omega
  rw[this,Int.neg_mul,Int.neg_neg];rfl
 rw[decide_eq_false h,if_neg (by decide),Int.natCast_mul,Int.natCast_pow]
 have:((n.natAbs:Nat):Int)=n:=by omega
 rw[this];rfl
theorem intD_isP {n:Int} {p:Nat} (hp:0<p) (hp2:p≤4096) (h:n.natAbs<2 ^ p):isP p (intD n):=by
 unfold intD
 by_cases h0:n.natAbs=0
 ·rw[h0,canon_zero];exact isP.zero p
 have hb:bits n.natAbs≤p:=bits_le.2 h
 have hm:(canon (decide (n<0)) n.natAbs 0).m=oddp n.natAbs:=by unfold canon;rw[if_neg h0]
 have ho:=bits_oddp h0
 have ho2:=(oddp_spec h0).1
 refine⟨(canon_ok_iff _ _ _).2 ?_,by rw[hm];omega⟩
 unfold inr canon
 rw[if_neg h0]
 refine .inr ?_
 dsimp only
 omega
theorem muP_int {a b:Int} {p:Nat} (hp:8≤p) (hp2:p≤512) (h:(a*b).natAbs<2 ^ p) (up:Bool):muP (intD a) (intD b) p up=(intD (a*b),0):=by
 unfold muP
 rw[rnd_exact (K:=16384) (by omega) (by omega) (intD_isP (by omega) (by omega) h) _ up]
 ·rfl
 rw[intD_iv,intD_iv,intD_iv]
 generalize (2:Int) ^ 16384=Q
 rw[Int.mul_assoc,Int.mul_left_comm Q b Q,← Int.mul_assoc,← Int.mul_assoc]
theorem adP_int {a b:Int} {p:Nat} (hp:8≤p) (hp2:p≤512) (h:(a+b).natAbs<2 ^ p) (up:Bool):adP (intD a) (intD b) p up=(intD (a+b),0):=by
 unfold adP
 rw[rnd_exact (K:=0) (by omega) (by omega) (intD_isP (by omega) (by omega) h) _ up]
 ·rfl
 rw[intD_iv,intD_iv,intD_iv,Int.pow_zero,Int.mul_one,Int.add_mul]
def pnI (a b:Int):PI:=⟨intD a,intD b,false⟩
theorem pAdd_int {a b c d:Int} {p:Nat} (hp:8≤p) (hp2:p≤512) (h:(a+c).natAbs<2 ^ p) (h2:(b+d).natAbs<2 ^ p):pAdd (pnI a b) (pnI c d) p=pnI (a+c) (b+d):=by
 unfold pAdd pnI mkI
 simp only[Bool.or_self,Bool.false_eq_true,if_false]
 rw[adP_int hp hp2 h,adP_int hp hp2 h2]
 rfl
def wholeR:RI:=⟨rdZero,rdZero,true⟩
theorem wholeR_rd (w:World):wholeR.rd w:=⟨rdZero_rd w,rdZero_rd w⟩
theorem wholeR_vl:wholeR.vl=true:=rfl
def atR (m:List (List RI)) (i j:Nat):RI:=(m.getD i []).getD j wholeR
def atP (m:List (List RI)) (i j:Nat):PI:=(atR m i j).pl
theorem atR_eq {m:List (List RI)} {i j:Nat} {r:List RI} {x:RI} (hr:m[i]? = some r) (hx:r[j]? = some x):atR m i j=x:=by
 unfold atR
 have h1:m.getD i []=r:=by rw[List.getD_eq_getElem?_getD,hr];rfl
 rw[h1,List.getD_eq_getElem?_getD,hx];rfl
theorem atP_eq {m:List (List RI)} {i j:Nat} {r:List RI} {x:RI} (hr:m[i]? = some r) (hx:r[j]? = some x):atP m i j=x.pl:=by unfold atP;rw[atR_eq hr hx]
def colsM (m:List (List RI)):Nat:=(m.headD []).length
def vlM (m:List (List RI)):Bool:=decide (1≤m.length∧m.length≤8)&&(decide (1≤colsM m∧colsM m≤8)&&m.all fun r=>decide (r.length=colsM m)&&r.all RI.vl)
theorem vlM_iff {m:List (List RI)}:vlM m=true↔(1≤m.length∧m.length≤8)∧(1≤colsM m∧colsM m≤8)∧∀ r∈m,r.length=colsM m∧∀ x∈r,x.vl=true:=by
 unfold vlM
 simp only[Bool.and_eq_true,decide_eq_true_eq,List.all_eq_true]
theorem vlM_row {m:List (List RI)} (h:vlM m=true) {i:Nat} {r:List RI} (hi:m[i]? = some r):r.length=colsM m∧∀ x∈r,x.vl=true :=
 (vlM_iff.1 h).2.2 r (List.mem_of_getElem? hi)
theorem vlM_get {m:List (List RI)} (h:vlM m=true) {i j:Nat} (hi:i<m.length) (hj:j<colsM m):∃ r x,m[i]? = some r∧r[j]? = some x∧x.vl=true∧atR m i j=x:=by
 have h1:=vlM_row h (List.getElem?_eq_getElem hi)
 have hj2:j<(m[i]).length:=by omega
 exact⟨_,_,List.getElem?_eq_getElem hi,List.getElem?_eq_getElem hj2,h1.2 _ (List.getElem_mem hj2),atR_eq (List.getElem?_eq_getElem hi) (List.getElem?_eq_getElem hj2)⟩
def plR (r:List RI):List PI:=r.map RI.pl
def plM (m:List (List RI)):List (List PI):=m.map plR
def okM (m:List (List RI)):Prop:=∀ r∈m,∀ x∈r,x.vl=true
def rowF (k:Nat) (F:Nat→PI):List PI:=(List.range k).map F
def tabM (n k:Nat) (F:Nat→Nat→PI):List (List PI):=(List.range n).map fun i=>rowF k (F i)
theorem rowF_snoc (k:Nat) (F:Nat→PI):rowF (k+1) F=rowF k F++[F k]:=by unfold rowF;rw[List.range_succ,List.map_append];rfl
theorem tabM_snoc (n k:Nat) (F:Nat→Nat→PI):tabM (n+1) k F=tabM n k F++[rowF k (F n)]:=by unfold tabM;rw[List.range_succ,List.map_append];rfl
theorem rowF_len (k:Nat) (F:Nat→PI):(rowF k F).length=k:=by unfold rowF;simp
theorem plR_snoc (r:List RI) (x:RI):plR (r++[x])=plR r++[x.pl]:=by unfold plR;rw[List.map_append];rfl
theorem plM_snoc (m:List (List RI)) (r:List RI):plM (m++[r])=plM m++[plR r]:=by unfold plM;rw[List.map_append];rfl
theorem okM_snoc {m:List (List RI)} {r:List RI} (h:okM m) (hr:∀ x∈r,x.vl=true):okM (m++[r]):=by
 intro q hq
 rcases List.mem_append.1 hq with hq | hq
 ·exact h q hq
 simp only[List.mem_singleton] at hq;subst hq;exact hr
theorem ok_snoc {r:List RI} {x:RI} (h:∀ x∈r,x.vl=true) (hx:x.vl=true):∀ y∈r++[x],y.vl=true:=by
 intro y hy
 rcases List.mem_append.1 hy with hy | hy
 ·exact h y hy
 simp only[List.mem_singleton] at hy;subst hy;exact hx
theorem plM_of {m:List (List RI)} (h:vlM m=true):plM m=tabM m.length (colsM m) (atP m):=by
 refine List.ext_getElem (by simp[plM,tabM]) fun i h1 h2=>?_
 have hi:i<m.length:=by simpa [plM] using h1
 have hr:=vlM_row h (List.getElem?_eq_getElem hi)
 simp only[plM,tabM,List.getElem_map,List.getElem_range]
 refine List.ext_getElem (by simp[plR,rowF,hr.1]) fun j h3 h4=>?_
 have hj:j<(m[i]).length:=by simpa [plR] using h3
 simp only[plR,rowF,List.getElem_map,List.getElem_range]
 rw[atP_eq (List.getElem?_eq_getElem hi) (List.getElem?_eq_getElem hj)]
def PI.neg (X:PI):PI:=if X.all then .whole else ⟨X.hi.opp,X.lo.opp,false⟩
def dotF (p:Nat) (f g:Nat→PI):Nat→PI
 | 0=>pMul (f 0) (g 0) p
 | t+1=>pAdd (dotF p f g t) (pMul (f (t+1)) (g (t+1)) p) p
def mulF (a b:List (List RI)) (p:Nat):List (List PI):=tabM a.length (colsM b) fun i j=>dotF p (atP a i) (fun t=>atP b t j) (colsM a-1)
section
def insP (X Y:PI):Prop:=Y.all=true∨X.all=false∧Y.all=false∧Y.lo.iv≤X.lo.iv∧X.hi.iv≤Y.hi.iv
theorem insP.refl (X:PI):insP X X:=by
 cases h:X.all with
 | false=>exact .inr ⟨h,h,Int.le_refl _,Int.le_refl _⟩
 | true=>exact .inl h
theorem insP.whole (X:PI):insP X .whole:=.inl rfl
section
variable {K p q:Nat} {S T:Int}
end
theorem mkI_good {l h:Dy×Int} (hl:l.2=0) (hh:h.2=0):mkI l h=⟨l.1,h.1,false⟩:=by unfold mkI;rw[if_neg (by omega)]
theorem mkI_bad {l h:Dy×Int} (hb:l.2≠0∨h.2≠0):mkI l h=.whole:=by unfold mkI;rw[if_pos hb]
theorem fourP_spec {op:Dy→Dy→Bool→Dy×Int}:∀ (l:List (Dy×Dy)) (acc:Option (Dy×Dy)),(l≠[]∨acc≠none) →
  ((∃ x∈l,(op x.1 x.2 false).2≠0∨(op x.1 x.2 true).2≠0)∧fourP op l acc=.whole) ∨
  ((∀ x∈l,(op x.1 x.2 false).2=0∧(op x.1 x.2 true).2=0)∧∃ lo hi,fourP op l acc=⟨lo,hi,false⟩ ∧
   (∀ x∈l,lo.iv≤(op x.1 x.2 false).1.iv∧(op x.1 x.2 true).1.iv≤hi.iv)∧(∀ a b,acc=some (a,b)→lo.iv≤a.iv∧b.iv≤hi.iv) ∧
   ((∃ x∈l,lo=(op x.1 x.2 false).1)∨∃ b,acc=some (lo,b))∧((∃ x∈l,hi=(op x.1 x.2 true).1)∨∃ a,acc=some (a,hi))):=by
 intro l
 induction l with
 | nil =>
  intro acc h
  match acc with
  | none=>rcases h with h | h <;> exact absurd rfl h
  | some (a,b) =>
   refine .inr ⟨fun x hx=>by simp at hx,a,b,rfl,fun x hx=>by simp at hx,?_,.inr ⟨b,rfl⟩,.inr ⟨a,rfl⟩⟩
   intro a' b' e;cases e;exact⟨Int.le_refl _,Int.le_refl _⟩
 | cons x r ih =>
  obtain⟨a,b⟩:=x
  intro acc _
  by_cases hb:(op a b false).2≠0∨(op a b true).2≠0
  ·refine .inl ⟨⟨(a,b),List.mem_cons_self,hb⟩,?_⟩
   unfold fourP;rw[if_pos hb]
  ·have e1:(op a b false).2=0:=Classical.byContradiction fun k=>hb (.inl k)
   have e2:(op a b true).2=0:=Classical.byContradiction fun k=>hb (.inr k)
   have main:∀ l' h',l'.iv≤(op a b false).1.iv→(op a b true).1.iv≤h'.iv→(∀ a' b',acc=some (a',b')→l'.iv≤a'.iv∧b'.iv≤h'.iv) →
     (l'=(op a b false).1∨∃ b',acc=some (l',b'))→(h'=(op a b true).1∨∃ a',acc=some (a',h'))→fourP op ((a,b)::r) acc=fourP op r (some (l',h')) →
     ((∃ x∈(a,b)::r,(op x.1 x.2 false).2≠0∨(op x.1 x.2 true).2≠0)∧fourP op ((a,b)::r) acc=.whole) ∨
     ((∀ x∈(a,b)::r,(op x.1 x.2 false).2=0∧(op x.1 x.2 true).2=0)∧∃ lo hi,fourP op ((a,b)::r) acc=⟨lo,hi,false⟩ ∧
      (∀ x∈(a,b)::r,lo.iv≤(op x.1 x.2 false).1.iv∧(op x.1 x.2 true).1.iv≤hi.iv)∧(∀ a' b',acc=some (a',b')→lo.iv≤a'.iv∧b'.iv≤hi.iv) ∧
      ((∃ x∈(a,b)::r,lo=(op x.1 x.2 false).1)∨∃ b',acc=some (lo,b'))∧((∃ x∈(a,b)::r,hi=(op x.1 x.2 true).1)∨∃ a',acc=some (a',hi))):=by
    intro l' h' k1 k2 k3 k4 k5 k6
    rw[k6]
    rcases ih (some (l',h')) (.inr (by simp)) with ⟨⟨x,hx,hxe⟩,h2⟩ | ⟨h1,lo,hi,h2,h3,h4,h5,h6⟩
    ·exact .inl ⟨⟨x,List.mem_cons_of_mem _ hx,hxe⟩,h2⟩
    ·obtain⟨q1,q2⟩:=h4 _ _ rfl
     refine .inr ⟨fun x hx=>?_,lo,hi,h2,fun x hx=>?_,fun a' b' e=>?_,?_,?_⟩
     ·rcases List.mem_cons.1 hx with rfl | hx
      ·exact⟨e1,e2⟩
      ·exact h1 x hx
     ·rcases List.mem_cons.1 hx with rfl | hx
      ·exact⟨Int.le_trans q1 k1,Int.le_trans k2 q2⟩
      ·exact h3 x hx
     ·have:=k3 _ _ e;omega
     ·rcases h5 with ⟨x,hx,e⟩ | ⟨b',e⟩
      ·exact .inl ⟨x,List.mem_cons_of_mem _ hx,e⟩
      ·cases e
       rcases k4 with k4 | k4
       ·exact .inl ⟨(a,b),List.mem_cons_self,k4⟩
       ·exact .inr k4
     ·rcases h6 with ⟨x,hx,e⟩ | ⟨b',e⟩
      ·exact .inl ⟨x,List.mem_cons_of_mem _ hx,e⟩
      ·cases e
       rcases k5 with k5 | k5
       ·exact .inl ⟨(a,b),List.mem_cons_self,k5⟩
       ·exact .inr k5
   rcases acc with _ | ⟨l',h'⟩
   ·refine main _ _ (Int.le_refl _) (Int.le_refl _) (fun a' b' e=>by cases e) (.inl rfl) (.inl rfl) ?_
    conv=>lhs;unfold fourP
    rw[if_neg hb]
   ·refine main (if (op a b false).1.iv<l'.iv then (op a b false).1 else l') (if h'.iv<(op a b true).1.iv then (op a b true).1 else h') ?_ ?_ ?_ ?_ ?_ ?_
    ·split <;> omega
    ·split <;> omega
    ·intro a' b' e;cases e
     constructor
     ·split <;> omega
     ·split <;> omega
    ·split
     ·exact .inl rfl
     ·exact .inr ⟨_,rfl⟩
    ·split
     ·exact .inl rfl
     ·exact .inr ⟨_,rfl⟩
    ·conv=>lhs;unfold fourP
     rw[if_neg hb]
end
def hasV (X:PI) (v:Int):Prop:=X.all=true∨X.lo.iv≤v∧v≤X.hi.iv
theorem hasV.lo {X:PI} (h:X.ok):hasV X X.lo.iv:=.inr ⟨Int.le_refl _,PI.ok_le h⟩
theorem hasV.hi {X:PI} (h:X.ok):hasV X X.hi.iv:=.inr ⟨PI.ok_le h,Int.le_refl _⟩
theorem hasV.whole (v:Int):hasV .whole v:=.inl rfl
theorem rowI_twoR (w:World) (x y:RI) (hx:x.rd w) (hy:y.rd w) (t:TypeId):RowI (w.alloc (.cells #[.bool x.lo.neg,.slice x.lo.a x.lo.xs.length x.lo.c,.int .i64 x.lo.e,.bool x.hi.neg,.slice x.hi.a x.hi.xs.length x.hi.c,.int .i64 x.hi.e,.bool x.all,.bool y.lo.neg,.slice y.lo.a y.lo.xs.length y.lo.c,.int .i64 y.lo.e,.bool y.hi.neg,.slice y.hi.a y.hi.xs.length y.hi.c,.int .i64 y.hi.e,.bool y.all] t)) (some ⟨w.heap.size,0,none⟩) [x,y]:=by
 intro i z hi
 have hk:=(Kp.refl w).alloc (.cells #[.bool x.lo.neg,.slice x.lo.a x.lo.xs.length x.lo.c,.int .i64 x.lo.e,.bool x.hi.neg,.slice x.hi.a x.hi.xs.length x.hi.c,.int .i64 x.hi.e,.bool x.all,.bool y.lo.neg,.slice y.lo.a y.lo.xs.length y.lo.c,.int .i64 y.lo.e,.bool y.hi.neg,.slice y.hi.a y.hi.xs.length y.hi.c,.int .i64 y.hi.e,.bool y.all] t)
 match i with
 | 0 =>
  simp only[List.getElem?_cons_zero,Option.some.injEq] at hi
  subst hi
  refine⟨_,0,rfl,hx.kp hk,?_,?_,?_,?_,?_,?_,?_⟩ <;> simp
 | 1 =>
  simp only[List.getElem?_cons_succ,List.getElem?_cons_zero,Option.some.injEq] at hi
  subst hi
  refine⟨_,0,rfl,hy.kp hk,?_,?_,?_,?_,?_,?_,?_⟩ <;> simp
 | i+2=>simp at hi
theorem Var7.new1 (w:World) (t:TypeId) (o1:Obj):Var7 ((w.alloc o1).alloc (.cells #[.bool false,.slice none 0 0,.int .i64 0,.bool false,.slice none 0 0,.int .i64 0,.bool false] t)) (w.heap.size+1):=by
 have:=Var7.new (w.alloc o1) t
 rwa [World.size_alloc] at this
theorem Upd.rdD {g:Nat} {w W:World} (h:Upd g w W) {x:RD} (hx:x.rd w):x.rd W:=⟨h.2.1 _ _ hx.1,hx.2⟩
theorem Upd.rdI {g:Nat} {w W:World} (h:Upd g w W) {x:RI} (hx:x.rd w):x.rd W:=⟨h.rdD hx.1,h.rdD hx.2⟩
set_option maxHeartbeats 4000000 in
theorem Whole_any (w:World) :
  Calls Tryz.prog 91 #[] w fun e w'=>e=.returned (.agg #[.bool false,.slice none 0 0,.int .i64 0,.bool false,.slice none 0 0,.int .i64 0,.bool true])∧Kp w w':=by
 go_enter Tryz.func91,Tryz.ntmps91
 go_wp2_with fail
 refine bodyPost_ret (v:=.agg #[.bool false,.slice none 0 0,.int .i64 0,.bool false,.slice none 0 0,.int .i64 0,.bool true]) (by simp[results,Tryz.results91,go_sem]) rfl ?_
 exact⟨rfl,(Kp.refl w).alloc _⟩
def madeR (x y:RD) (e f:Int):RI:=if e≠0∨f≠0 then wholeR else ⟨x,y,false⟩
theorem madeR_rd {w:World} {x y:RD} {e f:Int} (hx:x.rd w) (hy:y.rd w):(madeR x y e f).rd w:=by
 unfold madeR;split
 ·exact wholeR_rd w
 exact⟨hx,hy⟩
theorem madeR_pl {x y:RD} {l h:Dy×Int} (hx:x.dy=l.1) (hy:y.dy=h.1):(madeR x y l.2 h.2).pl=mkI l h:=by
 unfold madeR mkI;split
 ·rfl
 unfold RI.pl;rw[hx,hy]
theorem vl_mk2 {x y:RD} (hx:x.vl=true) (hy:y.vl=true) (h:x.iv≤y.iv):RI.vl ⟨x,y,false⟩=true:=by
 unfold RI.vl
 have:=@cmpZ_gt x.iv y.iv
 simp[hx,hy];omega
theorem madeR_vl {x y:RD} {l h:Dy×Int} (hx:x.dy=l.1) (hy:y.dy=h.1) (vx:x.vl=true) (vy:y.vl=true) (hle:l.2=0→h.2=0→l.1.iv≤h.1.iv):(madeR x y l.2 h.2).vl=true:=by
 unfold madeR;split
 ·rfl
 next hn =>
 refine vl_mk2 vx vy ?_
 show x.dy.iv≤y.dy.iv
 rw[hx,hy];exact hle (by omega) (by omega)
set_option maxRecDepth 100000 in
set_option maxHeartbeats 4000000 in
theorem made_any (x y:RD) (e f:Int) (w:World) :
  Calls Tryz.prog 155 #[.agg #[.bool x.neg,.slice x.a x.xs.length x.c,.int .i64 x.e],.int .i64 e,.agg #[.bool y.neg,.slice y.a y.xs.length y.c,.int .i64 y.e],.int .i64 f] w fun r w'=>r=.returned (.agg #[.bool (madeR x y e f).lo.neg,.slice (madeR x y e f).lo.a (madeR x y e f).lo.xs.length (madeR x y e f).lo.c,.int .i64 (madeR x y e f).lo.e,.bool (madeR x y e f).hi.neg,.slice (madeR x y e f).hi.a (madeR x y e f).hi.xs.length (madeR x y e f).hi.c,.int .i64 (madeR x y e f).hi.e,.bool (madeR x y e f).all])∧Kp w w':=by
 by_cases h:e≠0∨f≠0
 rotate_left
 ·have HM:=hid (show madeR x y e f=⟨x,y,false⟩ by unfold madeR;rw[if_neg h])
  have he:e=0:=Classical.byContradiction fun k=>h (.inl k)
  have hf:f=0:=Classical.byContradiction fun k=>h (.inr k)
  clear h
  subst he
  subst hf
  go_enter Tryz.func155,Tryz.ntmps155
  go_wp2_with fail
  refine bodyPost_ret (v:=.agg #[.bool (RI.mk x y false).lo.neg,.slice (RI.mk x y false).lo.a (RI.mk x y false).lo.xs.length (RI.mk x y false).lo.c,.int .i64 (RI.mk x y false).lo.e,.bool (RI.mk x y false).hi.neg,.slice (RI.mk x y false).hi.a (RI.mk x y false).hi.xs.length (RI.mk x y false).hi.c,.int .i64 (RI.mk x y false).hi.e,.bool (RI.mk x y false).all]) (by simp[results,Tryz.results155,go_sem]) rfl ?_
  rw[HM.out]
  exact⟨rfl,(((Kp.refl w).alloc _).alloc _).alloc _⟩
 have HM:=hid (show madeR x y e f=wholeR by unfold madeR;rw[if_pos h])
 by_cases he:e=0
 rotate_left
 ·have g1:(e != 0)=true:=by rw[bne,beq_eq_false_iff_ne.2 he];rfl
  have g3:(e==0)=false:=beq_eq_false_iff_ne.2 he
  clear h he
  go_enter Tryz.func155,Tryz.ntmps155
  go_wp2_with fail
  generalize hW:(((w.alloc _).alloc _).alloc _)=W at *
  have hk:Kp w W:=hW▸(((Kp.refl w).alloc _).alloc _).alloc _
  have hV:Var7 W (w.heap.size+1+1):=by rw[← hW];exact Var7.new2 _ _ _ _
  clear hW
  go_fit (Whole_any _)
  rintro r w1 ⟨rfl,hk1⟩
  have hk2:=hk.trans hk1
  obtain⟨⟨q0,q1,q2,q3,q4,q5,q6⟩,f0,f1,f2,f3,f4,f5,f6⟩:=hV.kp hk1
  go_wp2_with fail
  generalize hW9:((((((w1.setCell _ _).setCell _ _).setCell _ _).setCell _ _).setCell _ _).setCell _ _).setCell _ _=W9
  obtain⟨⟨s0,s1,s2,s3,s4,s5,s6⟩,hU⟩:=stored7 (show Box7 w1 _ _ _ _ _ _ _ _ from ⟨q0,q1,q2,q3,q4,q5,q6⟩) nofun nofun nofun nofun nofun nofun nofun _ _ _ _ _ _ _ hW9
  clear hW9 q0 q1 q2 q3 q4 q5 q6 f0 f1 f2 f3 f4 f5 f6
  refine bodyPost_ret (v:=.agg #[.bool false,.slice none 0 0,.int .i64 0,.bool false,.slice none 0 0,.int .i64 0,.bool true]) (by simp[results,Tryz.results155,go_sem,s0,s1,s2,s3,s4,s5,s6]) rfl ?_
  rw[HM.out]
  exact⟨rfl,hU.2.2.1 _ hk2 (by omega)⟩
 have hf:f≠0:=h.resolve_left (fun k=>k he)
 have g2:(f != 0)=true:=by rw[bne,beq_eq_false_iff_ne.2 hf];rfl
 have g3:(f==0)=false:=beq_eq_false_iff_ne.2 hf
 clear h hf
 subst he
 go_enter Tryz.func155,Tryz.ntmps155
 go_wp2_with fail
 generalize hW:(((w.alloc _).alloc _).alloc _)=W at *
 have hk:Kp w W:=hW▸(((Kp.refl w).alloc _).alloc _).alloc _
 have hV:Var7 W (w.heap.size+1+1):=by rw[← hW];exact Var7.new2 _ _ _ _
 clear hW
 go_fit (Whole_any _)
 rintro r w1 ⟨rfl,hk1⟩
 have hk2:=hk.trans hk1
 obtain⟨⟨q0,q1,q2,q3,q4,q5,q6⟩,f0,f1,f2,f3,f4,f5,f6⟩:=hV.kp hk1
 go_wp2_with fail
 generalize hW9:((((((w1.setCell _ _).setCell _ _).setCell _ _).setCell _ _).setCell _ _).setCell _ _).setCell _ _=W9
 obtain⟨⟨s0,s1,s2,s3,s4,s5,s6⟩,hU⟩:=stored7 (show Box7 w1 _ _ _ _ _ _ _ _ from ⟨q0,q1,q2,q3,q4,q5,q6⟩) nofun nofun nofun nofun nofun nofun nofun _ _ _ _ _ _ _ hW9
 clear hW9 q0 q1 q2 q3 q4 q5 q6 f0 f1 f2 f3 f4 f5 f6
 refine bodyPost_ret (v:=.agg #[.bool false,.slice none 0 0,.int .i64 0,.bool false,.slice none 0 0,.int .i64 0,.bool true]) (by simp[results,Tryz.results155,go_sem,s0,s1,s2,s3,s4,s5,s6]) rfl ?_
 rw[HM.out]
 exact⟨rfl,hU.2.2.1 _ hk2 (by omega)⟩
theorem goodI_vl {x:RI} (h:x.vl=true):goodI x=!x.all:=by unfold goodI;rw[h];simp
theorem ok_of {w:World} {x:RI} (h:x.rd w) (v:x.vl=true) (ha:x.all=false):x.ok w:=⟨h,ha,v⟩
set_option maxRecDepth 100000 in
set_option maxHeartbeats 8000000 in
theorem IAdd_any (x y:RI) (p:Nat) (w:World) (hx:x.rd w) (hy:y.rd w) (vx:x.vl=true) (vy:y.vl=true) (h0:8≤p) (h1:p≤512) (hT:Tab w) :
  Calls Tryz.prog 80 #[.agg #[.bool x.lo.neg,.slice x.lo.a x.lo.xs.length x.lo.c,.int .i64 x.lo.e,.bool x.hi.neg,.slice x.hi.a x.hi.xs.length x.hi.c,.int .i64 x.hi.e,.bool x.all],.agg #[.bool y.lo.neg,.slice y.lo.a y.lo.xs.length y.lo.c,.int .i64 y.lo.e,.bool y.hi.neg,.slice y.hi.a y.hi.xs.length y.hi.c,.int .i64 y.hi.e,.bool y.all],.int .i64 p] w (IvOut w (pAdd x.pl y.pl p)):=by
 have Hp:=hid (show preB (p:Int)=true from preB_iff.2 ⟨by omega,by omega⟩)
 go_enter Tryz.func80,Tryz.ntmps80
 go_wp2_with fail
 generalize hW3:(((w.alloc _).alloc _).alloc _)=W3 at *
 have hk3:Kp w W3:=hW3▸(((Kp.refl w).alloc _).alloc _).alloc _
 have hS3:(W3.cell? ⟨w.heap.size,0,none⟩=some (.bool x.lo.neg)∧W3.cell? ⟨w.heap.size,1,none⟩=some (.slice x.lo.a x.lo.xs.length x.lo.c)∧W3.cell? ⟨w.heap.size,2,none⟩=some (.int .i64 x.lo.e)∧W3.cell? ⟨w.heap.size,3,none⟩=some (.bool x.hi.neg)∧W3.cell? ⟨w.heap.size,4,none⟩=some (.slice x.hi.a x.hi.xs.length x.hi.c)∧W3.cell? ⟨w.heap.size,5,none⟩=some (.int .i64 x.hi.e)∧W3.cell? ⟨w.heap.size,6,none⟩=some (.bool x.all))∧W3.cell? ⟨w.heap.size+1,0,none⟩=some (.bool y.lo.neg)∧W3.cell? ⟨w.heap.size+1,1,none⟩=some (.slice y.lo.a y.lo.xs.length y.lo.c)∧W3.cell? ⟨w.heap.size+1,2,none⟩=some (.int .i64 y.lo.e)∧W3.cell? ⟨w.heap.size+1,3,none⟩=some (.bool y.hi.neg)∧W3.cell? ⟨w.heap.size+1,4,none⟩=some (.slice y.hi.a y.hi.xs.length y.hi.c)∧W3.cell? ⟨w.heap.size+1,5,none⟩=some (.int .i64 y.hi.e)∧W3.cell? ⟨w.heap.size+1,6,none⟩=some (.bool y.all):=by rw[← hW3];exact keep77 ((Kp.refl _).alloc _) (by simp)
 have hV3:Var7 W3 (w.heap.size+1+1):=hW3▸Var7.new2 _ _ _ _
 have hsz:W3.heap.size=w.heap.size+1+1+1:=by rw[← hW3];simp
 have hR:=rowI_twoR W3 x y (hx.kp hk3) (hy.kp hk3) 44
 rw[hsz] at hR
 have hk4:=(Kp.refl W3).alloc (.cells #[.bool x.lo.neg,.slice x.lo.a x.lo.xs.length x.lo.c,.int .i64 x.lo.e,.bool x.hi.neg,.slice x.hi.a x.hi.xs.length x.hi.c,.int .i64 x.hi.e,.bool x.all,.bool y.lo.neg,.slice y.lo.a y.lo.xs.length y.lo.c,.int .i64 y.lo.e,.bool y.hi.neg,.slice y.hi.a y.hi.xs.length y.hi.c,.int .i64 y.hi.e,.bool y.all] 44)
 generalize hW:W3.alloc _=W at *
 have hS:=keep77 hk4 hS3
 have hV:=hV3.kp hk4
 have hk:=hk3.trans hk4
 clear hW hW3 hS3 hV3 hk3 hk4 hsz
 refine (known_any _ [x,y] 2 _ hR (by simp)).mono ?_
 rintro e w1 ⟨rfl,hk1⟩
 have hS1:=keep77 hk1 hS
 have hV1:=hV.kp hk1
 have hk2:=(hk.trans hk1)
 have hT1:=hT.kp hk2
 have hx1:=hx.kp hk2
 have hy1:=hy.kp hk2
 clear hR hS hV hk hk1
 cases ha:x.all||y.all with
 | true =>
  have hg:[x,y].all goodI=false:=by
   simp only[List.all_cons,List.all_nil,Bool.and_true]
   rw[goodI_vl vx,goodI_vl vy]
   cases hxa:x.all <;> cases hya:y.all <;> simp_all
  have HP:=hid (show pAdd x.pl y.pl p=.whole by unfold pAdd;rw[if_pos (by exact ha)])
  rw[hg]
  clear hg ha hS1
  go_wp2_with fail
  refine (Whole_any _).mono ?_
  rintro e w2 ⟨rfl,hk3⟩
  have hk4:=hk2.trans hk3
  obtain⟨⟨q0,q1,q2,q3,q4,q5,q6⟩,f0,f1,f2,f3,f4,f5,f6⟩:=hV1.kp hk3
  go_wp2_with fail
  generalize hW9:((((((w2.setCell _ _).setCell _ _).setCell _ _).setCell _ _).setCell _ _).setCell _ _).setCell _ _=W9
  obtain⟨⟨s0,s1,s2,s3,s4,s5,s6⟩,hU⟩:=stored7 (show Box7 w2 _ _ _ _ _ _ _ _ from ⟨q0,q1,q2,q3,q4,q5,q6⟩) nofun nofun nofun nofun nofun nofun nofun _ _ _ _ _ _ _ hW9
  clear hW9 q0 q1 q2 q3 q4 q5 q6 f0 f1 f2 f3 f4 f5 f6
  refine bodyPost_ret (v:=.agg #[.bool false,.slice none 0 0,.int .i64 0,.bool false,.slice none 0 0,.int .i64 0,.bool true]) (by simp[results,Tryz.results80,go_sem,s0,s1,s2,s3,s4,s5,s6]) rfl ?_
  rw[HP.out]
  exact⟨wholeR,rfl,wholeR_rd _,rfl,rfl,hU.2.2.1 _ hk4 (by omega)⟩
 | false =>
 have hax:x.all=false:=by cases hxa:x.all <;> simp_all
 have hay:y.all=false:=by cases hya:y.all <;> simp_all
 have ox:=ok_of hx1 vx hax
 have oy:=ok_of hy1 vy hay
 have hg:[x,y].all goodI=true:=by simp[(goodI_ok ox.1).2 ox,(goodI_ok oy.1).2 oy]
 have HP:=hid (show pAdd x.pl y.pl p=mkI (adP x.lo.dy y.lo.dy p false) (adP x.hi.dy y.hi.dy p true) by unfold pAdd;rw[if_neg (by show ¬ (x.all||y.all)=true;rw[ha];decide)];rfl)
 have E1:=hid (addB_dy ox.lo oy.lo h0 h1 false)
 have E2:=hid (addB_dy ox.hi oy.hi h0 h1 true)
 have HOK:=hid (fun a b=>rndE_between (K:=0) (S:=x.lo.dy.iv+y.lo.dy.iv) (T:=x.hi.dy.iv+y.hi.dy.iv) (p:=p) (q:=p) (by omega) (by omega) (by omega) (by omega) (by
  have u1:=ox.parts.2.2
  have u2:=oy.parts.2.2
  show x.lo.iv+y.lo.iv≤x.hi.iv+y.hi.iv
  omega) a b)
 have C1:=fun (W:World) (k:Kp w1 W)=>rAddDown_of x.lo y.lo (p:Int) _ _ W (fun W' k'=>add_rd x.lo y.lo p false W' ((ox.lo.1.kp k).kp k') ((oy.lo.1.kp k).kp k') ((hT1.kp k).kp k'))
 have C2:=fun (W:World) (k:Kp w1 W)=>rAddUp_of x.hi y.hi (p:Int) _ _ W (fun W' k'=>add_rd x.hi y.hi p true W' ((ox.hi.1.kp k).kp k') ((oy.hi.1.kp k).kp k') ((hT1.kp k).kp k'))
 rw[E1.out] at C1
 rw[E2.out] at C2
 have K1:=hid (adP_ok x.lo.dy y.lo.dy h0 h1 false)
 have K2:=hid (adP_ok x.hi.dy y.hi.dy h0 h1 true)
 obtain⟨L,hL⟩:∃ L,L=adP x.lo.dy y.lo.dy p false:=⟨_,rfl⟩
 obtain⟨H,hH⟩:∃ H,H=adP x.hi.dy y.hi.dy p true:=⟨_,rfl⟩
 have HOK2:=hid (show L.2=0→H.2=0→L.1.iv≤H.1.iv by rw[hL,hH];exact HOK.out)
 rw[← hL] at C1 HP K1
 rw[← hH] at C2 HP K2
 have D1:=hid C1
 have D2:=hid C2
 rw[hg]
 clear hg ha hax hay C1 C2 E1 E2 HOK hL hH
 have Ox:=hid ox
 have Oy:=hid oy
 clear ox oy
 go_wp2_with fail
 go_fit (permitted_any (p:Int) _)
 rintro e w2 ⟨rfl,rfl⟩
 rw[Hp.out]
 obtain⟨⟨s0,s1,s2,s3,s4,s5,s6⟩,t0,t1,t2,t3,t4,t5,t6⟩:=id hS1
 go_wp2_with fail
 go_fit (D1.out _ (.refl _))
 rintro e w3 ⟨z1,rfl,rz,dz,vz,k3⟩
 have ka:=(Kp.refl w3).alloc (.cells #[.bool z1.neg,.slice z1.a z1.xs.length z1.c,.int .i64 z1.e] 38)
 have k3a:=k3.trans ka
 have R1:=hid (rz.kp ka)
 have Z1:=hid (And.intro dz (vz K1.out))
 have hS2:=keep77 k3a hS1
 have hV2:=hV1.kp k3a
 have hk3:=hk2.trans k3a
 clear rz dz vz hS1 hV1 s0 s1 s2 s3 s4 s5 s6 t0 t1 t2 t3 t4 t5 t6 k3
 obtain⟨⟨s0,s1,s2,s3,s4,s5,s6⟩,t0,t1,t2,t3,t4,t5,t6⟩:=id hS2
 go_wp2_with fail
 generalize hA3:w3.alloc _=A3 at *
 have hZ1:A3.cell? ⟨w3.heap.size,0,none⟩=some (.bool z1.neg)∧A3.cell? ⟨w3.heap.size,1,none⟩=some (.slice z1.a z1.xs.length z1.c)∧A3.cell? ⟨w3.heap.size,2,none⟩=some (.int .i64 z1.e):=by rw[← hA3];simp
 clear hA3 ka
 go_fit (D2.out _ k3a)
 rintro e w4 ⟨z2,rfl,rz,dz,vz,k4⟩
 have ka:=(Kp.refl w4).alloc (.cells #[.bool z2.neg,.slice z2.a z2.xs.length z2.c,.int .i64 z2.e] 38)
 have k4a:=k4.trans ka
 have R2:=hid (rz.kp ka)
 have Z2:=hid (And.intro dz (vz K2.out))
 have hZ1b:=keep3 k4a hZ1
 have R1b:=hid (R1.out.kp k4a)
 have hV3:=hV2.kp k4a
 have hk4:=hk3.trans k4a
 clear rz dz vz hS2 hV2 hZ1 R1 s0 s1 s2 s3 s4 s5 s6 t0 t1 t2 t3 t4 t5 t6 k4 D1 D2
 obtain⟨m0,m1,m2⟩:=hZ1b
 go_wp2_with fail
 generalize hA4:w4.alloc _=A4 at *
 obtain⟨n0,n1,n2⟩:A4.cell? ⟨w4.heap.size,0,none⟩=some (.bool z2.neg)∧A4.cell? ⟨w4.heap.size,1,none⟩=some (.slice z2.a z2.xs.length z2.c)∧A4.cell? ⟨w4.heap.size,2,none⟩=some (.int .i64 z2.e):=by rw[← hA4];simp
 clear hA4 ka
 go_fit (made_any z1 z2 _ _ _)
 rintro e w5 ⟨rfl,k5⟩
 have hk5:=hk4.trans k5
 obtain⟨⟨q0,q1,q2,q3,q4,q5,q6⟩,f0,f1,f2,f3,f4,f5,f6⟩:=hV3.kp k5
 have R3:=hid (madeR_rd (e:=L.2) (f:=H.2) (R1b.out.kp k5) (R2.out.kp k5))
 have Zp:=hid (madeR_pl (l:=L) (h:=H) Z1.out.1 Z2.out.1)
 have Zv:=hid (madeR_vl (l:=L) (h:=H) Z1.out.1 Z2.out.1 Z1.out.2 Z2.out.2 HOK2.out)
 clear m0 m1 m2 n0 n1 n2 hV3
 generalize madeR z1 z2 L.2 H.2=Z at *
 go_wp2_with fail
 generalize hW9:((((((w5.setCell _ _).setCell _ _).setCell _ _).setCell _ _).setCell _ _).setCell _ _).setCell _ _=W9
 obtain⟨⟨s0,s1,s2,s3,s4,s5,s6⟩,hU⟩:=stored7 (show Box7 w5 _ _ _ _ _ _ _ _ from ⟨q0,q1,q2,q3,q4,q5,q6⟩) nofun nofun nofun nofun nofun nofun nofun _ _ _ _ _ _ _ hW9
 clear hW9 q0 q1 q2 q3 q4 q5 q6 f0 f1 f2 f3 f4 f5 f6
 refine bodyPost_ret (v:=.agg #[.bool Z.lo.neg,.slice Z.lo.a Z.lo.xs.length Z.lo.c,.int .i64 Z.lo.e,.bool Z.hi.neg,.slice Z.hi.a Z.hi.xs.length Z.hi.c,.int .i64 Z.hi.e,.bool Z.all]) (by simp[results,Tryz.results80,go_sem,s0,s1,s2,s3,s4,s5,s6]) rfl ?_
 rw[HP.out]
 exact⟨Z,rfl,hU.rdI R3.out,Zp.out,Zv.out,hU.2.2.1 _ hk5 (by omega)⟩
theorem rowI_oneR (w:World) (x:RI) (hx:x.rd w) (t:TypeId):RowI (w.alloc (.cells #[.bool x.lo.neg,.slice x.lo.a x.lo.xs.length x.lo.c,.int .i64 x.lo.e,.bool x.hi.neg,.slice x.hi.a x.hi.xs.length x.hi.c,.int .i64 x.hi.e,.bool x.all] t)) (some ⟨w.heap.size,0,none⟩) [x]:=by
 intro i z hi
 have hk:=(Kp.refl w).alloc (.cells #[.bool x.lo.neg,.slice x.lo.a x.lo.xs.length x.lo.c,.int .i64 x.lo.e,.bool x.hi.neg,.slice x.hi.a x.hi.xs.length x.hi.c,.int .i64 x.hi.e,.bool x.all] t)
 match i with
 | 0 =>
  simp only[List.getElem?_cons_zero,Option.some.injEq] at hi
  subst hi
  refine⟨_,0,rfl,hx.kp hk,?_,?_,?_,?_,?_,?_,?_⟩ <;> simp
 | i+1=>simp at hi
theorem Dy.opp_ok2 {d:Dy} (h:d.ok):d.opp.ok:=by
 unfold Dy.opp
 split
 ·exact Dy.ok_zero
 next h0 =>
 rcases h with h | h
 ·exact absurd h.1 h0
 exact .inr h
theorem set7one {w:World} {g b:Nat} (n:b≠g) {v0 v1 v2 v3 v4 v5 v6 x0 x1 x2 x3 x4 x5 x6:Value} (h:w.cell? ⟨b,0,none⟩=some v0∧w.cell? ⟨b,1,none⟩=some v1∧w.cell? ⟨b,2,none⟩=some v2∧w.cell? ⟨b,3,none⟩=some v3∧w.cell? ⟨b,4,none⟩=some v4∧w.cell? ⟨b,5,none⟩=some v5∧w.cell? ⟨b,6,none⟩=some v6) :
  (((((((w.setCell ⟨g,0,none⟩ x0).setCell ⟨g,1,none⟩ x1).setCell ⟨g,2,none⟩ x2).setCell ⟨g,3,none⟩ x3).setCell ⟨g,4,none⟩ x4).setCell ⟨g,5,none⟩ x5).setCell ⟨g,6,none⟩ x6).cell? ⟨b,0,none⟩=some v0∧(((((((w.setCell ⟨g,0,none⟩ x0).setCell ⟨g,1,none⟩ x1).setCell ⟨g,2,none⟩ x2).setCell ⟨g,3,none⟩ x3).setCell ⟨g,4,none⟩ x4).setCell ⟨g,5,none⟩ x5).setCell ⟨g,6,none⟩ x6).cell? ⟨b,1,none⟩=some v1∧(((((((w.setCell ⟨g,0,none⟩ x0).setCell ⟨g,1,none⟩ x1).setCell ⟨g,2,none⟩ x2).setCell ⟨g,3,none⟩ x3).setCell ⟨g,4,none⟩ x4).setCell ⟨g,5,none⟩ x5).setCell ⟨g,6,none⟩ x6).cell? ⟨b,2,none⟩=some v2∧(((((((w.setCell ⟨g,0,none⟩ x0).setCell ⟨g,1,none⟩ x1).setCell ⟨g,2,none⟩ x2).setCell ⟨g,3,none⟩ x3).setCell ⟨g,4,none⟩ x4).setCell ⟨g,5,none⟩ x5).setCell ⟨g,6,none⟩ x6).cell? ⟨b,3,none⟩=some v3∧(((((((w.setCell ⟨g,0,none⟩ x0).setCell ⟨g,1,none⟩ x1).setCell ⟨g,2,none⟩ x2).setCell ⟨g,3,none⟩ x3).setCell ⟨g,4,none⟩ x4).setCell ⟨g,5,none⟩ x5).setCell ⟨g,6,none⟩ x6).cell? ⟨b,4,none⟩=some v4∧(((((((w.setCell ⟨g,0,none⟩ x0).setCell ⟨g,1,none⟩ x1).setCell ⟨g,2,none⟩ x2).setCell ⟨g,3,none⟩ x3).setCell ⟨g,4,none⟩ x4).setCell ⟨g,5,none⟩ x5).setCell ⟨g,6,none⟩ x6).cell? ⟨b,5,none⟩=some v5∧(((((((w.setCell ⟨g,0,none⟩ x0).setCell ⟨g,1,none⟩ x1).setCell ⟨g,2,none⟩ x2).setCell ⟨g,3,none⟩ x3).setCell ⟨g,4,none⟩ x4).setCell ⟨g,5,none⟩ x5).setCell ⟨g,6,none⟩ x6).cell? ⟨b,6,none⟩=some v6:=(set77 n n ⟨h,h⟩).1
set_option maxRecDepth 100000 in
set_option maxHeartbeats 8000000 in
theorem INeg_any (x:RI) (w:World) (hx:x.rd w) (vx:x.vl=true) :
  Calls Tryz.prog 145 #[.agg #[.bool x.lo.neg,.slice x.lo.a x.lo.xs.length x.lo.c,.int .i64 x.lo.e,.bool x.hi.neg,.slice x.hi.a x.hi.xs.length x.hi.c,.int .i64 x.hi.e,.bool x.all]] w (IvOut w x.pl.neg):=by
 go_enter Tryz.func145,Tryz.ntmps145
 go_wp2_with fail
 generalize hW3:((w.alloc _).alloc _)=W3 at *
 have hk3:Kp w W3:=hW3▸((Kp.refl w).alloc _).alloc _
 have hS3:W3.cell? ⟨w.heap.size,0,none⟩=some (.bool x.lo.neg)∧W3.cell? ⟨w.heap.size,1,none⟩=some (.slice x.lo.a x.lo.xs.length x.lo.c)∧W3.cell? ⟨w.heap.size,2,none⟩=some (.int .i64 x.lo.e)∧W3.cell? ⟨w.heap.size,3,none⟩=some (.bool x.hi.neg)∧W3.cell? ⟨w.heap.size,4,none⟩=some (.slice x.hi.a x.hi.xs.length x.hi.c)∧W3.cell? ⟨w.heap.size,5,none⟩=some (.int .i64 x.hi.e)∧W3.cell? ⟨w.heap.size,6,none⟩=some (.bool x.all):=by rw[← hW3];simp
 have hV3:Var7 W3 (w.heap.size+1):=by rw[← hW3];exact Var7.new1 _ _ _
 have hsz:W3.heap.size=w.heap.size+1+1:=by rw[← hW3];simp
 have hR:=rowI_oneR W3 x (hx.kp hk3) 44
 rw[hsz] at hR
 have hk4:=(Kp.refl W3).alloc (.cells #[.bool x.lo.neg,.slice x.lo.a x.lo.xs.length x.lo.c,.int .i64 x.lo.e,.bool x.hi.neg,.slice x.hi.a x.hi.xs.length x.hi.c,.int .i64 x.hi.e,.bool x.all] 44)
 generalize hW:W3.alloc _=W at *
 have hS:=keep7 hk4 hS3
 have hV:=hV3.kp hk4
 have hk:=hk3.trans hk4
 clear hW hW3 hS3 hV3 hk3 hk4 hsz
 go_fit (known_any _ [x] 1 _ hR (by simp))
 rintro e w1 ⟨rfl,hk1⟩
 have hS1:=keep7 hk1 hS
 have hV1:=hV.kp hk1
 have hk2:=(hk.trans hk1)
 have hx1:=hx.kp hk2
 clear hR hS hV hk hk1
 cases ha:x.all with
 | true =>
  have hg:[x].all goodI=false:=by simp[goodI_vl vx,ha]
  have HP:=hid (show x.pl.neg=.whole by unfold PI.neg;rw[if_pos (by exact ha)])
  rw[hg]
  clear hg ha hS1
  go_wp2_with fail
  go_fit (Whole_any _)
  rintro e w2 ⟨rfl,hk3⟩
  have hk4:=hk2.trans hk3
  obtain⟨⟨q0,q1,q2,q3,q4,q5,q6⟩,f0,f1,f2,f3,f4,f5,f6⟩:=hV1.kp hk3
  go_wp2_with fail
  generalize hW9:((((((w2.setCell _ _).setCell _ _).setCell _ _).setCell _ _).setCell _ _).setCell _ _).setCell _ _=W9
  obtain⟨⟨s0,s1,s2,s3,s4,s5,s6⟩,hU⟩:=stored7 (show Box7 w2 _ _ _ _ _ _ _ _ from ⟨q0,q1,q2,q3,q4,q5,q6⟩) nofun nofun nofun nofun nofun nofun nofun _ _ _ _ _ _ _ hW9
  clear hW9 q0 q1 q2 q3 q4 q5 q6 f0 f1 f2 f3 f4 f5 f6
  refine bodyPost_ret (v:=.agg #[.bool false,.slice none 0 0,.int .i64 0,.bool false,.slice none 0 0,.int .i64 0,.bool true]) (by simp[results,Tryz.results145,go_sem,s0,s1,s2,s3,s4,s5,s6]) rfl ?_
  rw[HP.out]
  exact⟨wholeR,rfl,wholeR_rd _,rfl,rfl,hU.2.2.1 _ hk4 (by omega)⟩
 | false =>
 have ox:=ok_of hx1 vx ha
 have hg:[x].all goodI=true:=by simp[(goodI_ok ox.1).2 ox]
 have HP:=hid (show x.pl.neg=⟨x.hi.dy.opp,x.lo.dy.opp,false⟩ by unfold PI.neg;rw[if_neg (by show ¬ x.all=true;rw[ha];decide)];rfl)
 rw[hg]
 clear hg
 obtain⟨hB,hF⟩:=hV1
 have kd:=(Kp.refl w1).drew
 have hB2:=hB.kp kd
 have hF2:=hF.kp hB kd
 have Ox:=hid (ox.kp kd)
 have hk3:=hk2.trans kd
 have hS4:=keep7 kd hS1
 clear hB hF hS1 kd hk2 ox hx1 ha
 go_wp2_with fail
 go_region_held3 (fun w'=>w'.cell? ⟨w.heap.size,0,none⟩=some (.bool x.lo.neg)∧w'.cell? ⟨w.heap.size,1,none⟩=some (.slice x.lo.a x.lo.xs.length x.lo.c)∧w'.cell? ⟨w.heap.size,2,none⟩=some (.int .i64 x.lo.e)∧w'.cell? ⟨w.heap.size,3,none⟩=some (.bool x.hi.neg)∧w'.cell? ⟨w.heap.size,4,none⟩=some (.slice x.hi.a x.hi.xs.length x.hi.c)∧w'.cell? ⟨w.heap.size,5,none⟩=some (.int .i64 x.hi.e)∧w'.cell? ⟨w.heap.size,6,none⟩=some (.bool x.all)) (first | with_reducible assumption | with_reducible exact keep7 (by assumption) (by assumption) | with_reducible exact set7one (by omega) (by assumption))
  (first
   | (go_at_call 67;go_fit (Neg_ok x.hi _ Ox.out.hi);rintro e w4 ⟨z1,rfl,r1,d1,v1,hk4⟩)
   | (go_at_call 67;go_fit (Neg_ok x.lo _ (Ox.out.lo.kp hk4));rintro e w5 ⟨z2,rfl,r2,d2,v2,hk5⟩;have hk6:=hk4.trans hk5;obtain⟨q0,q1,q2,q3,q4,q5,q6⟩:=hB2.kp hk6;obtain⟨f0,f1,f2,f3,f4,f5,f6⟩:=hF2.kp hB2 hk6)
   | fail)
 have hk7:=hk3.trans hk6
 have R1:=hid (r1.kp hk5)
 have R2:=hid r2
 have E1:=hid (And.intro d1 (v1 (Dy.opp_ok2 (rdok_dy Ox.out.hi))))
 have E2:=hid (And.intro d2 (v2 (Dy.opp_ok2 (rdok_dy Ox.out.lo))))
 have HL:=hid (show z1.iv≤z2.iv by
  show z1.dy.iv≤z2.dy.iv
  rw[E1.out.1,E2.out.1,Dy.opp_iv,Dy.opp_iv]
  have:=Ox.out.parts.2.2
  have h1:x.lo.dy.iv≤x.hi.dy.iv:=this
  omega)
 clear hS4 hB2 hF2 r1 r2 d1 d2 v1 v2
 go_wp2_with fail
 generalize hW9:((((((w5.setCell _ _).setCell _ _).setCell _ _).setCell _ _).setCell _ _).setCell _ _).setCell _ _=W9
 obtain⟨⟨s0,s1,s2,s3,s4,s5,s6⟩,hU⟩:=stored7 (show Box7 w5 _ _ _ _ _ _ _ _ from ⟨q0,q1,q2,q3,q4,q5,q6⟩) nofun nofun nofun nofun nofun nofun nofun _ _ _ _ _ _ _ hW9
 clear hW9 q0 q1 q2 q3 q4 q5 q6 f0 f1 f2 f3 f4 f5 f6
 refine bodyPost_ret (v:=.agg #[.bool (RI.mk z1 z2 false).lo.neg,.slice (RI.mk z1 z2 false).lo.a (RI.mk z1 z2 false).lo.xs.length (RI.mk z1 z2 false).lo.c,.int .i64 (RI.mk z1 z2 false).lo.e,.bool (RI.mk z1 z2 false).hi.neg,.slice (RI.mk z1 z2 false).hi.a (RI.mk z1 z2 false).hi.xs.length (RI.mk z1 z2 false).hi.c,.int .i64 (RI.mk z1 z2 false).hi.e,.bool (RI.mk z1 z2 false).all]) (by simp[results,Tryz.results145,go_sem,s0,s1,s2,s3,s4,s5,s6]) rfl ?_
 rw[HP.out]
 exact⟨⟨z1,z2,false⟩,rfl,hU.rdI ⟨R1.out,R2.out⟩,by unfold RI.pl;rw[E1.out.1,E2.out.1],vl_mk2 E1.out.2 E2.out.2 HL.out,hU.2.2.1 _ hk7 (by omega)⟩
def pSub (X Y:PI) (p:Nat):PI:=pAdd X Y.neg p
set_option maxRecDepth 100000 in
set_option maxHeartbeats 8000000 in
theorem ISub_any (x y:RI) (p:Nat) (w:World) (hx:x.rd w) (hy:y.rd w) (vx:x.vl=true) (vy:y.vl=true) (h0:8≤p) (h1:p≤512) (hT:Tab w) :
   Calls Tryz.prog 76 #[.agg #[.bool x.lo.neg,.slice x.lo.a x.lo.xs.length x.lo.c,.int .i64 x.lo.e,.bool x.hi.neg,.slice x.hi.a x.hi.xs.length x.hi.c,.int .i64 x.hi.e,.bool x.all],.agg #[.bool y.lo.neg,.slice y.lo.a y.lo.xs.length y.lo.c,.int .i64 y.lo.e,.bool y.hi.neg,.slice y.hi.a y.hi.xs.length y.hi.c,.int .i64 y.hi.e,.bool y.all],.int .i64 p] w (IvOut w (pSub x.pl y.pl p)):=by
 go_enter Tryz.func76,Tryz.ntmps76
 go_wp2_with fail
 generalize hW:(((w.alloc _).alloc _).alloc _)=W at *
 have hk:Kp w W:=hW▸(((Kp.refl w).alloc _).alloc _).alloc _
 have hS:(W.cell? ⟨w.heap.size,0,none⟩=some (.bool x.lo.neg)∧W.cell? ⟨w.heap.size,1,none⟩=some (.slice x.lo.a x.lo.xs.length x.lo.c)∧W.cell? ⟨w.heap.size,2,none⟩=some (.int .i64 x.lo.e)∧W.cell? ⟨w.heap.size,3,none⟩=some (.bool x.hi.neg)∧W.cell? ⟨w.heap.size,4,none⟩=some (.slice x.hi.a x.hi.xs.length x.hi.c)∧W.cell? ⟨w.heap.size,5,none⟩=some (.int .i64 x.hi.e)∧W.cell? ⟨w.heap.size,6,none⟩=some (.bool x.all))∧W.cell? ⟨w.heap.size+1,0,none⟩=some (.bool y.lo.neg)∧W.cell? ⟨w.heap.size+1,1,none⟩=some (.slice y.lo.a y.lo.xs.length y.lo.c)∧W.cell? ⟨w.heap.size+1,2,none⟩=some (.int .i64 y.lo.e)∧W.cell? ⟨w.heap.size+1,3,none⟩=some (.bool y.hi.neg)∧W.cell? ⟨w.heap.size+1,4,none⟩=some (.slice y.hi.a y.hi.xs.length y.hi.c)∧W.cell? ⟨w.heap.size+1,5,none⟩=some (.int .i64 y.hi.e)∧W.cell? ⟨w.heap.size+1,6,none⟩=some (.bool y.all):=by rw[← hW];exact keep77 ((Kp.refl _).alloc _) (by simp)
 have hV:Var7 W (w.heap.size+1+1):=by rw[← hW];exact Var7.new2 _ _ _ _
 clear hW
 obtain⟨hB,hF⟩:=hV
 have kd:=(Kp.refl W).drew
 have hB2:=hB.kp kd
 have hF2:=hF.kp hB kd
 have hk3:=hk.trans kd
 have hS4:=keep77 kd hS
 have Rx:=hid (hx.kp hk3)
 have Ry:=hid (hy.kp hk3)
 have HT:=hid (hT.kp hk3)
 clear hB hF hS kd hk
 go_region_held3 (fun w'=>(w'.cell? ⟨w.heap.size,0,none⟩=some (.bool x.lo.neg)∧w'.cell? ⟨w.heap.size,1,none⟩=some (.slice x.lo.a x.lo.xs.length x.lo.c)∧w'.cell? ⟨w.heap.size,2,none⟩=some (.int .i64 x.lo.e)∧w'.cell? ⟨w.heap.size,3,none⟩=some (.bool x.hi.neg)∧w'.cell? ⟨w.heap.size,4,none⟩=some (.slice x.hi.a x.hi.xs.length x.hi.c)∧w'.cell? ⟨w.heap.size,5,none⟩=some (.int .i64 x.hi.e)∧w'.cell? ⟨w.heap.size,6,none⟩=some (.bool x.all))∧w'.cell? ⟨w.heap.size+1,0,none⟩=some (.bool y.lo.neg)∧w'.cell? ⟨w.heap.size+1,1,none⟩=some (.slice y.lo.a y.lo.xs.length y.lo.c)∧w'.cell? ⟨w.heap.size+1,2,none⟩=some (.int .i64 y.lo.e)∧w'.cell? ⟨w.heap.size+1,3,none⟩=some (.bool y.hi.neg)∧w'.cell? ⟨w.heap.size+1,4,none⟩=some (.slice y.hi.a y.hi.xs.length y.hi.c)∧w'.cell? ⟨w.heap.size+1,5,none⟩=some (.int .i64 y.hi.e)∧w'.cell? ⟨w.heap.size+1,6,none⟩=some (.bool y.all)) (first | with_reducible assumption | with_reducible exact keep77 (by assumption) (by assumption) | with_reducible exact set77 (by omega) (by omega) (by assumption))
   (first
     | (go_at_call 145; go_fit (INeg_any y _ Ry.out vy); rintro e w4 ⟨z, rfl, rz, dz, vz, hk4⟩
        have RZ:=hid rz
        have DZ:=hid dz
        have VZ:=hid vz
        clear rz dz vz)
     | (go_at_call 80;go_fit (IAdd_any x z p _ (Rx.out.kp hk4) RZ.out vx VZ.out h0 h1 (HT.out.kp hk4));rintro e w5 ⟨u,rfl,ru,du,vu,hk5⟩;have hk6:=hk4.trans hk5;obtain⟨q0,q1,q2,q3,q4,q5,q6⟩:=hB2.kp hk6;obtain⟨f0,f1,f2,f3,f4,f5,f6⟩:=hF2.kp hB2 hk6)
     | fail)
 have hk7:=hk3.trans hk6
 have RU:=hid ru
 have DU:=hid du
 have VU:=hid vu
 clear hS4 hB2 hF2 ru du vu
 go_wp2_with fail
 generalize hW9:((((((w5.setCell _ _).setCell _ _).setCell _ _).setCell _ _).setCell _ _).setCell _ _).setCell _ _=W9
 obtain⟨⟨s0,s1,s2,s3,s4,s5,s6⟩,hU⟩:=stored7 (show Box7 w5 _ _ _ _ _ _ _ _ from ⟨q0,q1,q2,q3,q4,q5,q6⟩) nofun nofun nofun nofun nofun nofun nofun _ _ _ _ _ _ _ hW9
 clear hW9 q0 q1 q2 q3 q4 q5 q6 f0 f1 f2 f3 f4 f5 f6
 refine bodyPost_ret (v:=.agg #[.bool u.lo.neg,.slice u.lo.a u.lo.xs.length u.lo.c,.int .i64 u.lo.e,.bool u.hi.neg,.slice u.hi.a u.hi.xs.length u.hi.c,.int .i64 u.hi.e,.bool u.all]) (by simp[results,Tryz.results76,go_sem,s0,s1,s2,s3,s4,s5,s6]) rfl ?_
 exact⟨u,rfl,hU.rdI RU.out,by rw[DU.out,DZ.out];rfl,VU.out,hU.2.2.1 _ hk7 (by omega)⟩
def Dy.absv (d:Dy):Dy:=if d.m=0 then .zero else ⟨false,d.m,d.e⟩
theorem Dy.absv_ok {d:Dy} (h:d.ok):d.absv.ok:=by
 unfold Dy.absv
 split
 ·exact Dy.ok_zero
 next h0 =>
 rcases h with h | ⟨h1,h2⟩
 ·exact absurd h.1 h0
 exact .inr ⟨h1,h2⟩
theorem Dy.absv_iv {d:Dy}:d.absv.iv=(d.iv.natAbs:Int):=by
 unfold Dy.absv
 split
 ·next h0=>rw[Dy.iv_eq_zero.2 h0,Dy.iv_zero];rfl
 show sg false _=((sg d.neg _).natAbs:Int)
 generalize d.m*2 ^ (d.e+16384).toNat=u
 unfold sg
 cases d.neg <;> simp
set_option maxHeartbeats 2000000 in
theorem Abs_ok (x:RD) (w:World) (h:x.ok w) :
  Calls Tryz.prog 170 #[.agg #[.bool x.neg,.slice x.a x.xs.length x.c,.int .i64 x.e]] w (NumOut w x.dy.absv):=by
 have hlen:=rdok_len h
 have he:=rdok_e h
 by_cases h0:x.xs.length=0
 ·have hz:((x.xs.length:Int)==0)=true:=beq_iff_eq.2 (by omega)
  have H:=hid (show x.dy.absv=.zero by unfold Dy.absv;rw[if_pos ((rdok_zero h).1 h0)])
  clear h0
  go_enter Tryz.func170,Tryz.ntmps170
  go_wp2_with fail
  generalize hW:((w.alloc _).alloc _)=W at *
  have hk:Kp w W:=hW▸((Kp.refl w).alloc _).alloc _
  have hS:W.cell? ⟨w.heap.size,0,none⟩=some (.bool x.neg)∧W.cell? ⟨w.heap.size,1,none⟩=some (.slice x.a x.xs.length x.c)∧W.cell? ⟨w.heap.size,2,none⟩=some (.int .i64 x.e):=by rw[← hW];simp
  have hB:Box3 W (w.heap.size+1) (.bool false) (.slice none 0 0) (.int .i64 0):=hW▸Box3.new2 _ _ _ _ _ _
  clear hW
  refine (Valid_rok x _ (h.kp hk)).mono ?_
  rintro e w1 ⟨rfl,hk1⟩
  have hS1:=keep3 hk1 hS
  obtain⟨q0,q1,q2,f0,f1,f2⟩:=hB.kp hk1
  have hk2:=hk.trans hk1
  clear hS hk hk1 hB
  go_wp2_with fail
  have hst:=stored q0 q1 q2 nofun nofun nofun (.bool false) (.slice none 0 0) (.int .i64 0)
  generalize (((w1.setCell _ _).setCell _ _).setCell _ _)=W2 at hst ⊢
  obtain⟨s0,s1,s2,_,s4,s5,_,_⟩:=hst
  refine bodyPost_ret (v:=.agg #[.bool false,.slice none 0 0,.int .i64 0]) (by simp[results,Tryz.results170,go_sem,s0,s1,s2]) rfl ?_
  rw[H.out]
  exact numOut_zero rfl (s5 _ hk2 (by omega))
 have hz:((x.xs.length:Int)==0)=false:=beq_eq_false_iff_ne.2 (by omega)
 have H:=hid (show x.dy.absv=⟨false,val x.xs,x.e⟩ by unfold Dy.absv;rw[if_neg (fun e=>h0 ((rdok_zero h).2 e))];rfl)
 have Hv:=hid (show (x.dy.absv.ok→vld false x.xs x.e=true) from fun hok=>by
  have:=ok_vld hok
  rwa [H.out,show limbs (Dy.m ⟨false,val x.xs,x.e⟩)=x.xs from rdok_limbs h] at this)
 clear h0
 go_enter Tryz.func170,Tryz.ntmps170
 go_wp2_with fail
 generalize hW:((w.alloc _).alloc _)=W at *
 have hk:Kp w W:=hW▸((Kp.refl w).alloc _).alloc _
 have hS:W.cell? ⟨w.heap.size,0,none⟩=some (.bool x.neg)∧W.cell? ⟨w.heap.size,1,none⟩=some (.slice x.a x.xs.length x.c)∧W.cell? ⟨w.heap.size,2,none⟩=some (.int .i64 x.e):=by rw[← hW];simp
 have hB:Box3 W (w.heap.size+1) (.bool false) (.slice none 0 0) (.int .i64 0):=hW▸Box3.new2 _ _ _ _ _ _
 clear hW
 refine (Valid_rok x _ (h.kp hk)).mono ?_
 rintro e w1 ⟨rfl,hk1⟩
 have hS1:=keep3 hk1 hS
 have hB1:=(hB.kp hk1).kp (Kp.refl w1).drew
 have hk2:=hk.trans hk1
 have hx:=(h.kp hk2).drew
 clear hS hk hk1 hB
 go_wp2_with fail
 have hS2:=keep3 (Kp.refl w1).drew hS1
 clear hS1
 go_region_held3 (fun w'=>w'.cell? ⟨w.heap.size,0,none⟩=some (.bool x.neg)∧w'.cell? ⟨w.heap.size,1,none⟩=some (.slice x.a x.xs.length x.c)∧w'.cell? ⟨w.heap.size,2,none⟩=some (.int .i64 x.e)) (first | with_reducible assumption | with_reducible exact keep3 (by assumption) (by assumption) | with_reducible exact set3x (by omega) (by assumption))
  (first
   | (go_at_call 134;refine (clone_any x.a x.xs x.c _ hx.1.1 (by omega)).mono ?_;rintro e w4 ⟨a4,c4,rfl,r4,l4,m4,hk4⟩;obtain⟨q0,q1,q2,f0,f1,f2⟩:=hB1.kp hk4))
 have hk5:=hk2.drew.trans hk4
 have hxs:=hx.1.1.lt32
 clear hS2 hB1 hx
 have hst:=stored q0 q1 q2 nofun nofun nofun (.bool false) (.slice a4 x.xs.length c4) (.int .i64 x.e)
 go_wp2_with fail
 generalize (((w4.setCell _ _).setCell _ _).setCell _ _)=W2 at hst ⊢
 obtain⟨s0,s1,s2,_,s4,s5,_,_⟩:=hst
 refine bodyPost_ret (v:=.agg #[.bool (RD.mk false a4 x.xs c4 x.e).neg,.slice (RD.mk false a4 x.xs c4 x.e).a (RD.mk false a4 x.xs c4 x.e).xs.length (RD.mk false a4 x.xs c4 x.e).c,.int .i64 (RD.mk false a4 x.xs c4 x.e).e]) (by simp[results,Tryz.results170,go_sem,s0,s1,s2]) rfl ?_
 exact⟨RD.mk false a4 x.xs c4 x.e,rfl,⟨s4 _ _ r4,l4,m4,by show x.xs.length≤1100000;omega,⟨by show _≤x.e;omega,by show x.e≤_;omega⟩⟩,H.out.symm,Hv.out,s5 _ hk5 (by omega)⟩
end Go.Proofs.YtbhmhfnfceakoaaGreatDoor
