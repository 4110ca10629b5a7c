/-
  Walks: round.sum.
-/
import Derived.Test.YtbhmhfnfceakoaaGreatDoorMAwk3
namespace Go.Proofs.YtbhmhfnfceakoaaGreatDoor
open Go.RowKit
open Lib (hid)
theorem Top_rok (x:RD) (w:World) (h:x.ok w) :
  Calls Tryz.prog 120 #[.agg #[.bool x.neg,.slice x.a x.xs.length x.c,.int .i64 x.e]] w fun e w'=>e=.returned (.int .i64 (topI x.dy))∧Kp w w':=by
 have H:=Top_ok x.dy x.a x.c w (rdok_at h)
 rw[rdok_limbs h] at H
 exact H
def SumOut (w:World) (x y:RD) (p:Nat) (e:Ending) (w':World):Prop :=
 ∃ a c M l lost T,e=.returned (.tuple #[.agg #[.slice a (limbs M).length c,.int .i64 l,.bool lost],.bool T])∧(limbs M).length≤c∧c≤maxLen∧Rd w' a (limbs M)∧(limbs M).length≤256∧-200000≤l∧l≤200000∧Kp w w' ∧
  ((M=0∧lost=false)→x.iv+y.iv=0)∧(¬ (M=0∧lost=false)→∀ up,rndS (x.neg != T) M l lost p up=rnd 0 (x.iv+y.iv) p up)
set_option maxRecDepth 100000 in
set_option maxHeartbeats 16000000 in
theorem sumS_any (x y:RD) (p:Nat) (w:World) (hx:x.ok w) (hy:y.ok w) (hx0:x.dy.m≠0) (hy0:y.dy.m≠0) (hxy:topI y.dy≤topI x.dy) (hp0:8≤p) (hp1:p≤512) (hT:Tab w) :
   Calls Tryz.prog 221 #[.agg #[.bool x.neg,.slice x.a x.xs.length x.c,.int .i64 x.e],.agg #[.bool y.neg,.slice y.a y.xs.length y.c,.int .i64 y.e],.int .i64 p] w (SumOut w x y p):=by
 have hex:=rdok_e hx
 have hey:=rdok_e hy
 have hbx:bits x.dy.m≤4096:=dok_bits (rdok_dy hx)
 have hby:bits y.dy.m≤4096:=dok_bits (rdok_dy hy)
 have htx:topI x.dy=(bits x.dy.m:Int)+x.e:=by unfold topI;rw[if_neg hx0];rfl
 have hty:topI y.dy=(bits y.dy.m:Int)+y.e:=by unfold topI;rw[if_neg hy0];rfl
 obtain⟨TX,hTX⟩:∃ t,t=topI x.dy:=⟨_,rfl⟩
 obtain⟨TY,hTY⟩:∃ t,t=topI y.dy:=⟨_,rfl⟩
 have hbX:-16384≤TX∧TX≤20480:=by omega
 have hbY:-16384≤TY∧TY≤20480:=by omega
 have HX:=hid (And.intro hTX htx)
 have HY:=hid (And.intro hTY hty)
 have TopX:=hid (fun (W:World) (h:x.ok W)=>hTX▸Top_rok x W h)
 have TopY:=hid (fun (W:World) (h:y.ok W)=>hTY▸Top_rok y W h)
 have hxm:=hid (show val x.xs≠0 from hx0)
 have hym:=hid (show val y.xs≠0 from hy0)
 have Hxy:=hid hxy
 clear htx hty hTX hTY hbx hby hxy hx0 hy0
 go_enter Tryz.func221,Tryz.ntmps221
 go_wp2_with fail
 generalize hW:(((w.alloc _).alloc _).alloc _)=W at *
 have hk:Kp w W:=hW▸(((Kp.refl w).alloc _).alloc _).alloc _
 have hS:W.cell? ⟨w.heap.size,0,none⟩=some (.bool x.neg)∧W.cell? ⟨w.heap.size,1,none⟩=some (.slice x.a x.xs.length x.c)∧W.cell? ⟨w.heap.size,2,none⟩=some (.int .i64 x.e)∧W.cell? ⟨w.heap.size+1,0,none⟩=some (.bool y.neg)∧W.cell? ⟨w.heap.size+1,1,none⟩=some (.slice y.a y.xs.length y.c)∧W.cell? ⟨w.heap.size+1,2,none⟩=some (.int .i64 y.e):=by rw[← hW];exact keep6 ((Kp.refl _).alloc _) (by simp)
 have hB:Box3 W (w.heap.size+2) (.slice none 0 0) (.int .i64 0) (.bool false):=hW▸Box3.new3 _ _ _ _ _ _ _
 clear hW
 have hx1:=(hx.kp hk).drew
 have hy1:=(hy.kp hk).drew
 have hT1:=(hT.kp hk).kp (Kp.refl W).drew
 have hS1:=keepRR (Kp.refl W).drew hS
 have hB1:=hB.kp (Kp.refl W).drew
 have hk1:=hk.drew
 clear hS hB hk
 go_region_held3 (fun w'=>w'.cell? ⟨w.heap.size,0,none⟩=some (.bool x.neg)∧w'.cell? ⟨w.heap.size,1,none⟩=some (.slice x.a x.xs.length x.c)∧w'.cell? ⟨w.heap.size,2,none⟩=some (.int .i64 x.e)∧w'.cell? ⟨w.heap.size+1,0,none⟩=some (.bool y.neg)∧w'.cell? ⟨w.heap.size+1,1,none⟩=some (.slice y.a y.xs.length y.c)∧w'.cell? ⟨w.heap.size+1,2,none⟩=some (.int .i64 y.e)) (first | with_reducible assumption | with_reducible exact keepRR (by assumption) (by assumption))
   (first
     | (go_at_call 120;(with_reducible refine (TopX.out _ hx1).mono ?_);rintro e w2 ⟨rfl,hk2⟩)
     | fail)
 have hw1:min x.e (IntKind.i64.wrap (IntKind.i64.wrap (TX-(p:Int))-8))=min x.e (TX-p-8):=by
   rw[IntWalk.i64_in (TX-(p:Int)) (by omega),IntWalk.i64_in (TX-(p:Int)-8) (by omega)]
 rw[hw1]
 clear hw1
 have hx2:=hx1.kp hk2
 have hy2:=hy1.kp hk2
 have hT2:=hT1.kp hk2
 have hS2:=keepRR hk2 hS1
 have hB2:=hB1.kp hk2
 have hk3:=hk1.trans hk2
 clear hx1 hy1 hT1 hS1 hB1 hk1 hk2
 go_wp2_with fail
 have hx3:=hx2.drew
 have hy3:=hy2.drew
 have hT3:=hT2.kp (Kp.refl w2).drew
 have hS3:=keepRR (Kp.refl w2).drew hS2
 have hB3:=hB2.kp (Kp.refl w2).drew
 have hk4:=hk3.drew
 clear hx2 hy2 hT2 hS2 hB2 hk3
 go_region_held3 (fun w'=>w'.cell? ⟨w.heap.size,0,none⟩=some (.bool x.neg)∧w'.cell? ⟨w.heap.size,1,none⟩=some (.slice x.a x.xs.length x.c)∧w'.cell? ⟨w.heap.size,2,none⟩=some (.int .i64 x.e)∧w'.cell? ⟨w.heap.size+1,0,none⟩=some (.bool y.neg)∧w'.cell? ⟨w.heap.size+1,1,none⟩=some (.slice y.a y.xs.length y.c)∧w'.cell? ⟨w.heap.size+1,2,none⟩=some (.int .i64 y.e)) (first | with_reducible assumption | with_reducible exact keepRR (by assumption) (by assumption))
   (first
     | (go_at_call 120;(with_reducible refine (TopX.out _ hx3).mono ?_);rintro e w4 ⟨rfl,hk5⟩)
     | (go_at_call 120;(with_reducible refine (TopY.out _ (hy3.kp hk5)).mono ?_);rintro e w5 ⟨rfl,hk6⟩)
     | fail)
 have hw2:IntKind.i64.wrap (TX-TY)=TX-TY:=IntWalk.i64_in _ (by omega)
 rw[hw2]
 clear hw2
 have hkk:=hk5.trans hk6
 have hx5:=hx3.kp hkk
 have hy5:=hy3.kp hkk
 have hT5:=hT3.kp hkk
 have hS5:=keepRR hkk hS3
 have hB5:=hB3.kp hkk
 have hk7:=hk4.trans hkk
 clear hx3 hy3 hT3 hS3 hB3 hk4 hk5 hk6 hkk TopX TopY
 go_upto_if 31 with fail
 go_cut [8] from 8 (fun s wx=>∃ l:Int,s=.int .i64 l∧(l≤x.e∧l≤TX-p-8∧(l≤y.e∨(y.e<l∧2<TX-TY))∧(TX-p-8≤l∨x.e≤l∨(y.e≤l∧TX-TY≤2)))∧Kp w5 wx)
 case first =>
   by_cases hc:TX-TY≤2
   · obtain⟨s0,s1,s2,t0,t1,t2⟩:=hS5
     have Hc:=hid hc
     go_wp2_with fail
     go_meet
     case rel=>exact⟨_,rfl,by have:=Hc.out;omega,.refl _⟩
   have Hc:=hid hc
   go_wp2_with fail
   go_meet
   case rel=>exact⟨_,rfl,by have:=Hc.out;omega,.refl _⟩
 case rest =>
 obtain⟨l,rfl,hl,k8⟩:=hcut
 obtain⟨W6,hW6⟩:∃ W6:World,W6=wc:=⟨_,rfl⟩
 subst hW6
 have hx6:=hx5.kp k8
 have hy6:=hy5.kp k8
 have hT6:=hT5.kp k8
 have hS6:=keepRR k8 hS5
 have hB6:=hB5.kp k8
 have hk9:=hk7.trans k8
 clear hx5 hy5 hT5 hS5 hB5 hk7 k8
 have hbx:bits (val x.xs)≤4096:=dok_bits (rdok_dy hx6)
 have hby:bits (val y.xs)≤4096:=dok_bits (rdok_dy hy6)
 have hTx:TX=(bits (val x.xs):Int)+x.e:=HX.out.1.trans HX.out.2
 have hTy:TY=(bits (val y.xs):Int)+y.e:=HY.out.1.trans HY.out.2
 have hLl:-40000≤l∧TX-l≤4700:=by omega
 have hlx:=rdok_len hx6
 have hly:=rdok_len hy6
 have HXl:=hid (show (limbs (val x.xs*2 ^ (x.e-l).toNat)).length≤200 from limbs_of_bits (by
   rw[bits_mul_pow hxm.out];omega))
 have Hl:=hid hl
 obtain⟨s0,s1,s2,t0,t1,t2⟩:=id hS6
 have hle:=hl.1
 clear hl
 have hsub:IntKind.i64.wrap (x.e-l)=x.e-l:=IntWalk.i64_in _ (by omega)
 have Hsh:=hid (roshl_any x.a x.xs x.c (x.e-l) W6 hx6.1.1 (by omega) hx6.1.2.1 hx6.1.2.2.1 (by omega) (by omega) (Nat.le_trans HXl.out (by decide)))
 go_wp2_with fail
 refine Hsh.out.mono ?_
 rintro e w7 ⟨aX,cX,rfl,lX,mX,rX,k9⟩
 generalize hXX:val x.xs*2 ^ (x.e-l).toNat=X at *
 have HXX:=hid hXX
 clear hXX Hsh
 have hy7:=hy6.kp k9
 have hT7:=hT6.kp k9
 have hS7:=keepRR k9 hS6
 have hB7:=hB6.kp k9
 have hk10:=hk9.trans k9
 clear hx6 hy6 hT6 hS6 hB6 hk9 k9 s0 s1 s2 t0 t1 t2 hsub
 obtain⟨s0,s1,s2,t0,t1,t2⟩:=id hS7
 go_upto_if 46 with fail
 go_cut [10,11] from 10 (fun s t wx=>∃ a c Y lost,s=.slice a (limbs Y).length c∧t=.bool lost∧(limbs Y).length≤c∧c≤maxLen∧Rd wx a (limbs Y)∧(limbs Y).length≤200∧Kp w7 wx ∧
   ((l≤y.e∧Y=val y.xs*2 ^ (y.e-l).toNat∧lost=false)∨(y.e<l∧2<TX-TY∧Y=val y.xs/2 ^ (l-y.e).toNat∧lost=!decide (val y.xs % 2 ^ (l-y.e).toNat=0))))
 case first =>
   by_cases hly2:l≤y.e
   · have HYl:=hid (show (limbs (val y.xs*2 ^ (y.e-l).toNat)).length≤200 from limbs_of_bits (by
       rw[bits_mul_pow hym.out]
       have h1:=Hxy.out
       rw[← HX.out.1,← HY.out.1] at h1
       omega))
     have hsub:IntKind.i64.wrap (y.e-l)=y.e-l:=IntWalk.i64_in _ (by omega)
     have Hsh:=hid (roshl_any y.a y.xs y.c (y.e-l) w7 hy7.1.1 (by omega) hy7.1.2.1 hy7.1.2.2.1 (by omega) (by omega) (Nat.le_trans HYl.out (by decide)))
     have Hly2:=hid hly2
     go_wp2_with fail
     refine Hsh.out.mono ?_
     rintro e w8 ⟨aY,cY,rfl,lY,mY,rY,k10⟩
     clear s0 s1 s2 t0 t1 t2 Hsh
     go_wp2_with fail
     go_meet
     case rel=>exact⟨aY,cY,_,false,rfl,rfl,lY,mY,rY,HYl.out,k10,.inl ⟨Hly2.out,rfl,rfl⟩⟩
   obtain⟨n,hn⟩:∃ n:Nat,(n:Int)=l-y.e:=⟨(l-y.e).toNat,by omega⟩
   have hsub:IntKind.i64.wrap (l-y.e)=l-y.e:=IntWalk.i64_in _ (by omega)
   have hnn:n=(l-y.e).toNat:=by omega
   have Hn:=hid (And.intro hnn (show y.e<l∧2<TX-TY by have:=Hl.out;omega))
   have Hsh:=roshr_any y.a y.xs y.c n w7 hy7.1.1 (by omega) hy7.1.2.1 hy7.1.2.2.1 (by omega)
   rw[hn] at Hsh
   have Hsh2:=hid Hsh
   have HYl:=hid (Nat.le_trans (limbs_length_mono (Nat.div_le_self (val y.xs) (2 ^ n))) (Nat.le_trans (limbs_len_le hy7.1.1.lt32) (show y.xs.length≤200 by omega)))
   clear Hsh hn hnn
   go_wp2_with fail
   refine Hsh2.out.mono ?_
   rintro e w8 ⟨aY,cY,rfl,lY,mY,rY,k10⟩
   clear s0 s1 s2 t0 t1 t2 Hsh2
   go_wp2_with fail
   go_meet
   case rel=>exact⟨aY,cY,_,_,rfl,rfl,lY,mY,rY,HYl.out,k10,.inr ⟨Hn.out.2.1,Hn.out.2.2,by rw[Hn.out.1],by rw[Hn.out.1]⟩⟩
 case rest =>
 obtain⟨aY,cY,Y,lost,rfl,rfl,lY,mY,rY,hYl,k10,hYY⟩:=hcut
 obtain⟨W8,hW8⟩:∃ W8:World,W8=wc:=⟨_,rfl⟩
 subst hW8
 have rX8:=rX.kp k10
 have hT8:=hT7.kp k10
 have hS8:=keepRR k10 hS7
 have hB8:=hB7.kp k10
 have hk11:=hk10.trans k10
 have hxo:=hid (hx)
 have hyo:=hid (hy)
 clear s0 s1 s2 t0 t1 t2 rX hT7 hS7 hB7 hk10 k10 hy7
 obtain⟨s0,s1,s2,t0,t1,t2⟩:=id hS8
 by_cases hn:x.neg=y.neg
 · have hn1:(x.neg==y.neg)=true:=by rw[hn];cases y.neg <;> rfl
   have HR:=hid (fun up=>sumP_same (p:=p) (up:=up) (rdok_dy hx) (rdok_dy hy) hxm.out Hl.out.1 (by have:=Hl.out.2.1;have:=hTx;show l+p+8≤(bits (val x.xs):Int)+x.e;omega) hn (Y:=Y) (lost:=lost)
     (by rcases hYY with ⟨a1, a2, a3⟩ | ⟨a1, _, a2, a3⟩
         · exact .inl ⟨a1,a2,a3⟩
         · exact .inr ⟨a1,a2,a3⟩))
   have hXY:(limbs (X+Y)).length≤256:=by
     have b1:=limbs_length_le.1 HXl.out
     have b2:=limbs_length_le.1 hYl
     refine limbs_length_le.2 ?_
     have b3:(4294967296:Nat) ^ 200+4294967296 ^ 200≤4294967296 ^ 201:=by
       rw[Nat.pow_succ];generalize (4294967296:Nat) ^ 200=Q;omega
     have b4:(4294967296:Nat) ^ 201≤4294967296 ^ 256:=Nat.pow_le_pow_right (by decide) (by decide)
     generalize (4294967296:Nat) ^ 200=Q1 at *
     generalize (4294967296:Nat) ^ 201=Q2 at *
     generalize (4294967296:Nat) ^ 256=Q3 at *
     omega
   have Had:=Add_any aX aY (limbs X) (limbs Y) cX cY W8 rX8 rY (Nat.le_trans HXl.out (by decide)) (Nat.le_trans hYl (by decide)) (by rw[val_limbs,val_limbs];exact hXY)
   rw[val_limbs,val_limbs] at Had
   have Had2:=hid Had
   have Hn:=hid hn
   clear Had hn
   go_wp2_with fail
   refine Had2.out.mono ?_
   rintro e w9 ⟨a9,c9,rfl,l9,m9,r9,k11⟩
   obtain⟨q0,q1,q2,f0,f1,f2⟩:=hB8.kp k11
   have hk12:=hk11.trans k11
   clear s0 s1 s2 t0 t1 t2 hS8 hB8 Had2
   have hst:=stored q0 q1 q2 nofun nofun nofun (.slice a9 (limbs (X+Y)).length c9) (.int .i64 l) (.bool lost)
   go_wp2_with fail
   generalize (((w9.setCell _ _).setCell _ _).setCell _ _)=W2 at hst ⊢
   obtain⟨s0,s1,s2,_,s4,s5,_,_⟩:=hst
   refine bodyPost_ret (v:=.tuple #[.agg #[.slice a9 (limbs (X+Y)).length c9,.int .i64 l,.bool lost],.bool false]) (by simp[results,Tryz.results221,go_sem,s0,s1,s2]) rfl ?_
   refine⟨a9,c9,X+Y,l,lost,false,rfl,l9,m9,s4 _ _ r9,hXY,by omega,by omega,s5 _ hk12 (by omega),?_,?_⟩
   · rintro ⟨h,_⟩
     have:X≠0:=by rw[← HXX.out];exact Nat.mul_ne_zero hxm.out (two_pow_ne _)
     omega
   intro _ up
   have h1:=HR.out up
   rw[show (x.dy.m*2 ^ (x.dy.e-l).toNat)=X from HXX.out] at h1
   have h2:(x.neg != false)=x.neg:=by cases x.neg <;> rfl
   rw[h2]
   exact h1
 have hn1:(x.neg==y.neg)=false:=by cases h1:x.neg <;> cases h2:y.neg <;> simp_all
 have HR:=hid (sumP_diff (p:=p) (rdok_dy hx) (rdok_dy hy) hxm.out Hl.out.1 (by have:=Hl.out.2.1;have:=hTx;show l+p+8≤(bits (val x.xs):Int)+x.e;omega) hn (Y:=Y) (lost:=lost)
   (by rcases hYY with ⟨a1, a2, a3⟩ | ⟨a1, a0, a2, a3⟩
       · exact .inl ⟨a1,a2,a3⟩
       · exact .inr ⟨a1,by show (bits (val y.xs):Int)+y.e+2<(bits (val x.xs):Int)+x.e;omega,a2,a3⟩))
 have Hn:=hid hn
 clear hn hYY
 obtain⟨Z,hZ⟩:∃ Z,Z=Y+(if lost then 1 else 0):=⟨_,rfl⟩
 have HZ:=hid hZ
 have hZl:(limbs Z).length≤201:=by
   have b2:=limbs_length_le.1 hYl
   refine limbs_length_le.2 ?_
   have b5:Z≤Y+1:=by rw[hZ];split <;> omega
   have b3:(4294967296:Nat) ^ 200<4294967296 ^ 201:=Nat.pow_lt_pow_right (by decide) (by decide)
   generalize (4294967296:Nat) ^ 200=Q1 at *
   generalize (4294967296:Nat) ^ 201=Q2 at *
   omega
 clear hZ
 go_upto_if 79 with fail
 go_cut [10,11] from 10 (fun s t wx=>∃ a c,s=.slice a (limbs Z).length c∧t=.bool lost∧(limbs Z).length≤c∧c≤maxLen∧Rd wx a (limbs Z)∧Kp W8 wx)
 case first =>
   clear s0 s1 s2 t0 t1 t2
   cases lost with
   | false =>
     have e0:=HZ.out
     rw[if_neg (by decide),Nat.add_zero] at e0
     subst e0
     go_wp2_with fail
     go_meet
     case rel=>exact⟨aY,cY,rfl,rfl,lY,mY,rY,.refl _⟩
   | true =>
   have e0:=HZ.out
   rw[if_pos rfl] at e0
   subst e0
   have h1:Rd (W8.alloc (.cells #[.int .u32 1] 109)) (some ⟨W8.heap.size,0,none⟩) [1]:=⟨.cons (by decide) .nil,.inr ⟨_,0,rfl,fun i hi=>by
     have:i=0:=by simpa using hi
     subst this
     simp[nth_cons_zero]⟩⟩
   have ka:=(Kp.refl W8).alloc (.cells #[.int .u32 1] 109)
   have Had:=Add_any aY (some ⟨W8.heap.size,0,none⟩) (limbs Y) [1] cY 1 _ (rY.kp ka) h1 (Nat.le_trans hYl (by decide)) (by simp) (by rw[val_limbs];show (limbs (Y+1)).length≤256;omega)
   rw[val_limbs,show val [1]=1 from rfl] at Had
   have Had2:=hid Had
   clear Had
   go_wp2_with fail
   refine Had2.out.mono ?_
   rintro e w9 ⟨a9,c9,rfl,l9,m9,r9,k11⟩
   go_wp2_with fail
   go_meet
   case rel=>exact⟨a9,c9,rfl,rfl,l9,m9,r9,ka.trans k11⟩
 case rest =>
 obtain⟨aZ,cZ,rfl,rfl,lZ,mZ,rZ,k11⟩:=hcut
 have rX9:=rX8.kp k11
 have hB9:=hB8.kp k11
 have hk12:=hk11.trans k11
 clear s0 s1 s2 t0 t1 t2 rX8 hB8 hk11 k11 hS8 hT8 rY
 go_wp2_with fail
 refine (cmp_any aX aZ (limbs X) (limbs Z) cX cZ _ rX9 rZ lX lZ mX mZ).mono ?_
 rw[val_limbs,val_limbs]
 rintro e w10 ⟨rfl,k12⟩
 have rX10:=rX9.kp k12
 have rZ10:=rZ.kp k12
 have hB10:=hB9.kp k12
 have hk13:=hk12.trans k12
 clear rX9 rZ hB9 hk12 k12
 have HR2:=HR.out
 rw[show (x.dy.m*2 ^ (x.dy.e-l).toNat)=X from HXX.out,← HZ.out] at HR2
 have HRR:=hid HR2
 clear HR2 HR
 by_cases hlt:X<Z
 rotate_left
 · have hcm:¬ cmpN X Z<0:=cmpN_nlt (by omega)
   have Hsb:=hid (show Calls Tryz.prog 124 #[.slice aX (limbs X).length cX,.slice aZ (limbs Z).length cZ] w10 (Nat2 w10 (X-Z) 0) by
     have:=Sub_any aX aZ (limbs X) (limbs Z) cX cZ w10 rX10 rZ10 (Nat.le_trans HXl.out (by decide)) (by omega) lX lZ mX mZ (by rw[val_limbs,val_limbs];omega)
     rwa [val_limbs,val_limbs] at this)
   have HA:=hid (HRR.out.2 (by omega))
   have hML:(limbs (X-Z)).length≤256:=Nat.le_trans (limbs_length_mono (Nat.sub_le _ _)) (Nat.le_trans HXl.out (by decide))
   clear hlt rX10 rZ10
   go_wp2_with fail
   refine Hsb.out.mono ?_
   rintro e w11 ⟨a9,c9,rfl,l9,m9,r9,k13⟩
   obtain⟨q0,q1,q2,f0,f1,f2⟩:=hB10.kp k13
   have hk14:=hk13.trans k13
   clear hB10 Hsb hk13 k13
   have hst:=stored q0 q1 q2 nofun nofun nofun (.slice a9 (limbs (X-Z)).length c9) (.int .i64 l) (.bool lost)
   go_wp2_with fail
   generalize (((w11.setCell _ _).setCell _ _).setCell _ _)=W2 at hst ⊢
   obtain⟨s0,s1,s2,_,s4,s5,_,_⟩:=hst
   refine bodyPost_ret (v:=.tuple #[.agg #[.slice a9 (limbs (X-Z)).length c9,.int .i64 l,.bool lost],.bool false]) (by simp[results,Tryz.results221,go_sem,s0,s1,s2]) rfl ?_
   refine⟨a9,c9,X-Z,l,lost,false,rfl,l9,m9,s4 _ _ r9,hML,by omega,by omega,s5 _ hk14 (by omega),HA.out.1,?_⟩
   intro h0 up
   have h1:=HA.out.2 h0 up
   have h2:(x.neg != false)=x.neg:=by cases x.neg <;> rfl
   rw[h2]
   exact h1
 have hcm:cmpN X Z<0:=by rw[cmpN_lt hlt];decide
 have Hsb:=hid (show Calls Tryz.prog 124 #[.slice aZ (limbs Z).length cZ,.slice aX (limbs X).length cX] w10 (Nat2 w10 (Z-X) 0) by
   have:=Sub_any aZ aX (limbs Z) (limbs X) cZ cX w10 rZ10 rX10 (by omega) (Nat.le_trans HXl.out (by decide)) lZ lX mZ mX (by rw[val_limbs,val_limbs];omega)
   rwa [val_limbs,val_limbs] at this)
 have HA:=hid (HRR.out.1 hlt)
 have Hlt:=hid hlt
 have hML:(limbs (Z-X)).length≤256:=Nat.le_trans (limbs_length_mono (Nat.sub_le _ _)) (by omega)
 clear hlt rX10 rZ10
 go_wp2_with fail
 refine Hsb.out.mono ?_
 rintro e w11 ⟨a9,c9,rfl,l9,m9,r9,k13⟩
 obtain⟨q0,q1,q2,f0,f1,f2⟩:=hB10.kp k13
 have hk14:=hk13.trans k13
 clear hB10 Hsb hk13 k13
 have hst:=stored q0 q1 q2 nofun nofun nofun (.slice a9 (limbs (Z-X)).length c9) (.int .i64 l) (.bool false)
 go_wp2_with fail
 generalize (((w11.setCell _ _).setCell _ _).setCell _ _)=W2 at hst ⊢
 obtain⟨s0,s1,s2,_,s4,s5,_,_⟩:=hst
 refine bodyPost_ret (v:=.tuple #[.agg #[.slice a9 (limbs (Z-X)).length c9,.int .i64 l,.bool false],.bool true]) (by simp[results,Tryz.results221,go_sem,s0,s1,s2]) rfl ?_
 refine⟨a9,c9,Z-X,l,false,true,rfl,l9,m9,s4 _ _ r9,hML,by omega,by omega,s5 _ hk14 (by omega),?_,?_⟩
 · rintro ⟨h,_⟩
   have:=Hlt.out
   omega
 intro _ up
 have h1:=HA.out.2 up
 have h2:(x.neg != true)=y.neg:=by have:=Hn.out;cases h3:x.neg <;> cases h4:y.neg <;> simp_all
 rw[h2]
 exact h1
end Go.Proofs.YtbhmhfnfceakoaaGreatDoor
