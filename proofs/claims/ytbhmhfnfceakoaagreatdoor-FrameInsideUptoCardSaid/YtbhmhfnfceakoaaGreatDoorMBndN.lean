/-
  Walks: linear.bound.
-/
import Derived.Deep.CutRange
import Derived.Deep.DeepFit
import Derived.Deep.RegionHeld3
import Derived.Test.YtbhmhfnfceakoaaGreatDoorMLinP
import Derived.Test.YtbhmhfnfceakoaaGreatDoorMMulN
import Derived.Test.YtbhmhfnfceakoaaGreatDoorMEqfR
namespace Go.Proofs.YtbhmhfnfceakoaaGreatDoor
open Go.RowKit
open Lib (hid)
theorem mulC_sq {V A:List (List RI)} {n p:Nat} (vV:vlM V=true) (vA:vlM A=true) (l1:V.length=n) (l2:colsM V=n) (l3:A.length=n) (l4:colsM A=n) (h0:8≤p) (h1:p≤512) :
  mulC V A (p:Int)=(tabM n n (fun i j=>dotF p (atP V i) (fun t=>atP A t j) (n-1)),0):=by
 unfold mulC mulF
 rw[vV,vA,show preB (p:Int)=true from preB_iff.2 ⟨by omega,by omega⟩,if_neg (by decide),if_neg (by decide),if_neg (by omega),l1,l2,l4]
 rfl
theorem entC_sq {op:Nat→PI→PI→PI} {M Z:List (List RI)} {n p:Nat} (vM:vlM M=true) (vZ:vlM Z=true) (l1:M.length=n) (l2:colsM M=n) (l3:Z.length=n) (l4:colsM Z=n) (h0:8≤p) (h1:p≤512) :
  entC op M Z (p:Int)=(tabM n n (fun i j=>op p (atP M i j) (atP Z i j)),0):=by
 unfold entC
 rw[vM,vZ,show preB (p:Int)=true from preB_iff.2 ⟨by omega,by omega⟩,if_neg (by decide),if_neg (by decide),if_neg (by omega),l1,l2]
 rfl
theorem lSign_rd (x:RD) (w:World) (h:x.rd w) (v:x.vl=true) :
  Calls Tryz.prog 66 #[.agg #[.bool x.neg,.slice x.a x.xs.length x.c,.int .i64 x.e]] w fun e w'=>e=.returned (.int .i64 (sgn x.dy))∧Kp w w':=by
 have H:=Sign_ok x.dy x.a x.c w (RD.at h v)
 rw[RD.limbs h v] at H
 exact H
set_option maxRecDepth 100000 in
set_option maxHeartbeats 8000000 in
theorem lbound_any (V A:List (List RI)) (a b:Option Addr) (c d n p:Nat) (w:World) (hV:RowM w a V) (hA:RowM w b A) (vV:vlM V=true) (vA:vlM A=true) (l1:V.length=n) (l2:colsM V=n) (l3:A.length=n) (l4:colsM A=n)
   (h0:8≤p) (h1:p≤512) (hT:Tab w) :
   Calls Tryz.prog 142 #[.slice a V.length c,.slice b A.length d,.int .i64 (p:Int)] w (NumB w ((bndQ (resQ n p (atP V) (atP A)) p).getD .zero) (bndQ (resQ n p (atP V) (atP A)) p).isSome):=by
 have hn:=(vlM_iff.1 vV).1
 rw[l1] at hn
 have hmul:=mmul_any a b V A c d (p:Int)
 rw[mulC_sq vV vA l1 l2 l3 l4 h0 h1] at hmul
 have k0:=(Kp.refl w).alloc (.cells #[.bool false,.slice none 0 0,.int .i64 0] 38)
 have HM:=hid (hmul _ (hV.kp k0) (hA.kp k0) (by omega) (by omega) (hT.kp k0))
 have HV:=hid hV
 have HT:=hid hT
 obtain⟨D,hD⟩:∃ D,D=bndQ (resQ n p (atP V) (atP A)) p:=⟨_,rfl⟩
 have HD:=hid hD
 rw[← hD]
 clear hV hA vV vA hT hmul hD l1 l2 l3 l4
 go_enter Tryz.func142,Tryz.ntmps142
 go_upto_region 1 with fail
 generalize hW:w.alloc _=W at *
 have hB:BoxD W w.heap.size rdZero:=by rw[← hW];exact Box3.new _ _ _ _ _
 have HK:=hid k0
 have HB:=hid hB
 clear hW hB k0
 go_wp2_with fail
 go_fit HM.out
 rintro e w1 ⟨a1,Z,c1,rfl,hZ,pZ,oZ,lZ,k1⟩
 have lZn:=tab_len pZ
 have vZ:=vlM_tab pZ oZ hn hn
 have cZ:=colsM_tab pZ hn.1
 have HZ:=hid hZ
 have HT1:=hid (HT.out.kp (HK.out.trans k1))
 have HI:=hid (midn_any Z.length w1 (by omega) (by omega) HT1.out)
 have HPZ:=hid (And.intro pZ (And.intro vZ (And.intro lZn cZ)))
 have HLZ:=hid lZ
 have HN:=hid hn
 have HK1:=hid k1
 clear hZ pZ oZ k1 HM vZ cZ lZ lZn hn
 go_wp2_with fail
 go_fit HI.out
 rintro e w2 ⟨a2,J,c2,rfl,hJ,pJ,oJ,lJ,k2⟩
 have HJ:=hid (show RowM w2 a2 J∧RowM w2 a1 Z from ⟨hJ,HZ.out.kp k2⟩)
 have HK2:=hid (HK1.out.trans k2)
 have HE:=hid (show entC (fun q X Y=>pSub X Y q) J Z (p:Int)=(resQ n p (atP V) (atP A),0) from by
   obtain⟨pZ,vZ,lZ,cZ⟩:=HPZ.out
   have hn:=HN.out
   rw[lZ] at pJ
   rw[entC_sq (vlM_tab pJ oJ hn hn) vZ (tab_len pJ) (colsM_tab pJ hn.1) lZ cZ h0 h1]
   unfold resQ
   refine congrArg (fun m=>(m,(0:Int))) (tabM_congr fun i j hi hj=>?_)
   rw[atP_tab pJ hi hj,atP_tab pZ hi hj])
 have HS:=hid (msub_any a2 a1 J Z c2 c1 (p:Int) w2 HJ.out.1 HJ.out.2 lJ HLZ.out (HT1.out.kp k2))
 rw[HE.out] at HS
 clear hJ pJ oJ lJ HJ HE k2 HZ HI HPZ
 go_wp2_with fail
 go_fit HS.out
 rintro e w3 ⟨a3,S,c3,rfl,hS,pS,oS,lS,k3⟩
 have HK3:=hid (HK2.out.trans k3)
 have HT3:=hid (HT.out.kp (HK.out.trans HK3.out))
 have HN3:=hid (mnorm_any a3 S c3 (p:Int) w3 hS lS HT3.out)
 have HQ0:=hid (show nrmO S (p:Int)=nrmQ p (resQ n p (atP V) (atP A)) .zero by
   have hn:=HN.out
   rw[nrmO_Q (vlM_tab pS oS hn hn) (preB_iff.2 ⟨by omega,by omega⟩),pS]
   rfl)
 rw[HQ0.out] at HN3
 clear hS pS oS k3 HS HK2 HQ0 HK1
 obtain⟨M,hM⟩:∃ M,M=nrmQ p (resQ n p (atP V) (atP A)) .zero:=⟨_,rfl⟩
 have HD2:=hid (show D=bndR p M by rw[HD.out,hM];rfl)
 rw[← hM] at HN3
 have HMp:=hid (show ∀ q,M=some q→q.ok∧0≤q.iv from fun q hq=>nrmQ_pos h0 h1 _ _ _ Dy.ok_zero (Int.le_of_eq (Dy.iv_eq_zero.2 rfl).symm) (hM.symm.trans hq))
 clear hM HD
 go_wp2_with fail
 go_fit HN3.out
 rintro e w4 ⟨q,rfl,rq,dq,vq,k4⟩
 have kq:=(Kp.refl w4).alloc (.cells #[.bool q.neg,.slice q.a q.xs.length q.c,.int .i64 q.e] 38)
 have HK4:=hid (HK3.out.trans (k4.trans kq))
 have HQ:=hid (And.intro (show q.ok (w4.alloc (.cells #[.bool q.neg,.slice q.a q.xs.length q.c,.int .i64 q.e] 38)) from ⟨rq.kp kq,vq⟩) dq)
 have hS6:(w4.alloc (.cells #[.bool q.neg,.slice q.a q.xs.length q.c,.int .i64 q.e] 38)).cell? ⟨w4.heap.size,0,none⟩=some (.bool q.neg)∧(w4.alloc (.cells #[.bool q.neg,.slice q.a q.xs.length q.c,.int .i64 q.e] 38)).cell? ⟨w4.heap.size,1,none⟩=some (.slice q.a q.xs.length q.c)∧(w4.alloc (.cells #[.bool q.neg,.slice q.a q.xs.length q.c,.int .i64 q.e] 38)).cell? ⟨w4.heap.size,2,none⟩=some (.int .i64 q.e):=by simp
 have hb10:w4.heap.size<(w4.alloc (.cells #[.bool q.neg,.slice q.a q.xs.length q.c,.int .i64 q.e] 38)).heap.size:=by simp
 have HB6:=hid (HB.out.kp HK4.out)
 have HK0:=hid (HK.out.trans HK4.out)
 have HT4:=hid (HT.out.kp HK0.out)
 have hg6:w.heap.size≤w4.heap.size:=(HK.out.trans (HK3.out.trans k4)).size
 clear rq dq vq k4 HK3 HT3 HT1 HN3 HB HT HK4 HK
 cases M with
 | none =>
   have HE:=hid (show D=none by rw[HD2.out];rfl)
   go_upto_region 6 with fail
   clear hS6
   generalize hW5:w4.alloc _=W5 at *
   go_cut [50] from 39 to 49 (fun s wx=>s=.bool true∧Kp W5 wx)
   case first =>
     go_region_with (fail)
     all_goals
       go_wp2_with fail
       go_meet
       case rel=>exact⟨rfl,(Kp.refl W5).drew⟩
   case rest =>
   obtain⟨rfl,kc⟩:=hcut
   obtain⟨W6,hW6⟩:∃ X:World,X=wc:=⟨_,rfl⟩
   subst hW6
   have HB7:=HB6.out.kp kc
   obtain⟨q0,q1,q2,f0,f1,f2⟩:=id HB7
   go_wp2_with fail
   generalize hW9:(((W6.setCell _ _).setCell _ _).setCell _ _)=W9
   obtain⟨⟨s0,s1,s2,_⟩,hU⟩:=BoxD.store HB7 rdZero hW9
   clear hW9 q0 q1 q2 f0 f1 f2
   refine bodyPost_ret (v:=.tuple #[.agg #[.bool rdZero.neg,.slice rdZero.a rdZero.xs.length rdZero.c,.int .i64 rdZero.e],.bool false]) (by simp[results,Tryz.results142,go_sem,s0,s1,s2]) rfl ?_
   rw[HE.out]
   exact⟨rdZero,rfl,rdZero_rd _,rfl,rdZero_vl,hU.2.2.1 _ (HK0.out.trans kc) (by omega)⟩
 | some m =>
 have HM:=hid (HMp.out m rfl)
 have HQI:=hid (show q.iv=m.iv by show q.dy.iv=_;rw[HQ.out.2];rfl)
 go_upto_region 6 with fail
 generalize hW5:w4.alloc _=W5 at *
 have kd:=hid (Kp.refl W5).drew
 have HS6:=hid hS6
 have hSd:=keep3 kd.out hS6
 clear hS6 HMp hW5
 go_region_held3 (fun w'=>w'.cell? ⟨w4.heap.size,0,none⟩=some (.bool q.neg)∧w'.cell? ⟨w4.heap.size,1,none⟩=some (.slice q.a q.xs.length q.c)∧w'.cell? ⟨w4.heap.size,2,none⟩=some (.int .i64 q.e)) (first | with_reducible assumption | with_reducible exact keep3 (by assumption) (by assumption) | fail)
   (first
     | (go_at_call 92; (with_reducible refine (pInt1_any _ (HT4.out.kp kd.out)).mono ?_); rintro e v1 ⟨y, rfl, oy, dy, j1⟩
        have KJ:=hid (kd.out.trans j1)
        have OY:=hid (And.intro oy dy)
        clear oy dy)
     | (go_at_call 68; (with_reducible refine (Cmp_rok q y _ (HQ.out.1.kp KJ.out) OY.out.1).mono ?_); rintro e v2 ⟨rfl, j2⟩
        have KJ2:=hid (KJ.out.trans j2))
     | fail)
 have HYI:=hid (show y.iv=(intD 1).iv by show y.dy.iv=_;rw[OY.out.2])
 rw[HQI.out,HYI.out]
 obtain⟨W6,hW6⟩:∃ X:World,X=v2:=⟨_,rfl⟩
 subst hW6
 have HS7:=hid (keep3 KJ2.out HS6.out)
 have HB7:=hid (HB6.out.kp KJ2.out)
 have HK7:=hid (HK0.out.trans KJ2.out)
 have HQ7:=hid (HQ.out.1.kp KJ2.out)
 have HT7:=hid (HT4.out.kp KJ2.out)
 have HSZ:=hid (show w4.heap.size<W6.heap.size by have:=KJ2.out.size;omega)
 have HQD:=hid (show q.dy=m from HQ.out.2)
 clear hSd j1 j2
 by_cases hge:(intD 1).iv≤m.iv
 · have hc:0≤cmpZ m.iv (intD 1).iv:=by
     unfold cmpZ
     split
     · omega
     · split <;> decide
   have HE:=hid (show D=none by rw[HD2.out];unfold bndR;dsimp only;rw[if_pos hge])
   clear hge
   obtain⟨q0,q1,q2,f0,f1,f2⟩:=id HB7.out
   go_wp2_with fail
   generalize hW9:(((W6.setCell _ _).setCell _ _).setCell _ _)=W9
   obtain⟨⟨s0,s1,s2,_⟩,hU⟩:=BoxD.store HB7.out rdZero hW9
   clear hW9 q0 q1 q2 f0 f1 f2
   refine bodyPost_ret (v:=.tuple #[.agg #[.bool rdZero.neg,.slice rdZero.a rdZero.xs.length rdZero.c,.int .i64 rdZero.e],.bool false]) (by simp[results,Tryz.results142,go_sem,s0,s1,s2]) rfl ?_
   rw[HE.out]
   exact⟨rdZero,rfl,rdZero_rd _,rfl,rdZero_vl,hU.2.2.1 _ HK7.out (by omega)⟩
 have hc:¬ 0≤cmpZ m.iv (intD 1).iv:=by
   unfold cmpZ
   rw[if_pos (by omega)];decide
 obtain⟨R,hR⟩:∃ R,R=adP (intD 1) m.opp p false:=⟨_,rfl⟩
 have HRp:=hid (show R.2=0→0<R.1.iv by rw[hR];exact rest_pos h0 h1 (by omega))
 have HRo:=hid (show R.1.ok by rw[hR];exact adP_ok _ _ h0 h1 _)
 have HD3:=hid (show D=if R.2≠0 then none else if (dvP m R.1 p true).2≠0 then none else some (dvP m R.1 p true).1 by rw[HD2.out];unfold bndR;dsimp only;rw[if_neg hge,hR])
 have HAD:=hid (fun (W:World) (y n:RD) (dy:y.dy=intD 1) (dn:n.dy=q.dy.opp) (oy:y.ok W) (on:n.ok W) (T:Tab W)=>rAddDown_of y n (p:Int) R.1 R.2 W (fun W' k'=>by
   have h:=add_rd y n p false W' (oy.1.kp k') (on.1.kp k') (T.kp k')
   rw[addB_dy oy on h0 h1,dy,dn,HQD.out,← hR] at h
   exact h))
 clear hge hR
 go_upto_region 8 with fail
 clear hc
 go_cut [9,12] from 52 to 59 (fun s0 t0 wx=>∃ (b1:Nat) (z:RD),s0=.int .i64 R.2∧t0=.pointer (some ⟨b1,0,none⟩)∧HasD W6 wx b1 z R.1)
 case first =>
   have KJ:=hid (Kp.refl W6).drew
   have KZ:=hid (show Kp W6 (W6.alloc (.cells #[.bool false,.slice none 0 0,.int .i64 0] 38)).drew from ((Kp.refl W6).alloc _).drew)
   have hSd:=keep3 KJ.out HS7.out
   have HSZ2:=hid (keep3 KZ.out HS7.out)
   have BZ:=hid (show Box3 (W6.alloc (.cells #[.bool false,.slice none 0 0,.int .i64 0] 38)).drew W6.heap.size _ _ _∧W6.heap.size≤W6.heap.size∧w4.heap.size≠W6.heap.size from ⟨Box3.new W6.drew _ _ _ _,Nat.le_refl _,Nat.ne_of_lt HSZ.out⟩)
   go_region_held3 (fun w'=>w'.cell? ⟨w4.heap.size,0,none⟩=some (.bool q.neg)∧w'.cell? ⟨w4.heap.size,1,none⟩=some (.slice q.a q.xs.length q.c)∧w'.cell? ⟨w4.heap.size,2,none⟩=some (.int .i64 q.e)) (first | with_reducible assumption | with_reducible exact keep3 (by assumption) (by assumption) | with_reducible exact keep3 ((Kp.refl _).alloc _) (by assumption) | with_reducible exact set3x BF.out.2.2 (by assumption) | with_reducible exact HSZ2.out | fail)
     (first
       | (go_at_call 92; (with_reducible refine (pInt1_any _ (HT7.out.kp ?hk)).mono ?_)
          case hk=>first | with_reducible exact KJ.out | with_reducible exact KJ.out.alloc _ | with_reducible exact KZ.out | fail
          rintro e v1 ⟨y,rfl,oy,dy,j1⟩
          have OY:=hid (And.intro oy dy)
          clear oy dy
          try (replace ON:=hid (And.intro (show n.ok v1 from (by first | with_reducible exact ON.out.1.kp j1 | with_reducible exact ON.out.1.kp (((Kp.refl _).alloc _).trans j1))) ON.out.2))
          first
            | (replace BF:=hid (And.intro (BF.out.1.kp j1) BF.out.2))
            | (have BF:=hid (And.intro (BZ.out.1.kp j1) BZ.out.2))
            | (have BF:=hid (And.intro ((Box3.new _ (.bool false) (.slice none 0 0) (.int .i64 0) 38).kp j1) (And.intro KJ.out.size (Nat.ne_of_lt (Nat.lt_of_lt_of_le HSZ.out KJ.out.size)))))
            | skip
          first
            | (replace KJ:=hid (KJ.out.trans j1))
            | (replace KJ:=hid (KZ.out.trans j1))
            | (replace KJ:=hid (KJ.out.trans (((Kp.refl _).alloc _).trans j1)))
            | fail
          have hSn:=keep3 KJ.out HS7.out)
       | (go_at_call 67; (with_reducible refine (Neg_ok q _ (HQ7.out.kp ?hk)).mono ?_)
          case hk=>first | with_reducible exact KJ.out | with_reducible exact KJ.out.alloc _ | with_reducible exact KZ.out | fail
          rintro e v2 ⟨n,rfl,rn,dn,vn,j1⟩
          have ON:=hid (And.intro (show n.ok v2 from ⟨rn,vn (Dy.opp_ok2 (rdok_dy HQ7.out))⟩) (show n.dy=q.dy.opp from dn))
          clear rn dn vn
          try (replace OY:=hid (And.intro (show y.ok v2 from (by first | with_reducible exact OY.out.1.kp j1 | with_reducible exact OY.out.1.kp (((Kp.refl _).alloc _).trans j1))) OY.out.2))
          first
            | (replace BF:=hid (And.intro (BF.out.1.kp j1) BF.out.2))
            | (have BF:=hid (And.intro (BZ.out.1.kp j1) BZ.out.2))
            | (have BF:=hid (And.intro ((Box3.new _ (.bool false) (.slice none 0 0) (.int .i64 0) 38).kp j1) (And.intro KJ.out.size (Nat.ne_of_lt (Nat.lt_of_lt_of_le HSZ.out KJ.out.size)))))
            | skip
          first
            | (replace KJ:=hid (KJ.out.trans j1))
            | (replace KJ:=hid (KZ.out.trans j1))
            | (replace KJ:=hid (KJ.out.trans (((Kp.refl _).alloc _).trans j1)))
            | fail
          have hSn:=keep3 KJ.out HS7.out)
       | (go_at_call 140; (with_reducible refine (HAD.out _ y n OY.out.2 ON.out.2 ?ho ?hn (HT7.out.kp ?hk)).mono ?_)
          case ho=>first | with_reducible exact OY.out.1 | with_reducible exact OY.out.1.kp ((Kp.refl _).alloc _) | fail
          case hn=>first | with_reducible exact ON.out.1 | with_reducible exact ON.out.1.kp ((Kp.refl _).alloc _) | fail
          case hk=>first | with_reducible exact KJ.out | with_reducible exact KJ.out.alloc _ | fail
          rintro e v3 ⟨z,rfl,zr,zd,zv,j1⟩
          have OZ:=hid (And.intro (show z.ok v3 from ⟨zr,zv HRo.out⟩) (show z.dy=R.1 from zd))
          clear zr zd zv
          first
            | (replace BF:=hid (And.intro (BF.out.1.kp j1) BF.out.2))
            | (have BF:=hid (And.intro ((Box3.new _ (.bool false) (.slice none 0 0) (.int .i64 0) 38).kp j1) (And.intro KJ.out.size (Nat.ne_of_lt (Nat.lt_of_lt_of_le HSZ.out KJ.out.size)))))
            | skip
          first
            | (replace KJ:=hid (KJ.out.trans j1))
            | (replace KJ:=hid (KJ.out.trans (((Kp.refl _).alloc _).trans j1)))
            | fail
          have hSn:=keep3 KJ.out HS7.out
          try (obtain⟨q0,q1,q2,f0,f1,f2⟩:=id BF.out.1))
       | fail)
   all_goals
     go_wp2_with fail
     go_meet
     case rel=>first
       | exact⟨_,z,rfl,rfl,hasD_store BF.out.1 nofun nofun nofun OZ.out.1 OZ.out.2 KJ.out BF.out.2.1⟩
       | exact⟨_,z,rfl,rfl,hasD_alloc OZ.out.1 OZ.out.2 KJ.out _⟩
 case rest =>
 obtain⟨b1,z,rfl,rfl,hD1⟩:=hcut
 obtain⟨W8,hW8⟩:∃ X:World,X=wc:=⟨_,rfl⟩
 subst hW8
 obtain⟨hz3,hzo,hzd,hkz,hbz⟩:=hD1
 have HB8:=hid (HB7.out.kp hkz)
 have HK8:=hid (HK7.out.trans hkz)
 have HQ8:=hid (HQ7.out.kp hkz)
 have HT8:=hid (HT7.out.kp hkz)
 have HZ8:=hid (And.intro hzo hzd)
 have hq3:=keep3 hkz HS7.out
 have hgb:w4.heap.size<W8.heap.size:=by have:=hkz.size;have:=HSZ.out;omega
 clear hzo hzd hkz hbz HAD HB7 HK7 HQ7 HT7 HS7
 by_cases hf:R.2=0
 rotate_left
 · have HE:=hid (show D=none by rw[HD3.out,if_pos hf])
   have g1:(R.2==0)=false:=beq_eq_false_iff_ne.2 hf
   have g2:(R.2 != 0)=true:=by rw[bne,g1];rfl
   clear hf hq3 hz3
   obtain⟨q0,q1,q2,f0,f1,f2⟩:=id HB8.out
   go_wp2_with fail
   generalize hW9:(((W8.setCell _ _).setCell _ _).setCell _ _)=W9
   obtain⟨⟨s0,s1,s2,_⟩,hU⟩:=BoxD.store HB8.out rdZero hW9
   clear hW9 q0 q1 q2 f0 f1 f2
   refine bodyPost_ret (v:=.tuple #[.agg #[.bool rdZero.neg,.slice rdZero.a rdZero.xs.length rdZero.c,.int .i64 rdZero.e],.bool false]) (by simp[results,Tryz.results142,go_sem,s0,s1,s2]) rfl ?_
   rw[HE.out]
   exact⟨rdZero,rfl,rdZero_rd _,rfl,rdZero_vl,hU.2.2.1 _ HK8.out (by omega)⟩
 have HRz:=hid (show sgn z.dy=1 from (sgn_iv z.dy).2.2.2 (by rw[HZ8.out.2];exact HRp.out hf))
 rw[hf]
 obtain⟨E,hE⟩:∃ E,E=dvP m R.1 p true:=⟨_,rfl⟩
 have HEo:=hid (show E.1.ok by rw[hE];exact dvP_okd h0 h1 _)
 have HEz:=hid (show E.2≠0→E.1=.zero by rw[hE];exact dvP_err)
 have HD4:=hid (show D=if E.2≠0 then none else some E.1 by rw[HD3.out,if_neg (by rw[hf];decide),hE])
 have HDV:=hid (fun (W:World) (k:Kp W8 W)=>rDivUp_of q z (p:Int) E.1 E.2 W (fun W' k'=>by
   have h:=div_rd q z p true W' (((HQ8.out.kp k).kp k').1) (((HZ8.out.1.kp k).kp k').1) (((HT8.out.kp k).kp k'))
   rw[divB_dy ((HQ8.out.kp k).kp k') (HZ8.out.1.kp k) h0 h1,HZ8.out.2,HQD.out,← hE] at h
   exact h))
 clear hf hE HD3 HRp
 obtain⟨q0,q1,q2⟩:=hq3
 obtain⟨z0,z1,z2⟩:=hz3
 have HSG:=hid (lSign_rd z W8 HZ8.out.1.1 HZ8.out.1.2)
 rw[HRz.out] at HSG
 go_upto_region 9 with fail
 go_wp2_with fail
 go_fit HSG.out
 rintro e W9 ⟨rfl,j9⟩
 have q0:=j9.cell q0
 have q1:=j9.cell q1
 have q2:=j9.cell q2
 have z0:=j9.cell z0
 have z1:=j9.cell z1
 have z2:=j9.cell z2
 go_wp2_with fail
 go_fit (HDV.out _ j9)
 rintro e W10 ⟨y,rfl,yr,yd,yv,j10⟩
 have kB:=(Kp.refl W10).alloc (.cells #[.bool y.neg,.slice y.a y.xs.length y.c,.int .i64 y.e] 38)
 have HB9:=hid (HB8.out.kp (j9.trans (j10.trans kB)))
 have HK9:=hid (HK8.out.trans (j9.trans (j10.trans kB)))
 have HY:=hid (And.intro (yr.kp kB) (And.intro yd (yv HEo.out)))
 have hy3:(W10.alloc (.cells #[.bool y.neg,.slice y.a y.xs.length y.c,.int .i64 y.e] 38)).cell? ⟨W10.heap.size,0,none⟩=some (.bool y.neg)∧(W10.alloc (.cells #[.bool y.neg,.slice y.a y.xs.length y.c,.int .i64 y.e] 38)).cell? ⟨W10.heap.size,1,none⟩=some (.slice y.a y.xs.length y.c)∧(W10.alloc (.cells #[.bool y.neg,.slice y.a y.xs.length y.c,.int .i64 y.e] 38)).cell? ⟨W10.heap.size,2,none⟩=some (.int .i64 y.e):=by simp
 have hgy:w4.heap.size<W10.heap.size:=by have:=(j9.trans j10).size;omega
 clear j9 j10 kB yr yd yv q0 q1 q2 z0 z1 z2
 go_upto_region 12 with fail
 generalize hW11:W10.alloc _=W11 at *
 clear hW11
 obtain⟨y0,y1,y2⟩:=hy3
 obtain⟨q0,q1,q2,f0,f1,f2⟩:=id HB9.out
 by_cases hg:E.2=0
 · have HE:=hid (show D=some E.1 by rw[HD4.out,if_neg (by rw[hg];decide)])
   rw[hg]
   clear hg
   go_wp2_with fail
   generalize hW9:(((W11.setCell _ _).setCell _ _).setCell _ _)=W12
   obtain⟨⟨s0,s1,s2,_⟩,hU⟩:=BoxD.store HB9.out y hW9
   clear hW9 q0 q1 q2 f0 f1 f2
   refine bodyPost_ret (v:=.tuple #[.agg #[.bool y.neg,.slice y.a y.xs.length y.c,.int .i64 y.e],.bool true]) (by simp[results,Tryz.results142,go_sem,s0,s1,s2]) rfl ?_
   rw[HE.out]
   exact⟨y,rfl,hU.rdD HY.out.1,HY.out.2.1,HY.out.2.2,hU.2.2.1 _ HK9.out (by omega)⟩
 have HE:=hid (show D=none by rw[HD4.out,if_pos hg])
 have HZz:=hid (show y.dy=.zero by rw[HY.out.2.1];exact HEz.out hg)
 have g1:(E.2==0)=false:=beq_eq_false_iff_ne.2 hg
 clear hg
 go_wp2_with fail
 generalize hW9:(((W11.setCell _ _).setCell _ _).setCell _ _)=W12
 obtain⟨⟨s0,s1,s2,_⟩,hU⟩:=BoxD.store HB9.out y hW9
 clear hW9 q0 q1 q2 f0 f1 f2
 refine bodyPost_ret (v:=.tuple #[.agg #[.bool y.neg,.slice y.a y.xs.length y.c,.int .i64 y.e],.bool false]) (by simp[results,Tryz.results142,go_sem,s0,s1,s2]) rfl ?_
 rw[HE.out]
 exact⟨y,rfl,hU.rdD HY.out.1,HZz.out,HY.out.2.2,hU.2.2.1 _ HK9.out (by omega)⟩
end Go.Proofs.YtbhmhfnfceakoaaGreatDoor
