/-
  Walks: the law's awake (frames).
-/
import Derived.Deep.CutRange
import Derived.Deep.RegionHeld3
import Derived.Test.YtbhmhfnfceakoaaGreatDoorMExF
import Derived.Test.YtbhmhfnfceakoaaGreatDoorMFrN
namespace Go.Proofs.YtbhmhfnfceakoaaGreatDoor
open Go.RowKit
open Lib (hid)
theorem keepA {w w':World} (k:Kp w w') {q0 q1 q2 q3 q4 q5 q6 q7 q8 q9 q10 q11 q12 q13 q14 q15 q16 q17 q18 q19 q20 q21 q22:Addr} {u0 u1 u2 u3 u4 u5 u6 u7 u8 u9 u10 u11 u12 u13 u14 u15 u16 u17 u18 u19 u20 u21 u22:Value} (h:w.cell? q0=some u0∧w.cell? q1=some u1∧w.cell? q2=some u2∧w.cell? q3=some u3∧w.cell? q4=some u4∧w.cell? q5=some u5∧w.cell? q6=some u6∧w.cell? q7=some u7∧w.cell? q8=some u8∧w.cell? q9=some u9∧w.cell? q10=some u10∧w.cell? q11=some u11∧w.cell? q12=some u12∧w.cell? q13=some u13∧w.cell? q14=some u14∧w.cell? q15=some u15∧w.cell? q16=some u16∧w.cell? q17=some u17∧w.cell? q18=some u18∧w.cell? q19=some u19∧w.cell? q20=some u20∧w.cell? q21=some u21∧w.cell? q22=some u22) :
  w'.cell? q0=some u0∧w'.cell? q1=some u1∧w'.cell? q2=some u2∧w'.cell? q3=some u3∧w'.cell? q4=some u4∧w'.cell? q5=some u5∧w'.cell? q6=some u6∧w'.cell? q7=some u7∧w'.cell? q8=some u8∧w'.cell? q9=some u9∧w'.cell? q10=some u10∧w'.cell? q11=some u11∧w'.cell? q12=some u12∧w'.cell? q13=some u13∧w'.cell? q14=some u14∧w'.cell? q15=some u15∧w'.cell? q16=some u16∧w'.cell? q17=some u17∧w'.cell? q18=some u18∧w'.cell? q19=some u19∧w'.cell? q20=some u20∧w'.cell? q21=some u21∧w'.cell? q22=some u22 :=
 ⟨(k).cell h.1,(k).cell h.2.1,(k).cell h.2.2.1,(k).cell h.2.2.2.1,(k).cell h.2.2.2.2.1,(k).cell h.2.2.2.2.2.1,(k).cell h.2.2.2.2.2.2.1,(k).cell h.2.2.2.2.2.2.2.1,(k).cell h.2.2.2.2.2.2.2.2.1,(k).cell h.2.2.2.2.2.2.2.2.2.1,(k).cell h.2.2.2.2.2.2.2.2.2.2.1,(k).cell h.2.2.2.2.2.2.2.2.2.2.2.1,(k).cell h.2.2.2.2.2.2.2.2.2.2.2.2.1,(k).cell h.2.2.2.2.2.2.2.2.2.2.2.2.2.1,(k).cell h.2.2.2.2.2.2.2.2.2.2.2.2.2.2.1,(k).cell h.2.2.2.2.2.2.2.2.2.2.2.2.2.2.2.1,(k).cell h.2.2.2.2.2.2.2.2.2.2.2.2.2.2.2.2.1,(k).cell h.2.2.2.2.2.2.2.2.2.2.2.2.2.2.2.2.2.1,(k).cell h.2.2.2.2.2.2.2.2.2.2.2.2.2.2.2.2.2.2.1,(k).cell h.2.2.2.2.2.2.2.2.2.2.2.2.2.2.2.2.2.2.2.1,(k).cell h.2.2.2.2.2.2.2.2.2.2.2.2.2.2.2.2.2.2.2.2.1,(k).cell h.2.2.2.2.2.2.2.2.2.2.2.2.2.2.2.2.2.2.2.2.2.1,(k).cell h.2.2.2.2.2.2.2.2.2.2.2.2.2.2.2.2.2.2.2.2.2.2⟩
theorem numberF_zero (x:RD) (w:World) (hx:x.ok w) (h:x.dy=intD 0) :
  Calls Tryz.prog 41 #[.agg #[.bool x.neg,.slice x.a x.xs.length x.c,.int .i64 x.e],.agg #[.bool false,.slice none 0 0,.int .i64 0]] w fun e w'=>e=.returned (.bool true)∧Kp w w':=by
 have h1:=numberF_any x rdZero w hx.1 (rdZero_rd _)
 rw[sameR_dy hx (⟨rdZero_rd w,rdZero_vl⟩:rdZero.ok w) (h.trans intD_zero)] at h1
 exact h1
theorem two_of {α β:Type} {f:α→β} {Z:List α} {a b:β} (h:Z.map f=[a,b]):∃ x y,Z=[x,y]∧f x=a∧f y=b:=by
 match Z,h with
 | [x,y],h=>simp at h;exact⟨x,y,rfl,h.1,h.2⟩
set_option maxRecDepth 100000 in
set_option maxHeartbeats 16000000 in
theorem awakeF_any (w:World) (hT:Tab w) :
   Calls Tryz.prog 7 #[] w fun e w'=>e=.returned (.bool true)∧Kp w w':=by
 have HT:=hid hT
 clear hT
 go_enter Tryz.func7,Tryz.ntmps7
 go_wp2_with fail
 go_fit (example_any _)
 rintro e w1 ⟨f,rfl,hf,he,k1⟩
 have HX:=hid he
 have ka:=(Kp.refl w1).alloc (.cells #[.slice f.ca f.cs.length f.cc,.slice f.aa f.ms.length f.ac,.slice f.ra f.rs.length f.rc] 26)
 have HF:=hid (hf.kp ka)
 have HK1:=hid (k1.trans ka)
 clear hf he k1
 go_upto_region 2 with fail
 obtain⟨b0,hb0⟩:∃ n:Nat,n=w1.heap.size:=⟨_,rfl⟩
 rw[← hb0]
 generalize hW1:w1.alloc _=W1 at *
 have HS:=hid (show W1.cell? ⟨b0,0,none⟩=some (.slice f.ca f.cs.length f.cc)∧W1.cell? ⟨b0,1,none⟩=some (.slice f.aa f.ms.length f.ac)∧W1.cell? ⟨b0,2,none⟩=some (.slice f.ra f.rs.length f.rc) by rw[← hW1,hb0];simp)
 clear hW1 ka hb0
 obtain⟨s0,s1,s2⟩:=id HS.out
 go_wp2_with fail
 go_fit (fbox_any f 24 _ HF.out (HT.out.kp HK1.out))
 rintro e w2 hE
 rw[show boxC f 24=[pnI 0 4,pnI 1 3] by unfold boxC;rw[exF_vl HX.out];exact exF_box HX.out] at hE
 obtain⟨aZ,Z,cZ,rfl,rZ,pZ,vZ,_,k2⟩:=hE
 obtain⟨z0,z1,rfl,pz0,pz1⟩:=two_of pZ
 have HK2:=hid (HK1.out.trans k2)
 have HS2:=hid (keepF k2 HS.out)
 have HF2:=hid (HF.out.kp k2)
 have HZ:=hid (And.intro rZ (And.intro (And.intro pz0 pz1) (And.intro (vZ z0 (by simp)) (vZ z1 (by simp)))))
 clear s0 s1 s2 rZ pZ pz0 pz1 vZ k2
 go_upto_region 3 with fail
 go_cut [3,4] from 8 to 15 (fun s t wx=>∃ (aP:Option Addr) (p0 p1:RD) (cP:Nat),s=.slice aP 2 cP∧t=.int .i64 0∧RowD wx aP [p0,p1]∧p0.dy=intD 4∧p1.dy=intD 3∧p0.vl=true∧p1.vl=true∧Kp w2 wx)
 case first =>
   have kd:=(Kp.refl w2).drew
   have HK:=hid kd
   have HSS:=hid (keepF kd HS2.out)
   have hS3:=keepF kd HS2.out
   clear kd
   go_region_held3 (fun w'=>w'.cell? ⟨b0,0,none⟩=some (.slice f.ca f.cs.length f.cc)∧w'.cell? ⟨b0,1,none⟩=some (.slice f.aa f.ms.length f.ac)∧w'.cell? ⟨b0,2,none⟩=some (.slice f.ra f.rs.length f.rc)) (first | with_reducible assumption | with_reducible exact keepF HK.out HS2.out | with_reducible exact keepF (HK.out.alloc _) HS2.out | fail)
     (first
       | (go_at_call_of 40 (Value.int .i64 1);refine (numF_any 1 _ (by decide) (by decide)).mono ?_;rintro e vv ⟨n1,rfl,on1,dn1,j⟩;(try replace on2:=on2.kp j);replace HK:=hid (HK.out.trans j);clear j)
       | (go_at_call_of 40 (Value.int .i64 2);refine (numF_any 2 _ (by decide) (by decide)).mono ?_;rintro e vv ⟨n2,rfl,on2,dn2,j⟩;(try replace on1:=on1.kp j);replace HK:=hid (HK.out.trans j);clear j)
       | (go_at_call 37
          have HP:=hid (fpoint_any f (some ⟨vv.heap.size,0,none⟩) [n1,n2] 2 _ (HF2.out.kp (HK.out.alloc (.cells #[.bool n1.neg,.slice n1.a n1.xs.length n1.c,.int .i64 n1.e,.bool n2.neg,.slice n2.a n2.xs.length n2.c,.int .i64 n2.e] 38))) (rowD_two vv n1 n2 on1.1 on2.1 _) (by simp) (HT.out.kp (HK2.out.trans (HK.out.alloc _))))
          have HV:=hid (show ptC f [n1,n2]=([intD 4,intD 3],0) by
            have hl:f.cs.length=2:=by obtain⟨c0,c1,_,_,_,_,_,_,e1,_⟩:=HX.out;rw[e1];rfl
            unfold ptC
            rw[exF_vl HX.out,if_neg (by decide),if_neg (by simp[on1.2,on2.2]),if_neg (by rw[hl];simp),exF_pt HX.out dn1 dn2];rfl)
          refine HP.out.mono ?_;rw[HV.out];rintro e v3 ⟨aP,P,cP,rfl,rP,pP,vP,_,j⟩
          replace HK:=hid ((HK.out.alloc _).trans j)
          clear j)
       | fail)
   all_goals
     obtain⟨p0,p1,rfl,pp0,pp1⟩:=two_of pP
     have hv0:=vP p0 (by simp)
     have hv1:=vP p1 (by simp)
     go_wp2_with fail
     go_meet
     case rel=>exact⟨aP,p0,p1,cP,rfl,rfl,rP,pp0,pp1,hv0,hv1,HK.out⟩
 case rest =>
 obtain⟨aP,p0,p1,cP,rfl,rfl,rP,pp0,pp1,vp0,vp1,k3⟩:=hcut
 obtain⟨W3,hW3⟩:∃ x:World,x=wc:=⟨_,rfl⟩
 subst hW3
 have HK3:=hid (HK2.out.trans k3)
 have kd:=(Kp.refl W3).drew
 obtain⟨bz,oz,rfl,rz0,hz0⟩:=(HZ.out.1.kp (k3.trans kd)) 0 z0 rfl
 obtain⟨bz',oz',e1,rz1,hz1⟩:=(HZ.out.1.kp (k3.trans kd)) 1 z1 rfl
 cases e1
 obtain⟨bp,op,rfl,rp0,hp0⟩:=(rP.kp kd) 0 p0 rfl
 obtain⟨bp',op',e1,rp1,hp1⟩:=(rP.kp kd) 1 p1 rfl
 cases e1
 rw[Nat.zero_mul,Nat.add_zero] at hz0 hp0
 rw[Nat.one_mul] at hz1 hp1
 obtain⟨s0,s1,s2⟩:=keepF (k3.trans kd) HS2.out
 have hSS:W3.drew.cell? ⟨b0,0,none⟩=some (.slice f.ca f.cs.length f.cc)∧W3.drew.cell? ⟨b0,1,none⟩=some (.slice f.aa f.ms.length f.ac)∧W3.drew.cell? ⟨b0,2,none⟩=some (.slice f.ra f.rs.length f.rc)∧W3.drew.cell? ⟨bz,oz,none⟩=some (.bool z0.lo.neg)∧W3.drew.cell? ⟨bz,oz+1,none⟩=some (.slice z0.lo.a z0.lo.xs.length z0.lo.c)∧W3.drew.cell? ⟨bz,oz+2,none⟩=some (.int .i64 z0.lo.e)∧W3.drew.cell? ⟨bz,oz+3,none⟩=some (.bool z0.hi.neg)∧W3.drew.cell? ⟨bz,oz+4,none⟩=some (.slice z0.hi.a z0.hi.xs.length z0.hi.c)∧W3.drew.cell? ⟨bz,oz+5,none⟩=some (.int .i64 z0.hi.e)∧W3.drew.cell? ⟨bz,oz+6,none⟩=some (.bool z0.all)∧W3.drew.cell? ⟨bz,oz+7,none⟩=some (.bool z1.lo.neg)∧W3.drew.cell? ⟨bz,oz+7+1,none⟩=some (.slice z1.lo.a z1.lo.xs.length z1.lo.c)∧W3.drew.cell? ⟨bz,oz+7+2,none⟩=some (.int .i64 z1.lo.e)∧W3.drew.cell? ⟨bz,oz+7+3,none⟩=some (.bool z1.hi.neg)∧W3.drew.cell? ⟨bz,oz+7+4,none⟩=some (.slice z1.hi.a z1.hi.xs.length z1.hi.c)∧W3.drew.cell? ⟨bz,oz+7+5,none⟩=some (.int .i64 z1.hi.e)∧W3.drew.cell? ⟨bz,oz+7+6,none⟩=some (.bool z1.all)∧W3.drew.cell? ⟨bp,op,none⟩=some (.bool p0.neg)∧W3.drew.cell? ⟨bp,op+1,none⟩=some (.slice p0.a p0.xs.length p0.c)∧W3.drew.cell? ⟨bp,op+2,none⟩=some (.int .i64 p0.e)∧W3.drew.cell? ⟨bp,op+3,none⟩=some (.bool p1.neg)∧W3.drew.cell? ⟨bp,op+3+1,none⟩=some (.slice p1.a p1.xs.length p1.c)∧W3.drew.cell? ⟨bp,op+3+2,none⟩=some (.int .i64 p1.e):=⟨s0,s1,s2,hz0.1,hz0.2.1,hz0.2.2.1,hz0.2.2.2.1,hz0.2.2.2.2.1,hz0.2.2.2.2.2.1,hz0.2.2.2.2.2.2,hz1.1,hz1.2.1,hz1.2.2.1,hz1.2.2.2.1,hz1.2.2.2.2.1,hz1.2.2.2.2.2.1,hz1.2.2.2.2.2.2,hp0.1,hp0.2.1,hp0.2.2,hp1⟩
 have HSS:=hid hSS
 have HF3:=hid (HF2.out.kp (k3.trans kd))
 have HFV:=hid (fval_any f _ HF3.out)
 rw[exF_vl HX.out] at HFV
 have HK:=hid (Kp.refl W3.drew)
 have HKW:=hid (HK3.out.trans kd)
 have O0:=hid (ok_of rz0 HZ.out.2.2.1 (congrArg PI.all HZ.out.2.1.1))
 have O1:=hid (ok_of rz1 HZ.out.2.2.2 (congrArg PI.all HZ.out.2.1.2))
 have A0:=hid O0.out.lo
 have A1:=hid O0.out.hi
 have A2:=hid O1.out.lo
 have A3:=hid O1.out.hi
 have A4:=hid (show p0.ok W3.drew from ⟨rp0,vp0⟩)
 have A5:=hid (show p1.ok W3.drew from ⟨rp1,vp1⟩)
 have R1:=hid A1.out.1
 have R2:=hid A2.out.1
 have R3:=hid A3.out.1
 have R4:=hid A4.out.1
 have R5:=hid A5.out.1
 have D0:=hid (show z0.lo.dy=intD 0 from congrArg PI.lo HZ.out.2.1.1)
 have D1:=hid (show z0.hi.dy=intD 4 from congrArg PI.hi HZ.out.2.1.1)
 have D2:=hid (show z1.lo.dy=intD 1 from congrArg PI.lo HZ.out.2.1.2)
 have D3:=hid (show z1.hi.dy=intD 3 from congrArg PI.hi HZ.out.2.1.2)
 have D4:=hid pp0
 have D5:=hid pp1
 clear s0 s1 s2 hz0 hz1 hp0 hp1 rz0 rz1 rp0 rp1 rP k3 kd pp0 pp1 vp0 vp1 hSS
 have hSd:=HSS.out
 go_upto_region 4 with fail
 go_region_held3 (fun w'=>w'.cell? ⟨b0,0,none⟩=some (.slice f.ca f.cs.length f.cc)∧w'.cell? ⟨b0,1,none⟩=some (.slice f.aa f.ms.length f.ac)∧w'.cell? ⟨b0,2,none⟩=some (.slice f.ra f.rs.length f.rc)∧w'.cell? ⟨bz,oz,none⟩=some (.bool z0.lo.neg)∧w'.cell? ⟨bz,oz+1,none⟩=some (.slice z0.lo.a z0.lo.xs.length z0.lo.c)∧w'.cell? ⟨bz,oz+2,none⟩=some (.int .i64 z0.lo.e)∧w'.cell? ⟨bz,oz+3,none⟩=some (.bool z0.hi.neg)∧w'.cell? ⟨bz,oz+4,none⟩=some (.slice z0.hi.a z0.hi.xs.length z0.hi.c)∧w'.cell? ⟨bz,oz+5,none⟩=some (.int .i64 z0.hi.e)∧w'.cell? ⟨bz,oz+6,none⟩=some (.bool z0.all)∧w'.cell? ⟨bz,oz+7,none⟩=some (.bool z1.lo.neg)∧w'.cell? ⟨bz,oz+7+1,none⟩=some (.slice z1.lo.a z1.lo.xs.length z1.lo.c)∧w'.cell? ⟨bz,oz+7+2,none⟩=some (.int .i64 z1.lo.e)∧w'.cell? ⟨bz,oz+7+3,none⟩=some (.bool z1.hi.neg)∧w'.cell? ⟨bz,oz+7+4,none⟩=some (.slice z1.hi.a z1.hi.xs.length z1.hi.c)∧w'.cell? ⟨bz,oz+7+5,none⟩=some (.int .i64 z1.hi.e)∧w'.cell? ⟨bz,oz+7+6,none⟩=some (.bool z1.all)∧w'.cell? ⟨bp,op,none⟩=some (.bool p0.neg)∧w'.cell? ⟨bp,op+1,none⟩=some (.slice p0.a p0.xs.length p0.c)∧w'.cell? ⟨bp,op+2,none⟩=some (.int .i64 p0.e)∧w'.cell? ⟨bp,op+3,none⟩=some (.bool p1.neg)∧w'.cell? ⟨bp,op+3+1,none⟩=some (.slice p1.a p1.xs.length p1.c)∧w'.cell? ⟨bp,op+3+2,none⟩=some (.int .i64 p1.e)) (first | with_reducible exact HSS.out | with_reducible exact keepA HK.out HSS.out | fail)
   (first
     | (go_at_call 27;(with_reducible refine HFV.out.mono ?_);rintro e vv ⟨rfl,j⟩;replace HK:=hid (HK.out.trans j);clear j)
     | (go_at_call_of 40 (Value.int .i64 0);refine (numF_zero _).mono ?_;rintro e vv ⟨rfl,j⟩;replace HK:=hid (HK.out.trans j);clear j)
     | (go_at_call_of 40 (Value.int .i64 1);refine (numF_any 1 _ (by decide) (by decide)).mono ?_;rintro e vv ⟨n1,rfl,⟨rn1,vn1⟩,dn1,j⟩;replace HK:=hid (HK.out.trans j);clear j)
     | (go_at_call_of 40 (Value.int .i64 3);refine (numF_any 3 _ (by decide) (by decide)).mono ?_;rintro e vv ⟨n1,rfl,⟨rn1,vn1⟩,dn1,j⟩;replace HK:=hid (HK.out.trans j);clear j)
     | (go_at_call_of 40 (Value.int .i64 4);refine (numF_any 4 _ (by decide) (by decide)).mono ?_;rintro e vv ⟨n1,rfl,⟨rn1,vn1⟩,dn1,j⟩;replace HK:=hid (HK.out.trans j);clear j)
     | (go_at_call 41;(with_reducible refine (numberF_zero z0.lo _ (A0.out.kp HK.out) D0.out).mono ?_);rintro e vv ⟨rfl,j⟩;replace HK:=hid (HK.out.trans j);clear j)
     | (go_at_call 41;(with_reducible refine (numberF_any z0.hi n1 _ (R1.out.kp HK.out) rn1).mono ?_);rw[sameR_dy (A1.out.kp HK.out) ⟨rn1,vn1⟩ (D1.out.trans dn1.symm)];rintro e vv ⟨rfl,j⟩;replace HK:=hid (HK.out.trans j);clear j)
     | (go_at_call 41;(with_reducible refine (numberF_any z1.lo n1 _ (R2.out.kp HK.out) rn1).mono ?_);rw[sameR_dy (A2.out.kp HK.out) ⟨rn1,vn1⟩ (D2.out.trans dn1.symm)];rintro e vv ⟨rfl,j⟩;replace HK:=hid (HK.out.trans j);clear j)
     | (go_at_call 41;(with_reducible refine (numberF_any z1.hi n1 _ (R3.out.kp HK.out) rn1).mono ?_);rw[sameR_dy (A3.out.kp HK.out) ⟨rn1,vn1⟩ (D3.out.trans dn1.symm)];rintro e vv ⟨rfl,j⟩;replace HK:=hid (HK.out.trans j);clear j)
     | (go_at_call 41;(with_reducible refine (numberF_any p0 n1 _ (R4.out.kp HK.out) rn1).mono ?_);rw[sameR_dy (A4.out.kp HK.out) ⟨rn1,vn1⟩ (D4.out.trans dn1.symm)];rintro e vv ⟨rfl,j⟩;replace HK:=hid (HK.out.trans j);clear j)
     | (go_at_call 41;(with_reducible refine (numberF_any p1 n1 _ (R5.out.kp HK.out) rn1).mono ?_);rw[sameR_dy (A5.out.kp HK.out) ⟨rn1,vn1⟩ (D5.out.trans dn1.symm)];rintro e vv ⟨rfl,j⟩;replace HK:=hid (HK.out.trans j);clear j)
     | fail)
 go_wp2_with fail
 go_ret
 exact⟨rfl,HKW.out.trans HK.out⟩
end Go.Proofs.YtbhmhfnfceakoaaGreatDoor
