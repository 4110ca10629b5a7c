/-
  Walks: frame.copied, plus, Box.
-/
import Derived.Deep.LoopGhost
import Derived.Deep.DeepFit
import Derived.Deep.RegionLaw
import Derived.Deep.RegionHeld3
import Derived.Test.YtbhmhfnfceakoaaGreatDoorMEchM
import Derived.Test.YtbhmhfnfceakoaaGreatDoorMEqfR
import Derived.Test.YtbhmhfnfceakoaaGreatDoorMIvMl
namespace Go.Proofs.YtbhmhfnfceakoaaGreatDoor
open Go.RowKit
open Lib (hid)
set_option maxHeartbeats 4000000 in
theorem copied_any (x:RD) (w:World) (hx:x.ok w) :
  Calls Tryz.prog 94 #[.agg #[.bool x.neg,.slice x.a x.xs.length x.c,.int .i64 x.e]] w fun e w'=>∃ y:RD,e=.returned (.agg #[.bool y.neg,.slice y.a y.xs.length y.c,.int .i64 y.e])∧y.ok w'∧y.dy=x.dy∧Kp w w':=by
 have kk:=((Kp.refl w).alloc (.cells #[.bool x.neg,.slice x.a x.xs.length x.c,.int .i64 x.e] 38)).alloc (.cells #[.bool false,.slice none 0 0,.int .i64 0] 38)
 have HX:=hid hx
 have hS:BoxD ((w.alloc (.cells #[.bool x.neg,.slice x.a x.xs.length x.c,.int .i64 x.e] 38)).alloc (.cells #[.bool false,.slice none 0 0,.int .i64 0] 38)) w.heap.size x:=(BoxD.new w x _).kp ((Kp.refl _).alloc _)
 have hB:Box3 ((w.alloc (.cells #[.bool x.neg,.slice x.a x.xs.length x.c,.int .i64 x.e] 38)).alloc (.cells #[.bool false,.slice none 0 0,.int .i64 0] 38)) (w.heap.size+1) (.bool false) (.slice none 0 0) (.int .i64 0):=Box3.new2 _ _ _ _ _ _
 clear hx
 go_enter Tryz.func94,Tryz.ntmps94
 go_upto_region 1 with fail
 generalize ((w.alloc _).alloc _)=W at *
 obtain⟨s0,s1,s2,g0,g1,g2⟩:=id hS
 go_wp2_with fail
 go_fit (clone_any x.a x.xs x.c _ (HX.out.1.kp kk).1 (by have:=HX.out.1.2.2.2.1;omega))
 rintro e w4 ⟨a4,c4,rfl,r4,l4,m4,hk4⟩
 have hS4:=hS.kp hk4
 have hB4:=hB.kp hk4
 have HK4:=hid (kk.trans hk4)
 have HR:=hid (And.intro r4 (And.intro l4 m4))
 clear s0 s1 s2 g0 g1 g2 hS hB hk4 r4 l4 m4 kk
 obtain⟨s0,s1,s2,g0,g1,g2⟩:=id hS4
 go_upto_region 2 with fail
 obtain⟨hN,hU⟩:=Box3.setM hS4 nofun (.slice a4 x.xs.length c4)
 have hB5:=hU.box3 (b:=w.heap.size+1) (by omega) hB4
 generalize hW5:w4.setCell _ _=W5 at *
 have HK5:=hid (hU.2.2.1 _ HK4.out (Nat.le_refl _))
 have HR5:=hid (hU.2.1 _ _ HR.out.1)
 clear hS4 hB4 s0 s1 s2 g0 g1 g2 hW5 hU
 obtain⟨s0,s1,s2,g0,g1,g2⟩:=id hN
 obtain⟨q0,q1,q2,f0,f1,f2⟩:=id hB5
 go_wp2_with fail
 generalize hW9:(((W5.setCell _ _).setCell _ _).setCell _ _)=W9
 obtain⟨⟨r0,r1,r2,_⟩,hU⟩:=stored3 hB5 nofun nofun nofun _ _ _ hW9
 clear hW9 q0 q1 q2 f0 f1 f2 s0 s1 s2 g0 g1 g2
 refine bodyPost_ret (v:=.agg #[.bool x.neg,.slice a4 x.xs.length c4,.int .i64 x.e]) (by simp[results,Tryz.results94,go_sem,r0,r1,r2]) rfl ?_
 exact⟨⟨x.neg,a4,x.xs,c4,x.e⟩,rfl,⟨⟨hU.2.1 _ _ HR5.out,HR.out.2.1,HR.out.2.2,HX.out.1.2.2.2⟩,HX.out.2⟩,rfl,hU.2.2.1 _ HK5.out (by omega)⟩
def RowV (w:World) (X:List PI) (e:Ending) (w':World):Prop :=
 ∃ (a:Option Addr) (Z:List RI) (c:Nat),e=.returned (.slice a Z.length c)∧RowI w' a Z∧plR Z=X∧(∀ x∈Z,x.vl=true)∧Z.length≤1100000∧Kp w w'
set_option maxRecDepth 100000 in
set_option maxHeartbeats 8000000 in
theorem plus_any (a b:Option Addr) (X Y:List RI) (c d:Nat) (p:Nat) (w:World) (hX:RowI w a X) (hY:RowI w b Y) (vX:∀ x∈X,x.vl=true) (vY:∀ x∈Y,x.vl=true) (hl:X.length=Y.length) (h8:X.length≤8) (h0:8≤p) (h1:p≤512) (hT:Tab w) :
   Calls Tryz.prog 81 #[.slice a X.length c,.slice b Y.length d,.int .i64 (p:Int)] w (RowV w (rowF X.length fun i=>pAdd (rowG X i) (rowG Y i) p)):=by
 have HX:=hid (And.intro hX vX)
 have HY:=hid (And.intro hY vY)
 have HT:=hid hT
 have HL:=hid hl
 obtain⟨F,hF⟩:∃ F:Nat→PI,F=fun i=>pAdd (rowG X i) (rowG Y i) p:=⟨_,rfl⟩
 rw[← hF]
 have HF:=hid hF
 clear hX hY vX vY hT hl hF
 go_enter Tryz.func81,Tryz.ntmps81
 go_wp2_with fail
 go_loopg [7,11] X.length (fun z v t wr=>∃ cur:List RI,cur.length+z=X.length∧t=.int .i64 (cur.length:Int)∧OwnN w wr v cur∧plR cur=rowF cur.length F∧∀ x∈cur,x.vl=true)
 case atStart=>exact⟨[],by simp,rfl,OwnN.nil (Kp.refl _),rfl,fun x h=>by simp at h⟩
 case round =>
 obtain⟨cur,hcq,rfl,hown,hpc,hvc⟩:=hrel
 have HOW:=hid hown
 have HPC:=hid (And.intro hpc (And.intro hvc hcq))
 have HK:=hid hown.1
 clear hown hpc hvc
 by_cases hlt:cur.length<X.length
 rotate_left
 · have hRe:cur.length=X.length:=by omega
   obtain⟨va,vc,rfl,hvc1,hvc2,hrm⟩:=HOW.out.value
   have HRe:=hid (And.intro hRe hrm)
   clear hRe hrm hcq
   go_wp2_with fail
   refine bodyPost_ret (v:=.slice va cur.length vc) (by simp[results,Tryz.results81,go_sem]) rfl ?_
   exact⟨va,cur,vc,rfl,HRe.out.2,by rw[HPC.out.1,HRe.out.1],HPC.out.2.1,by have:=HRe.out.1;omega,HK.out⟩
 obtain⟨x,hx⟩:∃ x,X[cur.length]? = some x:=⟨_,List.getElem?_eq_getElem hlt⟩
 obtain⟨y,hy⟩:∃ y,Y[cur.length]? = some y:=⟨_,List.getElem?_eq_getElem (by have:=HL.out;omega)⟩
 obtain⟨b1,o1,e1,rx,s0,s1,s2,s3,s4,s5,s6⟩:=(HX.out.1.kp HK.out) cur.length x hx
 obtain⟨b2,o2,e2,ry,t0,t1,t2,t3,t4,t5,t6⟩:=(HY.out.1.kp HK.out) cur.length y hy
 subst e1
 subst e2
 have kd:=(Kp.refl wr).drew
 have HD:=hid kd
 have HC:=hid (IAdd_any x y p wr.drew (rx.kp kd) (ry.kp kd) (HX.out.2 x (List.mem_of_getElem? hx)) (HY.out.2 y (List.mem_of_getElem? hy)) h0 h1 (HT.out.kp (HK.out.trans kd)))
 have HZ:=hid (show pAdd x.pl y.pl p=F cur.length by rw[HF.out];show _=pAdd (rowG X cur.length) (rowG Y cur.length) p;rw[rowG_eq hx,rowG_eq hy])
 have hj1:(0:Int)≤(cur.length:Int):=by omega
 have hj2:(cur.length:Int)<(X.length:Int):=by omega
 have hj3:(cur.length:Int)<(Y.length:Int):=by have:=HL.out;omega
 have Hlt:=hid (And.intro hlt hcq)
 have hcl:cur.length+1≤9000000:=by omega
 clear hx hy rx ry kd hcq hlt
 go_upto_region 5 with fail
 go_region_law (first
   | (go_simp; (with_reducible refine HC.out.mono ?_); rintro e v1 ⟨z, rfl, hz, hzp, hzv, j1⟩
      have kZ:=(HD.out.trans j1).alloc (.cells #[.bool z.lo.neg,.slice z.lo.a z.lo.xs.length z.lo.c,.int .i64 z.lo.e,.bool z.hi.neg,.slice z.hi.a z.hi.xs.length z.hi.c,.int .i64 z.hi.e,.bool z.all] 44)
      have hown:=HOW.out.kp kZ
      have hzA:=hz.kp ((Kp.refl v1).alloc (.cells #[.bool z.lo.neg,.slice z.lo.a z.lo.xs.length z.lo.c,.int .i64 z.lo.e,.bool z.hi.neg,.slice z.hi.a z.hi.xs.length z.hi.c,.int .i64 z.hi.e,.bool z.all] 44))
      have ZP:=hid (And.intro hzp hzv)
      clear hz hzp hzv kZ)
   | (refine step_append_ivg (by rfl) _ _ (by rfl) w u7 cur (by rfl) hown _ _ (by rfl) z hzA (by simp) hcl ?_;intro a' c' w9 hown9 hgrow hblk)
   | fail)
 all_goals
   go_wp2_with fail
   go_roundg (gk-1)
   case measure=>have:=Hlt.out;omega
   case rel =>
     refine⟨cur++[z],by have:=Hlt.out;rw[List.length_append,List.length_singleton];omega,by rw[List.length_append,List.length_singleton];go_num,by simpa using hown9,?_,ok_snoc HPC.out.2.1 ZP.out.2⟩
     rw[plR_snoc,HPC.out.1,List.length_append,List.length_singleton,rowF_snoc,ZP.out.1,HZ.out]
def boxC (f:RF) (p:Int):List PI:=if (vlF f&&preB p)=true then boxF f p.toNat else []
theorem apply_of {f:RF} {Z:List (List RI)} {p:Int} (hv:vlF f=true) (hp:preB p=true) (hZ:plM Z=ofF f.ms) (oZ:okM Z) :
  applyC Z f.rs p=(rowF f.cs.length fun i=>dotF p.toNat (fun t=>ptP (atN f.ms i t)) (rowG f.rs) (f.cs.length-1),0):=by
 obtain⟨h1,h2,h3,h4,h5⟩:=vlF_iff.1 hv
 obtain⟨hN,hc⟩:=vlF_N hv
 have hZ2:plM Z=tabM f.cs.length f.cs.length (fun i j=>ptP (atN f.ms i j)):=by
  rw[hZ];unfold ofF;rw[if_pos hN,hc,h2.1]
 have hl:=tab_len hZ2
 have hcm:=colsM_tab hZ2 h1.1
 have hvM:=vlM_tab hZ2 oZ h1 h1
 unfold applyC
 rw[if_neg (by rw[hvM];decide),if_neg (by
  rw[Bool.not_eq_true,List.any_eq_false]
  intro x hx
  rw[(goodZ_iff.1 (h5 x hx)).2.1];decide),if_neg (by rw[hp];decide),if_neg (by rw[hcm,h2.2];exact fun h=>h rfl),hl,hcm]
 congr 1
 unfold rowF
 refine List.map_congr_left fun i hi=>?_
 have hi2:=List.mem_range.1 hi
 exact dotF_congr _ fun t ht=>⟨atP_tab hZ2 hi2 (by omega),rfl⟩
theorem ptsB_pl {f:RF} (hv:vlF f=true):(ptsB f.cs).length=f.cs.length∧(∀ i,i<f.cs.length→rowG (ptsB f.cs) i=ptP (f.cs.getD i rdZero)):=by
 obtain⟨h1,h2,h3,h4,h5⟩:=vlF_iff.1 hv
 have hp:vlP f.cs=true:=vlP_iff.2 ⟨h1.1,h1.2,List.all_eq_true.2 h3⟩
 unfold ptsB
 rw[if_pos hp]
 refine⟨by simp,fun i hi=>?_⟩
 have hx:f.cs[i]? = some f.cs[i]:=List.getElem?_eq_getElem hi
 rw[rowG_eq (x:=ptI f.cs[i]) (by rw[List.getElem?_map,hx];rfl),List.getD_eq_getElem?_getD,hx]
 rfl
set_option maxRecDepth 100000 in
set_option maxHeartbeats 8000000 in
theorem fbox_any (f:RF) (p:Int) (w:World) (hf:f.rd w) (hT:Tab w) :
   Calls Tryz.prog 39 #[.agg #[.slice f.ca f.cs.length f.cc,.slice f.aa f.ms.length f.ac,.slice f.ra f.rs.length f.rc],.int .i64 p] w (RowV w (boxC f p)):=by
 have HF:=hid hf
 have HT:=hid hT
 obtain⟨D,hD⟩:∃ D,D=boxC f p:=⟨_,rfl⟩
 have HD:=hid hD
 rw[← hD]
 have kk:=(Kp.refl w).alloc (.cells #[.slice f.ca f.cs.length f.cc,.slice f.aa f.ms.length f.ac,.slice f.ra f.rs.length f.rc] 26)
 clear hf hT hD
 go_enter Tryz.func39,Tryz.ntmps39
 go_upto_region 1 with fail
 generalize hW:w.alloc _=W at *
 have HS:=hid (show W.cell? ⟨w.heap.size,0,none⟩=some (.slice f.ca f.cs.length f.cc)∧W.cell? ⟨w.heap.size,1,none⟩=some (.slice f.aa f.ms.length f.ac)∧W.cell? ⟨w.heap.size,2,none⟩=some (.slice f.ra f.rs.length f.rc) by rw[← hW];simp)
 obtain⟨s0,s1,s2⟩:=id HS.out
 clear hW
 go_wp2_with fail
 go_fit (fval_any f _ (HF.out.kp kk))
 rintro e w1 ⟨rfl,k1⟩
 have HK1:=hid (kk.trans k1)
 have HS1:=hid (keepF k1 HS.out)
 clear s0 s1 s2 k1 kk
 cases hv:vlF f with
 | false =>
   have HE:=hid (show D=[] by rw[HD.out];unfold boxC;rw[hv];rfl)
   clear hv
   go_wp2_with fail
   go_ret
   rw[HE.out]
   exact⟨none,[],0,rfl,fun i x h=>by simp at h,rfl,fun x h=>by simp at h,by simp,HK1.out⟩
 | true =>
 have HV:=hid hv
 clear hv
 go_wp2_with fail
 go_fit (fprecise_any p _)
 rintro e w2 ⟨rfl,rfl⟩
 cases hp:preB p with
 | false =>
   have HE:=hid (show D=[] by rw[HD.out];unfold boxC;rw[hp];simp)
   clear hp
   go_wp2_with fail
   go_ret
   rw[HE.out]
   exact⟨none,[],0,rfl,fun i x h=>by simp at h,rfl,fun x h=>by simp at h,by simp,HK1.out⟩
 | true =>
 have HP:=hid hp
 have HL:=hid (vlF_iff.1 HV.out)
 clear hp
 obtain⟨q,hq⟩:∃ q:Nat,q=p.toNat:=⟨_,rfl⟩
 have hpq:p=(q:Int):=by have:=preB_iff.1 HP.out;omega
 have hq0:8≤q:=by have:=preB_iff.1 HP.out;omega
 have hq1:q≤512:=by have:=preB_iff.1 HP.out;omega
 have HE:=hid (show D=boxF f q by rw[HD.out];unfold boxC;rw[HV.out,HP.out,hq];rfl)
 have HQ:=hid hq
 have HPQ:=hid hpq
 clear hq
 go_upto_region 3 with fail
 have kd:=hid (Kp.refl w1).drew
 have HSd:=hid (keepF kd.out HS1.out)
 obtain⟨s0,s1,s2⟩:=id HSd.out
 clear hpq
 have hS3:w1.drew.cell? ⟨w.heap.size,0,none⟩=some (.slice f.ca f.cs.length f.cc)∧w1.drew.cell? ⟨w.heap.size,1,none⟩=some (.slice f.aa f.ms.length f.ac)∧w1.drew.cell? ⟨w.heap.size,2,none⟩=some (.slice f.ra f.rs.length f.rc):=⟨s0,s1,s2⟩
 have HFA:=hid (And.intro (HF.out.2.1.1.kp (HK1.out.trans kd.out)) HF.out.2.1.2)
 have HFR:=hid (And.intro HF.out.2.2.1 HF.out.2.2.2)
 have HAO:=fun (O:List (List RI)) (hO:plM O=ofF f.ms) (oO:okM O)=>apply_of HV.out HP.out hO oO
 rw[HPQ.out] at HAO
 clear s0 s1 s2
 go_region_held3 (fun w'=>w'.cell? ⟨w.heap.size,0,none⟩=some (.slice f.ca f.cs.length f.cc)∧w'.cell? ⟨w.heap.size,1,none⟩=some (.slice f.aa f.ms.length f.ac)∧w'.cell? ⟨w.heap.size,2,none⟩=some (.slice f.ra f.rs.length f.rc)) (first | with_reducible assumption | with_reducible exact keepF (by assumption) (by assumption) | fail)
   (first
     | (go_at_call 78; (with_reducible refine (mof_any f.aa f.ms f.ac _ HFA.out.1 HFA.out.2).mono ?_); rintro e v1 ⟨aO, O, cO, rfl, rO, pO, oO, lO, j1⟩
        have HO:=hid (And.intro rO (And.intro pO (And.intro oO lO)))
        have HJ1:=hid ((HK1.out.trans kd.out).trans j1)
        clear rO pO oO lO)
     | (go_at_call 79; (with_reducible refine (mapply_any aO f.ra O f.rs cO f.rc (q : Int) _ HO.out.1 (HFR.out.1.kp HJ1.out) HO.out.2.2.2 HFR.out.2 (HT.out.kp HJ1.out)).mono ?_); rw [HAO O HO.out.2.1 HO.out.2.2.1]; rintro e v2 ⟨aL, L, cL, rfl, rL, pL, vL, lL, j2⟩
        have HLL:=hid (And.intro rL (And.intro pL (And.intro vL lL)))
        have HJ2:=hid (HJ1.out.trans j2)
        have HS2:=hid (keepF ((Kp.refl v1).trans j2) (keepF j1 HSd.out))
        clear rL pL vL lL)
     | fail)
 have hlL:L.length=f.cs.length:=by
   have:=congrArg List.length HLL.out.2.1
   simpa [plR,rowF] using this
 have HlL:=hid hlL
 clear j1 j2 hS3 hlL
 obtain⟨s0,s1,s2⟩:=id HS2.out
 go_wp2_with fail
 go_fit (BPoints_any f.ca f.cs f.cc _ (HF.out.1.1.kp HJ2.out) HF.out.1.2)
 rintro e w5 ⟨aP,cP,rfl,rP,_,_,k5⟩
 have HPT:=hid (ptsB_pl HV.out)
 have HRP:=hid (And.intro rP (show ∀ x∈ptsB f.cs,x.vl=true from fun x hx=>by
   have hp:vlP f.cs=true:=vlP_iff.2 ⟨HL.out.1.1,HL.out.1.2,List.all_eq_true.2 HL.out.2.2.1⟩
   unfold ptsB at hx
   rw[if_pos hp] at hx
   obtain⟨y,hy,rfl⟩:=List.mem_map.1 hx
   have oy:y.ok w:=by
     obtain⟨j,hj⟩:=List.getElem?_of_mem hy
     exact⟨HF.out.1.1.rd hy,HL.out.2.2.1 y hy⟩
   exact (ptI_ok oy).2.2))
 have HK5:=hid (HJ2.out.trans k5)
 have HL5:=hid (HLL.out.1.kp k5)
 clear s0 s1 s2 rP k5
 go_wp2_with fail
 go_fit (plus_any aP aL (ptsB f.cs) L cP cL q _ HRP.out.1 HL5.out HRP.out.2 HLL.out.2.2.1 (by rw[HPT.out.1,HlL.out]) (by rw[HPT.out.1];exact HL.out.1.2) hq0 hq1 (HT.out.kp HK5.out))
 rintro e w6 ⟨aR,R,cR,rfl,rR,pR,vR,lR,k6⟩
 go_wp2_with fail
 go_ret
 refine⟨aR,R,cR,rfl,rR,?_,vR,lR,HK5.out.trans k6⟩
 rw[pR,HE.out,HPT.out.1]
 unfold boxF rowF
 refine List.map_congr_left fun i hi=>?_
 have hi2:=List.mem_range.1 hi
 rw[HPT.out.2 i hi2]
 congr 1
 obtain⟨y,hy⟩:∃ y,L[i]? = some y:=⟨_,List.getElem?_eq_getElem (by have:=HlL.out;omega)⟩
 rw[rowG_eq hy]
 have h1:(plR L)[i]? = some y.pl:=by simp[plR,hy]
 rw[HLL.out.2.1] at h1
 unfold rowF at h1
 rw[List.getElem?_map,List.getElem?_range hi2] at h1
 simpa using h1.symm
end Go.Proofs.YtbhmhfnfceakoaaGreatDoor
