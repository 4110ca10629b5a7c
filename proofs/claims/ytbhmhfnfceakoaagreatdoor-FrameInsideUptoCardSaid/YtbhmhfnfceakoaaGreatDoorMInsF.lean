/-
  Walks: frame.Inside; interval.Point of any number.
-/
import Derived.Deep.DeepFit
import Derived.Deep.RegionHeld3
import Derived.Test.YtbhmhfnfceakoaaGreatDoorMImgF
import Derived.Test.YtbhmhfnfceakoaaGreatDoorMLinP
import Derived.Test.YtbhmhfnfceakoaaGreatDoorMRoAdd
import Derived.Test.YtbhmhfnfceakoaaGreatDoorMArdN
import Derived.Test.YtbhmhfnfceakoaaGreatDoorMSumG
import Derived.Test.YtbhmhfnfceakoaaGreatDoorMAwk3
import Derived.Test.YtbhmhfnfceakoaaGreatDoorMIvMl
import Derived.Test.YtbhmhfnfceakoaaGreatDoorMEchM
import Derived.Deep.CutRange
import Derived.Test.YtbhmhfnfceakoaaGreatDoorMBndN
import Derived.WalkKit
namespace Go.Proofs.YtbhmhfnfceakoaaGreatDoor
open Go.RowKit
open Lib (hid)
theorem ptI_vl {d:RD} (h:d.vl=true):(ptI d).vl=true:=by
 unfold RI.vl ptI cmpZ
 simp[h]
def ptW (d:RD):RI:=if d.vl=true then ptI d else wholeR
theorem ptW_vl (d:RD):(ptW d).vl=true:=by
 unfold ptW
 split
 ·next h=>exact ptI_vl h
 exact wholeR_vl
theorem ptW_rd {w:World} {d:RD} (h:d.rd w):(ptW d).rd w:=by
 unfold ptW
 split
 ·exact ptI_rd h
 exact wholeR_rd w
set_option maxHeartbeats 4000000 in
theorem IPoint_any (d:RD) (w:World) (hd:d.rd w) :
  Calls Tryz.prog 35 #[.agg #[.bool d.neg,.slice d.a d.xs.length d.c,.int .i64 d.e]] w fun e w'=>e=.returned (.agg #[.bool (ptW d).lo.neg,.slice (ptW d).lo.a (ptW d).lo.xs.length (ptW d).lo.c,.int .i64 (ptW d).lo.e,.bool (ptW d).hi.neg,.slice (ptW d).hi.a (ptW d).hi.xs.length (ptW d).hi.c,.int .i64 (ptW d).hi.e,.bool (ptW d).all])∧Kp w w':=by
 cases hv:d.vl with
 | true =>
  have:=IPoint_pt d w ⟨hd,hv⟩
  unfold ptW
  rw[if_pos hv]
  exact this
 | false =>
 have HV:=hid hv
 have HD:=hid hd
 have kk:=((Kp.refl w).alloc (.cells #[.bool d.neg,.slice d.a d.xs.length d.c,.int .i64 d.e] 38)).alloc (.cells #[.bool false,.slice none 0 0,.int .i64 0,.bool false,.slice none 0 0,.int .i64 0,.bool false] 44)
 clear hv hd
 go_enter Tryz.func35,Tryz.ntmps35
 go_wp2_with fail
 have hV:=Var7.new1 w 44 (.cells #[.bool d.neg,.slice d.a d.xs.length d.c,.int .i64 d.e] 38)
 generalize hW:((w.alloc _).alloc _)=W at *
 clear hW
 have HC:=hid (Valid_raw d W (HD.out.kp kk))
 rw[HV.out] at HC
 go_fit HC.out
 rintro e w1 ⟨rfl,k1⟩
 go_wp2_with fail
 go_fit (Whole_any _)
 rintro e w2 ⟨rfl,k2⟩
 have HKK:=hid ((kk.trans k1).trans k2)
 obtain⟨⟨q0,q1,q2,q3,q4,q5,q6⟩,f0,f1,f2,f3,f4,f5,f6⟩:=(hV.kp k1).kp k2
 clear hV k1 k2 kk HC
 go_wp2_with fail
 generalize hW9:((((((w2.setCell _ _).setCell _ _).setCell _ _).setCell _ _).setCell _ _).setCell _ _).setCell _ _=W9
 obtain⟨⟨s0,s1,s2,s3,s4,s5,s6⟩,hU⟩:=stored7 (show Box7 w2 _ _ _ _ _ _ _ _ from ⟨q0,q1,q2,q3,q4,q5,q6⟩) nofun nofun nofun nofun nofun nofun nofun _ _ _ _ _ _ _ hW9
 clear hW9 q0 q1 q2 q3 q4 q5 q6 f0 f1 f2 f3 f4 f5 f6
 refine bodyPost_ret (v:=.agg #[.bool (wholeR).lo.neg,.slice (wholeR).lo.a (wholeR).lo.xs.length (wholeR).lo.c,.int .i64 (wholeR).lo.e,.bool (wholeR).hi.neg,.slice (wholeR).hi.a (wholeR).hi.xs.length (wholeR).hi.c,.int .i64 (wholeR).hi.e,.bool (wholeR).all]) (by simp[results,Tryz.results35,go_sem,s0,s1,s2,s3,s4,s5,s6,wholeR,rdZero]) rfl ?_
 refine⟨by unfold ptW;rw[HV.out];rfl,hU.2.2.1 _ HKK.out (by omega)⟩
structure IdnJ (f:RF) (j:List (List RI)) (z:List RI):Prop where
 pj:plM j=tabM f.cs.length f.cs.length idP
 oj:okM j
 pz:∀ i,i<f.cs.length→rowG z i=ptP (f.cs.getD i rdZero)
 lz:z.length=f.cs.length
 vz:∀ x∈z,x.vl=true
theorem crdC_congr {f g:RF} {j j':List (List RI)} {z z':List RI} {v:List (List RD)} {p:Int} (hv:vlF f=true) (h:IdnJ f j z) (h':IdnJ f j' z'):crdC f g j z v p=crdC f g j' z' v p:=by
 obtain⟨⟨n1,n8⟩,_⟩:=vlF_iff.1 hv
 have e1:crdE f g j z p=crdE f g j' z' p:=by
  unfold crdE
  rw[vlM_tab h.pj h.oj ⟨n1,n8⟩ ⟨n1,n8⟩,vlM_tab h'.pj h'.oj ⟨n1,n8⟩ ⟨n1,n8⟩,show z.all RI.vl=true from List.all_eq_true.2 h.vz,show z'.all RI.vl=true from List.all_eq_true.2 h'.vz,h.lz,h'.lz,tab_len h.pj,tab_len h'.pj,colsM_tab h.pj n1,colsM_tab h'.pj n1]
 have e2:∀ W q,crdX f g j z W q=crdX f g j' z' W q:=by
  intro W q
  unfold crdX rowF
  refine List.map_congr_left fun i hi=>?_
  have a1:dotF q (W i) (fun t=>pSub (rowG z t) (ptP (g.cs.getD t rdZero)) q) (f.cs.length-1)=dotF q (W i) (fun t=>pSub (rowG z' t) (ptP (g.cs.getD t rdZero)) q) (f.cs.length-1) :=
   dotF_congr _ fun t ht=>⟨rfl,by rw[h.pz t (by omega),h'.pz t (by omega)]⟩
  have a2:dotF q (fun t=>dotF q (W i) (fun s=>dotF q (atP j s) (fun u=>ptP (atN f.ms u t)) (f.cs.length-1)) (f.cs.length-1)) (rowG f.rs) (f.cs.length-1)=dotF q (fun t=>dotF q (W i) (fun s=>dotF q (atP j' s) (fun u=>ptP (atN f.ms u t)) (f.cs.length-1)) (f.cs.length-1)) (rowG f.rs) (f.cs.length-1) :=
   dotF_congr _ fun t ht=>⟨dotF_congr _ fun s hs=>⟨rfl,dotF_congr _ fun u hu=>⟨by rw[atP_tab h.pj (by omega) (by omega),atP_tab h'.pj (by omega) (by omega)],rfl⟩⟩,rfl⟩
  rw[a1,a2]
 unfold crdC
 rw[e1,e2]
def insL (X:List PI) (r:List RI):Bool:=decide (X.length=r.length)&&(X.zip r).all fun q=>insX q.1 q.2.pl
theorem insL_pl {X:List PI} {Y r:List RI} (h:plR Y=X):allII insXR Y r=insL X r:=by
 unfold allII insL
 rw[← h]
 unfold plR
 rw[List.length_map,List.zip_map_left,List.all_map]
 rfl
theorem insL_iff {X:List PI} {r:List RI} {n:Nat} (hr:r.length=n) (h:insL X r=true):∀ i,i<n→insX (X.getD i .whole) (rowG r i)=true:=by
 unfold insL at h
 rw[Bool.and_eq_true,decide_eq_true_eq,List.all_eq_true] at h
 intro i hi
 have h1:X[i]? = some X[i]:=List.getElem?_eq_getElem (by omega)
 have h2:r[i]? = some r[i]:=List.getElem?_eq_getElem (by omega)
 have:=h.2 (X[i],r[i]) (List.mem_of_getElem? (i:=i) (List.getElem?_zip_eq_some.2 ⟨h1,h2⟩))
 unfold rowG
 rw[List.getD_eq_getElem?_getD,List.getD_eq_getElem?_getD,h1,h2]
 exact this
def insQ (a b:RF) (j:List (List RI)) (z:List RI) (v:List (List RD)) (p:Int):Bool:=vlF a&&(vlF b&&(decide ((crdC a b j z v p).2=0)&&insL (crdC a b j z v p).1 b.rs))
set_option maxRecDepth 100000 in
set_option maxHeartbeats 8000000 in
theorem finside_any (f g:RF) (va:Option Addr) (v:List (List RD)) (vc:Nat) (p:Int) (w:World) (hf:f.rd w) (hg:g.rd w) (hv:RowN w va v) (hl:v.length≤1100000) (hT:Tab w) :
   Calls Tryz.prog 34 #[.agg #[.slice f.ca f.cs.length f.cc,.slice f.aa f.ms.length f.ac,.slice f.ra f.rs.length f.rc],.agg #[.slice g.ca g.cs.length g.cc,.slice g.aa g.ms.length g.ac,.slice g.ra g.rs.length g.rc],.slice va v.length vc,.int .i64 p] w fun e w'=>∃ j z,(vlF f=true→vlF g=true→IdnJ f j z)∧e=.returned (.bool (insQ f g j z v p))∧Kp w w':=by
 have HF:=hid hf
 have HG:=hid hg
 have HV:=hid hv
 have HT:=hid hT
 have kk:=((Kp.refl w).alloc (.cells #[.slice f.ca f.cs.length f.cc,.slice f.aa f.ms.length f.ac,.slice f.ra f.rs.length f.rc] 26)).alloc (.cells #[.slice g.ca g.cs.length g.cc,.slice g.aa g.ms.length g.ac,.slice g.ra g.rs.length g.rc] 26)
 clear hf hg hv hT
 go_enter Tryz.func34,Tryz.ntmps34
 go_upto_region 1 with fail
 have HS:=hid (show ((w.alloc (.cells #[.slice f.ca f.cs.length f.cc,.slice f.aa f.ms.length f.ac,.slice f.ra f.rs.length f.rc] 26)).alloc (.cells #[.slice g.ca g.cs.length g.cc,.slice g.aa g.ms.length g.ac,.slice g.ra g.rs.length g.rc] 26)).cell? ⟨w.heap.size,0,none⟩=some (.slice f.ca f.cs.length f.cc)∧((w.alloc (.cells #[.slice f.ca f.cs.length f.cc,.slice f.aa f.ms.length f.ac,.slice f.ra f.rs.length f.rc] 26)).alloc (.cells #[.slice g.ca g.cs.length g.cc,.slice g.aa g.ms.length g.ac,.slice g.ra g.rs.length g.rc] 26)).cell? ⟨w.heap.size,1,none⟩=some (.slice f.aa f.ms.length f.ac)∧((w.alloc (.cells #[.slice f.ca f.cs.length f.cc,.slice f.aa f.ms.length f.ac,.slice f.ra f.rs.length f.rc] 26)).alloc (.cells #[.slice g.ca g.cs.length g.cc,.slice g.aa g.ms.length g.ac,.slice g.ra g.rs.length g.rc] 26)).cell? ⟨w.heap.size,2,none⟩=some (.slice f.ra f.rs.length f.rc) from keep3 ((Kp.refl _).alloc _) (show (w.alloc (.cells #[.slice f.ca f.cs.length f.cc,.slice f.aa f.ms.length f.ac,.slice f.ra f.rs.length f.rc] 26)).cell? ⟨w.heap.size,0,none⟩=some (.slice f.ca f.cs.length f.cc)∧(w.alloc (.cells #[.slice f.ca f.cs.length f.cc,.slice f.aa f.ms.length f.ac,.slice f.ra f.rs.length f.rc] 26)).cell? ⟨w.heap.size,1,none⟩=some (.slice f.aa f.ms.length f.ac)∧(w.alloc (.cells #[.slice f.ca f.cs.length f.cc,.slice f.aa f.ms.length f.ac,.slice f.ra f.rs.length f.rc] 26)).cell? ⟨w.heap.size,2,none⟩=some (.slice f.ra f.rs.length f.rc) by simp))
 have HSG:=hid (show ((w.alloc (.cells #[.slice f.ca f.cs.length f.cc,.slice f.aa f.ms.length f.ac,.slice f.ra f.rs.length f.rc] 26)).alloc (.cells #[.slice g.ca g.cs.length g.cc,.slice g.aa g.ms.length g.ac,.slice g.ra g.rs.length g.rc] 26)).cell? ⟨w.heap.size+1,0,none⟩=some (.slice g.ca g.cs.length g.cc)∧((w.alloc (.cells #[.slice f.ca f.cs.length f.cc,.slice f.aa f.ms.length f.ac,.slice f.ra f.rs.length f.rc] 26)).alloc (.cells #[.slice g.ca g.cs.length g.cc,.slice g.aa g.ms.length g.ac,.slice g.ra g.rs.length g.rc] 26)).cell? ⟨w.heap.size+1,1,none⟩=some (.slice g.aa g.ms.length g.ac)∧((w.alloc (.cells #[.slice f.ca f.cs.length f.cc,.slice f.aa f.ms.length f.ac,.slice f.ra f.rs.length f.rc] 26)).alloc (.cells #[.slice g.ca g.cs.length g.cc,.slice g.aa g.ms.length g.ac,.slice g.ra g.rs.length g.rc] 26)).cell? ⟨w.heap.size+1,2,none⟩=some (.slice g.ra g.rs.length g.rc) by simp)
 generalize hW:(w.alloc _).alloc _=W at *
 obtain⟨s0,s1,s2⟩:=id HS.out
 clear hW
 go_wp2_with fail
 go_fit (fval_any f _ (HF.out.kp kk))
 rintro e w1 ⟨rfl,k1⟩
 have HK1:=hid (kk.trans k1)
 have HS1:=hid (keepF k1 HS.out)
 have HSG1:=hid (keepF k1 HSG.out)
 clear s0 s1 s2 k1 kk HS HSG
 cases hvf:vlF f with
 | false =>
   go_wp2_with fail
   go_ret
   exact⟨[],[],(fun h=>by rw[hvf] at h;cases h),by show Ending.returned (.bool false)=_;unfold insQ;rw[hvf];rfl,HK1.out⟩
 | true =>
 have HVF:=hid hvf
 clear hvf
 obtain⟨t0,t1,t2⟩:=id HSG1.out
 go_wp2_with fail
 go_fit (fval_any g _ (HG.out.kp HK1.out))
 rintro e w2 ⟨rfl,k2⟩
 have HK2:=hid (HK1.out.trans k2)
 have HS2:=hid (keepF k2 HS1.out)
 have HSG2:=hid (keepF k2 HSG1.out)
 clear t0 t1 t2 k2 HS1 HSG1 HK1
 cases hvg:vlF g with
 | false =>
   go_wp2_with fail
   go_ret
   exact⟨[],[],(fun _ h=>by rw[hvg] at h;cases h),by show Ending.returned (.bool false)=_;unfold insQ;rw[hvg,Bool.false_and,Bool.and_false],HK2.out⟩
 | true =>
 have HVG:=hid hvg
 clear hvg
 obtain⟨s0,s1,s2⟩:=id HS2.out
 obtain⟨t0,t1,t2⟩:=id HSG2.out
 go_upto_region 3 with fail
 have kd:=(Kp.refl w2).drew
 have hSd:=And.intro (keepF kd HS2.out) (keepF kd HSG2.out)
 have HKD:=hid (HK2.out.trans kd)
 have HL:=hid (vlF_iff.1 HVF.out)
 clear s0 s1 s2 t0 t1 t2 HS2 HSG2 kd HK2
 go_region_held3 (fun w'=>(w'.cell? ⟨w.heap.size,0,none⟩=some (.slice f.ca f.cs.length f.cc)∧w'.cell? ⟨w.heap.size,1,none⟩=some (.slice f.aa f.ms.length f.ac)∧w'.cell? ⟨w.heap.size,2,none⟩=some (.slice f.ra f.rs.length f.rc))∧(w'.cell? ⟨w.heap.size+1,0,none⟩=some (.slice g.ca g.cs.length g.cc)∧w'.cell? ⟨w.heap.size+1,1,none⟩=some (.slice g.aa g.ms.length g.ac)∧w'.cell? ⟨w.heap.size+1,2,none⟩=some (.slice g.ra g.rs.length g.rc))) (first | with_reducible assumption | fail)
   (first
     | (go_at_call 36; (with_reducible refine (midn_any f.cs.length _ HL.out.1.1 HL.out.1.2 (HT.out.kp HKD.out)).mono ?_); rintro e w3 ⟨aJ, J, cJ, rfl, rJ, pJ, oJ, lJ, k3⟩
        have HJ:=hid (And.intro rJ (And.intro pJ (And.intro oJ lJ)))
        have HK3:=hid (HKD.out.trans k3)
        have hS3:=And.intro (keepF k3 hSd.1) (keepF k3 hSd.2)
        clear rJ pJ oJ lJ k3)
     | (go_at_call 90; go_fit (BPoints_any f.ca f.cs f.cc _ (HF.out.1.1.kp HK3.out) HF.out.1.2); rintro e w4 ⟨aZ, cZ, rfl, rZ, _, _, k4⟩
        have HZ:=hid rZ
        have HJ4:=hid (HJ.out.1.kp k4)
        have HK4:=hid (HK3.out.trans k4)
        have hS4:=And.intro (keepF k4 hS3.1) (keepF k4 hS3.2)
        clear rZ k4)
     | (go_at_call 26; go_fit (fimage_any f g aJ aZ va J (ptsB f.cs) v cJ cZ vc p _ (HF.out.kp HK4.out) (HG.out.kp HK4.out) HJ4.out HZ.out (HV.out.kp HK4.out) HJ.out.2.2.2 (by rw [(ptsB_pl HVF.out).1]; exact HF.out.1.2) hl (HT.out.kp HK4.out)); rintro e w5 ⟨aX, X, cX, rfl, rX, pX, vX, lX, k5⟩
        have HX:=hid (And.intro rX (And.intro pX (And.intro vX lX)))
        have HK5:=hid (HK4.out.trans k5)
        have hS5:=And.intro (keepF k5 hS4.1) (keepF k5 hS4.2)
        clear rX pX vX lX k5)
     | fail)
 have HI:=hid (show IdnJ f J (ptsB f.cs) from ⟨HJ.out.2.1,HJ.out.2.2.1,(ptsB_pl HVF.out).2,(ptsB_pl HVF.out).1,fun x hx=>by
   obtain⟨i,hi⟩:=List.getElem?_of_mem hx
   unfold ptsB at hi
   split at hi
   · rw[List.getElem?_map] at hi
     cases hd:f.cs[i]? with
     | none=>rw[hd] at hi;cases hi
     | some d =>
       rw[hd] at hi
       cases hi
       exact ptI_vl (HL.out.2.2.1 d (List.mem_of_getElem? hd))
   · cases hi⟩)
 obtain⟨D,hD⟩:∃ D,D=crdC f g J (ptsB f.cs) v p:=⟨_,rfl⟩
 have HD:=hid hD
 rw[← hD] at HX
 obtain⟨_,t0,t1,t2⟩:=id hS5
 rw[← hD]
 clear hD hSd hS3 hS4 hS5 t0 t1
 obtain⟨E,hE⟩:∃ E,E=D.2:=⟨_,rfl⟩
 rw[← hE]
 have HE:=hid hE
 clear hE
 by_cases h0:E=0
 rotate_left
 · have hne:(E==0)=false:=beq_eq_false_iff_ne.2 h0
   have H0:=hid h0
   clear h0
   go_wp2_with fail
   go_ret
   refine⟨J,ptsB f.cs,fun _ _=>HI.out,?_,HK5.out⟩
   unfold insQ
   rw[HVF.out,HVG.out,← HD.out,← HE.out,decide_eq_false H0.out]
   rfl
 have hne:(E==0)=true:=by rw[h0];rfl
 have H0:=hid h0
 have hp:AnsII Tryz.prog 29 #[] w5 X g.rs insXR :=
   ⟨fun _ _=>by kernel_rfl,fun x hx y hy' w1 k=>IInside_vl x y w1 ((HX.out.1.rdI hx).kp k) (((HG.out.kp HK5.out).2.2.1.rdI hy').kp k) (HX.out.2.2.1 x hx) (goodZ_iff.1 ((vlF_iff.1 HVG.out).2.2.2.2 y hy')).2.1⟩
 have HQ:=hid (eqfII aX g.ra X g.rs cX g.rc _ _ w5 insXR HX.out.2.2.2 HX.out.1 (HG.out.kp HK5.out).2.2.1 hp)
 clear h0 hp
 go_wp2_with fail
 go_fit HQ.out
 rintro e w6 ⟨rfl,k6⟩
 go_wp2_with fail
 go_ret
 refine⟨J,ptsB f.cs,fun _ _=>HI.out,?_,HK5.out.trans k6⟩
 unfold insQ
 rw[HVF.out,HVG.out,← HD.out,← HE.out,H0.out,insL_pl HX.out.2.1]
 rfl
section
def e2 (e:Int):Rat:=(2:Rat) ^ e
theorem e2_pos (e:Int):0<e2 e:=Rat.zpow_pos (by decide)
theorem e2_add (a b:Int):e2 (a+b)=e2 a*e2 b:=Rat.zpow_add (by decide) a b
theorem e2_zero:e2 0=1:=Rat.zpow_zero _
theorem e2_one:e2 1=2:=Rat.zpow_one _
theorem e2_nat (n:Nat):e2 (n:Int)=((2 ^ n:Nat):Rat):=by
 unfold e2
 rw[Rat.zpow_natCast,Rat.natCast_pow];rfl
theorem e2_int (n:Nat):e2 (n:Int)=(((2:Int) ^ n:Int):Rat):=by
 unfold e2
 rw[Rat.zpow_natCast,Rat.intCast_pow];rfl
theorem e2_ge_one {a:Int} (h:0≤a):1≤e2 a:=by
 obtain⟨n,rfl⟩:=Int.eq_ofNat_of_zero_le h
 rw[e2_nat]
 have:((1:Nat):Rat)≤((2 ^ n:Nat):Rat):=Rat.natCast_le_natCast.2 (Nat.pow_pos (by decide))
 exact this
theorem e2_le {a b:Int} (h:a≤b):e2 a≤e2 b:=by
 have h1:=e2_ge_one (show 0≤b-a by omega)
 have h2:=e2_pos a
 have h3:e2 b=e2 a*e2 (b-a):=by rw[← e2_add];congr 1;omega
 have h4:=Rat.mul_le_mul_of_nonneg_left h1 (Rat.le_of_lt h2)
 rw[h3];grind
theorem e2_neg (a:Int):e2 a*e2 (-a)=1:=by rw[← e2_add,Int.add_right_neg,e2_zero]
def ab (x:Rat):Rat:=if 0≤x then x else -x
theorem ab_nonneg (x:Rat):0≤ab x:=by unfold ab;split <;> grind
theorem ab_of_nonneg {x:Rat} (h:0≤x):ab x=x:=if_pos h
theorem ab_mul (x y:Rat):ab (x*y)=ab x*ab y:=by
 unfold ab
 by_cases hx:0≤x <;> by_cases hy:0≤y
 ·have:=Rat.mul_nonneg hx hy
  grind
 ·have:=Rat.mul_nonneg hx (show 0≤-y by grind)
  rw[if_pos hx,if_neg hy]
  split
  ·have:x*y=0:=by grind
   grind
  grind
 ·have:=Rat.mul_nonneg (show 0≤-x by grind) hy
  rw[if_pos hy,if_neg hx]
  split
  ·have:x*y=0:=by grind
   grind
  grind
 have:=Rat.mul_nonneg (show 0≤-x by grind) (show 0≤-y by grind)
 rw[if_neg hy,if_neg hx]
 split
 ·grind
 have:x*y=0:=by grind
 grind
theorem ab_le {x y:Rat}:ab x≤y↔-y≤x∧x≤y:=by unfold ab;split <;> grind
theorem ab_add (x y:Rat):ab (x+y)≤ab x+ab y:=by unfold ab;grind
theorem ab_neg (x:Rat):ab (-x)=ab x:=by unfold ab;grind
theorem ab_eq_zero {x:Rat} (h:ab x≤0):x=0:=by unfold ab at h;grind
theorem int_le_rat {a b:Int}:(a:Rat)≤(b:Rat)↔a≤b:=Rat.intCast_le_intCast
def qv (d:Dy):Rat:=(d.iv:Rat)*e2 (-16384)
theorem qv_le {a b:Dy}:qv a≤qv b↔a.iv≤b.iv:=by
 unfold qv
 have h:=e2_pos (-16384)
 constructor
 ·intro h1;exact int_le_rat.1 (Rat.le_of_mul_le_mul_right h1 h)
 intro h1;exact Rat.mul_le_mul_of_nonneg_right (int_le_rat.2 h1) (Rat.le_of_lt h)
theorem qv_lt {a b:Dy}:qv a<qv b↔a.iv<b.iv:=by
 have:=qv_le (a:=b) (b:=a)
 constructor
 ·intro h;refine Classical.byContradiction fun k=>?_
  have:=this.2 (by omega)
  grind
 intro h
 rcases Rat.le_total (a:=qv b) (b:=qv a) with h1 | h1
 ·have:=this.1 h1;omega
 refine Classical.byContradiction fun k=>?_
 have h2:qv b≤qv a:=by grind
 have:=this.1 h2;omega
theorem qv_zero:qv .zero=0:=by unfold qv;rw[Dy.iv_zero];exact Rat.zero_mul _
theorem qv_opp (d:Dy):qv d.opp=-qv d:=by unfold qv;rw[Dy.opp_iv,Rat.intCast_neg,Rat.neg_mul]
theorem qv_absv (d:Dy):qv d.absv=ab (qv d):=by
 unfold qv
 rw[Dy.absv_iv,ab_mul,ab_of_nonneg (Rat.le_of_lt (e2_pos _))]
 congr 1
 unfold ab
 by_cases h:0≤d.iv
 ·rw[if_pos (by have:=int_le_rat.2 h;exact this),show ((d.iv.natAbs:Nat):Int)=d.iv from by omega]
 rw[if_neg (by
  intro h2
  have:((0:Int):Rat)≤(d.iv:Rat):=h2
  exact h (int_le_rat.1 this)),show ((d.iv.natAbs:Nat):Int)=-d.iv from by omega,Rat.intCast_neg]
theorem qv_eq_zero {d:Dy}:qv d=0↔d.m=0:=by
 rw[← Dy.iv_eq_zero]
 unfold qv
 have h:=e2_pos (-16384)
 constructor
 ·intro h1
  have h2:(d.iv:Rat)=0:=by grind
  exact Rat.intCast_eq_zero_iff.1 h2
 intro h1;rw[h1];exact Rat.zero_mul _
theorem qv_sg {d:Dy} (h:-16384≤d.e):qv d=(sg d.neg d.m:Rat)*e2 d.e:=by
 unfold qv
 rw[iv_sg,Rat.intCast_mul]
 have:(((2:Int) ^ (d.e+16384).toNat:Int):Rat)=e2 (d.e+16384):=by
  rw[← e2_int];congr 1;omega
 rw[this,Rat.mul_assoc,← e2_add]
 congr 2;omega
theorem qv_canon {n:Nat} {u:Int} (h:-16384≤u):qv (canon false n u)=(n:Rat)*e2 u:=by
 unfold qv
 rw[canon_iv _ _ _ h]
 have h1:sg false (n*2 ^ (u+16384).toNat)=(n:Int)*(2:Int) ^ (u+16384).toNat:=by
  unfold sg;rw[if_neg (by decide)];push_cast;rfl
 rw[h1,Rat.intCast_mul]
 have:(((2:Int) ^ (u+16384).toNat:Int):Rat)=e2 (u+16384):=by
  rw[← e2_int];congr 1;omega
 rw[this,Rat.mul_assoc,← e2_add]
 rw[show u+16384 + -16384=u from by omega];rfl
theorem qv_int (n:Int):qv (intD n)=(n:Rat):=by
 unfold qv
 rw[intD_iv,Rat.intCast_mul]
 have:(((2:Int) ^ 16384:Int):Rat)=e2 ((16384:Nat):Int):=(e2_int 16384).symm
 generalize (2:Int) ^ 16384=Q at *
 rw[this,Rat.mul_assoc,← e2_add]
 show (n:Rat)*e2 0=n
 rw[e2_zero,Rat.mul_one]
section
variable {m:Nat} {e:Int} {more up:Bool} {p:Nat} {y:Rat}
theorem runit_e2 (hm:m≠0) (h0:(m:Rat)*e2 e≤y):e2 (runit m e p)≤y*e2 (1-p)+e2 (-16384):=by
 have hy:0≤y:=Rat.le_trans (Rat.mul_nonneg Rat.natCast_nonneg (Rat.le_of_lt (e2_pos e))) h0
 have a1:=e2_pos (-16384)
 have a2:=Rat.mul_nonneg hy (Rat.le_of_lt (e2_pos (1-(p:Int))))
 unfold runit
 by_cases h:e+bits m-p≤-16384
 ·rw[Int.max_eq_right h];grind
 rw[Int.max_eq_left (by omega)]
 have hb:0<bits m:=bits_pos hm
 have h1:e2 (e+bits m-p)=e2 e*e2 ((bits m-1:Nat):Int)*e2 (1-p):=by
  rw[← e2_add,← e2_add];congr 1;omega
 have h2:e2 ((bits m-1:Nat):Int)≤(m:Rat):=by
  rw[e2_nat];exact Rat.natCast_le_natCast.2 (two_pow_le_of_bits hm)
 have h3:=Rat.mul_le_mul_of_nonneg_left h2 (Rat.le_of_lt (e2_pos e))
 have h4:e2 e*e2 ((bits m-1:Nat):Int)≤y:=by grind
 have h5:=Rat.mul_le_mul_of_nonneg_right h4 (Rat.le_of_lt (e2_pos (1-(p:Int))))
 rw[h1];grind
theorem rlow_q (hmo:more=true→p<bits m) (h1:more=false→y=(m:Rat)*e2 e) (h2:(m:Rat)*e2 e≤y∧y≤((m:Rat)+1)*e2 e) :
  (rlow m e (runit m e p):Rat)*e2 (runit m e p)≤y∧y≤((rlow m e (runit m e p):Rat)+1)*e2 (runit m e p)∧((more||rlost m e (runit m e p))=false→y=(rlow m e (runit m e p):Rat)*e2 (runit m e p)):=by
 have hu:more=true→e<runit m e p:=fun h=>by have:=hmo h;unfold runit;omega
 generalize runit m e p=u at *
 have pu:=e2_pos u
 by_cases hue:u≤e
 ·have hm:more=false:=by
   cases more with
   | false=>rfl
   | true=>have:=hu rfl;omega
  have e1:(rlow m e u:Rat)*e2 u=(m:Rat)*e2 e:=by
   unfold rlow
   rw[if_pos hue,Rat.natCast_mul,← e2_nat,Rat.mul_assoc,← e2_add]
   congr 2;omega
  rw[h1 hm,e1]
  refine⟨Rat.le_refl,?_,fun _=>rfl⟩
  rw[Rat.add_mul,e1];grind
 have hD:e2 u=((2 ^ (u-e).toNat:Nat):Rat)*e2 e:=by
  rw[← e2_nat,← e2_add];congr 1;omega
 have hpD:=two_pow_pos (u-e).toNat
 have hq:rlow m e u=m/2 ^ (u-e).toNat:=by unfold rlow;rw[if_neg hue]
 have hl:rlost m e u=!decide (m % 2 ^ (u-e).toNat=0):=by
  unfold rlost;rw[decide_eq_false hue];rfl
 rw[hq,hl,hD]
 generalize 2 ^ (u-e).toNat=D at *
 have d1:=Nat.div_add_mod m D
 have d2:=Nat.mod_lt m hpD
 have pe:=e2_pos e
 have k1:((m/D:Nat):Rat)*(D:Rat)≤(m:Rat):=by
  rw[← Rat.natCast_mul];exact Rat.natCast_le_natCast.2 (Nat.div_mul_le_self m D)
 have k2:(m:Rat)+1≤(((m/D:Nat):Rat)+1)*(D:Rat):=by
  have:m+1≤(m/D+1)*D:=by rw[Nat.add_mul,Nat.one_mul,Nat.mul_comm];omega
  have:=Rat.natCast_le_natCast.2 this
  rw[Rat.natCast_mul,Rat.natCast_add,Rat.natCast_add] at this
  exact this
 have k3:=Rat.mul_le_mul_of_nonneg_right k1 (Rat.le_of_lt pe)
 have k4:=Rat.mul_le_mul_of_nonneg_right k2 (Rat.le_of_lt pe)
 refine⟨by grind,by grind,fun h=>?_⟩
 rw[Bool.or_eq_false_iff,Bool.not_eq_false',decide_eq_true_eq] at h
 have h3:=h1 h.1
 have k5:((m/D:Nat):Rat)*(D:Rat)=(m:Rat):=by
  rw[← Rat.natCast_mul,Nat.mul_comm]
  have:D*(m/D)=m:=by omega
  rw[this]
 rw[h3,← k5];grind
theorem rcut_q (hp:8≤p) (hp2:p≤4096) (hm:m≠0) (hmo:more=true→p<bits m) (h1:more=false→y=(m:Rat)*e2 e) (h2:(m:Rat)*e2 e≤y∧y≤((m:Rat)+1)*e2 e) :
  (∀ d,rcut m e more p up=some d→0≤qv d∧(up=false→qv d≤y)∧(up=true→y≤qv d)∧(y≤e2 16000→ab (qv d-y)≤y*e2 (1-p)+e2 (-16384)))∧(y≤e2 16000∨up=false→rcut m e more p up≠none):=by
 obtain⟨a1,a2,a3⟩:=rlow_q hmo h1 h2
 have a4:=runit_e2 (p:=p) hm h2.1
 have hum:-16384≤runit m e p:=runit_ge
 have pu:=e2_pos (runit m e p)
 have hq:∃ q:Nat,q=rq m e more p up∧(up=false→(q:Rat)*e2 (runit m e p)≤y)∧(up=true→y≤(q:Rat)*e2 (runit m e p))∧ab ((q:Rat)*e2 (runit m e p)-y)≤e2 (runit m e p):=by
  refine⟨_,rfl,?_⟩
  unfold rq
  cases up with
  | false =>
   rw[if_neg (by simp)]
   refine⟨fun _=>a1,fun h=>(by cases h),ab_le.2 ⟨by grind,by grind⟩⟩
  | true =>
   cases hl:(more||rlost m e (runit m e p)) with
   | true =>
    rw[if_pos (by simp),Rat.natCast_add]
    refine⟨fun h=>(by cases h),fun _=>a2,ab_le.2 ⟨?_,?_⟩⟩
    ·have:((1:Nat):Rat)=1:=rfl
     rw[this];grind
    ·have:((1:Nat):Rat)=1:=rfl
     rw[this];grind
   | false =>
    rw[if_neg (by simp)]
    have:=a3 hl
    refine⟨fun h=>(by cases h),fun _=>by rw[← this];exact Rat.le_refl,ab_le.2 ⟨by grind,by grind⟩⟩
 obtain⟨q,rfl,q1,q2,q3⟩:=hq
 have hy:0≤y:=Rat.le_trans (Rat.mul_nonneg Rat.natCast_nonneg (Rat.le_of_lt (e2_pos e))) h2.1
 have big:((bits (rq m e more p up):Int)+runit m e p > 16384)→e2 16384≤(rq m e more p up:Rat)*e2 (runit m e p):=by
  intro hb
  have h0:rq m e more p up≠0:=by
   intro h0
   rw[h0,bits_zero] at hb
   have h5:rlow m e (runit m e p)=0:=by
    unfold rq at h0
    split at h0
    ·omega
    ·exact h0
   unfold runit at hb h5 hum
   by_cases h6:e+bits m-p≤-16384
   ·rw[Int.max_eq_right h6] at hb;omega
   ·rw[Int.max_eq_left (by omega)] at hb h5
    have h7:=two_pow_le_of_bits hm
    unfold rlow at h5
    split at h5
    ·rcases Nat.mul_eq_zero.1 h5 with h8 | h8
     ·exact hm h8
     ·exact two_pow_ne _ h8
    ·next h9 =>
     have h10:2 ^ (e+bits m-p-e).toNat≤m:=Nat.le_trans (Nat.pow_le_pow_right (by decide) (by omega)) h7
     have:=Nat.div_pos h10 (two_pow_pos _)
     omega
  have h3:=two_pow_le_of_bits h0
  have h4:e2 ((bits (rq m e more p up)-1:Nat):Int)≤(rq m e more p up:Rat):=by
   rw[e2_nat];exact Rat.natCast_le_natCast.2 h3
  have h5:=Rat.mul_le_mul_of_nonneg_right h4 (Rat.le_of_lt pu)
  rw[← e2_add] at h5
  exact Rat.le_trans (e2_le (by omega)) h5
 have small:y≤e2 16000→¬ ((bits (rq m e more p up):Int)+runit m e p > 16384):=by
  intro hy2 hb
  have h3:=big hb
  have h4:e2 (1-(p:Int))≤1:=by rw[← e2_zero];exact e2_le (by omega)
  have h5:=Rat.mul_le_mul_of_nonneg_left h4 hy
  have h6:=(ab_le.1 q3).2
  have h7:e2 16384=e2 16000*e2 384:=by rw[show (16384:Int)=16000+384 from rfl,e2_add]
  have h8:(4:Rat)≤e2 384:=by
   have:e2 2≤e2 384:=e2_le (by decide)
   have h9:e2 2=4:=by rw[show (2:Int)=1+1 from rfl,e2_add,e2_one];decide +kernel
   rw[h9] at this;exact this
  have h10:=Rat.mul_le_mul_of_nonneg_left h8 (Rat.le_of_lt (e2_pos 16000))
  have h11:e2 (-16384)≤e2 16000:=e2_le (by decide)
  have h12:=e2_pos 16000
  grind
 refine⟨fun d hd=>?_,fun hs=>?_⟩
 ·unfold rcut at hd
  split at hd
  rotate_left
  ·cases hd
   rw[qv_canon hum]
   refine⟨Rat.mul_nonneg Rat.natCast_nonneg (Rat.le_of_lt pu),q1,q2,fun _=>Rat.le_trans q3 a4⟩
  next hb =>
  split at hd
  ·cases hd
  next hu =>
  cases hd
  have h3:=big hb
  have hv:qv (canon false (2 ^ p-1) (16384-p))≤e2 16384:=by
   rw[qv_canon (by omega)]
   have h4:((2 ^ p-1:Nat):Rat)≤e2 (p:Int):=by
    rw[e2_nat];exact Rat.natCast_le_natCast.2 (Nat.sub_le _ _)
   have h5:=Rat.mul_le_mul_of_nonneg_right h4 (Rat.le_of_lt (e2_pos (16384-(p:Int))))
   rw[← e2_add,show (p:Int)+(16384-p)=16384 from by omega] at h5
   exact h5
  have hup:up=false:=by cases up with | false=>rfl | true=>exact absurd rfl hu
  refine⟨?_,fun _=>Rat.le_trans hv (Rat.le_trans h3 (q1 hup)),fun h=>absurd h hu,fun hy2=>absurd hb (small hy2)⟩
  rw[qv_canon (by omega)]
  exact Rat.mul_nonneg Rat.natCast_nonneg (Rat.le_of_lt (e2_pos _))
 unfold rcut
 split
 ·next hb =>
  rcases hs with hs | hs
  ·exact absurd hb (small hs)
  rw[if_neg (by rw[hs];decide)];exact fun h=>by cases h
 exact fun h=>by cases h
end
def rdq (y:Rat) (p:Nat) (up:Bool) (r:Option Dy):Prop :=
 (∀ d,r=some d→(up=false→qv d≤y)∧(up=true→y≤qv d)∧(ab y≤e2 16000→ab (qv d-y)≤ab y*e2 (1-p)+e2 (-16384)))∧(ab y≤e2 16000→r≠none)
theorem rdq.opp {y:Rat} {p:Nat} {up:Bool} {r:Option Dy} (h:rdq y p (!up) r):rdq (-y) p up (r.map Dy.opp):=by
 obtain⟨h1,h2⟩:=h
 refine⟨fun d hd=>?_,fun hy=>?_⟩
 ·cases hr:r with
  | none=>rw[hr] at hd;cases hd
  | some x =>
  rw[hr] at hd;cases hd
  obtain⟨a,b,c⟩:=h1 x hr
  rw[qv_opp]
  refine⟨fun h=>?_,fun h=>?_,fun h=>?_⟩
  ·have:=b (by rw[h];rfl);grind
  ·have:=a (by rw[h];rfl);grind
  rw[ab_neg] at h ⊢
  have:=c h
  rw[show -qv x - -y=-(qv x-y) from by grind,ab_neg];exact this
 rw[ab_neg] at hy
 have:=h2 hy
 cases r with
 | some x=>exact fun h=>by cases h
 | none=>exact absurd rfl this
theorem rdq_rcut {m:Nat} {e:Int} {more up:Bool} {p:Nat} {y:Rat} (hp:8≤p) (hp2:p≤4096) (hm:m≠0) (hmo:more=true→p<bits m) (h1:more=false→y=(m:Rat)*e2 e) (h2:(m:Rat)*e2 e≤y∧y≤((m:Rat)+1)*e2 e):rdq y p up (rcut m e more p up):=by
 have hy:0≤y:=Rat.le_trans (Rat.mul_nonneg Rat.natCast_nonneg (Rat.le_of_lt (e2_pos e))) h2.1
 obtain⟨a,b⟩:=rcut_q (up:=up) hp hp2 hm hmo h1 h2
 unfold rdq
 rw[ab_of_nonneg hy]
 exact⟨fun d hd=>(a d hd).2,fun h=>b (.inl h)⟩
theorem rdq_zero (p:Nat) (up:Bool):rdq 0 p up (some .zero):=by
 refine⟨fun d hd=>?_,fun _ h=>by cases h⟩
 cases hd
 rw[qv_zero]
 refine⟨fun _=>Rat.le_refl,fun _=>Rat.le_refl,fun _=>?_⟩
 have:=e2_pos (-16384)
 have:=e2_pos (1-(p:Int))
 rw[show (0:Rat)-0=0 from by grind,ab_of_nonneg Rat.le_refl];grind
theorem rdq_rnd {K:Nat} {S:Int} {p:Nat} (up:Bool) (hp:8≤p) (hp2:p≤4096):rdq ((S:Rat)*e2 (-16384-K)) p up (rnd K S p up):=by
 unfold rnd
 have key:∀ (n:Nat) (up:Bool),n≠0→rdq ((n:Rat)*e2 (-16384-K)) p up (rcut n (-16384-K) false p up):=fun n up hn=>by
  refine rdq_rcut hp hp2 hn (fun h=>by cases h) (fun _=>rfl) ⟨Rat.le_refl,?_⟩
  have:=e2_pos (-16384-(K:Int))
  grind
 split
 ·next h=>rw[h];have:=rdq_zero p up;rwa [← Rat.zero_mul (e2 (-16384-K))] at this
 next h =>
 split
 ·next h2 =>
  have:=(key S.natAbs (!up) (by omega)).opp
  rw[show ((S.natAbs:Nat):Rat)=((-S:Int):Rat) from by rw[← Rat.intCast_natCast];congr 1;omega,Rat.intCast_neg] at this
  rw[show (S:Rat)*e2 (-16384-K)=-(-(S:Rat)*e2 (-16384-K)) from by grind]
  exact this
 have:=key S.natAbs up (by omega)
 rw[show ((S.natAbs:Nat):Rat)=(S:Rat) from by rw[← Rat.intCast_natCast];congr 1;omega] at this
 exact this
theorem rdq_rndS {s:Bool} {m:Nat} {e:Int} {more up:Bool} {p:Nat} {y:Rat} (hp:8≤p) (hp2:p≤4096) (hm:m≠0) (hmo:more=true→p<bits m) (h1:more=false→y=(m:Rat)*e2 e) (h2:(m:Rat)*e2 e≤y∧y≤((m:Rat)+1)*e2 e):rdq (if s then -y else y) p up (rndS s m e more p up):=by
 unfold rndS sgnR
 cases s with
 | true =>
  have:=(rdq_rcut (up:=!up) hp hp2 hm hmo h1 h2).opp
  simpa using this
 | false =>
 have:=rdq_rcut (up:=up) hp hp2 hm hmo h1 h2
 simpa using this
theorem rdq_quo {s:Bool} {m n:Nat} {e:Int} {p:Nat} (up:Bool) {K:Nat} (hp:8≤p) (hp2:p≤4096) (hm:m≠0) (hn:n≠0) (hK:p+1+bits n≤bits m+K) :
  rdq (if s then -((m:Rat)/n*e2 e) else (m:Rat)/n*e2 e) p up (quoR s m n e p up K):=by
 unfold quoR
 have hb:p<bits (m*2 ^ K/n):=by
  have:=bits_quo hn (p+1) (a:=m*2 ^ K) (by rw[bits_mul_pow hm];omega) (by omega)
  omega
 have hq0:m*2 ^ K/n≠0:=fun h=>by rw[h,bits_zero] at hb;omega
 have hnR:(0:Rat)<(n:Rat):=Rat.natCast_pos.2 (by omega)
 have pe:=e2_pos (e-K)
 have hpe:e2 e=e2 (e-K)*((2 ^ K:Nat):Rat):=by rw[← e2_nat,← e2_add];congr 1;omega
 have d1:=Nat.div_add_mod (m*2 ^ K) n
 have d2:=Nat.mod_lt (m*2 ^ K) (Nat.pos_of_ne_zero hn)
 have f:(m:Rat)/n*e2 e*n=((m*2 ^ K:Nat):Rat)*e2 (e-K):=by
  rw[Rat.natCast_mul,hpe]
  grind
 refine rdq_rndS hp hp2 hq0 (fun _=>hb) (fun h=>?_) ⟨?_,?_⟩
 ·have h0:m*2 ^ K % n=0:=by
   rw[decide_eq_false_iff_not] at h
   exact Classical.byContradiction fun k=>h (bits_pos k)
  have h3:((m*2 ^ K:Nat):Rat)=((m*2 ^ K/n:Nat):Rat)*n:=by
   rw[← Rat.natCast_mul,Nat.mul_comm (m*2 ^ K/n)]
   congr 1;omega
  rw[h3] at f
  generalize ((m*2 ^ K/n:Nat):Rat)=Q at *
  grind
 ·have h3:((m*2 ^ K/n:Nat):Rat)*n≤((m*2 ^ K:Nat):Rat):=by
   rw[← Rat.natCast_mul];exact Rat.natCast_le_natCast.2 (Nat.div_mul_le_self _ _)
  have h4:=Rat.mul_le_mul_of_nonneg_right h3 (Rat.le_of_lt pe)
  refine Rat.le_of_mul_le_mul_right ?_ hnR
  rw[f];grind
 have h3:((m*2 ^ K:Nat):Rat)≤(((m*2 ^ K/n:Nat):Rat)+1)*n:=by
  have:m*2 ^ K≤(m*2 ^ K/n+1)*n:=by rw[Nat.add_mul,Nat.one_mul,Nat.mul_comm (m*2 ^ K/n)];omega
  have:=Rat.natCast_le_natCast.2 this
  rw[show (((m*2 ^ K/n+1)*n:Nat):Rat)=(((m*2 ^ K/n:Nat):Rat)+1)*n from by rw[Rat.natCast_mul,Rat.natCast_add];rfl] at this
  exact this
 have h4:=Rat.mul_le_mul_of_nonneg_right h3 (Rat.le_of_lt pe)
 refine Rat.le_of_mul_le_mul_right ?_ hnR
 rw[f];grind
theorem adP_q (a b:Dy) {p:Nat} (hp:8≤p) (hp2:p≤512) (up:Bool):rdq (qv a+qv b) p up (rnd 0 (a.iv+b.iv) p up):=by
 have:=rdq_rnd (K:=0) (S:=a.iv+b.iv) (p:=p) up hp (by omega)
 rw[Rat.intCast_add,show (-16384:Int)-(0:Nat)=-16384 from rfl,Rat.add_mul] at this
 exact this
theorem muP_q (a b:Dy) {p:Nat} (hp:8≤p) (hp2:p≤512) (up:Bool):rdq (qv a*qv b) p up (rnd 16384 (a.iv*b.iv) p up):=by
 have:=rdq_rnd (K:=16384) (S:=a.iv*b.iv) (p:=p) up hp (by omega)
 rw[Rat.intCast_mul,show (-16384:Int)-(16384:Nat)=-16384 + -16384 from rfl,e2_add] at this
 unfold qv
 rw[show (a.iv:Rat)*e2 (-16384)*((b.iv:Rat)*e2 (-16384))=(a.iv:Rat)*(b.iv:Rat)*(e2 (-16384)*e2 (-16384)) from by grind]
 exact this
theorem sg_rat (s:Bool) (n:Nat):((sg s n:Int):Rat)=if s then -(n:Rat) else (n:Rat):=by
 unfold sg
 cases s with
 | true=>simp only[if_true];rw[Rat.intCast_neg];rfl
 | false=>rfl
theorem dvP_q {d f:Dy} (hd:d.ok) (hf:f.ok) {p:Nat} (hp:8≤p) (hp2:p≤512) (up:Bool) (hfz:qv f≠0):∃ r,dvP d f p up=rndE r∧rdq (qv d/qv f) p up r:=by
 have hfm:f.m≠0:=fun h=>hfz (qv_eq_zero.2 h)
 unfold dvP
 rw[if_neg hfm]
 split
 ·next hm =>
  refine⟨some .zero,rfl,?_⟩
  have:qv d/qv f=0:=by rw[qv_eq_zero.2 hm];grind
  rw[this];exact rdq_zero p up
 next hm =>
 refine⟨_,rfl,?_⟩
 have:=rdq_quo (s:=d.neg != f.neg) (e:=d.e-f.e) up hp (show p≤4096 by omega) hm hfm (K:=((p:Int)+(2:Nat)+bits f.m-bits d.m).toNat) (by omega)
 have e1:qv d/qv f=if (d.neg != f.neg)=true then -((d.m:Rat)/f.m*e2 (d.e-f.e)) else (d.m:Rat)/f.m*e2 (d.e-f.e):=by
  rw[qv_sg (ok_e hd).1,qv_sg (ok_e hf).1,sg_rat,sg_rat]
  have h1:=e2_pos f.e
  have h2:e2 d.e=e2 (d.e-f.e)*e2 f.e:=by rw[← e2_add];congr 1;omega
  have h3:(f.m:Rat)≠0:=fun h=>hfm (Rat.natCast_eq_zero_iff.1 h)
  rw[h2]
  generalize (d.m:Rat)=M at *
  generalize (f.m:Rat)=N at *
  generalize e2 (d.e-f.e)=A at *
  generalize e2 f.e=B at *
  cases d.neg <;> cases f.neg <;> simp <;> grind
 rw[e1];exact this
theorem rndE_rdq {y:Rat} {p:Nat} {up:Bool} {r:Option Dy} (h:rdq y p up r):((rndE r).2=0→(up=false→qv (rndE r).1≤y)∧(up=true→y≤qv (rndE r).1))∧(ab y≤e2 16000→(rndE r).2=0∧ab (qv (rndE r).1-y)≤ab y*e2 (1-p)+e2 (-16384)):=by
 obtain⟨h1,h2⟩:=h
 cases r with
 | none=>exact⟨fun h=>(by cases h),fun hy=>absurd rfl (h2 hy)⟩
 | some d =>
 obtain⟨a,b,c⟩:=h1 d rfl
 exact⟨fun _=>⟨a,b⟩,fun hy=>⟨rfl,c hy⟩⟩
end
section
def hasQ (X:PI) (x:Rat):Prop:=X.all=true∨qv X.lo≤x∧x≤qv X.hi
theorem hasQ.whole (x:Rat):hasQ .whole x:=.inl rfl
theorem hasQ_pt (d:RD):hasQ (ptP d) (qv d.dy):=.inr ⟨Rat.le_refl,Rat.le_refl⟩
theorem hasQ_int (n:Int):hasQ (pnI n n) (n:Rat):=.inr ⟨by show qv (intD n)≤_;rw[qv_int];exact Rat.le_refl,by show _≤qv (intD n);rw[qv_int];exact Rat.le_refl⟩
theorem hasQ_id (i j:Nat):hasQ (idP i j) (if i=j then 1 else 0):=by
 unfold idP
 split
 ·exact hasQ_int 1
 exact hasQ_int 0
theorem hasQ.neg {X:PI} {x:Rat} (h:hasQ X x):hasQ X.neg (-x):=by
 unfold PI.neg
 by_cases ha:X.all=true
 ·rw[if_pos ha];exact .whole _
 rw[if_neg ha]
 have h2:=h.resolve_left ha
 refine .inr ⟨?_,?_⟩
 ·show qv X.hi.opp≤_;rw[qv_opp];grind
 show _≤qv X.lo.opp;rw[qv_opp];grind
theorem adP_lo {a b:Dy} {p:Nat} (hp:8≤p) (hp2:p≤512) (h:(adP a b p false).2=0):qv (adP a b p false).1≤qv a+qv b:=((rndE_rdq (adP_q a b hp hp2 false)).1 h).1 rfl
theorem adP_hi {a b:Dy} {p:Nat} (hp:8≤p) (hp2:p≤512) (h:(adP a b p true).2=0):qv a+qv b≤qv (adP a b p true).1:=((rndE_rdq (adP_q a b hp hp2 true)).1 h).2 rfl
theorem muP_lo {a b:Dy} {p:Nat} (hp:8≤p) (hp2:p≤512) (h:(muP a b p false).2=0):qv (muP a b p false).1≤qv a*qv b:=((rndE_rdq (muP_q a b hp hp2 false)).1 h).1 rfl
theorem muP_hi {a b:Dy} {p:Nat} (hp:8≤p) (hp2:p≤512) (h:(muP a b p true).2=0):qv a*qv b≤qv (muP a b p true).1:=((rndE_rdq (muP_q a b hp hp2 true)).1 h).2 rfl
theorem pAdd_q {X Y:PI} {p:Nat} {x y:Rat} (hp:8≤p) (hp2:p≤512) (hX:hasQ X x) (hY:hasQ Y y):hasQ (pAdd X Y p) (x+y):=by
 unfold pAdd
 by_cases ha:(X.all||Y.all)=true
 ·rw[if_pos ha];exact .whole _
 rw[if_neg ha]
 rw[Bool.or_eq_true] at ha
 have hx:=hX.resolve_left (fun k=>ha (.inl k))
 have hy:=hY.resolve_left (fun k=>ha (.inr k))
 by_cases hb:(adP X.lo Y.lo p false).2≠0∨(adP X.hi Y.hi p true).2≠0
 ·rw[mkI_bad hb];exact .whole _
 have e1:(adP X.lo Y.lo p false).2=0:=Classical.byContradiction fun k=>hb (.inl k)
 have e2:(adP X.hi Y.hi p true).2=0:=Classical.byContradiction fun k=>hb (.inr k)
 have d:=adP_lo hp hp2 e1
 have u:=adP_hi hp hp2 e2
 rw[mkI_good e1 e2]
 exact .inr ⟨by show qv (adP X.lo Y.lo p false).1≤_;grind,by show _≤qv (adP X.hi Y.hi p true).1;grind⟩
theorem pSub_q {X Y:PI} {p:Nat} {x y:Rat} (hp:8≤p) (hp2:p≤512) (hX:hasQ X x) (hY:hasQ Y y):hasQ (pSub X Y p) (x-y):=by
 rw[Rat.sub_eq_add_neg];exact pAdd_q hp hp2 hX hY.neg
theorem cornerQ {a1 a2 b1 b2 a b:Rat} (ha1:a1≤a) (ha2:a≤a2) (hb1:b1≤b) (hb2:b≤b2) :
  (a1*b1≤a*b∨a1*b2≤a*b∨a2*b1≤a*b∨a2*b2≤a*b)∧(a*b≤a1*b1∨a*b≤a1*b2∨a*b≤a2*b1∨a*b≤a2*b2):=by
 have m1 (u v t:Rat) (h:u≤v) (ht:0≤t):u*t≤v*t:=Rat.mul_le_mul_of_nonneg_right h ht
 have m2 (u v t:Rat) (h:u≤v) (ht:t≤0):v*t≤u*t:=by
  have:=m1 u v (-t) h (by grind)
  grind
 rcases Rat.le_total (a:=0) (b:=b) with hb | hb <;> rcases Rat.le_total (a:=0) (b:=a) with ha | ha
 all_goals
  have x1:=m1 a1 a b ha1
  have x2:=m1 a a2 b ha2
  have y1:=m2 a1 a b ha1
  have y2:=m2 a a2 b ha2
  rcases Rat.le_total (a:=0) (b:=a1) with h1 | h1 <;> rcases Rat.le_total (a:=0) (b:=a2) with h2 | h2
  all_goals
   have z1:=m1 b1 b a1 hb1
   have z2:=m1 b b2 a1 hb2
   have z3:=m2 b1 b a1 hb1
   have z4:=m2 b b2 a1 hb2
   have w1:=m1 b1 b a2 hb1
   have w2:=m1 b b2 a2 hb2
   have w3:=m2 b1 b a2 hb1
   have w4:=m2 b b2 a2 hb2
   constructor <;> grind
theorem pMul_q {X Y:PI} {p:Nat} {x y:Rat} (hp:8≤p) (hp2:p≤512) (hX:hasQ X x) (hY:hasQ Y y):hasQ (pMul X Y p) (x*y):=by
 unfold pMul
 by_cases ha:(X.all||Y.all)=true
 ·rw[if_pos ha];exact .whole _
 rw[if_neg ha]
 rw[Bool.or_eq_true] at ha
 have hx:=hX.resolve_left (fun k=>ha (.inl k))
 have hy:=hY.resolve_left (fun k=>ha (.inr k))
 rcases fourP_spec (op:=fun a b up=>muP a b p up) (pairsP X Y) none (.inl (by unfold pairsP;simp)) with ⟨_,h2⟩ | ⟨g1,lo,hi,g2,g3,_,_,_⟩
 ·rw[h2];exact .whole _
 rw[g2]
 obtain⟨c1,c2⟩:=cornerQ hx.1 hx.2 hy.1 hy.2
 have low:∀ z∈pairsP X Y,qv z.1*qv z.2≤x*y→qv lo≤x*y:=by
  intro z hz hle
  have d:=muP_lo (a:=z.1) (b:=z.2) hp hp2 (g1 z hz).1
  have h3:=qv_le.2 (g3 z hz).1
  exact Rat.le_trans h3 (Rat.le_trans d hle)
 have high:∀ z∈pairsP X Y,x*y≤qv z.1*qv z.2→x*y≤qv hi:=by
  intro z hz hle
  have u:=muP_hi (a:=z.1) (b:=z.2) hp hp2 (g1 z hz).2
  have h3:=qv_le.2 (g3 z hz).2
  exact Rat.le_trans (Rat.le_trans hle u) h3
 refine .inr ⟨?_,?_⟩
 ·unfold pairsP at low
  rcases c1 with c | c | c | c
  ·exact low _ (.head _) c
  ·exact low _ (.tail _ (.head _)) c
  ·exact low _ (.tail _ (.tail _ (.head _))) c
  exact low _ (.tail _ (.tail _ (.tail _ (.head _)))) c
 unfold pairsP at high
 rcases c2 with c | c | c | c
 ·exact high _ (.head _) c
 ·exact high _ (.tail _ (.head _)) c
 ·exact high _ (.tail _ (.tail _ (.head _))) c
 exact high _ (.tail _ (.tail _ (.tail _ (.head _)))) c
def rs (c:Nat→Rat):Nat→Rat
 | 0=>0
 | t+1=>rs c t+c t
theorem rs_congr {c d:Nat→Rat}:∀ {n:Nat},(∀ t,t<n→c t=d t)→rs c n=rs d n
 | 0,_=>rfl
 | n+1,h=>by show rs c n+c n=rs d n+d n;rw[rs_congr (fun t ht=>h t (by omega)),h n (by omega)]
theorem rs_add (c d:Nat→Rat):∀ n,rs (fun t=>c t+d t) n=rs c n+rs d n
 | 0=>by show (0:Rat)=0+0;grind
 | n+1=>by show rs _ n+(c n+d n)=(rs c n+c n)+(rs d n+d n);rw[rs_add c d n];grind
theorem rs_sub (c d:Nat→Rat):∀ n,rs (fun t=>c t-d t) n=rs c n-rs d n
 | 0=>by show (0:Rat)=0-0;grind
 | n+1=>by show rs _ n+(c n-d n)=(rs c n+c n)-(rs d n+d n);rw[rs_sub c d n];grind
theorem rs_mul (k:Rat) (c:Nat→Rat):∀ n,rs (fun t=>k*c t) n=k*rs c n
 | 0=>by show (0:Rat)=k*0;grind
 | n+1=>by show rs _ n+k*c n=k*(rs c n+c n);rw[rs_mul k c n];grind
theorem rs_zero:∀ n,rs (fun _=>0) n=0
 | 0=>rfl
 | n+1=>by show rs _ n+0=0;rw[rs_zero n];grind
theorem rs_le {c d:Nat→Rat}:∀ {n:Nat},(∀ t,t<n→c t≤d t)→rs c n≤rs d n
 | 0,_=>Rat.le_refl
 | n+1,h=>by
  have a:=rs_le (n:=n) (fun t ht=>h t (by omega))
  have b:=h n (by omega)
  show rs c n+c n≤rs d n+d n
  grind
theorem rs_ab (c:Nat→Rat):∀ n,ab (rs c n)≤rs (fun t=>ab (c t)) n
 | 0=>by show ab 0≤0;unfold ab;grind
 | n+1=>by
  have a:=rs_ab c n
  have b:=ab_add (rs c n) (c n)
  show ab (rs c n+c n)≤rs _ n+ab (c n)
  grind
theorem rs_comm (c:Nat→Nat→Rat) (m:Nat):∀ n,rs (fun i=>rs (c i) m) n=rs (fun j=>rs (fun i=>c i j) n) m
 | 0=>by
  show (0:Rat)=rs (fun _=>0) m
  rw[rs_zero]
 | n+1=>by
  show rs (fun i=>rs (c i) m) n+rs (c n) m=rs (fun j=>rs (fun i=>c i j) n+c n j) m
  rw[rs_add,rs_comm c m n]
theorem rs_one {n i:Nat} (x:Rat) (hi:i<n):rs (fun t=>if i=t then x else 0) n=x:=by
 induction n with
 | zero=>omega
 | succ n ih =>
  show rs _ n+(if i=n then x else 0)=x
  by_cases h:i=n
  ·rw[if_pos h,rs_congr (d:=fun _=>0) (fun t ht=>if_neg (by omega)),rs_zero];grind
  ·rw[if_neg h,ih (by omega)];grind
theorem dotF_q {p:Nat} (hp:8≤p) (hp2:p≤512) {f g:Nat→PI} {a b:Nat→Rat} {n:Nat} (hf:∀ t,t≤n→hasQ (f t) (a t)) (hg:∀ t,t≤n→hasQ (g t) (b t)) :
  ∀ t,t≤n→hasQ (dotF p f g t) (rs (fun k=>a k*b k) (t+1))
 | 0,h=>by
  have:=pMul_q hp hp2 (hf 0 h) (hg 0 h)
  show hasQ _ (0+a 0*b 0)
  rw[Rat.zero_add];exact this
 | t+1,h=>pAdd_q hp hp2 (dotF_q hp hp2 hf hg t (by omega)) (pMul_q hp hp2 (hf _ h) (hg _ h))
theorem dotF_qn {p n:Nat} (hp:8≤p) (hp2:p≤512) (hn:1≤n) {f g:Nat→PI} {a b:Nat→Rat} (hf:∀ t,t<n→hasQ (f t) (a t)) (hg:∀ t,t<n→hasQ (g t) (b t)):hasQ (dotF p f g (n-1)) (rs (fun k=>a k*b k) n):=by
 have:=dotF_q hp hp2 (n:=n-1) (fun t ht=>hf t (by omega)) (fun t ht=>hg t (by omega)) (n-1) (Nat.le_refl _)
 rwa [show n-1+1=n from by omega] at this
theorem magP_q {X:PI} {x:Rat} (h:hasQ X x) (ha:X.all=false):ab x≤qv (magP X):=by
 have h2:=h.resolve_left (by rw[ha];decide)
 unfold magP maxD
 rw[if_neg (by rw[ha];decide)]
 have e1:=qv_absv X.lo
 have e2:=qv_absv X.hi
 split
 ·next k =>
  have:=qv_le.2 k
  unfold ab at *;grind
 next k =>
 have:qv X.lo.absv≤qv X.hi.absv:=qv_le.2 (by omega)
 unfold ab at *;grind
theorem sumQ_q {p:Nat} (hp:8≤p) (hp2:p≤512):∀ {r:List PI} {s t:Dy},sumQ p r s=some t→(∀ X∈r,X.all=false)∧qv s+rs (fun j=>qv (magP (r.getD j .whole))) r.length≤qv t
 | [],s,t,h=>by
  unfold sumQ at h;cases h
  exact⟨fun x h=>(List.not_mem_nil h).elim,by show qv s+0≤qv s;grind⟩
 | X::r,s,t,h=>by
  unfold sumQ at h
  by_cases ha:X.all=true
  ·rw[if_pos ha] at h;cases h
  ·rw[if_neg ha] at h
   by_cases he:(adP s (magP X) p true).2≠0
   ·rw[if_pos he] at h;cases h
   ·rw[if_neg he] at h
    obtain⟨h1,h2⟩:=sumQ_q hp hp2 h
    have u:=adP_hi hp hp2 (show (adP s (magP X) p true).2=0 from Classical.byContradiction he)
    refine⟨fun y hy=>?_,?_⟩
    ·rcases List.mem_cons.1 hy with rfl | hy
     ·exact Bool.eq_false_iff.2 ha
     ·exact h1 y hy
    ·have e:∀ n,rs (fun j=>qv (magP ((X::r).getD j .whole))) (n+1)=qv (magP X)+rs (fun j=>qv (magP (r.getD j .whole))) n:=by
      intro n
      induction n with
      | zero=>show (0:Rat)+qv (magP ((X::r).getD 0 .whole))=_+0;rw[List.getD_cons_zero];grind
      | succ n ih =>
       show rs _ (n+1)+qv (magP ((X::r).getD (n+1) .whole))=_+(rs _ n+qv (magP (r.getD n .whole)))
       rw[ih,List.getD_cons_succ];grind
     rw[List.length_cons,e]
     grind
theorem nrmQ_q {p:Nat} (hp:8≤p) (hp2:p≤512):∀ {m:List (List PI)} {s t:Dy},nrmQ p m s=some t→qv s≤qv t∧∀ r∈m,(∀ X∈r,X.all=false)∧rs (fun j=>qv (magP (r.getD j .whole))) r.length≤qv t
 | [],s,t,h=>by
  unfold nrmQ at h;cases h
  exact⟨Rat.le_refl,fun r h=>(List.not_mem_nil h).elim⟩
 | r::m,s,t,h=>by
  unfold nrmQ at h
  cases hs:sumQ p r .zero with
  | none=>rw[hs] at h;cases h
  | some q =>
   rw[hs] at h
   have h3:nrmQ p m (if s.iv<q.iv then q else s)=some t:=h
   obtain⟨h4,h5⟩:=nrmQ_q hp hp2 h3
   obtain⟨h6,h7⟩:=sumQ_q hp hp2 hs
   rw[qv_zero] at h7
   have h8:qv s≤qv t∧qv q≤qv t:=by
    split at h4
    ·next k =>
     have:qv s≤qv q:=qv_le.2 (by omega)
     grind
    ·next k =>
     have:qv q≤qv s:=qv_le.2 (by omega)
     grind
   refine⟨h8.1,fun r' hr=>?_⟩
   rcases List.mem_cons.1 hr with rfl | hr
   ·exact⟨h6,by grind⟩
   ·exact h5 r' hr
def resR (n:Nat) (v a:Nat→Nat→Rat) (i j:Nat):Rat:=(if i=j then 1 else 0)-rs (fun k=>v i k*a k j) n
theorem bnd_sound {n p:Nat} {V A:Nat→Nat→PI} {v a:Nat→Nat→Rat} {d:Dy} (hp:8≤p) (hp2:p≤512) (hn:1≤n) (hV:∀ i j,i<n→j<n→hasQ (V i j) (v i j)) (hA:∀ i j,i<n→j<n→hasQ (A i j) (a i j))
  (h:bndQ (resQ n p V A) p=some d):∃ q:Rat,0≤q∧q<1∧q≤qv d*(1-q)∧∀ i,i<n→rs (fun j=>ab (resR n v a i j)) n≤q:=by
 unfold bndQ at h
 cases hq:nrmQ p (resQ n p V A) .zero with
 | none=>rw[hq] at h;cases h
 | some q =>
 rw[hq] at h
 obtain⟨g1,g2⟩:=nrmQ_q hp hp2 hq
 have hqok:=nrmQ_pos hp hp2 _ _ _ Dy.ok_zero (Int.le_of_eq (Dy.iv_eq_zero.2 rfl).symm) hq
 rw[qv_zero] at g1
 unfold bndR at h
 dsimp only at h
 split at h
 ·cases h
 next k1 =>
 split at h
 ·cases h
 next k2 =>
 split at h
 ·cases h
 next k3 =>
 have hd:(dvP q (adP (intD 1) q.opp p false).1 p true).1=d:=Option.some.inj h
 have e2:(adP (intD 1) q.opp p false).2=0:=Classical.byContradiction k2
 have e3:(dvP q (adP (intD 1) q.opp p false).1 p true).2=0:=Classical.byContradiction k3
 have lt1:qv q<1:=by
  have:qv q<qv (intD 1):=qv_lt.2 (by omega)
  rw[qv_int] at this;exact this
 have rl:=adP_lo hp hp2 e2
 rw[qv_int,qv_opp] at rl
 have rp:0<qv (adP (intD 1) q.opp p false).1:=by
  have:=rest_pos hp hp2 (by omega) e2
  have h0:qv .zero<qv (adP (intD 1) q.opp p false).1:=qv_lt.2 (by rw[Dy.iv_zero];exact this)
  rw[qv_zero] at h0;exact h0
 obtain⟨r,hr1,hr2⟩:=dvP_q hqok.1 (adP_ok (intD 1) q.opp hp hp2 false) hp hp2 true (f:=(adP (intD 1) q.opp p false).1) (d:=q) (fun e=>by grind)
 rw[hr1] at hd e3
 have hu:=((rndE_rdq hr2).1 e3).2 rfl
 rw[hd] at hu
 refine⟨qv q,g1,lt1,?_,fun i hi=>?_⟩
 ·have m:=Rat.mul_le_mul_of_nonneg_right hu (Rat.le_of_lt rp)
  have dv:qv q/qv (adP (intD 1) q.opp p false).1*qv (adP (intD 1) q.opp p false).1=qv q:=by grind
  rw[dv] at m
  have hd0:0≤qv d:=by
   have:=bndQ_pos (N:=resQ n p V A) (d:=d) hp hp2 (by
    unfold bndQ
    rw[hq]
    unfold bndR
    dsimp only
    rw[if_neg k1,if_neg k2,if_neg k3,← hd,hr1])
   have h0:qv .zero≤qv d:=qv_le.2 (by rw[Dy.iv_zero];exact this.2)
   rw[qv_zero] at h0;exact h0
  have m2:=Rat.mul_le_mul_of_nonneg_left rl hd0
  have e:((1:Int):Rat)=1:=rfl
  rw[e] at m2
  grind
 have hmem:rowF n (fun j=>pSub (idP i j) (dotF p (V i) (fun t=>A t j) (n-1)) p)∈resQ n p V A:=by
  unfold resQ tabM
  exact List.mem_map.2 ⟨i,List.mem_range.2 hi,rfl⟩
 obtain⟨b1,b2⟩:=g2 _ hmem
 rw[rowF_len] at b2
 refine Rat.le_trans (rs_le fun j hj=>?_) b2
 have hget:(rowF n (fun j=>pSub (idP i j) (dotF p (V i) (fun t=>A t j) (n-1)) p)).getD j .whole=pSub (idP i j) (dotF p (V i) (fun t=>A t j) (n-1)) p:=by
  unfold rowF
  rw[List.getD_eq_getElem?_getD,List.getElem?_map,List.getElem?_range hj];rfl
 rw[hget]
 refine magP_q ?_ (b1 _ ?_)
 ·exact pSub_q hp hp2 (hasQ_id i j) (dotF_qn hp hp2 hn (fun t ht=>hV i t hi ht) (fun t ht=>hA t j ht hj))
 unfold rowF
 exact List.mem_map.2 ⟨j,List.mem_range.2 hj,rfl⟩
end
section
def mxR (x:Nat→Rat):Nat→Rat
 | 0=>0
 | n+1=>if mxR x n≤ab (x n) then ab (x n) else mxR x n
theorem mxR_nonneg (x:Nat→Rat):∀ n,0≤mxR x n
 | 0=>Rat.le_refl
 | n+1=>by
  have a:=mxR_nonneg x n
  have b:=ab_nonneg (x n)
  unfold mxR
  split <;> assumption
theorem mxR_le (x:Nat→Rat):∀ {n i:Nat},i<n→ab (x i)≤mxR x n
 | 0,_,h=>by omega
 | n+1,i,h=>by
  unfold mxR
  by_cases e:i=n
  ·subst e
   split
   ·exact Rat.le_refl
   ·grind
  ·have:=mxR_le x (n:=n) (i:=i) (by omega)
   split
   ·grind
   ·exact this
theorem mxR_at (x:Nat→Rat):∀ n,mxR x n=0∨∃ i,i<n∧mxR x n=ab (x i)
 | 0=>.inl rfl
 | n+1=>by
  unfold mxR
  split
  ·exact .inr ⟨n,by omega,rfl⟩
  ·rcases mxR_at x n with h | ⟨i,hi,h⟩
   ·exact .inl h
   ·exact .inr ⟨i,by omega,h⟩
theorem mxR_bound {x:Nat→Rat} {n:Nat} {c:Rat} (hc:0≤c) (h:∀ i,i<n→ab (x i)≤c):mxR x n≤c:=by
 rcases mxR_at x n with e | ⟨i,hi,e⟩
 ·rw[e];exact hc
 rw[e];exact h i hi
def mv (n:Nat) (a:Nat→Nat→Rat) (x:Nat→Rat) (i:Nat):Rat:=rs (fun k=>a i k*x k) n
theorem rs_mulr (c:Nat→Rat) (k:Rat) (n:Nat):rs (fun t=>c t*k) n=rs c n*k:=by
 rw[rs_congr (d:=fun t=>k*c t) (fun t _=>by grind),rs_mul];grind
theorem res_split (n:Nat) (v a:Nat→Nat→Rat) (x:Nat→Rat) {i:Nat} (hi:i<n):mv n (resR n v a) x i+mv n v (mv n a x) i=x i:=by
 unfold mv resR
 have e1:rs (fun k=>((if i=k then 1 else 0)-rs (fun t=>v i t*a t k) n)*x k) n=rs (fun k=>if i=k then x i else 0) n-rs (fun k=>rs (fun t=>v i t*a t k*x k) n) n:=by
  rw[← rs_sub]
  refine rs_congr fun k _=>?_
  rw[rs_mulr]
  by_cases h:i=k
  ·subst h;rw[if_pos rfl,if_pos rfl];grind
  ·rw[if_neg h,if_neg h];grind
 rw[e1,rs_one (x i) hi]
 have e2:rs (fun k=>v i k*rs (fun t=>a k t*x t) n) n=rs (fun k=>rs (fun t=>v i t*a t k*x k) n) n:=by
  rw[← rs_comm (fun k t=>v i k*a k t*x t) n n]
  refine rs_congr fun k _=>?_
  rw[← rs_mul]
  exact rs_congr fun t _=>by grind
 rw[e2];grind
theorem mv_le {n:Nat} {e:Nat→Nat→Rat} {q:Rat} (x:Nat→Rat) {i:Nat} (h:rs (fun j=>ab (e i j)) n≤q):ab (mv n e x i)≤q*mxR x n:=by
 unfold mv
 refine Rat.le_trans (rs_ab _ n) ?_
 have h1:rs (fun t=>ab (e i t*x t)) n≤rs (fun t=>ab (e i t)*mxR x n) n:=rs_le fun t ht=>by
  rw[ab_mul]
  exact Rat.mul_le_mul_of_nonneg_left (mxR_le x ht) (ab_nonneg _)
 rw[rs_mulr] at h1
 exact Rat.le_trans h1 (Rat.mul_le_mul_of_nonneg_right h (mxR_nonneg x n))
section
variable {n:Nat} {v a:Nat→Nat→Rat} {q d:Rat}
theorem bnd_near (h0:0≤q) (h1:q<1) (hd:q≤d*(1-q)) (hr:∀ i,i<n→rs (fun j=>ab (resR n v a i j)) n≤q) (x:Nat→Rat):∀ i,i<n→ab (x i-mv n v (mv n a x) i)≤d*mxR (mv n v (mv n a x)) n:=by
 obtain⟨y,hy⟩:∃ y,y=mv n v (mv n a x):=⟨_,rfl⟩
 rw[← hy]
 have hs:∀ i,i<n→x i-y i=mv n (resR n v a) (fun t=>x t-y t) i+mv n (resR n v a) y i:=fun i hi=>by
  have e:mv n (resR n v a) x i=mv n (resR n v a) (fun t=>x t-y t) i+mv n (resR n v a) y i:=by
   unfold mv
   rw[← rs_add]
   exact rs_congr fun t _=>by grind
  have:=res_split n v a x hi
  rw[← hy] at this
  rw[← e];grind
 obtain⟨M,hM⟩:∃ M,M=mxR (fun t=>x t-y t) n:=⟨_,rfl⟩
 obtain⟨Y,hY⟩:∃ Y,Y=mxR y n:=⟨_,rfl⟩
 have hM0:0≤M:=by rw[hM];exact mxR_nonneg _ _
 have hY0:0≤Y:=by rw[hY];exact mxR_nonneg _ _
 have hb:∀ i,i<n→ab (x i-y i)≤q*M+q*Y:=fun i hi=>by
  rw[hs i hi]
  have a1:=ab_add (mv n (resR n v a) (fun t=>x t-y t) i) (mv n (resR n v a) y i)
  have a2:=mv_le (fun t=>x t-y t) (hr i hi)
  have a3:=mv_le y (hr i hi)
  rw[← hM] at a2
  rw[← hY] at a3
  grind
 have hle:M≤q*M+q*Y:=by
  have k1:=Rat.mul_nonneg h0 hM0
  have k2:=Rat.mul_nonneg h0 hY0
  have:=mxR_bound (x:=fun t=>x t-y t) (n:=n) (c:=q*M+q*Y) (by grind) hb
  rw[← hM] at this;exact this
 have hfin:M≤d*Y:=by
  refine Rat.le_of_mul_le_mul_right (c:=1-q) ?_ (by grind)
  have:=Rat.mul_le_mul_of_nonneg_right hd hY0
  grind
 intro i hi
 rw[← hY]
 have:=mxR_le (fun t=>x t-y t) hi
 rw[← hM] at this
 grind
theorem bnd_form (h0:0≤q) (h1:q<1) (hd:q≤d*(1-q)) (hd0:0≤d) (hr:∀ i,i<n→rs (fun j=>ab (resR n v a i j)) n≤q) (x:Nat→Rat) :
  ∃ R:Nat→Nat→Rat,(∀ i t,i<n→ab (R i t)≤d)∧∀ i,i<n→x i=rs (fun t=>((if i=t then 1 else 0)+R i t)*mv n v (mv n a x) t) n:=by
 have hn:=bnd_near h0 h1 hd hr x
 obtain⟨y,hy⟩:∃ y,y=mv n v (mv n a x):=⟨_,rfl⟩
 rw[← hy] at hn ⊢
 have sp:∀ R:Nat→Nat→Rat,∀ i,i<n→rs (fun t=>((if i=t then 1 else 0)+R i t)*y t) n=y i+rs (fun t=>R i t*y t) n:=fun R i hi=>by
  rw[← rs_one (y i) hi,← rs_add]
  refine rs_congr fun t _=>?_
  by_cases e:i=t
  ·subst e;rw[if_pos rfl,if_pos rfl];grind
  ·rw[if_neg e,if_neg e];grind
 have zz:ab 0=0:=by unfold ab;grind
 rcases mxR_at y n with e | ⟨j,hj,e⟩
 ·refine⟨fun _ _=>0,fun i t _=>by show ab 0≤d;rw[zz];exact hd0,fun i hi=>?_⟩
  rw[sp (fun _ _=>0) i hi,rs_congr (d:=fun _=>0) (fun t _=>by grind),rs_zero]
  have:=hn i hi
  rw[e] at this
  have:=ab_eq_zero (x:=x i-y i) (by grind)
  grind
 by_cases hz:y j=0
 ·refine⟨fun _ _=>0,fun i t _=>by show ab 0≤d;rw[zz];exact hd0,fun i hi=>?_⟩
  rw[sp (fun _ _=>0) i hi,rs_congr (d:=fun _=>0) (fun t _=>by grind),rs_zero]
  have:=hn i hi
  rw[e,hz] at this
  rw[zz] at this
  have:=ab_eq_zero (x:=x i-y i) (by grind)
  grind
 refine⟨fun i t=>if j=t then (x i-y i)/y j else 0,fun i t hi=>?_,fun i hi=>?_⟩
 ·show ab (if j=t then (x i-y i)/y j else 0)≤d
  by_cases e2:j=t
  rotate_left
  ·rw[if_neg e2]
   rw[zz];exact hd0
  rw[if_pos e2]
  have hyp:0<ab (y j):=by
   have:=ab_nonneg (y j)
   have:ab (y j)≠0:=fun k=>hz (ab_eq_zero (by grind))
   grind
  refine Rat.le_of_mul_le_mul_right (c:=ab (y j)) ?_ hyp
  rw[← ab_mul]
  have:=hn i hi
  rw[e] at this
  have e3:(x i-y i)/y j*y j=x i-y i:=by grind
  rw[e3];exact this
 rw[sp (fun i t=>if j=t then (x i-y i)/y j else 0) i hi,rs_congr (d:=fun t=>if j=t then x i-y i else 0) (fun t _=>by
  show (if j=t then (x i-y i)/y j else 0)*y t=_
  by_cases e2:j=t
  ·subst e2;rw[if_pos rfl,if_pos rfl];grind
  ·rw[if_neg e2,if_neg e2];grind),rs_one _ hj]
 grind
end
def qM (m:List (List RD)) (i j:Nat):Rat:=qv (atN m i j).dy
theorem corC_parts {m v:List (List RD)} {p:Int} (h:(corC m v p).2=0):∃ (q:Nat) (d:Dy),p=(q:Int)∧8≤q∧q≤512∧1≤m.length∧v.length=m.length∧bndQ (resQ m.length q (fun i t=>ptP (atN v i t)) (fun t j=>ptP (atN m t j))) q=some d∧(corC m v p).1=corF m v q d:=by
 unfold corC at h ⊢
 by_cases hb:corB m v p=true
 rotate_left
 ·rw[if_neg hb] at h;cases h
 rw[if_pos hb] at h
 have hb2:=hb
 unfold corB at hb2
 rw[Bool.and_eq_true,Bool.and_eq_true,Bool.and_eq_true,decide_eq_true_eq] at hb2
 have hp:=preB_iff.1 hb2.1
 cases hd:corD m v p.toNat with
 | none=>rw[hd] at h;cases h
 | some d =>
 refine⟨p.toNat,d,by omega,by omega,by omega,(sqN_iff.1 hb2.2.1).1.1,hb2.2.2.2.symm,?_,?_⟩
 ·rw[← corD_eq];exact hd
 rw[if_pos hb];rfl
theorem corC_bound {m v:List (List RD)} {p:Int} (h:(corC m v p).2=0):∃ (P:Nat) (d:Dy) (q:Rat),p=(P:Int)∧8≤P∧P≤512∧1≤m.length∧(corC m v p).1=corF m v P d∧0≤qv d∧0≤q∧q<1∧q≤qv d*(1-q)∧∀ i,i<m.length→rs (fun j=>ab (resR m.length (qM v) (qM m) i j)) m.length≤q:=by
 obtain⟨P,d,h1,h2,h3,h4,_,h5,h6⟩:=corC_parts h
 obtain⟨q,q0,q1,q2,q3⟩:=bnd_sound h2 h3 h4 (v:=qM v) (a:=qM m) (fun i j _ _=>hasQ_pt _) (fun i j _ _=>hasQ_pt _) h5
 have hd:=(bndQ_pos h2 h3 h5).2
 have hd0:0≤qv d:=by
  have:qv .zero≤qv d:=qv_le.2 (by rw[Dy.iv_zero];exact hd)
  rw[qv_zero] at this;exact this
 exact⟨P,d,q,h1,h2,h3,h4,h6,hd0,q0,q1,q2,q3⟩
theorem hasQ_around {d:Dy} {r:Rat} (h:ab r≤qv d):hasQ ⟨d.opp,d,false⟩ r:=by
 have:=ab_le.1 h
 exact .inr ⟨by show qv d.opp≤r;rw[qv_opp];exact this.1,this.2⟩
end
def muK (x y:Dy) (ok:Bool):Dy×Bool:=((chk (prodD x y)).1,ok&&((chk (prodD x y)).2==0))
def sbK (x y:Dy) (ok:Bool):Dy×Bool:=((chk (sumD x y.opp)).1,ok&&((chk (sumD x y.opp)).2==0))
theorem prodD_chk_ok (x y:Dy):(chk (prodD x y)).1.ok:=chk_canon_ok _ _ _
theorem sbK_ok (x y:Dy) (ok:Bool):(sbK x y ok).1.ok:=sumD_chk_ok x y.opp
theorem muK_q {x y:Dy} {ok:Bool} (hx:x.ok) (hy:y.ok) (h:(muK x y ok).2=true):ok=true∧qv (muK x y ok).1=qv x*qv y:=by
 unfold muK at h ⊢
 rw[Bool.and_eq_true,beq_iff_eq] at h
 refine⟨h.1,?_⟩
 show qv (chk (prodD x y)).1=_
 rw[chk0 h.2]
 have e:=prodD_iv hx hy h.2
 unfold qv
 have e2:((prodD x y).iv:Rat)*e2 16384=(x.iv:Rat)*(y.iv:Rat):=by
  rw[← Rat.intCast_mul,← e,Rat.intCast_mul,show e2 16384=e2 ((16384:Nat):Int) from rfl,e2_int]
 have e3:=e2_neg 16384
 have e4:(-16384:Int)=-(16384:Int):=rfl
 rw[e4]
 grind
theorem sbK_q {x y:Dy} {ok:Bool} (h:(sbK x y ok).2=true):ok=true∧qv (sbK x y ok).1=qv x-qv y:=by
 unfold sbK at h ⊢
 rw[Bool.and_eq_true,beq_iff_eq] at h
 refine⟨h.1,?_⟩
 show qv (chk (sumD x y.opp)).1=_
 rw[chk0 h.2]
 unfold qv
 rw[sumD_iv,Dy.opp_iv,Rat.intCast_add,Rat.intCast_neg]
 grind
def sgnN (n d:Dy):Dy:=if d.iv<0 then n.opp else n
def btC (n d lo hi:Dy) (ok:Bool):Bool×Bool :=
 if (muK lo (sgnN d d) ok).1.iv≤(sgnN n d).iv then (decide ((sgnN n d).iv≤(muK hi (sgnN d d) (muK lo (sgnN d d) ok).2).1.iv),(muK hi (sgnN d d) (muK lo (sgnN d d) ok).2).2)
 else (false,(muK lo (sgnN d d) ok).2)
theorem sgnN_ok {n d:Dy} (h:n.ok):(sgnN n d).ok:=by
 unfold sgnN
 split
 ·exact Dy.opp_ok h
 exact h
theorem btC_q {n d lo hi:Dy} {ok:Bool} (hd:d.ok) (hlo:lo.ok) (hhi:hi.ok) (h:(btC n d lo hi ok).2=true) (hz:qv d≠0) {t:Rat} (ht:t*qv d=qv n) (h1:qv lo≤t) (h2:t≤qv hi):ok=true∧(btC n d lo hi ok).1=true:=by
 have hs:0<qv (sgnN d d)∧t*qv (sgnN d d)=qv (sgnN n d):=by
  unfold sgnN
  by_cases hn:d.iv<0
  ·rw[if_pos hn,if_pos hn,qv_opp,qv_opp]
   have:qv d<qv .zero:=qv_lt.2 (by rw[Dy.iv_zero];exact hn)
   rw[qv_zero] at this
   constructor <;> grind
  ·rw[if_neg hn,if_neg hn]
   have:qv .zero≤qv d:=qv_le.2 (by rw[Dy.iv_zero];omega)
   rw[qv_zero] at this
   exact⟨by grind,ht⟩
 have hdk:=sgnN_ok (d:=d) hd
 unfold btC at h ⊢
 by_cases hc:(muK lo (sgnN d d) ok).1.iv≤(sgnN n d).iv
 ·rw[if_pos hc] at h ⊢
  obtain⟨k1,k2⟩:=muK_q hhi hdk h
  obtain⟨k3,k4⟩:=muK_q hlo hdk k1
  refine⟨k3,decide_eq_true (qv_le.1 ?_)⟩
  rw[k2,← hs.2]
  exact Rat.mul_le_mul_of_nonneg_right h2 (Rat.le_of_lt hs.1)
 rw[if_neg hc] at h ⊢
 obtain⟨k3,k4⟩:=muK_q hlo hdk h
 refine absurd (qv_le.1 ?_) hc
 rw[k4,← hs.2]
 exact Rat.mul_le_mul_of_nonneg_right h1 (Rat.le_of_lt hs.1)
def memC1 (y0 c0 a lo hi:Dy):Bool×Bool:=((btC (sbK y0 c0 true).1 a lo hi (sbK y0 c0 true).2).1,(btC (sbK y0 c0 true).1 a lo hi (sbK y0 c0 true).2).2&&decide (a.m≠0))
theorem memC1_sound {y0 c0 a lo hi:Dy} (ha:a.ok) (hlo:lo.ok) (hhi:hi.ok) (h:(memC1 y0 c0 a lo hi).2=true) {t:Rat} (ht:qv a*t=qv y0-qv c0) (h1:qv lo≤t) (h2:t≤qv hi):(memC1 y0 c0 a lo hi).1=true:=by
 unfold memC1 at h ⊢
 rw[Bool.and_eq_true,decide_eq_true_eq] at h
 have hz:qv a≠0:=fun e=>h.2 (qv_eq_zero.1 e)
 have hok:(sbK y0 c0 true).2=true:=by
  cases hb:(sbK y0 c0 true).2 with
  | true=>rfl
  | false =>
   exfalso
   have h3:=h.1
   rw[hb] at h3
   unfold btC at h3
   have n1:(muK lo (sgnN a a) false).2=false:=rfl
   split at h3
   ·rw[n1] at h3;cases h3
   ·rw[n1] at h3;cases h3
 exact (btC_q ha hlo hhi h.1 hz (by rw[(sbK_q hok).2];grind) h1 h2).2
structure M2 where
 u:Dy×Bool
 v:Dy×Bool
 m1:Dy×Bool
 m2:Dy×Bool
 det:Dy×Bool
 p1:Dy×Bool
 p2:Dy×Bool
 n0:Dy×Bool
def mem2 (y0 y1 c0 c1 a b c d:Dy):M2 :=
 let u:=sbK y0 c0 true
 let v:=sbK y1 c1 u.2
 let m1:=muK a d v.2
 let m2:=muK b c m1.2
 let det:=sbK m1.1 m2.1 m2.2
 let p1:=muK u.1 d det.2
 let p2:=muK b v.1 p1.2
 ⟨u,v,m1,m2,det,p1,p2,sbK p1.1 p2.1 p2.2⟩
def memB (s:M2) (a c lo1 hi1:Dy) (ok:Bool):Bool×Bool :=
 btC (sbK (muK a s.v.1 ok).1 (muK s.u.1 c (muK a s.v.1 ok).2).1 (muK s.u.1 c (muK a s.v.1 ok).2).2).1 s.det.1 lo1 hi1 (sbK (muK a s.v.1 ok).1 (muK s.u.1 c (muK a s.v.1 ok).2).1 (muK s.u.1 c (muK a s.v.1 ok).2).2).2
def memI (s:M2) (a c lo0 hi0 lo1 hi1:Dy):Bool×Bool :=
 if (btC s.n0.1 s.det.1 lo0 hi0 s.n0.2).1=true then memB s a c lo1 hi1 (btC s.n0.1 s.det.1 lo0 hi0 s.n0.2).2 else (false,(btC s.n0.1 s.det.1 lo0 hi0 s.n0.2).2)
def memC2 (y0 y1 c0 c1 a b c d lo0 hi0 lo1 hi1:Dy):Bool×Bool :=
 ((memI (mem2 y0 y1 c0 c1 a b c d) a c lo0 hi0 lo1 hi1).1,(memI (mem2 y0 y1 c0 c1 a b c d) a c lo0 hi0 lo1 hi1).2&&decide ((mem2 y0 y1 c0 c1 a b c d).det.1.m≠0))
theorem btC_false (n d lo hi:Dy):(btC n d lo hi false).2=false:=by
 unfold btC
 have n1:(muK lo (sgnN d d) false).2=false:=rfl
 split
 ·rw[n1];rfl
 exact n1
theorem btC_was {n d lo hi:Dy} {ok:Bool} (h:(btC n d lo hi ok).2=true):ok=true:=by
 cases ok with
 | false=>rw[btC_false] at h;cases h
 | true=>rfl
theorem memC2_sound {y0 y1 c0 c1 a b c d lo0 hi0 lo1 hi1:Dy} (ha:a.ok) (hb:b.ok) (hc:c.ok) (hd:d.ok) (g1:lo0.ok) (g2:hi0.ok) (g3:lo1.ok) (g4:hi1.ok)
  (h:(memC2 y0 y1 c0 c1 a b c d lo0 hi0 lo1 hi1).2=true) {t0 t1:Rat} (e0:qv a*t0+qv b*t1=qv y0-qv c0) (e1:qv c*t0+qv d*t1=qv y1-qv c1)
  (k0:qv lo0≤t0) (k1:t0≤qv hi0) (k2:qv lo1≤t1) (k3:t1≤qv hi1):(memC2 y0 y1 c0 c1 a b c d lo0 hi0 lo1 hi1).1=true:=by
 unfold memC2 at h ⊢
 rw[Bool.and_eq_true,decide_eq_true_eq] at h
 obtain⟨h1,h2⟩:=h
 obtain⟨s,hs⟩:∃ s,s=mem2 y0 y1 c0 c1 a b c d:=⟨_,rfl⟩
 have su:s.u=sbK y0 c0 true:=by rw[hs];rfl
 have sv:s.v=sbK y1 c1 s.u.2:=by rw[hs];rfl
 have s1:s.m1=muK a d s.v.2:=by rw[hs];rfl
 have s2:s.m2=muK b c s.m1.2:=by rw[hs];rfl
 have sd:s.det=sbK s.m1.1 s.m2.1 s.m2.2:=by rw[hs];rfl
 have sp:s.p1=muK s.u.1 d s.det.2:=by rw[hs];rfl
 have sq:s.p2=muK b s.v.1 s.p1.2:=by rw[hs];rfl
 have sn:s.n0=sbK s.p1.1 s.p2.1 s.p2.2:=by rw[hs];rfl
 rw[← hs] at h1 h2 ⊢
 clear hs
 have hz:qv s.det.1≠0:=fun e=>h2 (qv_eq_zero.1 e)
 -- all that was computed up to n0 is exact
 have hn0:s.n0.2=true:=by
  unfold memI at h1
  split at h1
  ·have:=btC_was h1
   rw[sbK] at this
   have h3:(muK a s.v.1 (btC s.n0.1 s.det.1 lo0 hi0 s.n0.2).2).2=true:=by
    have h4:=(Bool.and_eq_true _ _).mp this
    have h5:=h4.1
    unfold muK at h5
    exact ((Bool.and_eq_true _ _).mp h5).1
   have h6:(btC s.n0.1 s.det.1 lo0 hi0 s.n0.2).2=true:=by
    unfold muK at h3
    exact ((Bool.and_eq_true _ _).mp h3).1
   exact btC_was h6
  ·exact btC_was h1
 obtain⟨x1,q1⟩:=sbK_q (sn▸hn0)
 rw[← sn] at q1
 have okv:s.v.1.ok:=by rw[sv];exact sbK_ok _ _ _
 have oku:s.u.1.ok:=by rw[su];exact sbK_ok _ _ _
 obtain⟨x2,q2⟩:=muK_q hb okv (sq▸x1)
 rw[← sq] at q2
 obtain⟨x3,q3⟩:=muK_q oku hd (sp▸x2)
 rw[← sp] at q3
 obtain⟨x4,q4⟩:=sbK_q (sd▸x3)
 rw[← sd] at q4
 obtain⟨x5,q5⟩:=muK_q hb hc (s2▸x4)
 rw[← s2] at q5
 obtain⟨x6,q6⟩:=muK_q ha hd (s1▸x5)
 rw[← s1] at q6
 obtain⟨x7,q7⟩:=sbK_q (sv▸x6)
 rw[← sv] at q7
 obtain⟨_,q8⟩:=sbK_q (su▸x7)
 rw[← su] at q8
 have okd:s.det.1.ok:=by rw[sd];exact sbK_ok _ _ _
 unfold memI at h1 ⊢
 have hb0:(btC s.n0.1 s.det.1 lo0 hi0 s.n0.2).2=true:=by
  split at h1
  ·have:=btC_was h1
   unfold sbK at this
   have h5:=((Bool.and_eq_true _ _).mp this).1
   unfold muK at h5
   have h6:=((Bool.and_eq_true _ _).mp h5).1
   exact ((Bool.and_eq_true _ _).mp h6).1
  ·exact h1
 have f0:=(btC_q okd g1 g2 hb0 hz (t:=t0) (by rw[q1,q2,q3,q4,q5,q6,q7,q8];grind) k0 k1).2
 rw[if_pos f0] at h1 ⊢
 unfold memB at h1 ⊢
 have w1:=btC_was h1
 obtain⟨x8,r1⟩:=sbK_q w1
 obtain⟨x9,r2⟩:=muK_q oku hc x8
 obtain⟨x10,r3⟩:=muK_q ha okv x9
 exact (btC_q okd g3 g4 h1 hz (t:=t1) (by rw[r1,r2,r3,q4,q5,q6,q7,q8];grind) k2 k3).2
section
theorem noU_bl (x:Bool):NoU (.bool x):=fun y e=>by cases e
theorem noU_it (x:Int):NoU (.int .i64 x):=fun y e=>by cases e
theorem noU_sl (a:Option Addr) (n c:Nat):NoU (.slice a n c):=fun y e=>by cases e
def NoUX (X:Nat→Prop) (w:World):Prop:=∀ k,X k→∀ i v,w.cell? ⟨k,i,none⟩=some v→NoU v
structure Chg (X:Nat→Prop) (w w':World):Prop where
 os:w'.os=w.os
 tape:w'.tape=w.tape
 output:w'.output=w.output
 size:w.heap.size≤w'.heap.size
 block:∀ k,k<w.heap.size→¬ X k→w'.heap[k]? = w.heap[k]?
 noU:NoUX X w→(∀ k,X k→k<w.heap.size)→NoUX X w'
theorem cell_of_heap {w w':World} {b:Nat} (h:w'.heap[b]? = w.heap[b]?) (i:Nat):w'.cell? ⟨b,i,none⟩=w.cell? ⟨b,i,none⟩:=by
 unfold World.cell?
 simp only[h]
theorem frozen_of_heap {w w':World} {b:Nat} (h:w'.heap[b]? = w.heap[b]?) (i:Nat):w'.frozen? ⟨b,i,none⟩=w.frozen? ⟨b,i,none⟩:=by
 unfold World.frozen?
 simp only[h]
theorem cell_set_none {w:World} {b i:Nat} {v:Value} (h:w.cell? ⟨b,i,none⟩=none):(w.setCell ⟨b,i,none⟩ v).cell? ⟨b,i,none⟩=none:=by
 unfold World.cell? at h ⊢
 simp only[World.setCell,Array.getElem?_modify,if_true]
 cases hb:w.heap[b]? with
 | none=>rfl
 | some o =>
 rw[hb] at h
 cases o with
 | cells c e f =>
  simp only[Option.isSome_none,Bool.false_eq_true,if_false] at h
  simp only[Option.map_some,Option.isSome_none,Bool.false_eq_true,if_false]
  rw[Array.getElem?_eq_none_iff] at h ⊢
  simpa using h
 | _=>rfl
theorem Chg.refl (X:Nat→Prop) (w:World):Chg X w w:=⟨rfl,rfl,rfl,Nat.le_refl _,fun _ _ _=>rfl,fun h _=>h⟩
theorem Kp.chg {X:Nat→Prop} {w w':World} (k:Kp w w'):Chg X w w' :=
 ⟨k.os,k.tape,k.output,k.size,fun j hj _=>k.block j hj,fun h hx j hj i v hc=>h j hj i v (by rw[← cell_of_heap (k.block j (hx j hj)) i];exact hc)⟩
theorem Chg.trans {X:Nat→Prop} {a b c:World} (h:Chg X a b) (k:Chg X b c):Chg X a c :=
 ⟨k.os.trans h.os,k.tape.trans h.tape,k.output.trans h.output,Nat.le_trans h.size k.size,fun i hi hx=>(k.block i (Nat.lt_of_lt_of_le hi h.size) hx).trans (h.block i hi hx),
  fun h1 h2=>k.noU (h.noU h1 h2) (fun i hi=>Nat.lt_of_lt_of_le (h2 i hi) h.size)⟩
theorem Chg.mono {X Y:Nat→Prop} {w w':World} (h:Chg X w w') (hs:∀ k,X k→Y k):Chg Y w w' :=
 ⟨h.os,h.tape,h.output,h.size,fun k hk hy=>h.block k hk (fun hx=>hy (hs k hx)),fun h1 h2 k hk i v hc=>by
  by_cases hx:X k
  ·exact h.noU (fun j hj=>h1 j (hs j hj)) (fun j hj=>h2 j (hs j hj)) k hx i v hc
  ·exact h1 k hk i v (by rw[← cell_of_heap (h.block k (h2 k hk) hx) i];exact hc)⟩
theorem Chg.set {X:Nat→Prop} {w w':World} (h:Chg X w w') {b i:Nat} (hb:X b) {v:Value} (hv:NoU v):Chg X w (w'.setCell ⟨b,i,none⟩ v) :=
 h.trans ⟨rfl,rfl,rfl,by simp,fun k _ hx=>Below.heap_setCell _ _ _ _ (fun e=>hx (by rw[e];exact hb)),fun h1 _ k hk j u hc=>by
  by_cases he:(⟨b,i,none⟩:Addr)=⟨k,j,none⟩
  ·cases he
   cases hw:w'.cell? ⟨b,i,none⟩ with
   | none=>rw[cell_set_none hw] at hc;cases hc
   | some y=>rw[cell_set_eq hw] at hc;cases hc;exact hv
  ·rw[cell_set_ne he] at hc;exact h1 k hk j u hc⟩
section
variable {X:Nat→Prop} {w w':World}
theorem Chg.cell (h:Chg X w w') {b i:Nat} {v:Value} (hc:w.cell? ⟨b,i,none⟩=some v) (hx:¬ X b):w'.cell? ⟨b,i,none⟩=some v:=by
 rw[cell_of_heap (h.block b (World.block_lt_of_cell? _ _ hc) hx)];exact hc
theorem Chg.frozen (h:Chg X w w') {b i:Nat} {v:Value} {f:Bool} (hc:w.cell? ⟨b,i,none⟩=some v) (hx:¬ X b) (hf:w.frozen? ⟨b,i,none⟩=f):w'.frozen? ⟨b,i,none⟩=f:=by
 rw[frozen_of_heap (h.block b (World.block_lt_of_cell? _ _ hc) hx)];exact hf
theorem Chg.kp (h:Chg X w w') {a:World} (k:Kp a w) (hx:∀ j,X j→a.heap.size≤j):Kp a w' :=
 ⟨h.os.trans k.os,h.tape.trans k.tape,h.output.trans k.output,Nat.le_trans k.size h.size,fun j hj=>(h.block j (Nat.lt_of_lt_of_le hj k.size) (fun hxj=>by have:=hx j hxj;omega)).trans (k.block j hj)⟩
theorem Chg.limbs (h:Chg X w w') (hu:NoUX X w) {a:Option Addr} {xs:List Nat} (hr:Rd w a xs):Rd w' a xs:=by
 obtain⟨h1,h2⟩:=hr
 refine⟨h1,?_⟩
 rcases h2 with h2 | ⟨b,o,rfl,h2⟩
 ·exact .inl h2
 refine .inr ⟨b,o,rfl,fun i hi=>h.cell (h2 i hi) (fun hx=>hu b hx _ _ (h2 i hi) _ rfl)⟩
theorem Chg.rd (h:Chg X w w') (hu:NoUX X w) {x:RD} (hr:x.rd w):x.rd w':=⟨h.limbs hu hr.1,hr.2⟩
theorem Chg.ok (h:Chg X w w') (hu:NoUX X w) {x:RD} (hr:x.ok w):x.ok w':=⟨h.rd hu hr.1,hr.2⟩
theorem NoUX.kp (hu:NoUX X w) (k:Kp w w') (hx:∀ j,X j→j<w.heap.size):NoUX X w':=fun j hj i v hc=>hu j hj i v (by rw[← cell_of_heap (k.block j (hx j hj)) i];exact hc)
theorem NoUX.mono {Y:Nat→Prop} (hu:NoUX Y w) (hs:∀ k,X k→Y k):NoUX X w:=fun k hk=>hu k (hs k hk)
end
end
structure Rgh (w:World) (b:Nat) (p:Int) (bad:Bool):Prop where
 p0:w.cell? ⟨b,0,none⟩=some (.int .i64 p)
 b1:w.cell? ⟨b,1,none⟩=some (.bool bad)
 fr:w.frozen? ⟨b,1,none⟩=false
 nu:NoUX (·=b) w
theorem Rgh.lt {w:World} {b:Nat} {p:Int} {bad:Bool} (h:Rgh w b p bad):b<w.heap.size:=World.block_lt_of_cell? _ _ h.p0
theorem Rgh.kp {w w':World} {b:Nat} {p:Int} {bad:Bool} (h:Rgh w b p bad) (k:Kp w w'):Rgh w' b p bad :=
 ⟨k.cell h.p0,k.cell h.b1,k.frozen h.b1 h.fr,h.nu.kp k (fun j hj=>by subst hj;exact h.lt)⟩
theorem Rgh.chg {X:Nat→Prop} {w w':World} {b:Nat} {p:Int} {bad:Bool} (h:Rgh w b p bad) (k:Chg X w w') (hx:¬ X b):Rgh w' b p bad :=
 ⟨k.cell h.p0 hx,k.cell h.b1 hx,k.frozen h.b1 hx h.fr,fun j hj i v hc=>by
  subst hj
  exact h.nu j rfl i v (by rw[← cell_of_heap (k.block j h.lt hx) i];exact hc)⟩
theorem Box3.chg {X:Nat→Prop} {w w':World} {g:Nat} {x0 x1 x2:Value} (h:Box3 w g x0 x1 x2) (k:Chg X w w') (hx:¬ X g):Box3 w' g x0 x1 x2:=by
 obtain⟨q0,q1,q2,f0,f1,f2⟩:=h
 exact⟨k.cell q0 hx,k.cell q1 hx,k.cell q2 hx,k.frozen q0 hx f0,k.frozen q1 hx f1,k.frozen q2 hx f2⟩
section
section
variable {P:Program} {ops:Array Oper} {Q:Exit→Act→World→Prop} {md:Region.Mode} {S:World→Prop}
def Down (md:Region.Mode) (ops:Array Oper) (listed:Array Bool):Prop :=
 ∀ j o,ops[j]? = some o→listed.getD j true=true→∀ e∈o.after,Region.binds md e=true→listed.getD e.on false=true
theorem getD_sz {listed:Array Bool} {i:Nat} (h:i<listed.size) (c d:Bool):listed.getD i c=listed.getD i d:=by
 simp[h]
end
end
end Go.Proofs.YtbhmhfnfceakoaaGreatDoor
