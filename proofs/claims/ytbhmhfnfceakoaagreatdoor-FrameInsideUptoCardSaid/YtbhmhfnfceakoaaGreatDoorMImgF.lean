/-
  Walks: frame.fault, frame.Image.
-/
import Derived.Deep.LoopGhost
import Derived.Deep.DeepFit
import Derived.Deep.RegionLaw
import Derived.Deep.RegionHeld3
import Derived.Test.YtbhmhfnfceakoaaGreatDoorMFrB
import Derived.Test.YtbhmhfnfceakoaaGreatDoorMArdN
namespace Go.Proofs.YtbhmhfnfceakoaaGreatDoor
open Go.RowKit
open Lib (hid)
def fltV (f:RF) (j:List (List RI)) (z:List RI) (p:Int):Int :=
 if (vlF f&&(vlM j&&z.all RI.vl))=false then 1 else if preB p=false then 2 else
 if z.length≠f.cs.length∨j.length≠f.cs.length∨colsM j≠f.cs.length then 3 else 0
theorem fltV_zero {f:RF} {j:List (List RI)} {z:List RI} {p:Int} (h:fltV f j z p=0):(vlF f=true∧vlM j=true∧∀ x∈z,x.vl=true)∧preB p=true∧z.length=f.cs.length∧j.length=f.cs.length∧colsM j=f.cs.length:=by
 unfold fltV at h
 split at h
 ·cases h
 next h1 =>
 split at h
 ·cases h
 next h2 =>
 split at h
 ·cases h
 next h3 =>
 rw[Bool.not_eq_false,Bool.and_eq_true,Bool.and_eq_true,List.all_eq_true] at h1
 exact⟨⟨h1.1,h1.2.1,h1.2.2⟩,by simpa using h2,Classical.byContradiction fun h=>h3 (.inl h),Classical.byContradiction fun h=>h3 (.inr (.inl h)),Classical.byContradiction fun h=>h3 (.inr (.inr h))⟩
theorem all_any {z:List RI}:(z.any fun y=>!y.vl)=!z.all RI.vl:=by
 rw[Bool.eq_iff_iff]
 simp
theorem crdE_flt (f g:RF) (j:List (List RI)) (z:List RI) (p:Int):crdE f g j z p=if vlF g=false then 1 else if fltV f j z p≠0 then fltV f j z p else if g.cs.length≠f.cs.length then 3 else 0:=by
 unfold crdE fltV
 cases vlF f <;> cases vlF g <;> cases vlM j <;> cases z.all RI.vl <;> simp
 cases preB p <;> simp
 by_cases h1:g.cs.length=f.cs.length <;> by_cases h2:z.length=f.cs.length <;> by_cases h3:j.length=f.cs.length <;> by_cases h4:colsM j=f.cs.length <;> simp[h1,h2,h3,h4]
set_option maxHeartbeats 4000000 in
theorem ffault1_any (x:RI) (w:World) (hx:x.rd w) :
  Calls Tryz.prog 98 #[.agg #[.bool x.lo.neg,.slice x.lo.a x.lo.xs.length x.lo.c,.int .i64 x.lo.e,.bool x.hi.neg,.slice x.hi.a x.hi.xs.length x.hi.c,.int .i64 x.hi.e,.bool x.all]] w fun e w'=>e=.returned (.bool (!x.vl))∧Kp w w':=by
 have k1:=(Kp.refl w).alloc (.cells #[.bool x.lo.neg,.slice x.lo.a x.lo.xs.length x.lo.c,.int .i64 x.lo.e,.bool x.hi.neg,.slice x.hi.a x.hi.xs.length x.hi.c,.int .i64 x.hi.e,.bool x.all] 44)
 have HX:=hid (hx.kp k1)
 clear hx
 go_enter Tryz.func98,Tryz.ntmps98
 go_upto_region 1 with fail
 generalize hW:w.alloc _=W at *
 obtain⟨s0,s1,s2,s3,s4,s5,s6⟩:W.cell? ⟨w.heap.size,0,none⟩=some (.bool x.lo.neg)∧W.cell? ⟨w.heap.size,1,none⟩=some (.slice x.lo.a x.lo.xs.length x.lo.c)∧W.cell? ⟨w.heap.size,2,none⟩=some (.int .i64 x.lo.e)∧W.cell? ⟨w.heap.size,3,none⟩=some (.bool x.hi.neg)∧W.cell? ⟨w.heap.size,4,none⟩=some (.slice x.hi.a x.hi.xs.length x.hi.c)∧W.cell? ⟨w.heap.size,5,none⟩=some (.int .i64 x.hi.e)∧W.cell? ⟨w.heap.size,6,none⟩=some (.bool x.all):=by rw[← hW];simp
 clear hW
 go_wp2_with fail
 go_fit (IValid_raw x _ HX.out)
 rintro e w1 ⟨rfl,k2⟩
 go_wp2_with fail
 go_ret
 exact⟨rfl,k1.trans k2⟩
set_option maxRecDepth 100000 in
set_option maxHeartbeats 8000000 in
theorem ffault_any (f:RF) (a b:Option Addr) (j:List (List RI)) (z:List RI) (c d:Nat) (p:Int) (w:World) (hf:f.rd w) (hj:RowM w a j) (hz:RowI w b z) (hl:j.length≤1100000) (hl2:z.length≤1100000) :
  Calls Tryz.prog 43 #[.agg #[.slice f.ca f.cs.length f.cc,.slice f.aa f.ms.length f.ac,.slice f.ra f.rs.length f.rc],.slice a j.length c,.slice b z.length d,.int .i64 p] w fun e w'=>e=.returned (.int .i64 (fltV f j z p))∧Kp w w':=by
 have HF:=hid hf
 have HJ:=hid hj
 have HZ:=hid hz
 obtain⟨D,hD⟩:∃ D,D=fltV f j z p:=⟨_,rfl⟩
 have HD:=hid hD
 rw[← hD]
 have kk:=(Kp.refl w).alloc (.cells #[.slice f.ca f.cs.length f.cc,.slice f.aa f.ms.length f.ac,.slice f.ra f.rs.length f.rc] 26)
 clear hf hj hz hD
 go_enter Tryz.func43,Tryz.ntmps43
 go_upto_region 1 with fail
 generalize hW:w.alloc _=W at *
 have HS:=hid (show W.cell? ⟨w.heap.size,0,none⟩=some (.slice f.ca f.cs.length f.cc)∧W.cell? ⟨w.heap.size,1,none⟩=some (.slice f.aa f.ms.length f.ac)∧W.cell? ⟨w.heap.size,2,none⟩=some (.slice f.ra f.rs.length f.rc) by rw[← hW];simp)
 obtain⟨s0,s1,s2⟩:=id HS.out
 clear hW
 go_upto_region 2 with fail
 go_wp2_with fail
 go_fit (fval_any f _ (HF.out.kp kk))
 rintro e w1 ⟨rfl,k1⟩
 have HK1:=hid (kk.trans k1)
 clear s0 s1 s2 k1 kk
 cases hv:vlF f with
 | false =>
  have HE:=hid (show D=1 by rw[HD.out];unfold fltV;rw[hv];rfl)
  clear hv
  go_wp2_with fail
  rw[HE.out]
  go_ret
  exact⟨rfl,HK1.out⟩
 | true =>
 have HV:=hid hv
 clear hv
 go_wp2_with fail
 go_fit (mvalid_any a j c _ (HJ.out.kp HK1.out) hl)
 rintro e w2 ⟨rfl,k2⟩
 have HK2:=hid (HK1.out.trans k2)
 clear k2 HK1
 cases hm:vlM j with
 | false =>
  have HE:=hid (show D=1 by rw[HD.out];unfold fltV;rw[hm,Bool.false_and,Bool.and_false];rfl)
  clear hm
  go_wp2_with fail
  rw[HE.out]
  go_ret
  exact⟨rfl,HK2.out⟩
 | true =>
 have HM:=hid hm
 clear hm
 go_wp2_with fail
 go_fit (containsI b z d 98 #[] _ (fun y=>!y.vl) hl2 (HZ.out.kp HK2.out) ⟨fun _ _=>by kernel_rfl,fun y hy w1 k=>ffault1_any y w1 (((HZ.out.kp HK2.out).kp k).rdI hy)⟩)
 rw[all_any]
 rintro e w3 ⟨rfl,k3⟩
 have HK3:=hid (HK2.out.trans k3)
 clear k3 HK2
 cases hz:z.all RI.vl with
 | false =>
  have HE:=hid (show D=1 by rw[HD.out];unfold fltV;rw[hz,Bool.and_false,Bool.and_false];rfl)
  clear hz
  go_wp2_with fail
  rw[HE.out]
  go_ret
  exact⟨rfl,HK3.out⟩
 | true =>
 have HZV:=hid hz
 clear hz
 go_wp2_with fail
 go_fit (fprecise_any p _)
 rintro e w4 ⟨rfl,rfl⟩
 cases hp:preB p with
 | false =>
  have HE:=hid (show D=2 by rw[HD.out];unfold fltV;rw[HV.out,HM.out,HZV.out,hp];rfl)
  clear hp
  go_wp2_with fail
  rw[HE.out]
  go_ret
  exact⟨rfl,HK3.out⟩
 | true =>
 have HP:=hid hp
 clear hp
 have HE:=hid (show D=if z.length≠f.cs.length∨j.length≠f.cs.length∨colsM j≠f.cs.length then 3 else 0 by rw[HD.out];unfold fltV;rw[HV.out,HM.out,HZV.out,HP.out];rfl)
 obtain⟨r0,hr0,hc0⟩:=vlM_row0 HM.out
 have hml:=(vlM_iff.1 HM.out).1
 obtain⟨ba,oa,ra,rc,rfl,hrow,_⟩:=HJ.out 0 r0 hr0
 rw[Nat.add_zero] at hrow
 have hi1:(0:Int)<(j.length:Int):=by omega
 have hbr:=HK3.out.cell hrow
 have HC0:=hid hc0
 clear hr0 hrow hc0 hml
 by_cases h1:z.length=f.cs.length
 rotate_left
 ·have g1:((z.length:Int) != (f.cs.length:Int))=true:=by rw[bne,beq_eq_false_iff_ne.2 (by omega)];rfl
  have HE2:=hid (show D=3 by rw[HE.out,if_pos (.inl h1)])
  clear h1
  go_wp2_with fail
  rw[HE2.out]
  go_ret
  exact⟨rfl,HK3.out⟩
 have g1:((z.length:Int) != (f.cs.length:Int))=false:=by rw[h1];simp
 by_cases h2:j.length=f.cs.length
 rotate_left
 ·have g2:((j.length:Int) != (f.cs.length:Int))=true:=by rw[bne,beq_eq_false_iff_ne.2 (by omega)];rfl
  have HE2:=hid (show D=3 by rw[HE.out,if_pos (.inr (.inl h2))])
  clear h1 h2
  go_wp2_with fail
  rw[HE2.out]
  go_ret
  exact⟨rfl,HK3.out⟩
 have g2:((j.length:Int) != (f.cs.length:Int))=false:=by rw[h2];simp
 by_cases h3:r0.length=f.cs.length
 ·have g3:((r0.length:Int) != (f.cs.length:Int))=false:=by rw[h3];simp
  have HE2:=hid (show D=0 by rw[HE.out,if_neg];have:=HC0.out;omega)
  clear h1 h2 h3
  go_wp2_with fail
  rw[HE2.out]
  go_ret
  exact⟨rfl,HK3.out⟩
 have g3:((r0.length:Int) != (f.cs.length:Int))=true:=by rw[bne,beq_eq_false_iff_ne.2 (by omega)];rfl
 have HE2:=hid (show D=3 by rw[HE.out,if_pos];have:=HC0.out;omega)
 clear h1 h2 h3
 go_wp2_with fail
 rw[HE2.out]
 go_ret
 exact⟨rfl,HK3.out⟩
structure Tab2 (Z:List (List RI)) (n:Nat) (F:Nat→Nat→PI):Prop where
 pl:plM Z=tabM n n F
 ok:okM Z
 b:1≤n∧n≤8
theorem Tab2.vl {Z:List (List RI)} {n:Nat} {F:Nat→Nat→PI} (h:Tab2 Z n F):vlM Z=true∧Z.length=n∧colsM Z=n∧∀ i j,i<n→j<n→atP Z i j=F i j :=
 ⟨vlM_tab h.pl h.ok h.b h.b,tab_len h.pl,colsM_tab h.pl h.b.1,fun _ _ hi hj=>atP_tab h.pl hi hj⟩
theorem Tab2.mul {Z Y:List (List RI)} {n q:Nat} {F G:Nat→Nat→PI} (h:Tab2 Z n F) (k:Tab2 Y n G) (h0:8≤q) (h1:q≤512):mulC Z Y (q:Int)=(tabM n n fun i j=>dotF q (F i) (fun t=>G t j) (n-1),0):=by
 obtain⟨a1,a2,a3,a4⟩:=h.vl
 obtain⟨b1,b2,b3,b4⟩:=k.vl
 rw[mulC_sq a1 b1 a2 a3 b2 b3 h0 h1]
 have hn:=h.b.1
 exact congrArg (fun m=>(m,(0:Int))) (tabM_congr fun i j hi hj=>dotF_congr _ fun t ht=>⟨a4 i t hi (by omega),b4 t j (by omega) hj⟩)
theorem Tab2.apply {Z:List (List RI)} {x:List RI} {n q:Nat} {F:Nat→Nat→PI} (h:Tab2 Z n F) (hx:∀ y∈x,y.vl=true) (l:x.length=n) (h0:8≤q) (h1:q≤512):applyC Z x (q:Int)=(rowF n fun i=>dotF q (F i) (rowG x) (n-1),0):=by
 obtain⟨a1,a2,a3,a4⟩:=h.vl
 rw[applyC_sq a1 a2 a3 hx l h0 h1]
 have hn:=h.b.1
 refine congrArg (fun m=>(m,(0:Int))) ?_
 unfold rowF
 exact List.map_congr_left fun i hi=>dotF_congr _ fun t ht=>⟨a4 i t (List.mem_range.1 hi) (by omega),rfl⟩
theorem Tab2.of {O:List (List RI)} {f:RF} (hv:vlF f=true) (hO:plM O=ofF f.ms) (oO:okM O):Tab2 O f.cs.length fun i j=>ptP (atN f.ms i j):=by
 obtain⟨h1,h2,_⟩:=vlF_iff.1 hv
 obtain⟨hN,hc⟩:=vlF_N hv
 exact⟨by rw[hO];unfold ofF;rw[if_pos hN,hc,h2.1],oO,h1⟩
theorem Tab2.cor {Z:List (List RI)} {a v:List (List RD)} {p:Int} (h:(corC a v p).2=0) (hZ:plM Z=(corC a v p).1) (oZ:okM Z) (b:1≤a.length∧a.length≤8):Tab2 Z a.length (atX (corC a v p).1):=by
 obtain⟨F,hF⟩:=corC_tab h
 refine⟨?_,oZ,b⟩
 rw[hZ,hF]
 exact tabM_congr fun i j hi hj=>(atX_tab hi hj).symm
theorem rowF_congr {n:Nat} {F G:Nat→PI} (h:∀ i,i<n→F i=G i):rowF n F=rowF n G:=by
 unfold rowF
 exact List.map_congr_left fun i hi=>h i (List.mem_range.1 hi)
theorem plR_rowG {r:List RI} {n:Nat} {F:Nat→PI} (h:plR r=rowF n F):r.length=n∧∀ i,i<n→rowG r i=F i:=by
 refine⟨by have:=congrArg List.length h;simpa [plR,rowF] using this,fun i hi=>rowG_row h hi⟩
theorem crdX_of {f g:RF} {j:List (List RI)} {z d A B:List RI} {W:Nat→Nat→PI} {q:Nat} (hn:1≤f.cs.length) (hd:plR d=rowF f.cs.length fun t=>pSub (rowG z t) (ptP (g.cs.getD t rdZero)) q)
  (hA:plR A=rowF f.cs.length fun i=>dotF q (W i) (rowG d) (f.cs.length-1))
  (hB:plR B=rowF f.cs.length fun i=>dotF q (fun t=>dotF q (W i) (fun s=>dotF q (atP j s) (fun u=>ptP (atN f.ms u t)) (f.cs.length-1)) (f.cs.length-1)) (rowG f.rs) (f.cs.length-1)) :
  rowF f.cs.length (fun i=>pAdd (rowG A i) (rowG B i) q)=crdX f g j z W q:=by
 unfold crdX
 refine rowF_congr fun i hi=>?_
 rw[(plR_rowG hA).2 i hi,(plR_rowG hB).2 i hi]
 congr 1
 exact dotF_congr _ fun t ht=>⟨rfl,(plR_rowG hd).2 t (by omega)⟩
theorem keep71 {w w':World} (k:Kp w w') {p0 p1 p2 p3 p4 p5 p6 p7 p8 p9 pa:Addr} {v0 v1 v2 v3 v4 v5 v6 v7 v8 v9 va:Value} (h:(w.cell? p0=some v0∧w.cell? p1=some v1∧w.cell? p2=some v2∧w.cell? p3=some v3∧w.cell? p4=some v4∧w.cell? p5=some v5∧w.cell? p6=some v6)∧w.cell? p7=some v7∧w.cell? p8=some v8∧w.cell? p9=some v9∧w.cell? pa=some va) :
  (w'.cell? p0=some v0∧w'.cell? p1=some v1∧w'.cell? p2=some v2∧w'.cell? p3=some v3∧w'.cell? p4=some v4∧w'.cell? p5=some v5∧w'.cell? p6=some v6)∧w'.cell? p7=some v7∧w'.cell? p8=some v8∧w'.cell? p9=some v9∧w'.cell? pa=some va :=
 ⟨keep7 k h.1,k.cell h.2.1,k.cell h.2.2.1,k.cell h.2.2.2.1,k.cell h.2.2.2.2⟩
theorem grow71 {w w':World} {vb:Option Nat} (k:w.grownBy w' vb) {b0 b1 b2 p0 p1 p2 p3 p4 p5 p6 p7 p8 p9 pa:Nat} (n0:some b0≠vb) (n1:some b1≠vb) (n2:some b2≠vb) {v0 v1 v2 v3 v4 v5 v6 v7 v8 v9 va:Value}
  (h:(w.cell? ⟨b0,p0,none⟩=some v0∧w.cell? ⟨b0,p1,none⟩=some v1∧w.cell? ⟨b0,p2,none⟩=some v2∧w.cell? ⟨b0,p3,none⟩=some v3∧w.cell? ⟨b0,p4,none⟩=some v4∧w.cell? ⟨b0,p5,none⟩=some v5∧w.cell? ⟨b0,p6,none⟩=some v6)∧w.cell? ⟨b1,p7,none⟩=some v7∧w.cell? ⟨b2,p8,none⟩=some v8∧w.cell? ⟨b2,p9,none⟩=some v9∧w.cell? ⟨b2,pa,none⟩=some va) :
  (w'.cell? ⟨b0,p0,none⟩=some v0∧w'.cell? ⟨b0,p1,none⟩=some v1∧w'.cell? ⟨b0,p2,none⟩=some v2∧w'.cell? ⟨b0,p3,none⟩=some v3∧w'.cell? ⟨b0,p4,none⟩=some v4∧w'.cell? ⟨b0,p5,none⟩=some v5∧w'.cell? ⟨b0,p6,none⟩=some v6)∧w'.cell? ⟨b1,p7,none⟩=some v7∧w'.cell? ⟨b2,p8,none⟩=some v8∧w'.cell? ⟨b2,p9,none⟩=some v9∧w'.cell? ⟨b2,pa,none⟩=some va:=by
 obtain⟨⟨h0,h1,h2,h3,h4,h5,h6⟩,h7,h8,h9,ha⟩:=h
 exact⟨⟨k.cell h0 n0,k.cell h1 n0,k.cell h2 n0,k.cell h3 n0,k.cell h4 n0,k.cell h5 n0,k.cell h6 n0⟩,k.cell h7 n1,k.cell h8 n2,k.cell h9 n2,k.cell ha n2⟩
set_option maxHeartbeats 4000000 in
theorem fimage1_any (x:RI) (w:World) (_hx:x.rd w) :
  Calls Tryz.prog 82 #[.agg #[.bool x.lo.neg,.slice x.lo.a x.lo.xs.length x.lo.c,.int .i64 x.lo.e,.bool x.hi.neg,.slice x.hi.a x.hi.xs.length x.hi.c,.int .i64 x.hi.e,.bool x.all]] w fun e w'=>e=.returned (.bool x.all)∧Kp w w':=by
 go_enter Tryz.func82,Tryz.ntmps82
 go_wp2_with fail
 go_ret
 exact⟨rfl,(Kp.refl w).alloc _⟩
theorem any_pl {Z:List RI} {X:List PI} (h:plR Z=X):(Z.any fun x=>x.all)=X.any fun x=>x.all:=by
 subst h
 unfold plR
 rw[List.any_map];rfl
set_option maxRecDepth 100000 in
set_option maxHeartbeats 16000000 in
theorem fimage_any (f g:RF) (a b va:Option Addr) (j:List (List RI)) (z:List RI) (v:List (List RD)) (c d vc:Nat) (p:Int) (w:World) (hf:f.rd w) (hg:g.rd w) (hj:RowM w a j) (hz:RowI w b z) (hv:RowN w va v)
   (hl:j.length≤1100000) (hl2:z.length≤1100000) (hl3:v.length≤1100000) (hT:Tab w) :
   Calls Tryz.prog 26 #[.agg #[.slice f.ca f.cs.length f.cc,.slice f.aa f.ms.length f.ac,.slice f.ra f.rs.length f.rc],.slice a j.length c,.slice b z.length d,.agg #[.slice g.ca g.cs.length g.cc,.slice g.aa g.ms.length g.ac,.slice g.ra g.rs.length g.rc],.slice va v.length vc,.int .i64 p] w (RowE w (crdC f g j z v p).1 (crdC f g j z v p).2):=by
 have HF:=hid hf
 have HG:=hid hg
 have HJ:=hid hj
 have HZ:=hid hz
 have HV:=hid hv
 have HT:=hid hT
 obtain⟨D,hD⟩:∃ D,D=crdC f g j z v p:=⟨_,rfl⟩
 have HD:=hid hD
 rw[← hD]
 have kk:=((Kp.refl w).alloc (.cells #[.slice f.ca f.cs.length f.cc,.slice f.aa f.ms.length f.ac,.slice f.ra f.rs.length f.rc] 26)).alloc (.cells #[.slice g.ca g.cs.length g.cc,.slice g.aa g.ms.length g.ac,.slice g.ra g.rs.length g.rc] 26)
 clear hf hg hj hz hv hT hD
 go_enter Tryz.func26,Tryz.ntmps26
 go_upto_region 1 with fail
 have HS:=hid (show ((w.alloc (.cells #[.slice f.ca f.cs.length f.cc,.slice f.aa f.ms.length f.ac,.slice f.ra f.rs.length f.rc] 26)).alloc (.cells #[.slice g.ca g.cs.length g.cc,.slice g.aa g.ms.length g.ac,.slice g.ra g.rs.length g.rc] 26)).cell? ⟨w.heap.size,0,none⟩=some (.slice f.ca f.cs.length f.cc)∧((w.alloc (.cells #[.slice f.ca f.cs.length f.cc,.slice f.aa f.ms.length f.ac,.slice f.ra f.rs.length f.rc] 26)).alloc (.cells #[.slice g.ca g.cs.length g.cc,.slice g.aa g.ms.length g.ac,.slice g.ra g.rs.length g.rc] 26)).cell? ⟨w.heap.size,1,none⟩=some (.slice f.aa f.ms.length f.ac)∧((w.alloc (.cells #[.slice f.ca f.cs.length f.cc,.slice f.aa f.ms.length f.ac,.slice f.ra f.rs.length f.rc] 26)).alloc (.cells #[.slice g.ca g.cs.length g.cc,.slice g.aa g.ms.length g.ac,.slice g.ra g.rs.length g.rc] 26)).cell? ⟨w.heap.size,2,none⟩=some (.slice f.ra f.rs.length f.rc) from keep3 ((Kp.refl _).alloc _) (show (w.alloc (.cells #[.slice f.ca f.cs.length f.cc,.slice f.aa f.ms.length f.ac,.slice f.ra f.rs.length f.rc] 26)).cell? ⟨w.heap.size,0,none⟩=some (.slice f.ca f.cs.length f.cc)∧(w.alloc (.cells #[.slice f.ca f.cs.length f.cc,.slice f.aa f.ms.length f.ac,.slice f.ra f.rs.length f.rc] 26)).cell? ⟨w.heap.size,1,none⟩=some (.slice f.aa f.ms.length f.ac)∧(w.alloc (.cells #[.slice f.ca f.cs.length f.cc,.slice f.aa f.ms.length f.ac,.slice f.ra f.rs.length f.rc] 26)).cell? ⟨w.heap.size,2,none⟩=some (.slice f.ra f.rs.length f.rc) by simp))
 have HSG:=hid (show ((w.alloc (.cells #[.slice f.ca f.cs.length f.cc,.slice f.aa f.ms.length f.ac,.slice f.ra f.rs.length f.rc] 26)).alloc (.cells #[.slice g.ca g.cs.length g.cc,.slice g.aa g.ms.length g.ac,.slice g.ra g.rs.length g.rc] 26)).cell? ⟨w.heap.size+1,0,none⟩=some (.slice g.ca g.cs.length g.cc)∧((w.alloc (.cells #[.slice f.ca f.cs.length f.cc,.slice f.aa f.ms.length f.ac,.slice f.ra f.rs.length f.rc] 26)).alloc (.cells #[.slice g.ca g.cs.length g.cc,.slice g.aa g.ms.length g.ac,.slice g.ra g.rs.length g.rc] 26)).cell? ⟨w.heap.size+1,1,none⟩=some (.slice g.aa g.ms.length g.ac)∧((w.alloc (.cells #[.slice f.ca f.cs.length f.cc,.slice f.aa f.ms.length f.ac,.slice f.ra f.rs.length f.rc] 26)).alloc (.cells #[.slice g.ca g.cs.length g.cc,.slice g.aa g.ms.length g.ac,.slice g.ra g.rs.length g.rc] 26)).cell? ⟨w.heap.size+1,2,none⟩=some (.slice g.ra g.rs.length g.rc) by simp)
 generalize hW:(w.alloc _).alloc _=W at *
 obtain⟨t0,t1,t2⟩:=id HSG.out
 clear hW
 go_upto_region 2 with fail
 go_wp2_with fail
 go_fit (fval_any g _ (HG.out.kp kk))
 rintro e w1 ⟨rfl,k1⟩
 have HK1:=hid (kk.trans k1)
 have HS1:=hid (keepF k1 HS.out)
 have HSG1:=hid (keepF k1 HSG.out)
 clear t0 t1 t2 k1 kk HS HSG
 cases hvg:vlF g with
 | false =>
   have HE:=hid (show D=([],1) by
     have e:crdE f g j z p=1:=by rw[crdE_flt,hvg];rfl
     rw[HD.out];unfold crdC;rw[e];rfl)
   clear hvg
   go_wp2_with fail
   rw[HE.out]
   refine bodyPost_ret (v:=.tuple #[.slice none 0 0,.int .i64 1]) (by simp[results,Tryz.results26,go_sem]) rfl ?_
   exact rowE_nil rfl HK1.out
 | true =>
 have HVG:=hid hvg
 clear hvg
 obtain⟨s0,s1,s2⟩:=id HS1.out
 go_upto_region 3 with fail
 go_wp2_with fail
 go_fit (ffault_any f a b j z c d p _ (HF.out.kp HK1.out) (HJ.out.kp HK1.out) (HZ.out.kp HK1.out) hl hl2)
 rintro e w2 ⟨rfl,k2⟩
 have HK2:=hid (HK1.out.trans k2)
 have HS2:=hid (keepF k2 HS1.out)
 have HSG2:=hid (keepF k2 HSG1.out)
 clear s0 s1 s2 k2 HS1 HSG1 HK1
 obtain⟨E,hE⟩:∃ E,E=fltV f j z p:=⟨_,rfl⟩
 rw[← hE]
 by_cases h0:E=0
 rotate_left
 · have hne:(E != 0)=true:=by rw[bne,beq_eq_false_iff_ne.2 h0];rfl
   have HE:=hid (show D=([],E) by
     have e:crdE f g j z p=E:=by rw[crdE_flt,HVG.out,← hE];simp only[Bool.true_eq_false,if_false];rw[if_pos h0]
     rw[HD.out];unfold crdC;rw[e,if_pos h0])
   clear h0 hE
   go_wp2_with fail
   rw[HE.out]
   refine bodyPost_ret (v:=.tuple #[.slice none 0 0,.int .i64 E]) (by simp[results,Tryz.results26,go_sem]) rfl ?_
   exact rowE_nil rfl HK2.out
 have hne:(E != 0)=false:=by rw[h0];rfl
 have HFL:=hid (fltV_zero (hE.symm.trans h0))
 have HDE:=hid (show crdE f g j z p=if g.cs.length≠f.cs.length then 3 else 0 by
   rw[crdE_flt,HVG.out,← hE,h0];rfl)
 clear h0 hE
 obtain⟨s0,s1,s2⟩:=id HS2.out
 obtain⟨t0,t1,t2⟩:=id HSG2.out
 by_cases h3:g.cs.length=f.cs.length
 rotate_left
 · have hne3:((g.cs.length:Int) != (f.cs.length:Int))=true:=by rw[bne,beq_eq_false_iff_ne.2 (by omega)];rfl
   have HE:=hid (show D=([],3) by
     have e:crdE f g j z p=3:=by rw[HDE.out,if_pos h3]
     rw[HD.out];unfold crdC;rw[e];rfl)
   clear h3
   go_wp2_with fail
   rw[HE.out]
   refine bodyPost_ret (v:=.tuple #[.slice none 0 0,.int .i64 3]) (by simp[results,Tryz.results26,go_sem]) rfl ?_
   exact rowE_nil rfl HK2.out
 have hne3:((g.cs.length:Int) != (f.cs.length:Int))=false:=by rw[h3];simp
 have HN3:=hid h3
 have HDE2:=hid (show crdE f g j z p=0 by rw[HDE.out,if_neg (fun h=>h h3)])
 clear h3 HDE
 go_upto_region 8 with fail
 go_wp2_with fail
 go_fit (lcorrect_any g.ms v g.aa va g.ac vc p _ (HG.out.2.1.1.kp HK2.out) (HV.out.kp HK2.out) HG.out.2.1.2 hl3 (HT.out.kp HK2.out))
 rintro e w3 ⟨aW,WW,cW,rfl,rW,pW,oW,lW,k3⟩
 have HK3:=hid (HK2.out.trans k3)
 have HS3:=hid (keepF k3 HS2.out)
 have HSG3:=hid (keepF k3 HSG2.out)
 have HWW:=hid (And.intro rW (And.intro pW (And.intro oW lW)))
 clear s0 s1 s2 t0 t1 t2 rW pW oW lW k3 HS2 HSG2 HK2 hne hne3
 obtain⟨E2,hE2⟩:∃ E2,E2=(corC g.ms v p).2:=⟨_,rfl⟩
 rw[← hE2]
 by_cases h0:E2=0
 rotate_left
 · have hne:(E2 != 0)=true:=by rw[bne,beq_eq_false_iff_ne.2 h0];rfl
   have HE:=hid (show D=([],E2) by
     rw[HD.out];unfold crdC
     rw[HDE2.out,← hE2,if_neg (by decide),if_pos h0])
   clear h0 hE2
   go_wp2_with fail
   rw[HE.out]
   refine bodyPost_ret (v:=.tuple #[.slice none 0 0,.int .i64 E2]) (by simp[results,Tryz.results26,go_sem]) rfl ?_
   exact rowE_nil rfl HK3.out
 have hne:(E2 != 0)=false:=by rw[h0];rfl
 obtain⟨q,hq⟩:∃ q:Nat,q=p.toNat:=⟨_,rfl⟩
 have hpq:p=(q:Int):=by have:=preB_iff.1 HFL.out.2.1;omega
 have hq0:8≤q:=by have:=preB_iff.1 HFL.out.2.1;omega
 have hq1:q≤512:=by have:=preB_iff.1 HFL.out.2.1;omega
 have HLF:=hid (vlF_iff.1 HFL.out.1.1)
 have HLG:=hid (vlF_iff.1 HVG.out)
 have HTW:=hid (show Tab2 WW f.cs.length (atX (corC g.ms v p).1) by
   have:=Tab2.cor (hE2.symm.trans h0) HWW.out.2.1 HWW.out.2.2.1 (by have:=HLG.out.1;have:=HLG.out.2.1.1;omega)
   rw[HLG.out.2.1.1,HN3.out] at this
   exact this)
 obtain⟨X,hX⟩:∃ X,X=atX (corC g.ms v p).1:=⟨_,rfl⟩
 rw[← hX] at HTW
 have HDX:=hid (show D=crdV (crdX f g j z X q) by
   rw[HD.out];unfold crdC
   rw[HDE2.out,← hE2,h0,← hX,← hq];rfl)
 have HWR:=hid (And.intro HWW.out.1 HWW.out.2.2.2)
 rw[hpq]
 have HN:=hid (show z.length≤8∧1≤z.length by have:=HLF.out.1;have:=HFL.out.2.2.1;omega)
 obtain⟨G,hG⟩:∃ G:Nat→PI,G=fun t=>pSub (rowG z t) (ptP (g.cs.getD t rdZero)) q:=⟨_,rfl⟩
 have HGG:=hid hG
 clear h0 hE2 hX hq hpq HD HWW HDE2 hG
 go_upto_region 11 with fail
 go_wp2_with fail
 go_loopg [17,60] z.length (fun y u t wr=>∃ cur:List RI,cur.length+y=z.length∧t=.int .i64 (cur.length:Int)∧OwnN w3 wr u cur∧plR cur=rowF cur.length G∧∀ x∈cur,x.vl=true)
 case atStart=>exact⟨[],by simp,rfl,OwnN.nil (Kp.refl _),rfl,fun x h=>by simp at h⟩
 case round =>
 obtain⟨cur,hcq,rfl,hown,hpc,hvc⟩:=hrel
 by_cases hlt:cur.length<z.length
 · obtain⟨x,hx⟩:∃ x,z[cur.length]? = some x:=⟨_,List.getElem?_eq_getElem hlt⟩
   obtain⟨y,hy⟩:∃ y,g.cs[cur.length]? = some y:=⟨_,List.getElem?_eq_getElem (by have:=HN3.out;have:=HFL.out.2.2.1;omega)⟩
   have kwr:=HK3.out.trans hown.1
   obtain⟨b1,o1,e1,rx,s0,s1,s2,s3,s4,s5,s6⟩:=(HZ.out.kp kwr) cur.length x hx
   subst e1
   have HXV:=hid (And.intro rx (HFL.out.1.2.2 x (List.mem_of_getElem? hx)))
   have HYV:=hid (show y.ok wr from ⟨(HG.out.kp kwr).1.1.rd (List.mem_of_getElem? hy),HLG.out.2.2.1 y (List.mem_of_getElem? hy)⟩)
   obtain⟨b2,o2,e2,ry,c0,c1,c2⟩:=(HG.out.kp kwr).1.1 cur.length y hy
   have HGZ:=hid (show pSub x.pl (ptI y).pl q=G cur.length by
     rw[HGG.out]
     show _=pSub (rowG z cur.length) (ptP (g.cs.getD cur.length rdZero)) q
     rw[rowG_eq hx,List.getD_eq_getElem?_getD,hy];rfl)
   generalize hca:g.ca=ca at *
   subst e2
   have HL2:=hid (show b2<w3.heap.size by
     have:=(HG.out.kp HK3.out).1.1 cur.length y hy
     rw[hca] at this
     obtain⟨b3,o3,e3,_,c3,_⟩:=this
     cases e3
     exact World.block_lt_of_cell? _ _ c3)
   have HCA:=hid hca
   have HYC:=hid (And.intro c0 (And.intro c1 c2))
   have HPC:=hid (And.intro hpc (And.intro hvc (And.intro hcq hlt)))
   have HOW:=hid hown
   have hj1:(0:Int)≤(cur.length:Int):=by omega
   have hj2:(cur.length:Int)<(z.length:Int):=by omega
   have hj3:(cur.length:Int)<(g.cs.length:Int):=by have:=HN3.out;have:=HFL.out.2.2.1;omega
   have hcl:cur.length+1≤9000000:=by omega
   clear hx hy rx ry c0 c1 c2 hca hpc hvc hcq hlt hown kwr
   go_upto_region 15 with fail
   have kA:=(Kp.refl wr).alloc (.cells #[.bool x.lo.neg,.slice x.lo.a x.lo.xs.length x.lo.c,.int .i64 x.lo.e,.bool x.hi.neg,.slice x.hi.a x.hi.xs.length x.hi.c,.int .i64 x.hi.e,.bool x.all] 44)
   have HXB:=hid (show (wr.alloc (.cells #[.bool x.lo.neg,.slice x.lo.a x.lo.xs.length x.lo.c,.int .i64 x.lo.e,.bool x.hi.neg,.slice x.hi.a x.hi.xs.length x.hi.c,.int .i64 x.hi.e,.bool x.all] 44)).cell? ⟨wr.heap.size,0,none⟩=some (.bool x.lo.neg)∧(wr.alloc (.cells #[.bool x.lo.neg,.slice x.lo.a x.lo.xs.length x.lo.c,.int .i64 x.lo.e,.bool x.hi.neg,.slice x.hi.a x.hi.xs.length x.hi.c,.int .i64 x.hi.e,.bool x.all] 44)).cell? ⟨wr.heap.size,1,none⟩=some (.slice x.lo.a x.lo.xs.length x.lo.c)∧(wr.alloc (.cells #[.bool x.lo.neg,.slice x.lo.a x.lo.xs.length x.lo.c,.int .i64 x.lo.e,.bool x.hi.neg,.slice x.hi.a x.hi.xs.length x.hi.c,.int .i64 x.hi.e,.bool x.all] 44)).cell? ⟨wr.heap.size,2,none⟩=some (.int .i64 x.lo.e)∧(wr.alloc (.cells #[.bool x.lo.neg,.slice x.lo.a x.lo.xs.length x.lo.c,.int .i64 x.lo.e,.bool x.hi.neg,.slice x.hi.a x.hi.xs.length x.hi.c,.int .i64 x.hi.e,.bool x.all] 44)).cell? ⟨wr.heap.size,3,none⟩=some (.bool x.hi.neg)∧(wr.alloc (.cells #[.bool x.lo.neg,.slice x.lo.a x.lo.xs.length x.lo.c,.int .i64 x.lo.e,.bool x.hi.neg,.slice x.hi.a x.hi.xs.length x.hi.c,.int .i64 x.hi.e,.bool x.all] 44)).cell? ⟨wr.heap.size,4,none⟩=some (.slice x.hi.a x.hi.xs.length x.hi.c)∧(wr.alloc (.cells #[.bool x.lo.neg,.slice x.lo.a x.lo.xs.length x.lo.c,.int .i64 x.lo.e,.bool x.hi.neg,.slice x.hi.a x.hi.xs.length x.hi.c,.int .i64 x.hi.e,.bool x.all] 44)).cell? ⟨wr.heap.size,5,none⟩=some (.int .i64 x.hi.e)∧(wr.alloc (.cells #[.bool x.lo.neg,.slice x.lo.a x.lo.xs.length x.lo.c,.int .i64 x.lo.e,.bool x.hi.neg,.slice x.hi.a x.hi.xs.length x.hi.c,.int .i64 x.hi.e,.bool x.all] 44)).cell? ⟨wr.heap.size,6,none⟩=some (.bool x.all) by simp)
   have HB:=hid (HSG3.out.1)
   generalize hWA:wr.alloc _=WA at *
   have HKW:=hid (HK3.out.trans (HOW.out.1.trans kA))
   have kd:=(Kp.refl WA).drew
   have HG0:=hid (And.intro (((HOW.out.1.trans kA).trans kd).cell HB.out) (keep3 (kA.trans kd) HYC.out))
   have HOD:=hid (HOW.out.kp (kA.trans kd))
   have HP:=hid (IPoint_pt y WA.drew (HYV.out.kp (kA.trans kd)))
   have HXD:=hid (And.intro (HXV.out.1.kp (kA.trans kd)) HXV.out.2)
   have HYD:=hid (ptI_ok (HYV.out.kp (kA.trans kd)))
   have HTD:=hid (HT.out.kp (HKW.out.trans kd))
   have HSd:=hid (And.intro (keep7 kd HXB.out) HG0.out)
   have hSd:=HSd.out
   have hn0:some wr.heap.size≠u17.ownBlock:=fun e=>by have:=HOW.out.new _ e.symm;omega
   have hn1:some (w.heap.size+1)≠u17.ownBlock:=fun e=>absurd (HOW.out.2.1.lt _ e.symm).1 (Nat.not_le.2 (World.block_lt_of_cell? _ _ HB.out))
   have hn2:some b2≠u17.ownBlock:=fun e=>absurd (HOW.out.2.1.lt _ e.symm).1 (Nat.not_le.2 HL2.out)
   generalize wr.heap.size=bx at *
   clear hWA kA kd s0 s1 s2 s3 s4 s5 s6
   go_region_held3 (fun w'=>(w'.cell? ⟨bx,0,none⟩=some (.bool x.lo.neg)∧w'.cell? ⟨bx,1,none⟩=some (.slice x.lo.a x.lo.xs.length x.lo.c)∧w'.cell? ⟨bx,2,none⟩=some (.int .i64 x.lo.e)∧w'.cell? ⟨bx,3,none⟩=some (.bool x.hi.neg)∧w'.cell? ⟨bx,4,none⟩=some (.slice x.hi.a x.hi.xs.length x.hi.c)∧w'.cell? ⟨bx,5,none⟩=some (.int .i64 x.hi.e)∧w'.cell? ⟨bx,6,none⟩=some (.bool x.all))∧w'.cell? ⟨w.heap.size+1,0,none⟩=some (.slice (some ⟨b2,o2,none⟩) g.cs.length g.cc)∧w'.cell? ⟨b2,o2+cur.length*3,none⟩=some (.bool y.neg)∧w'.cell? ⟨b2,o2+cur.length*3+1,none⟩=some (.slice y.a y.xs.length y.c)∧w'.cell? ⟨b2,o2+cur.length*3+2,none⟩=some (.int .i64 y.e))
     (first | with_reducible assumption | with_reducible exact grow71 hgrow hn0 hn1 hn2 (by assumption) | with_reducible exact keep71 (by assumption) (by assumption) | with_reducible exact keep71 ((Kp.refl _).alloc _) (by assumption) | fail)
     (first
       | (go_at_call 35; (with_reducible refine HP.out.mono ?_); rintro e v0 ⟨rfl, j0⟩
          have HC:=hid (ISub_any x (ptI y) q v0 (HXD.out.1.kp j0) (HYD.out.1.kp j0) HXD.out.2 HYD.out.2.2 hq0 hq1 (HTD.out.kp j0))
          have hOD:=HOD.out.kp j0)
       | (go_at_call 76; (with_reducible refine HC.out.mono ?_); rintro e v1 ⟨zz, rfl, hz, hzp, hzv, j1⟩
          have hownA:=hOD.kp (j1.alloc (.cells #[.bool zz.lo.neg,.slice zz.lo.a zz.lo.xs.length zz.lo.c,.int .i64 zz.lo.e,.bool zz.hi.neg,.slice zz.hi.a zz.hi.xs.length zz.hi.c,.int .i64 zz.hi.e,.bool zz.all] 44))
          have hkA:=hOD.1
          have hzA:=hz.kp ((Kp.refl v1).alloc (.cells #[.bool zz.lo.neg,.slice zz.lo.a zz.lo.xs.length zz.lo.c,.int .i64 zz.lo.e,.bool zz.hi.neg,.slice zz.hi.a zz.hi.xs.length zz.hi.c,.int .i64 zz.hi.e,.bool zz.all] 44))
          have ZP:=hid (And.intro (hzp.trans HGZ.out) hzv)
          clear hz hzp hzv)
       | (refine step_append_ivg (by rfl) _ _ (by rfl) w3 _ cur (by rfl) hownA _ _ (by rfl) zz hzA (by simp) hcl ?_;intro a' c' w9 hown9 hgrow hblk)
       | fail)
   go_wp2_with fail
   go_roundg (gk-1)
   case measure=>have:=HPC.out.2.2;omega
   case rel =>
   refine⟨cur++[zz],by have:=HPC.out.2.2;rw[List.length_append,List.length_singleton];omega,by rw[List.length_append,List.length_singleton];go_num,by simpa using hown9,?_,ok_snoc HPC.out.2.1 ZP.out.2⟩
   rw[plR_snoc,HPC.out.1,List.length_append,List.length_singleton,rowF_snoc,ZP.out.1]
 have hRe:cur.length=z.length:=by omega
 obtain⟨da,dc,rfl,_,_,hrm⟩:=hown.value
 have HDD:=hid (And.intro hrm (And.intro (show plR cur=rowF f.cs.length G by rw[hpc,hRe,HFL.out.2.2.1]) hvc))
 have HRe:=hid hRe
 have HK4:=hid (HK3.out.trans hown.1)
 have HW4:=hid (HWR.out.1.kp hown.1)
 obtain⟨s0,s1,s2⟩:=keepF hown.1 HS3.out
 have HSw:=hid (And.intro s0 (And.intro s1 s2))
 have hlc:cur.length≤1100000:=by have:=HN.out;omega
 clear hRe hcq hrm hpc hvc hown
 go_upto_region 17 with fail
 go_wp2_with fail
 go_fit (mof_any f.aa f.ms f.ac _ (HF.out.2.1.1.kp HK4.out) HF.out.2.1.2)
 rintro e w4 ⟨aO,O,cO,rfl,rO,pO,oO,lO,k4⟩
 have HO:=hid (Tab2.of HFL.out.1.1 pO oO)
 have HJT:=hid (show Tab2 j f.cs.length (atP j) from ⟨by rw[plM_of HFL.out.1.2.1,HFL.out.2.2.2.1,HFL.out.2.2.2.2],fun r hr=>((vlM_iff.1 HFL.out.1.2.1).2.2 r hr).2,HLF.out.1⟩)
 have HM1:=hid (mmul_any a aO j O c cO (q:Int) w4 (HJ.out.kp (HK4.out.trans k4)) rO hl lO (HT.out.kp (HK4.out.trans k4)))
 rw[HJT.out.mul HO.out hq0 hq1] at HM1
 have HK5:=hid (HK4.out.trans k4)
 have HKL:=hid k4
 clear rO pO oO lO k4 s0 s1 s2
 go_wp2_with fail
 go_fit HM1.out
 rintro e w5 ⟨aP,P,cP,rfl,rP,pP,oP,lP,k5⟩
 have HPT:=hid (show Tab2 P f.cs.length _ from ⟨pP,oP,HLF.out.1⟩)
 have HM2:=hid (mmul_any aW aP WW P cW cP (q:Int) w5 (HW4.out.kp (HKL.out.trans k5)) rP HWR.out.2 lP (HT.out.kp (HK5.out.trans k5)))
 rw[HTW.out.mul HPT.out hq0 hq1] at HM2
 have HK6:=hid (HK5.out.trans k5)
 replace HKL:=hid (HKL.out.trans k5)
 clear rP pP oP lP k5 HM1
 go_wp2_with fail
 go_fit HM2.out
 rintro e w6 ⟨aM,M,cM,rfl,rM,pM,oM,lM,k6⟩
 have HMT:=hid (show Tab2 M f.cs.length _ from ⟨pM,oM,HLF.out.1⟩)
 have HA1:=hid (mapply_any aW da WW cur cW dc (q:Int) w6 (HW4.out.kp (HKL.out.trans k6)) (HDD.out.1.kp (HKL.out.trans k6)) HWR.out.2 hlc (HT.out.kp (HK6.out.trans k6)))
 rw[HTW.out.apply HDD.out.2.2 (by have:=HRe.out;have:=HFL.out.2.2.1;omega) hq0 hq1] at HA1
 have HMM:=hid (And.intro rM lM)
 have HK7:=hid (HK6.out.trans k6)
 replace HKL:=hid (HKL.out.trans k6)
 clear rM pM oM lM k6 HM2
 go_wp2_with fail
 go_fit HA1.out
 rintro e w7 ⟨aA,AA,cA,rfl,rA,pA,vA,lA,k7⟩
 have HAA:=hid (And.intro rA (And.intro pA (And.intro vA lA)))
 have HK8:=hid (HK7.out.trans k7)
 replace HKL:=hid (HKL.out.trans k7)
 have HMK:=hid (HMM.out.1.kp k7)
 obtain⟨s0,s1,s2⟩:=keepF HKL.out HSw.out
 have HA2:=hid (mapply_any aM f.ra M f.rs cM f.rc (q:Int) w7 HMK.out (HF.out.2.2.1.kp HK8.out) HMM.out.2 HF.out.2.2.2 (HT.out.kp HK8.out))
 rw[HMT.out.apply (fun x hx=>(goodZ_iff.1 (HLF.out.2.2.2.2 x hx)).2.1) HLF.out.2.1.2 hq0 hq1] at HA2
 clear rA pA vA lA k7 HA1 HMM
 go_wp2_with fail
 go_fit HA2.out
 rintro e w8 ⟨aB,BB,cB,rfl,rB,pB,vB,lB,k8⟩
 have HK9:=hid (HK8.out.trans k8)
 have HXX:=hid (crdX_of (j:=j) (z:=z) (g:=g) (d:=cur) HLF.out.1.1 (by rw[HDD.out.2.1,HGG.out]) HAA.out.2.1 pB)
 have hAl:=(plR_rowG HAA.out.2.1).1
 have hBl:=(plR_rowG pB).1
 have HPL:=hid (plus_any aA aB AA BB cA cB q w8 (HAA.out.1.kp k8) rB HAA.out.2.2.1 vB (by omega) (by have:=HLF.out.1;omega) hq0 hq1 (HT.out.kp HK9.out))
 rw[show (rowF AA.length fun i=>pAdd (rowG AA i) (rowG BB i) q)=crdX f g j z X q from by rw[hAl];exact HXX.out] at HPL
 clear rB pB vB lB k8 HA2 s0 s1 s2 hAl hBl HXX
 go_wp2_with fail
 go_fit HPL.out
 rintro e w9 ⟨aR,R,cR,rfl,rR,pR,vR,lR,k9⟩
 have HR:=hid (And.intro rR (And.intro pR (And.intro vR lR)))
 have HK10:=hid (HK9.out.trans k9)
 clear rR pR vR lR k9 HPL
 go_wp2_with fail
 go_fit (containsI aR R cR 82 #[] w9 (fun y=>y.all) HR.out.2.2.2 HR.out.1 ⟨fun _ _=>by kernel_rfl,fun y hy w1 k=>fimage1_any y w1 ((HR.out.1.kp k).rdI hy)⟩)
 rw[any_pl HR.out.2.1]
 rintro e w10 ⟨rfl,k10⟩
 have HK11:=hid (HK10.out.trans k10)
 have HR2:=hid (HR.out.1.kp k10)
 clear k10
 cases hb:(crdX f g j z X q).any fun x=>x.all with
 | false =>
   have HE:=hid (show D=(crdX f g j z X q,0) by rw[HDX.out];unfold crdV;rw[if_neg (by rw[hb];decide)])
   clear hb
   go_wp2_with fail
   rw[HE.out]
   refine bodyPost_ret (v:=.tuple #[.slice aR R.length cR,.int .i64 0]) (by simp[results,Tryz.results26,go_sem]) rfl ?_
   exact⟨aR,R,cR,rfl,HR2.out,HR.out.2.1,HR.out.2.2.1,HR.out.2.2.2,HK11.out⟩
 | true =>
 have HE:=hid (show D=([],11) by rw[HDX.out];unfold crdV;rw[if_pos hb])
 clear hb
 go_wp2_with fail
 rw[HE.out]
 refine bodyPost_ret (v:=.tuple #[.slice none 0 0,.int .i64 11]) (by simp[results,Tryz.results26,go_sem]) rfl ?_
 exact rowE_nil rfl HK11.out
end Go.Proofs.YtbhmhfnfceakoaaGreatDoor
