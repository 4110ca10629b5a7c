/-
  Walks: the law's coordinates of chapter 31.
-/
import Derived.Test.YtbhmhfnfceakoaaGreatDoorMR31V
namespace Go.Proofs.YtbhmhfnfceakoaaGreatDoor
open Go.RowKit
open Lib (hid)
theorem crdE_1 {f g:RF} {j:List (List RI)} {z:List RI} {p:Int} (h:(vlF f&&(vlF g&&(vlM j&&z.all RI.vl)))=false):crdE f g j z p=1:=by unfold crdE;rw[if_pos h]
theorem sqrL_iff {m:List (List RI)} {n:Nat} (hv:vlM m=true):sqrL m (n:Int)=(decide (m.length=n)&&decide (colsM m=n)):=by
 unfold sqrL
 have h1:(decide ((m.length:Int)=n))=decide (m.length=n):=decide_eq_decide.2 (by omega)
 rw[h1]
 congr 1
 have hr:=(vlM_iff.1 hv).2.2
 obtain⟨r0,hr0,hc0⟩:=vlM_row0 hv
 by_cases h:colsM m=n
 ·rw[decide_eq_true h,Bool.not_eq_true',List.any_eq_false]
  intro r hm
  rw[decide_eq_true (by have:=(hr r hm).1;omega)];decide
 rw[decide_eq_false h,Bool.not_eq_false',List.any_eq_true]
 refine⟨r0,List.mem_of_getElem? hr0,?_⟩
 rw[decide_eq_false (by omega)];rfl
theorem keep77a {w w':World} (k:Kp w w') {p0 p1 p2 p3 p4 p5 p6 q0 q1 q2 q3 q4 q5 q6:Addr} {v0 v1 v2 v3 v4 v5 v6 u0 u1 u2 u3 u4 u5 u6:Value} (h:(w.cell? p0=some v0∧w.cell? p1=some v1∧w.cell? p2=some v2∧w.cell? p3=some v3∧w.cell? p4=some v4∧w.cell? p5=some v5∧w.cell? p6=some v6)∧(w.cell? q0=some u0∧w.cell? q1=some u1∧w.cell? q2=some u2∧w.cell? q3=some u3∧w.cell? q4=some u4∧w.cell? q5=some u5∧w.cell? q6=some u6)) :
  (w'.cell? p0=some v0∧w'.cell? p1=some v1∧w'.cell? p2=some v2∧w'.cell? p3=some v3∧w'.cell? p4=some v4∧w'.cell? p5=some v5∧w'.cell? p6=some v6)∧(w'.cell? q0=some u0∧w'.cell? q1=some u1∧w'.cell? q2=some u2∧w'.cell? q3=some u3∧w'.cell? q4=some u4∧w'.cell? q5=some u5∧w'.cell? q6=some u6):=⟨keep7 k h.1,keep7 k h.2⟩
theorem set77y {w:World} {g b1 b2:Nat} (n1:b1≠g) (n2:b2≠g) {p0 p1 p2 p3 p4 p5 p6 q0 q1 q2 q3 q4 q5 q6:Nat} {v0 v1 v2 v3 v4 v5 v6 u0 u1 u2 u3 u4 u5 u6 x0 x1 x2 x3 x4 x5 x6:Value}
  (h:(w.cell? ⟨b1,p0,none⟩=some v0∧w.cell? ⟨b1,p1,none⟩=some v1∧w.cell? ⟨b1,p2,none⟩=some v2∧w.cell? ⟨b1,p3,none⟩=some v3∧w.cell? ⟨b1,p4,none⟩=some v4∧w.cell? ⟨b1,p5,none⟩=some v5∧w.cell? ⟨b1,p6,none⟩=some v6)∧w.cell? ⟨b2,q0,none⟩=some u0∧w.cell? ⟨b2,q1,none⟩=some u1∧w.cell? ⟨b2,q2,none⟩=some u2∧w.cell? ⟨b2,q3,none⟩=some u3∧w.cell? ⟨b2,q4,none⟩=some u4∧w.cell? ⟨b2,q5,none⟩=some u5∧w.cell? ⟨b2,q6,none⟩=some u6) :
  ((((((((w.setCell ⟨g,0,none⟩ x0).setCell ⟨g,1,none⟩ x1).setCell ⟨g,2,none⟩ x2).setCell ⟨g,3,none⟩ x3).setCell ⟨g,4,none⟩ x4).setCell ⟨g,5,none⟩ x5).setCell ⟨g,6,none⟩ x6).cell? ⟨b1,p0,none⟩=some v0∧(((((((w.setCell ⟨g,0,none⟩ x0).setCell ⟨g,1,none⟩ x1).setCell ⟨g,2,none⟩ x2).setCell ⟨g,3,none⟩ x3).setCell ⟨g,4,none⟩ x4).setCell ⟨g,5,none⟩ x5).setCell ⟨g,6,none⟩ x6).cell? ⟨b1,p1,none⟩=some v1∧(((((((w.setCell ⟨g,0,none⟩ x0).setCell ⟨g,1,none⟩ x1).setCell ⟨g,2,none⟩ x2).setCell ⟨g,3,none⟩ x3).setCell ⟨g,4,none⟩ x4).setCell ⟨g,5,none⟩ x5).setCell ⟨g,6,none⟩ x6).cell? ⟨b1,p2,none⟩=some v2∧(((((((w.setCell ⟨g,0,none⟩ x0).setCell ⟨g,1,none⟩ x1).setCell ⟨g,2,none⟩ x2).setCell ⟨g,3,none⟩ x3).setCell ⟨g,4,none⟩ x4).setCell ⟨g,5,none⟩ x5).setCell ⟨g,6,none⟩ x6).cell? ⟨b1,p3,none⟩=some v3∧(((((((w.setCell ⟨g,0,none⟩ x0).setCell ⟨g,1,none⟩ x1).setCell ⟨g,2,none⟩ x2).setCell ⟨g,3,none⟩ x3).setCell ⟨g,4,none⟩ x4).setCell ⟨g,5,none⟩ x5).setCell ⟨g,6,none⟩ x6).cell? ⟨b1,p4,none⟩=some v4∧(((((((w.setCell ⟨g,0,none⟩ x0).setCell ⟨g,1,none⟩ x1).setCell ⟨g,2,none⟩ x2).setCell ⟨g,3,none⟩ x3).setCell ⟨g,4,none⟩ x4).setCell ⟨g,5,none⟩ x5).setCell ⟨g,6,none⟩ x6).cell? ⟨b1,p5,none⟩=some v5∧(((((((w.setCell ⟨g,0,none⟩ x0).setCell ⟨g,1,none⟩ x1).setCell ⟨g,2,none⟩ x2).setCell ⟨g,3,none⟩ x3).setCell ⟨g,4,none⟩ x4).setCell ⟨g,5,none⟩ x5).setCell ⟨g,6,none⟩ x6).cell? ⟨b1,p6,none⟩=some v6)∧(((((((w.setCell ⟨g,0,none⟩ x0).setCell ⟨g,1,none⟩ x1).setCell ⟨g,2,none⟩ x2).setCell ⟨g,3,none⟩ x3).setCell ⟨g,4,none⟩ x4).setCell ⟨g,5,none⟩ x5).setCell ⟨g,6,none⟩ x6).cell? ⟨b2,q0,none⟩=some u0∧(((((((w.setCell ⟨g,0,none⟩ x0).setCell ⟨g,1,none⟩ x1).setCell ⟨g,2,none⟩ x2).setCell ⟨g,3,none⟩ x3).setCell ⟨g,4,none⟩ x4).setCell ⟨g,5,none⟩ x5).setCell ⟨g,6,none⟩ x6).cell? ⟨b2,q1,none⟩=some u1∧(((((((w.setCell ⟨g,0,none⟩ x0).setCell ⟨g,1,none⟩ x1).setCell ⟨g,2,none⟩ x2).setCell ⟨g,3,none⟩ x3).setCell ⟨g,4,none⟩ x4).setCell ⟨g,5,none⟩ x5).setCell ⟨g,6,none⟩ x6).cell? ⟨b2,q2,none⟩=some u2∧(((((((w.setCell ⟨g,0,none⟩ x0).setCell ⟨g,1,none⟩ x1).setCell ⟨g,2,none⟩ x2).setCell ⟨g,3,none⟩ x3).setCell ⟨g,4,none⟩ x4).setCell ⟨g,5,none⟩ x5).setCell ⟨g,6,none⟩ x6).cell? ⟨b2,q3,none⟩=some u3∧(((((((w.setCell ⟨g,0,none⟩ x0).setCell ⟨g,1,none⟩ x1).setCell ⟨g,2,none⟩ x2).setCell ⟨g,3,none⟩ x3).setCell ⟨g,4,none⟩ x4).setCell ⟨g,5,none⟩ x5).setCell ⟨g,6,none⟩ x6).cell? ⟨b2,q4,none⟩=some u4∧(((((((w.setCell ⟨g,0,none⟩ x0).setCell ⟨g,1,none⟩ x1).setCell ⟨g,2,none⟩ x2).setCell ⟨g,3,none⟩ x3).setCell ⟨g,4,none⟩ x4).setCell ⟨g,5,none⟩ x5).setCell ⟨g,6,none⟩ x6).cell? ⟨b2,q5,none⟩=some u5∧(((((((w.setCell ⟨g,0,none⟩ x0).setCell ⟨g,1,none⟩ x1).setCell ⟨g,2,none⟩ x2).setCell ⟨g,3,none⟩ x3).setCell ⟨g,4,none⟩ x4).setCell ⟨g,5,none⟩ x5).setCell ⟨g,6,none⟩ x6).cell? ⟨b2,q6,none⟩=some u6:=by
 have ne (a i j:Nat) (n:a≠g):(⟨g,i,none⟩:Addr)≠⟨a,j,none⟩:=fun e=>n (by injection e with e1;exact e1.symm)
 have key (a j:Nat) (n:a≠g):(((((((w.setCell ⟨g,0,none⟩ x0).setCell ⟨g,1,none⟩ x1).setCell ⟨g,2,none⟩ x2).setCell ⟨g,3,none⟩ x3).setCell ⟨g,4,none⟩ x4).setCell ⟨g,5,none⟩ x5).setCell ⟨g,6,none⟩ x6).cell? ⟨a,j,none⟩=w.cell? ⟨a,j,none⟩:=by
  rw[cell_set_ne (ne a 6 j n),cell_set_ne (ne a 5 j n),cell_set_ne (ne a 4 j n),cell_set_ne (ne a 3 j n),cell_set_ne (ne a 2 j n),cell_set_ne (ne a 1 j n),cell_set_ne (ne a 0 j n)]
 simp only[key _ _ n1,key _ _ n2]
 exact h
theorem set77ay {w:World} {o1 o2:Obj} {b1 b2:Nat} (n1:b1<w.heap.size) (n2:b2<w.heap.size) {p0 p1 p2 p3 p4 p5 p6 q0 q1 q2 q3 q4 q5 q6:Nat} {v0 v1 v2 v3 v4 v5 v6 u0 u1 u2 u3 u4 u5 u6:Value}
  (h:((w.alloc o1).cell? ⟨b1,p0,none⟩=some v0∧(w.alloc o1).cell? ⟨b1,p1,none⟩=some v1∧(w.alloc o1).cell? ⟨b1,p2,none⟩=some v2∧(w.alloc o1).cell? ⟨b1,p3,none⟩=some v3∧(w.alloc o1).cell? ⟨b1,p4,none⟩=some v4∧(w.alloc o1).cell? ⟨b1,p5,none⟩=some v5∧(w.alloc o1).cell? ⟨b1,p6,none⟩=some v6)∧(w.alloc o1).cell? ⟨b2,q0,none⟩=some u0∧(w.alloc o1).cell? ⟨b2,q1,none⟩=some u1∧(w.alloc o1).cell? ⟨b2,q2,none⟩=some u2∧(w.alloc o1).cell? ⟨b2,q3,none⟩=some u3∧(w.alloc o1).cell? ⟨b2,q4,none⟩=some u4∧(w.alloc o1).cell? ⟨b2,q5,none⟩=some u5∧(w.alloc o1).cell? ⟨b2,q6,none⟩=some u6):((w.alloc o2).cell? ⟨b1,p0,none⟩=some v0∧(w.alloc o2).cell? ⟨b1,p1,none⟩=some v1∧(w.alloc o2).cell? ⟨b1,p2,none⟩=some v2∧(w.alloc o2).cell? ⟨b1,p3,none⟩=some v3∧(w.alloc o2).cell? ⟨b1,p4,none⟩=some v4∧(w.alloc o2).cell? ⟨b1,p5,none⟩=some v5∧(w.alloc o2).cell? ⟨b1,p6,none⟩=some v6)∧(w.alloc o2).cell? ⟨b2,q0,none⟩=some u0∧(w.alloc o2).cell? ⟨b2,q1,none⟩=some u1∧(w.alloc o2).cell? ⟨b2,q2,none⟩=some u2∧(w.alloc o2).cell? ⟨b2,q3,none⟩=some u3∧(w.alloc o2).cell? ⟨b2,q4,none⟩=some u4∧(w.alloc o2).cell? ⟨b2,q5,none⟩=some u5∧(w.alloc o2).cell? ⟨b2,q6,none⟩=some u6:=by
 have key (a j:Nat) (n:a<w.heap.size):(w.alloc o2).cell? ⟨a,j,none⟩=(w.alloc o1).cell? ⟨a,j,none⟩ :=
  (Below.cell ((Kp.refl w).alloc o2) n).trans (Below.cell ((Kp.refl w).alloc o1) n).symm
 simp only[key _ _ n1,key _ _ n2]
 exact h
set_option maxHeartbeats 4000000 in
theorem coord1_any (x:RI) (w:World) (hx:x.rd w) :
  Calls Tryz.prog 74 #[.agg #[.bool x.lo.neg,.slice x.lo.a x.lo.xs.length x.lo.c,.int .i64 x.lo.e,.bool x.hi.neg,.slice x.hi.a x.hi.xs.length x.hi.c,.int .i64 x.hi.e,.bool x.all]] w fun e w'=>e=.returned (.bool (!x.vl))∧Kp w w':=by
 have k1:=(Kp.refl w).alloc (.cells #[.bool x.lo.neg,.slice x.lo.a x.lo.xs.length x.lo.c,.int .i64 x.lo.e,.bool x.hi.neg,.slice x.hi.a x.hi.xs.length x.hi.c,.int .i64 x.hi.e,.bool x.all] 44)
 have HX:=hid (hx.kp k1)
 clear hx
 go_enter Tryz.func74,Tryz.ntmps74
 go_upto_region 1 with fail
 generalize hW:w.alloc _=W at *
 obtain⟨s0,s1,s2,s3,s4,s5,s6⟩:W.cell? ⟨w.heap.size,0,none⟩=some (.bool x.lo.neg)∧W.cell? ⟨w.heap.size,1,none⟩=some (.slice x.lo.a x.lo.xs.length x.lo.c)∧W.cell? ⟨w.heap.size,2,none⟩=some (.int .i64 x.lo.e)∧W.cell? ⟨w.heap.size,3,none⟩=some (.bool x.hi.neg)∧W.cell? ⟨w.heap.size,4,none⟩=some (.slice x.hi.a x.hi.xs.length x.hi.c)∧W.cell? ⟨w.heap.size,5,none⟩=some (.int .i64 x.hi.e)∧W.cell? ⟨w.heap.size,6,none⟩=some (.bool x.all):=by rw[← hW];simp
 clear hW
 go_wp2_with fail
 go_fit (IValid_raw x _ HX.out)
 rintro e w1 ⟨rfl,k2⟩
 go_wp2_with fail
 go_ret
 exact⟨rfl,k1.trans k2⟩
theorem crdV_some {n:Nat} {F:Nat→PI} {i:Nat} (hi:i<n) (h:(F i).all=true):crdV (rowF n F)=([],11):=by
 unfold crdV
 rw[if_pos]
 unfold rowF
 rw[List.any_map,List.any_eq_true]
 exact⟨i,List.mem_range.2 hi,h⟩
theorem crdV_none {n:Nat} {F:Nat→PI} (h:∀ i,i<n→(F i).all=false):crdV (rowF n F)=(rowF n F,0):=by
 unfold crdV
 rw[if_neg]
 unfold rowF
 rw[List.any_map,List.any_eq_true]
 rintro ⟨i,hi,hh⟩
 have:(F i).all=true:=hh
 rw[h i (List.mem_range.1 hi)] at this
 cases this
set_option maxRecDepth 100000 in
set_option maxHeartbeats 16000000 in
theorem coordL_any (f g:RF) (a b va:Option Addr) (j:List (List RI)) (z:List RI) (v:List (List RD)) (c d vc:Nat) (p:Int) (w:World) (hf:f.rd w) (hg:g.rd w) (hj:RowM w a j) (hz:RowI w b z) (hv:RowN w va v)
   (hl:j.length≤1100000) (hl2:z.length≤1100000) (hl3:v.length≤1100000) (hT:Tab w) :
   Calls Tryz.prog 25 #[.agg #[.slice f.ca f.cs.length f.cc,.slice f.aa f.ms.length f.ac,.slice f.ra f.rs.length f.rc],.slice a j.length c,.slice b z.length d,.agg #[.slice g.ca g.cs.length g.cc,.slice g.aa g.ms.length g.ac,.slice g.ra g.rs.length g.rc],.slice va v.length vc,.int .i64 p] w (RowE w (crdC f g j z v p).1 (crdC f g j z v p).2):=by
 have HF:=hid hf
 have HG:=hid hg
 have HJ:=hid hj
 have HZ:=hid hz
 have HV:=hid hv
 have HT:=hid hT
 obtain⟨D,hD⟩:∃ D,D=crdC f g j z v p:=⟨_,rfl⟩
 have HD:=hid hD
 rw[← hD]
 have HE1:=hid (fun (e:Int) (h:crdE f g j z p=e) (h0:e≠0)=>show D=([],e) by rw[hD];unfold crdC;rw[h,if_pos h0])
 have kk:=((Kp.refl w).alloc (.cells #[.slice f.ca f.cs.length f.cc,.slice f.aa f.ms.length f.ac,.slice f.ra f.rs.length f.rc] 26)).alloc (.cells #[.slice g.ca g.cs.length g.cc,.slice g.aa g.ms.length g.ac,.slice g.ra g.rs.length g.rc] 26)
 clear hf hg hj hz hv hT hD
 go_enter Tryz.func25,Tryz.ntmps25
 go_upto_region 1 with fail
 have HS:=hid (show ((w.alloc (.cells #[.slice f.ca f.cs.length f.cc,.slice f.aa f.ms.length f.ac,.slice f.ra f.rs.length f.rc] 26)).alloc (.cells #[.slice g.ca g.cs.length g.cc,.slice g.aa g.ms.length g.ac,.slice g.ra g.rs.length g.rc] 26)).cell? ⟨w.heap.size,0,none⟩=some (.slice f.ca f.cs.length f.cc)∧((w.alloc (.cells #[.slice f.ca f.cs.length f.cc,.slice f.aa f.ms.length f.ac,.slice f.ra f.rs.length f.rc] 26)).alloc (.cells #[.slice g.ca g.cs.length g.cc,.slice g.aa g.ms.length g.ac,.slice g.ra g.rs.length g.rc] 26)).cell? ⟨w.heap.size,1,none⟩=some (.slice f.aa f.ms.length f.ac)∧((w.alloc (.cells #[.slice f.ca f.cs.length f.cc,.slice f.aa f.ms.length f.ac,.slice f.ra f.rs.length f.rc] 26)).alloc (.cells #[.slice g.ca g.cs.length g.cc,.slice g.aa g.ms.length g.ac,.slice g.ra g.rs.length g.rc] 26)).cell? ⟨w.heap.size,2,none⟩=some (.slice f.ra f.rs.length f.rc) from keep3 ((Kp.refl _).alloc _) (show (w.alloc (.cells #[.slice f.ca f.cs.length f.cc,.slice f.aa f.ms.length f.ac,.slice f.ra f.rs.length f.rc] 26)).cell? ⟨w.heap.size,0,none⟩=some (.slice f.ca f.cs.length f.cc)∧(w.alloc (.cells #[.slice f.ca f.cs.length f.cc,.slice f.aa f.ms.length f.ac,.slice f.ra f.rs.length f.rc] 26)).cell? ⟨w.heap.size,1,none⟩=some (.slice f.aa f.ms.length f.ac)∧(w.alloc (.cells #[.slice f.ca f.cs.length f.cc,.slice f.aa f.ms.length f.ac,.slice f.ra f.rs.length f.rc] 26)).cell? ⟨w.heap.size,2,none⟩=some (.slice f.ra f.rs.length f.rc) by simp))
 have HSG:=hid (show ((w.alloc (.cells #[.slice f.ca f.cs.length f.cc,.slice f.aa f.ms.length f.ac,.slice f.ra f.rs.length f.rc] 26)).alloc (.cells #[.slice g.ca g.cs.length g.cc,.slice g.aa g.ms.length g.ac,.slice g.ra g.rs.length g.rc] 26)).cell? ⟨w.heap.size+1,0,none⟩=some (.slice g.ca g.cs.length g.cc)∧((w.alloc (.cells #[.slice f.ca f.cs.length f.cc,.slice f.aa f.ms.length f.ac,.slice f.ra f.rs.length f.rc] 26)).alloc (.cells #[.slice g.ca g.cs.length g.cc,.slice g.aa g.ms.length g.ac,.slice g.ra g.rs.length g.rc] 26)).cell? ⟨w.heap.size+1,1,none⟩=some (.slice g.aa g.ms.length g.ac)∧((w.alloc (.cells #[.slice f.ca f.cs.length f.cc,.slice f.aa f.ms.length f.ac,.slice f.ra f.rs.length f.rc] 26)).alloc (.cells #[.slice g.ca g.cs.length g.cc,.slice g.aa g.ms.length g.ac,.slice g.ra g.rs.length g.rc] 26)).cell? ⟨w.heap.size+1,2,none⟩=some (.slice g.ra g.rs.length g.rc) by simp)
 generalize hW:(w.alloc _).alloc _=W at *
 obtain⟨t0,t1,t2⟩:=id HS.out
 clear hW
 go_wp2_with fail
 go_fit (r31valid_any f _ (HF.out.kp kk))
 rintro e w1 ⟨rfl,k1⟩
 have HK1:=hid (kk.trans k1)
 have HS1:=hid (keepF k1 HS.out)
 have HSG1:=hid (keepF k1 HSG.out)
 clear t0 t1 t2 k1 kk HS HSG
 cases hvf:vlF f with
 | false =>
   have HE:=hid (HE1.out 1 (crdE_1 (by rw[hvf];rfl)) (by decide))
   clear hvf
   go_wp2_with fail
   rw[HE.out]
   refine bodyPost_ret (v:=.tuple #[.slice none 0 0,.int .i64 1]) (by simp[results,Tryz.results25,go_sem]) rfl ?_
   exact rowE_nil rfl HK1.out
 | true =>
 have HVF:=hid hvf
 clear hvf
 obtain⟨t0,t1,t2⟩:=id HSG1.out
 go_wp2_with fail
 go_fit (r31valid_any g _ (HG.out.kp HK1.out))
 rintro e w2 ⟨rfl,k2⟩
 have HK2:=hid (HK1.out.trans k2)
 have HS2:=hid (keepF k2 HS1.out)
 have HSG2:=hid (keepF k2 HSG1.out)
 clear t0 t1 t2 k2 HS1 HSG1 HK1
 cases hvg:vlF g with
 | false =>
   have HE:=hid (HE1.out 1 (crdE_1 (by rw[hvg,Bool.false_and,Bool.and_false])) (by decide))
   clear hvg
   go_wp2_with fail
   rw[HE.out]
   refine bodyPost_ret (v:=.tuple #[.slice none 0 0,.int .i64 1]) (by simp[results,Tryz.results25,go_sem]) rfl ?_
   exact rowE_nil rfl HK2.out
 | true =>
 have HVG:=hid hvg
 clear hvg
 go_wp2_with fail
 go_fit (mvalid_any a j c _ (HJ.out.kp HK2.out) hl)
 rintro e w3 ⟨rfl,k3⟩
 have HK3:=hid (HK2.out.trans k3)
 have HS3:=hid (keepF k3 HS2.out)
 have HSG3:=hid (keepF k3 HSG2.out)
 clear k3 HS2 HSG2 HK2
 cases hm:vlM j with
 | false =>
   have HE:=hid (HE1.out 1 (crdE_1 (by rw[hm,Bool.false_and,Bool.and_false,Bool.and_false])) (by decide))
   clear hm
   go_wp2_with fail
   rw[HE.out]
   refine bodyPost_ret (v:=.tuple #[.slice none 0 0,.int .i64 1]) (by simp[results,Tryz.results25,go_sem]) rfl ?_
   exact rowE_nil rfl HK3.out
 | true =>
 have HM:=hid hm
 clear hm
 go_wp2_with fail
 go_fit (containsI b z d 74 #[] _ (fun y=>!y.vl) hl2 (HZ.out.kp HK3.out) ⟨fun _ _=>by kernel_rfl,fun y hy w1 k=>coord1_any y w1 (((HZ.out.kp HK3.out).kp k).rdI hy)⟩)
 rw[all_any]
 rintro e w4 ⟨rfl,k4⟩
 have HK4:=hid (HK3.out.trans k4)
 have HS4:=hid (keepF k4 HS3.out)
 have HSG4:=hid (keepF k4 HSG3.out)
 clear k4 HS3 HSG3 HK3
 cases hz:z.all RI.vl with
 | false =>
   have HE:=hid (HE1.out 1 (crdE_1 (by rw[hz,Bool.and_false,Bool.and_false,Bool.and_false])) (by decide))
   clear hz
   go_wp2_with fail
   rw[HE.out]
   refine bodyPost_ret (v:=.tuple #[.slice none 0 0,.int .i64 1]) (by simp[results,Tryz.results25,go_sem]) rfl ?_
   exact rowE_nil rfl HK4.out
 | true =>
 have HZV:=hid hz
 have HE2:=hid (show crdE f g j z p=if preB p=false then 2 else if g.cs.length≠f.cs.length∨z.length≠f.cs.length∨j.length≠f.cs.length∨colsM j≠f.cs.length then 3 else 0 by
   unfold crdE;rw[if_neg (by rw[HVF.out,HVG.out,HM.out,HZV.out];decide)])
 clear hz
 cases hp:preB p with
 | false =>
   have HE:=hid (HE1.out 2 (by rw[HE2.out,if_pos hp]) (by decide))
   by_cases h8:p<8
   · clear hp
     go_wp2_with fail
     rw[HE.out]
     refine bodyPost_ret (v:=.tuple #[.slice none 0 0,.int .i64 2]) (by simp[results,Tryz.results25,go_sem]) rfl ?_
     exact rowE_nil rfl HK4.out
   have h9:512<p:=by
     refine Classical.byContradiction fun k=>?_
     have:=preB_iff.2 (show 8≤p∧p≤512 from ⟨by omega,by omega⟩)
     rw[this] at hp;cases hp
   clear hp
   go_wp2_with fail
   rw[HE.out]
   refine bodyPost_ret (v:=.tuple #[.slice none 0 0,.int .i64 2]) (by simp[results,Tryz.results25,go_sem]) rfl ?_
   exact rowE_nil rfl HK4.out
 | true =>
 have HP:=hid hp
 have h8:¬ p<8:=by have:=preB_iff.1 hp;omega
 have h9:¬ 512<p:=by have:=preB_iff.1 hp;omega
 have HE3:=hid (show crdE f g j z p=if g.cs.length≠f.cs.length∨z.length≠f.cs.length∨j.length≠f.cs.length∨colsM j≠f.cs.length then 3 else 0 by
   rw[HE2.out,if_neg (by rw[hp];decide)])
 clear hp HE2
 obtain⟨s0,s1,s2⟩:=id HS4.out
 obtain⟨t0,t1,t2⟩:=id HSG4.out
 by_cases g1:g.cs.length=f.cs.length
 case neg =>
   have hg1:((g.cs.length:Int) != (f.cs.length:Int))=true:=by rw[bne,beq_eq_false_iff_ne.2 (by omega)];rfl
   have HE:=hid (HE1.out 3 (by rw[HE3.out,if_pos (.inl g1)]) (by decide))
   clear g1
   go_wp2_with fail
   rw[HE.out]
   refine bodyPost_ret (v:=.tuple #[.slice none 0 0,.int .i64 3]) (by simp[results,Tryz.results25,go_sem]) rfl ?_
   exact rowE_nil rfl HK4.out
 have hg1:((g.cs.length:Int) != (f.cs.length:Int))=false:=by rw[g1];simp
 by_cases g2:z.length=f.cs.length
 case neg =>
   have hg2:((z.length:Int) != (f.cs.length:Int))=true:=by rw[bne,beq_eq_false_iff_ne.2 (by omega)];rfl
   have HE:=hid (HE1.out 3 (by rw[HE3.out,if_pos (.inr (.inl g2))]) (by decide))
   clear g1 g2
   go_wp2_with fail
   rw[HE.out]
   refine bodyPost_ret (v:=.tuple #[.slice none 0 0,.int .i64 3]) (by simp[results,Tryz.results25,go_sem]) rfl ?_
   exact rowE_nil rfl HK4.out
 have hg2:((z.length:Int) != (f.cs.length:Int))=false:=by rw[g2];simp
 have HN12:=hid (And.intro g1 g2)
 clear g1 g2
 go_wp2_with fail
 go_fit (sqrL_any j a c (f.cs.length:Int) _ (HJ.out.kp HK4.out) hl)
 rw[sqrL_iff HM.out]
 rintro e w5 ⟨rfl,k5⟩
 have HK5:=hid (HK4.out.trans k5)
 have HS5:=hid (keepF k5 HS4.out)
 have HSG5:=hid (keepF k5 HSG4.out)
 clear k5 HS4 HSG4 HK4 s0 s1 s2 t0 t1 t2 hg1 hg2 h8 h9
 cases hq:(decide (j.length=f.cs.length)&&decide (colsM j=f.cs.length)) with
 | false =>
   have HE:=hid (HE1.out 3 (by
     rw[HE3.out,if_pos]
     refine .inr (.inr ?_)
     refine Classical.byContradiction fun k=>?_
     rw[decide_eq_true (Classical.byContradiction fun h=>k (.inl h)),decide_eq_true (Classical.byContradiction fun h=>k (.inr h))] at hq
     cases hq) (by decide))
   clear hq
   go_wp2_with fail
   rw[HE.out]
   refine bodyPost_ret (v:=.tuple #[.slice none 0 0,.int .i64 3]) (by simp[results,Tryz.results25,go_sem]) rfl ?_
   exact rowE_nil rfl HK5.out
 | true =>
 rw[Bool.and_eq_true,decide_eq_true_eq,decide_eq_true_eq] at hq
 have HDE2:=hid (show crdE f g j z p=0 by
   rw[HE3.out,if_neg]
   have:=HN12.out
   omega)
 have HFL:=hid (show (vlF f=true∧vlM j=true∧∀ x∈z,x.vl=true)∧preB p=true∧z.length=f.cs.length∧j.length=f.cs.length∧colsM j=f.cs.length from ⟨⟨HVF.out,HM.out,List.all_eq_true.1 HZV.out⟩,HP.out,HN12.out.2,hq.1,hq.2⟩)
 have HN3:=hid HN12.out.1
 clear hq
 obtain⟨t0,t1,t2⟩:=id HSG5.out
 go_wp2_with fail
 go_fit (lcorrect_any g.ms v g.aa va g.ac vc p _ (HG.out.2.1.1.kp HK5.out) (HV.out.kp HK5.out) HG.out.2.1.2 hl3 (HT.out.kp HK5.out))
 rintro e w3 ⟨aW,WW,cW,rfl,rW,pW,oW,lW,k3⟩
 have HK3:=hid (HK5.out.trans k3)
 have HS3:=hid (keepF k3 HS5.out)
 have HSG3:=hid (keepF k3 HSG5.out)
 have HWW:=hid (And.intro rW (And.intro pW (And.intro oW lW)))
 clear t0 t1 t2 rW pW oW lW k3 HS5 HSG5 HK5
 obtain⟨E2,hE2⟩:∃ E2,E2=(corC g.ms v p).2:=⟨_,rfl⟩
 rw[← hE2]
 by_cases h0:E2=0
 case neg =>
   have hne:(E2 != 0)=true:=by rw[bne,beq_eq_false_iff_ne.2 h0];rfl
   have HE:=hid (show D=([],E2) by
     rw[HD.out];unfold crdC
     rw[HDE2.out,← hE2,if_neg (by decide),if_pos h0])
   clear h0 hE2
   go_wp2_with fail
   rw[HE.out]
   refine bodyPost_ret (v:=.tuple #[.slice none 0 0,.int .i64 E2]) (by simp[results,Tryz.results25,go_sem]) rfl ?_
   exact rowE_nil rfl HK3.out
 have hne:(E2 != 0)=false:=by rw[h0];rfl
 obtain⟨q,hq⟩:∃ q:Nat,q=p.toNat:=⟨_,rfl⟩
 have hpq:p=(q:Int):=by have:=preB_iff.1 HFL.out.2.1;omega
 have hq0:8≤q:=by have:=preB_iff.1 HFL.out.2.1;omega
 have hq1:q≤512:=by have:=preB_iff.1 HFL.out.2.1;omega
 have HLF:=hid (vlF_iff.1 HFL.out.1.1)
 have HLG:=hid (vlF_iff.1 HVG.out)
 have HTW:=hid (show Tab2 WW f.cs.length (atX (corC g.ms v p).1) by
   have:=Tab2.cor (hE2.symm.trans h0) HWW.out.2.1 HWW.out.2.2.1 (by have:=HLG.out.1;have:=HLG.out.2.1.1;omega)
   rw[HLG.out.2.1.1,HN3.out] at this
   exact this)
 obtain⟨X,hX⟩:∃ X,X=atX (corC g.ms v p).1:=⟨_,rfl⟩
 rw[← hX] at HTW
 have HDX:=hid (show D=crdV (crdX f g j z X q) by
   rw[HD.out];unfold crdC
   rw[HDE2.out,← hE2,h0,← hX,← hq];rfl)
 have HWR:=hid (And.intro HWW.out.1 HWW.out.2.2.2)
 rw[hpq]
 have HN:=hid (show z.length≤8∧1≤z.length by have:=HLF.out.1;have:=HFL.out.2.2.1;omega)
 obtain⟨G,hG⟩:∃ G:Nat→PI,G=fun t=>pSub (rowG z t) (ptP (g.cs.getD t rdZero)) q:=⟨_,rfl⟩
 have HGG:=hid hG
 clear h0 hE2 hX hq hpq HD HWW HDE2 hG
 go_wp2_with fail
 go_loopg [17,82] z.length (fun y u t wr=>∃ cur:List RI,cur.length+y=z.length∧t=.int .i64 (cur.length:Int)∧OwnN w3 wr u cur∧plR cur=rowF cur.length G∧∀ x∈cur,x.vl=true)
 case atStart=>exact⟨[],by simp,rfl,OwnN.nil (Kp.refl _),rfl,fun x h=>by simp at h⟩
 case round =>
 obtain⟨cur,hcq,rfl,hown,hpc,hvc⟩:=hrel
 by_cases hlt:cur.length<z.length
 · obtain⟨x,hx⟩:∃ x,z[cur.length]? = some x:=⟨_,List.getElem?_eq_getElem hlt⟩
   obtain⟨y,hy⟩:∃ y,g.cs[cur.length]? = some y:=⟨_,List.getElem?_eq_getElem (by have:=HN3.out;have:=HFL.out.2.2.1;omega)⟩
   have kwr:=HK3.out.trans hown.1
   obtain⟨b1,o1,e1,rx,s0,s1,s2,s3,s4,s5,s6⟩:=(HZ.out.kp kwr) cur.length x hx
   subst e1
   have HXV:=hid (And.intro rx (HFL.out.1.2.2 x (List.mem_of_getElem? hx)))
   have HYV:=hid (show y.ok wr from ⟨(HG.out.kp kwr).1.1.rd (List.mem_of_getElem? hy),HLG.out.2.2.1 y (List.mem_of_getElem? hy)⟩)
   obtain⟨b2,o2,e2,ry,c0,c1,c2⟩:=(HG.out.kp kwr).1.1 cur.length y hy
   have HGZ:=hid (show pSub x.pl (ptI y).pl q=G cur.length by
     rw[HGG.out]
     show _=pSub (rowG z cur.length) (ptP (g.cs.getD cur.length rdZero)) q
     rw[rowG_eq hx,List.getD_eq_getElem?_getD,hy];rfl)
   generalize hca:g.ca=ca at *
   subst e2
   have HL2:=hid (show b2<w3.heap.size by
     have:=(HG.out.kp HK3.out).1.1 cur.length y hy
     rw[hca] at this
     obtain⟨b3,o3,e3,_,c3,_⟩:=this
     cases e3
     exact World.block_lt_of_cell? _ _ c3)
   have HCA:=hid hca
   have HYC:=hid (And.intro c0 (And.intro c1 c2))
   have HPC:=hid (And.intro hpc (And.intro hvc (And.intro hcq hlt)))
   have HOW:=hid hown
   have hj1:(0:Int)≤(cur.length:Int):=by omega
   have hj2:(cur.length:Int)<(z.length:Int):=by omega
   have hj3:(cur.length:Int)<(g.cs.length:Int):=by have:=HN3.out;have:=HFL.out.2.2.1;omega
   have hcl:cur.length+1≤9000000:=by omega
   clear hx hy rx ry c0 c1 c2 hca hpc hvc hcq hlt hown kwr
   go_upto_region 15 with fail
   have kA:=(Kp.refl wr).alloc (.cells #[.bool x.lo.neg,.slice x.lo.a x.lo.xs.length x.lo.c,.int .i64 x.lo.e,.bool x.hi.neg,.slice x.hi.a x.hi.xs.length x.hi.c,.int .i64 x.hi.e,.bool x.all] 44)
   have HXB:=hid (show (wr.alloc (.cells #[.bool x.lo.neg,.slice x.lo.a x.lo.xs.length x.lo.c,.int .i64 x.lo.e,.bool x.hi.neg,.slice x.hi.a x.hi.xs.length x.hi.c,.int .i64 x.hi.e,.bool x.all] 44)).cell? ⟨wr.heap.size,0,none⟩=some (.bool x.lo.neg)∧(wr.alloc (.cells #[.bool x.lo.neg,.slice x.lo.a x.lo.xs.length x.lo.c,.int .i64 x.lo.e,.bool x.hi.neg,.slice x.hi.a x.hi.xs.length x.hi.c,.int .i64 x.hi.e,.bool x.all] 44)).cell? ⟨wr.heap.size,1,none⟩=some (.slice x.lo.a x.lo.xs.length x.lo.c)∧(wr.alloc (.cells #[.bool x.lo.neg,.slice x.lo.a x.lo.xs.length x.lo.c,.int .i64 x.lo.e,.bool x.hi.neg,.slice x.hi.a x.hi.xs.length x.hi.c,.int .i64 x.hi.e,.bool x.all] 44)).cell? ⟨wr.heap.size,2,none⟩=some (.int .i64 x.lo.e)∧(wr.alloc (.cells #[.bool x.lo.neg,.slice x.lo.a x.lo.xs.length x.lo.c,.int .i64 x.lo.e,.bool x.hi.neg,.slice x.hi.a x.hi.xs.length x.hi.c,.int .i64 x.hi.e,.bool x.all] 44)).cell? ⟨wr.heap.size,3,none⟩=some (.bool x.hi.neg)∧(wr.alloc (.cells #[.bool x.lo.neg,.slice x.lo.a x.lo.xs.length x.lo.c,.int .i64 x.lo.e,.bool x.hi.neg,.slice x.hi.a x.hi.xs.length x.hi.c,.int .i64 x.hi.e,.bool x.all] 44)).cell? ⟨wr.heap.size,4,none⟩=some (.slice x.hi.a x.hi.xs.length x.hi.c)∧(wr.alloc (.cells #[.bool x.lo.neg,.slice x.lo.a x.lo.xs.length x.lo.c,.int .i64 x.lo.e,.bool x.hi.neg,.slice x.hi.a x.hi.xs.length x.hi.c,.int .i64 x.hi.e,.bool x.all] 44)).cell? ⟨wr.heap.size,5,none⟩=some (.int .i64 x.hi.e)∧(wr.alloc (.cells #[.bool x.lo.neg,.slice x.lo.a x.lo.xs.length x.lo.c,.int .i64 x.lo.e,.bool x.hi.neg,.slice x.hi.a x.hi.xs.length x.hi.c,.int .i64 x.hi.e,.bool x.all] 44)).cell? ⟨wr.heap.size,6,none⟩=some (.bool x.all) by simp)
   have HB:=hid (HSG3.out.1)
   generalize hWA:wr.alloc _=WA at *
   have HKW:=hid (HK3.out.trans (HOW.out.1.trans kA))
   have kd:=(Kp.refl WA).drew
   have HG0:=hid (And.intro (((HOW.out.1.trans kA).trans kd).cell HB.out) (keep3 (kA.trans kd) HYC.out))
   have HOD:=hid (HOW.out.kp (kA.trans kd))
   have HP:=hid (IPoint_pt y WA.drew (HYV.out.kp (kA.trans kd)))
   have HXD:=hid (And.intro (HXV.out.1.kp (kA.trans kd)) HXV.out.2)
   have HYD:=hid (ptI_ok (HYV.out.kp (kA.trans kd)))
   have HTD:=hid (HT.out.kp (HKW.out.trans kd))
   have HSd:=hid (And.intro (keep7 kd HXB.out) HG0.out)
   have hSd:=HSd.out
   have hn0:some wr.heap.size≠u17.ownBlock:=fun e=>by have:=HOW.out.new _ e.symm;omega
   have hn1:some (w.heap.size+1)≠u17.ownBlock:=fun e=>absurd (HOW.out.2.1.lt _ e.symm).1 (Nat.not_le.2 (World.block_lt_of_cell? _ _ HB.out))
   have hn2:some b2≠u17.ownBlock:=fun e=>absurd (HOW.out.2.1.lt _ e.symm).1 (Nat.not_le.2 HL2.out)
   generalize wr.heap.size=bx at *
   clear hWA kA kd s0 s1 s2 s3 s4 s5 s6
   go_region_held3 (fun w'=>(w'.cell? ⟨bx,0,none⟩=some (.bool x.lo.neg)∧w'.cell? ⟨bx,1,none⟩=some (.slice x.lo.a x.lo.xs.length x.lo.c)∧w'.cell? ⟨bx,2,none⟩=some (.int .i64 x.lo.e)∧w'.cell? ⟨bx,3,none⟩=some (.bool x.hi.neg)∧w'.cell? ⟨bx,4,none⟩=some (.slice x.hi.a x.hi.xs.length x.hi.c)∧w'.cell? ⟨bx,5,none⟩=some (.int .i64 x.hi.e)∧w'.cell? ⟨bx,6,none⟩=some (.bool x.all))∧w'.cell? ⟨w.heap.size+1,0,none⟩=some (.slice (some ⟨b2,o2,none⟩) g.cs.length g.cc)∧w'.cell? ⟨b2,o2+cur.length*3,none⟩=some (.bool y.neg)∧w'.cell? ⟨b2,o2+cur.length*3+1,none⟩=some (.slice y.a y.xs.length y.c)∧w'.cell? ⟨b2,o2+cur.length*3+2,none⟩=some (.int .i64 y.e))
     (first | with_reducible assumption | with_reducible exact grow71 hgrow hn0 hn1 hn2 (by assumption) | with_reducible exact keep71 (by assumption) (by assumption) | with_reducible exact keep71 ((Kp.refl _).alloc _) (by assumption) | fail)
     (first
       | (go_at_call 35; (with_reducible refine HP.out.mono ?_); rintro e v0 ⟨rfl, j0⟩
          have HC:=hid (ISub_any x (ptI y) q v0 (HXD.out.1.kp j0) (HYD.out.1.kp j0) HXD.out.2 HYD.out.2.2 hq0 hq1 (HTD.out.kp j0))
          have hOD:=HOD.out.kp j0)
       | (go_at_call 76; (with_reducible refine HC.out.mono ?_); rintro e v1 ⟨zz, rfl, hz, hzp, hzv, j1⟩
          have hownA:=hOD.kp (j1.alloc (.cells #[.bool zz.lo.neg,.slice zz.lo.a zz.lo.xs.length zz.lo.c,.int .i64 zz.lo.e,.bool zz.hi.neg,.slice zz.hi.a zz.hi.xs.length zz.hi.c,.int .i64 zz.hi.e,.bool zz.all] 44))
          have hkA:=hOD.1
          have hzA:=hz.kp ((Kp.refl v1).alloc (.cells #[.bool zz.lo.neg,.slice zz.lo.a zz.lo.xs.length zz.lo.c,.int .i64 zz.lo.e,.bool zz.hi.neg,.slice zz.hi.a zz.hi.xs.length zz.hi.c,.int .i64 zz.hi.e,.bool zz.all] 44))
          have ZP:=hid (And.intro (hzp.trans HGZ.out) hzv)
          clear hz hzp hzv)
       | (refine step_append_ivg (by rfl) _ _ (by rfl) w3 _ cur (by rfl) hownA _ _ (by rfl) zz hzA (by simp) hcl ?_;intro a' c' w9 hown9 hgrow hblk)
       | fail)
   go_wp2_with fail
   go_roundg (gk-1)
   case measure=>have:=HPC.out.2.2;omega
   case rel =>
   refine⟨cur++[zz],by have:=HPC.out.2.2;rw[List.length_append,List.length_singleton];omega,by rw[List.length_append,List.length_singleton];go_num,by simpa using hown9,?_,ok_snoc HPC.out.2.1 ZP.out.2⟩
   rw[plR_snoc,HPC.out.1,List.length_append,List.length_singleton,rowF_snoc,ZP.out.1]
 have hRe:cur.length=z.length:=by omega
 obtain⟨da,dc,rfl,_,_,hrm⟩:=hown.value
 have HDD:=hid (And.intro hrm (And.intro (show plR cur=rowF f.cs.length G by rw[hpc,hRe,HFL.out.2.2.1]) hvc))
 have HRe:=hid hRe
 have HK4:=hid (HK3.out.trans hown.1)
 have HW4:=hid (HWR.out.1.kp hown.1)
 obtain⟨s0,s1,s2⟩:=keepF hown.1 HS3.out
 have HSw:=hid (And.intro s0 (And.intro s1 s2))
 have hlc:cur.length≤1100000:=by have:=HN.out;omega
 clear hRe hcq hrm hpc hvc hown
 go_wp2_with fail
 go_fit (mof_any f.aa f.ms f.ac _ (HF.out.2.1.1.kp HK4.out) HF.out.2.1.2)
 rintro e w4 ⟨aO,O,cO,rfl,rO,pO,oO,lO,k4⟩
 have HO:=hid (Tab2.of HFL.out.1.1 pO oO)
 have HJT:=hid (show Tab2 j f.cs.length (atP j) from ⟨by rw[plM_of HFL.out.1.2.1,HFL.out.2.2.2.1,HFL.out.2.2.2.2],fun r hr=>((vlM_iff.1 HFL.out.1.2.1).2.2 r hr).2,HLF.out.1⟩)
 have HM1:=hid (mmul_any a aO j O c cO (q:Int) w4 (HJ.out.kp (HK4.out.trans k4)) rO hl lO (HT.out.kp (HK4.out.trans k4)))
 rw[HJT.out.mul HO.out hq0 hq1] at HM1
 have HK5:=hid (HK4.out.trans k4)
 have HKL:=hid k4
 clear rO pO oO lO k4 s0 s1 s2
 go_wp2_with fail
 go_fit HM1.out
 rintro e w5 ⟨aP,P,cP,rfl,rP,pP,oP,lP,k5⟩
 have HPT:=hid (show Tab2 P f.cs.length _ from ⟨pP,oP,HLF.out.1⟩)
 have HM2:=hid (mmul_any aW aP WW P cW cP (q:Int) w5 (HW4.out.kp (HKL.out.trans k5)) rP HWR.out.2 lP (HT.out.kp (HK5.out.trans k5)))
 rw[HTW.out.mul HPT.out hq0 hq1] at HM2
 have HK6:=hid (HK5.out.trans k5)
 replace HKL:=hid (HKL.out.trans k5)
 clear rP pP oP lP k5 HM1
 go_wp2_with fail
 go_fit HM2.out
 rintro e w6 ⟨aM,M,cM,rfl,rM,pM,oM,lM,k6⟩
 have HMT:=hid (show Tab2 M f.cs.length _ from ⟨pM,oM,HLF.out.1⟩)
 have HA1:=hid (mapply_any aW da WW cur cW dc (q:Int) w6 (HW4.out.kp (HKL.out.trans k6)) (HDD.out.1.kp (HKL.out.trans k6)) HWR.out.2 hlc (HT.out.kp (HK6.out.trans k6)))
 rw[HTW.out.apply HDD.out.2.2 (by have:=HRe.out;have:=HFL.out.2.2.1;omega) hq0 hq1] at HA1
 have HMM:=hid (And.intro rM lM)
 have HK7:=hid (HK6.out.trans k6)
 replace HKL:=hid (HKL.out.trans k6)
 clear rM pM oM lM k6 HM2
 go_wp2_with fail
 go_fit HA1.out
 rintro e w7 ⟨aA,AA,cA,rfl,rA,pA,vA,lA,k7⟩
 have HAA:=hid (And.intro rA (And.intro pA (And.intro vA lA)))
 have HK8:=hid (HK7.out.trans k7)
 replace HKL:=hid (HKL.out.trans k7)
 have HMK:=hid (HMM.out.1.kp k7)
 obtain⟨s0,s1,s2⟩:=keepF HKL.out HSw.out
 have HA2:=hid (mapply_any aM f.ra M f.rs cM f.rc (q:Int) w7 HMK.out (HF.out.2.2.1.kp HK8.out) HMM.out.2 HF.out.2.2.2 (HT.out.kp HK8.out))
 rw[HMT.out.apply (fun x hx=>(goodZ_iff.1 (HLF.out.2.2.2.2 x hx)).2.1) HLF.out.2.1.2 hq0 hq1] at HA2
 clear rA pA vA lA k7 HA1 HMM
 go_wp2_with fail
 go_fit HA2.out
 rintro e w8 ⟨aB,BB,cB,rfl,rB,pB,vB,lB,k8⟩
 have HK9:=hid (HK8.out.trans k8)
 have HXX:=hid (crdX_of (j:=j) (z:=z) (g:=g) (d:=cur) HLF.out.1.1 (by rw[HDD.out.2.1,HGG.out]) HAA.out.2.1 pB)
 have hAl:=(plR_rowG HAA.out.2.1).1
 have hBl:=(plR_rowG pB).1
 have HRA:=hid (And.intro (HAA.out.1.kp k8) HAA.out.2.2.1)
 have HRB:=hid (And.intro rB vB)
 obtain⟨FF,hFF⟩:∃ FF:Nat→PI,FF=fun i=>pAdd (rowG AA i) (rowG BB i) q:=⟨_,rfl⟩
 have HDV:=hid (show D=crdV (rowF AA.length FF) by rw[HDX.out,← HXX.out,hFF,hAl])
 have HFF:=hid hFF
 have hl8:AA.length≤8:=by have:=HLF.out.1;omega
 have hll:(BB.length:Int)=(AA.length:Int):=by omega
 have HLL:=hid hll
 clear rB pB vB lB k8 HA2 s0 s1 s2 hAl hBl HXX hFF
 go_wp2_with fail
 clear hll
 go_loopg [23,148] AA.length (fun y u t wr=>∃ cur:List RI,cur.length+y=AA.length∧t=.int .i64 (cur.length:Int)∧OwnN w8 wr u cur∧plR cur=rowF cur.length FF∧(∀ x∈cur,x.vl=true)∧∀ i,i<cur.length→(FF i).all=false)
 case atStart=>exact⟨[],by simp,rfl,OwnN.nil (Kp.refl _),rfl,fun x h=>by simp at h,fun i h=>by simp at h⟩
 case round =>
 obtain⟨out,hcq,rfl,hown,hpc,hvc,hal⟩:=hrel
 by_cases hlt:out.length<AA.length
 rotate_left
 · have hRe:out.length=AA.length:=by omega
   obtain⟨xa,xc,rfl,_,_,hrm⟩:=hown.value
   have HE:=hid (show D=(rowF AA.length FF,0) by rw[HDV.out];exact crdV_none (fun i hi=>hal i (by omega)))
   have HRe:=hid (And.intro hrm (And.intro (show plR out=rowF AA.length FF by rw[hpc,hRe]) hvc))
   have HK10:=hid (HK9.out.trans hown.1)
   have hlo:out.length≤1100000:=by omega
   clear hRe hcq hrm hpc hvc hal hown
   go_wp2_with fail
   rw[HE.out]
   refine bodyPost_ret (v:=.tuple #[.slice xa out.length xc,.int .i64 0]) (by simp[results,Tryz.results25,go_sem]) rfl ?_
   exact⟨xa,out,xc,rfl,HRe.out.1,HRe.out.2.1,HRe.out.2.2,hlo,HK10.out⟩
 obtain⟨x,hx⟩:∃ x,AA[out.length]? = some x:=⟨_,List.getElem?_eq_getElem hlt⟩
 obtain⟨y,hy⟩:∃ y,BB[out.length]? = some y:=⟨_,List.getElem?_eq_getElem (by have:=HLL.out;omega)⟩
 obtain⟨b1,o1,e1,rx,s0,s1,s2,s3,s4,s5,s6⟩:=(HRA.out.1.kp hown.1) out.length x hx
 obtain⟨b2,o2,e2,ry,u0,u1,u2,u3,u4,u5,u6⟩:=(HRB.out.1.kp hown.1) out.length y hy
 subst e1
 subst e2
 have HKW:=hid (HK9.out.trans hown.1)
 have HC:=hid (fun (W:World) (k:Kp wr W)=>IAdd_any x y q W (rx.kp k) (ry.kp k) (HRA.out.2 x (List.mem_of_getElem? hx)) (HRB.out.2 y (List.mem_of_getElem? hy)) hq0 hq1 (HT.out.kp (HKW.out.trans k)))
 have HZF:=hid (show pAdd x.pl y.pl q=FF out.length by rw[HFF.out];show _=pAdd (rowG AA out.length) (rowG BB out.length) q;rw[rowG_eq hx,rowG_eq hy])
 have HPC:=hid (And.intro hpc (And.intro hvc (And.intro hcq (And.intro hlt hal))))
 have HOW:=hid hown
 have hj1:(0:Int)≤(out.length:Int):=by omega
 have hj2:(out.length:Int)<(AA.length:Int):=by omega
 have hj3:(out.length:Int)<(BB.length:Int):=by have:=HLL.out;omega
 have hcl:out.length+1≤9000000:=by omega
 have hb1:b1<wr.heap.size:=World.block_lt_of_cell? _ _ s0
 have hb2:b2<wr.heap.size:=World.block_lt_of_cell? _ _ u0
 have HS0:=hid (And.intro (And.intro s0 (And.intro s1 (And.intro s2 (And.intro s3 (And.intro s4 (And.intro s5 s6)))))) (And.intro u0 (And.intro u1 (And.intro u2 (And.intro u3 (And.intro u4 (And.intro u5 u6)))))))
 have kd:=hid (Kp.refl wr).drew
 have KZ:=hid (show Kp wr (wr.alloc (.cells #[.bool false,.slice none 0 0,.int .i64 0,.bool false,.slice none 0 0,.int .i64 0,.bool false] 44)).drew from kd.out.trans ((Kp.refl wr.drew).alloc _))
 have BZ:=hid (show Var7 (wr.alloc (.cells #[.bool false,.slice none 0 0,.int .i64 0,.bool false,.slice none 0 0,.int .i64 0,.bool false] 44)).drew wr.heap.size from Var7.new wr.drew _)
 have hSd:=keep77a kd.out HS0.out
 have HSZ:=hid (keep77a KZ.out HS0.out)
 clear hx hy rx ry hpc hvc hcq hlt hal hown s0 s1 s2 s3 s4 s5 s6 u0 u1 u2 u3 u4 u5 u6
 go_upto_region 33 with fail
 go_cut [25] from 150 to 161 (fun s wx=>∃ bb:Nat,s=.pointer (some ⟨bb,0,none⟩)∧HasI wr wx bb (FF out.length))
 case first =>
   go_region_held3 (fun w'=>(w'.cell? ⟨b1,o1+out.length*7,none⟩=some (.bool x.lo.neg)∧w'.cell? ⟨b1,o1+out.length*7+1,none⟩=some (.slice x.lo.a x.lo.xs.length x.lo.c)∧w'.cell? ⟨b1,o1+out.length*7+2,none⟩=some (.int .i64 x.lo.e)∧w'.cell? ⟨b1,o1+out.length*7+3,none⟩=some (.bool x.hi.neg)∧w'.cell? ⟨b1,o1+out.length*7+4,none⟩=some (.slice x.hi.a x.hi.xs.length x.hi.c)∧w'.cell? ⟨b1,o1+out.length*7+5,none⟩=some (.int .i64 x.hi.e)∧w'.cell? ⟨b1,o1+out.length*7+6,none⟩=some (.bool x.all))∧(w'.cell? ⟨b2,o2+out.length*7,none⟩=some (.bool y.lo.neg)∧w'.cell? ⟨b2,o2+out.length*7+1,none⟩=some (.slice y.lo.a y.lo.xs.length y.lo.c)∧w'.cell? ⟨b2,o2+out.length*7+2,none⟩=some (.int .i64 y.lo.e)∧w'.cell? ⟨b2,o2+out.length*7+3,none⟩=some (.bool y.hi.neg)∧w'.cell? ⟨b2,o2+out.length*7+4,none⟩=some (.slice y.hi.a y.hi.xs.length y.hi.c)∧w'.cell? ⟨b2,o2+out.length*7+5,none⟩=some (.int .i64 y.hi.e)∧w'.cell? ⟨b2,o2+out.length*7+6,none⟩=some (.bool y.all)))
     (first | with_reducible assumption | with_reducible exact HSZ.out | with_reducible exact keep77a (by assumption) (by assumption) | with_reducible exact keep77a ((Kp.refl _).alloc _) (by assumption) | with_reducible exact set77y (by omega) (by omega) (by assumption) | with_reducible exact set77ay (by omega) (by omega) (by assumption) | fail)
     (first
       | (go_at_call 80; (with_reducible refine (HC.out _ kd.out).mono ?_); rintro e v1 ⟨zz, rfl, hz, hzp, hzv, j1⟩
          have hSn:=keep77a j1 hSd
          have KJ:=hid (kd.out.trans j1)
          have OZ:=hid (And.intro hz (And.intro (hzp.trans HZF.out) hzv))
          clear hz hzp hzv)
       | (go_at_call 80; (with_reducible refine (HC.out _ KZ.out).mono ?_); rintro e v1 ⟨zz, rfl, hz, hzp, hzv, j1⟩
          have hSn:=keep77a j1 HSZ.out
          have KJ:=hid (KZ.out.trans j1)
          have BV:=BZ.out.kp j1
          obtain⟨⟨q0,q1,q2,q3,q4,q5,q6⟩,f0,f1,f2,f3,f4,f5,f6⟩:=id BV
          have OZ:=hid (And.intro hz (And.intro (hzp.trans HZF.out) hzv))
          clear hz hzp hzv)
       | fail)
   all_goals
     go_wp2_with fail
     go_meet
     case rel=>first
       | exact⟨_,rfl,hasI_store BV.1 BV.2 nofun nofun nofun nofun nofun nofun nofun OZ.out.1 OZ.out.2.1 OZ.out.2.2 KJ.out (Nat.le_refl _)⟩
       | exact⟨_,rfl,hasI_alloc OZ.out.1 OZ.out.2.1 OZ.out.2.2 KJ.out _⟩
 case rest =>
 obtain⟨bb,rfl,hI⟩:=hcut
 obtain⟨W2,hW2⟩:∃ x:World,x=wc:=⟨_,rfl⟩
 subst hW2
 obtain⟨zz,hB,hz,hzp,hzv,k2,hbb⟩:=hI
 obtain⟨⟨q0,q1,q2,q3,q4,q5,q6⟩,_⟩:=hB
 have HZP:=hid (And.intro hzp hzv)
 have hOW2:=HOW.out.kp k2
 have HK2:=hid (HKW.out.trans k2)
 have HRD:=hid hz
 clear hSd HC HS0 HSZ kd KZ BZ hz hzp hzv k2 hbb hb1 hb2
 cases hall:zz.all with
 | true =>
   rw[hall] at q6
   have HE:=hid (show D=([],11) by
     rw[HDV.out]
     refine crdV_some HPC.out.2.2.2.1 ?_
     rw[← HZP.out.1];exact hall)
   clear hall
   go_wp2_with fail
   rw[HE.out]
   refine bodyPost_ret (v:=.tuple #[.slice none 0 0,.int .i64 11]) (by simp[results,Tryz.results25,go_sem]) rfl ?_
   exact rowE_nil rfl HK2.out
 | false =>
 have HAL:=hid hall
 have q6b:=q6
 rw[hall] at q6
 have hzA:=HRD.out.kp ((Kp.refl W2).alloc (.cells #[.bool zz.lo.neg,.slice zz.lo.a zz.lo.xs.length zz.lo.c,.int .i64 zz.lo.e,.bool zz.hi.neg,.slice zz.hi.a zz.hi.xs.length zz.hi.c,.int .i64 zz.hi.e,.bool false] 44))
 have hownA:=hOW2.kp ((Kp.refl W2).alloc (.cells #[.bool zz.lo.neg,.slice zz.lo.a zz.lo.xs.length zz.lo.c,.int .i64 zz.lo.e,.bool zz.hi.neg,.slice zz.hi.a zz.hi.xs.length zz.hi.c,.int .i64 zz.hi.e,.bool false] 44))
 clear hall q6b
 go_wp2_with (at_builtin;refine wpList_append_ivg rfl _ _ rfl w8 _ out rfl hownA _ _ rfl zz hzA (by have:=HAL.out;simp[this]) hcl ?_;intro a' c' w9 hown9 hgrow hblk)
 go_roundg (gk-1)
 case measure=>have:=HPC.out.2.2.2.1;have:=HPC.out.2.2.1;omega
 case rel =>
 refine⟨out++[zz],by have:=HPC.out.2.2.1;rw[List.length_append,List.length_singleton];omega,by rw[List.length_append,List.length_singleton];go_num,by simpa using hown9,?_,ok_snoc HPC.out.2.1 HZP.out.2,?_⟩
 · rw[plR_snoc,HPC.out.1,List.length_append,List.length_singleton,rowF_snoc,HZP.out.1]
 intro i hi
 rw[List.length_append,List.length_singleton] at hi
 by_cases h:i<out.length
 · exact HPC.out.2.2.2.2 i h
 have:i=out.length:=by omega
 subst this
 rw[← HZP.out.1];exact HAL.out
end Go.Proofs.YtbhmhfnfceakoaaGreatDoor
