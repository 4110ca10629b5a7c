/-
  Plain: the example of the frames; no program in sight.
-/
import Derived.Test.YtbhmhfnfceakoaaGreatDoorMEchM
namespace Go.Proofs.YtbhmhfnfceakoaaGreatDoor
open Go.RowKit
theorem intD_lt_iff {a b:Int}:(intD a).iv<(intD b).iv↔a<b:=by
 refine⟨fun h=>?_,intD_lt⟩
 rcases Int.lt_or_le a b with h1 | h1
 ·exact h1
 have:=intD_le h1;omega
theorem pMul_scl {a b c:Int} {p:Nat} (hp:8≤p) (hp2:p≤512) (h:(a*b).natAbs<2 ^ p) (h2:(a*c).natAbs<2 ^ p) (hbc:a*b≤a*c):pMul (pnI a a) (pnI b c) p=pnI (a*b) (a*c):=by
 unfold pMul pairsP pnI
 simp only[Bool.or_self,Bool.false_eq_true,if_false,fourP,muP_int hp hp2 h,muP_int hp hp2 h2]
 simp only[ne_eq,not_true_eq_false,or_self,if_false,intD_lt_iff]
 have h3:¬ a*c<a*b:=by omega
 by_cases h4:a*b<a*c
 ·rw[if_neg h3,if_pos h4]
  simp[intD_lt_iff,h3]
 have h5:a*b=a*c:=by omega
 rw[h5]
 simp
theorem ptP_int {d:RD} {a:Int} (h:d.dy=intD a):ptP d=pnI a a:=by unfold ptP pnI;rw[h]
def exF (f:RF):Prop:=∃ (c0 c1 a0 a1 a2 a3:RD) (r0 r1:RI),f.cs=[c0,c1]∧f.ms=[[a0,a1],[a2,a3]]∧f.rs=[r0,r1] ∧
 (c0.dy=intD 1∧c1.dy=intD 1)∧(a0.dy=intD 1∧a1.dy=intD 1∧a2.dy=intD 0∧a3.dy=intD 1)∧(r0.pl=pnI (-1) 1∧r1.pl=pnI 0 2) ∧
 (c0.vl=true∧c1.vl=true∧a0.vl=true∧a1.vl=true∧a2.vl=true∧a3.vl=true∧r0.vl=true∧r1.vl=true)
theorem goodZ_int {x:RI} {a b:Int} (h:x.pl=pnI a b) (hv:x.vl=true) (ha:a≤0) (hb:0≤b):goodZ x=true:=by
 have e1:x.lo.iv=(intD a).iv:=congrArg (fun X:PI=>X.lo.iv) h
 have e2:x.hi.iv=(intD b).iv:=congrArg (fun X:PI=>X.hi.iv) h
 have z:(intD 0).iv=0:=by rw[intD_iv];omega
 have:=intD_le ha
 have:=intD_le hb
 exact goodZ_iff.2 ⟨congrArg PI.all h,hv,by omega,by omega⟩
theorem exF_vl {f:RF} (h:exF f):vlF f=true:=by
 obtain⟨c0,c1,a0,a1,a2,a3,r0,r1,e1,e2,e3,_,_,⟨p0,p1⟩,v1,v2,v3,v4,v5,v6,v7,v8⟩:=h
 have g0:=goodZ_int p0 v7 (by decide) (by decide)
 have g1:=goodZ_int p1 v8 (by decide) (by decide)
 unfold vlF
 rw[e1,e2,e3]
 simp[v1,v2,v3,v4,v5,v6,g0,g1]
theorem exF_box {f:RF} (h:exF f):boxF f 24=[pnI 0 4,pnI 1 3]:=by
 obtain⟨c0,c1,a0,a1,a2,a3,r0,r1,e1,e2,e3,⟨d0,d1⟩,⟨d2,d3,d4,d5⟩,⟨p0,p1⟩,_⟩:=h
 unfold boxF
 rw[e1,e2,e3]
 show [pAdd (ptP c0) (dotF 24 (fun t=>ptP (atN [[a0,a1],[a2,a3]] 0 t)) (rowG [r0,r1]) 1) 24,pAdd (ptP c1) (dotF 24 (fun t=>ptP (atN [[a0,a1],[a2,a3]] 1 t)) (rowG [r0,r1]) 1) 24]=_
 have k0:dotF 24 (fun t=>ptP (atN [[a0,a1],[a2,a3]] 0 t)) (rowG [r0,r1]) 1=pAdd (pMul (ptP a0) r0.pl 24) (pMul (ptP a1) r1.pl 24) 24:=rfl
 have k1:dotF 24 (fun t=>ptP (atN [[a0,a1],[a2,a3]] 1 t)) (rowG [r0,r1]) 1=pAdd (pMul (ptP a2) r0.pl 24) (pMul (ptP a3) r1.pl 24) 24:=rfl
 rw[k0,k1,ptP_int d0,ptP_int d1,ptP_int d2,ptP_int d3,ptP_int d4,ptP_int d5,p0,p1]
 rw[pMul_scl (a:=1) (b:=-1) (c:=1) (by decide) (by decide) (by decide) (by decide) (by decide),pMul_scl (a:=1) (b:=0) (c:=2) (by decide) (by decide) (by decide) (by decide) (by decide),
  pMul_scl (a:=0) (b:=-1) (c:=1) (by decide) (by decide) (by decide) (by decide) (by decide)]
 rw[pAdd_int (by decide) (by decide) (by decide) (by decide),pAdd_int (by decide) (by decide) (by decide) (by decide),pAdd_int (by decide) (by decide) (by decide) (by decide),pAdd_int (by decide) (by decide) (by decide) (by decide)]
 rfl
theorem chk_int {a:Int} (h:a.natAbs≤1000):chk (intD a)=(intD a,0):=chk_of_ok (intD_oks h)
theorem sumD_int {a b:Int} (h:(a+b).natAbs≤1000):sumD (intD a) (intD b)=intD (a+b):=by
 have h1:(sumD (intD a) (intD b)).iv=(intD (a+b)).iv:=by rw[sumD_iv,intD_iv,intD_iv,intD_iv,Int.add_mul]
 unfold sumD at h1 ⊢
 rw[ofI_iv] at h1
 rw[h1]
 exact ofI_of_ok (intD_oks h)
theorem intD_e (a:Int):0≤(intD a).e:=by
 unfold intD canon
 split
 ·exact Int.le_refl 0
 show (0:Int)≤0+(tz a.natAbs:Int)
 omega
theorem prodD_int {a b:Int} (h:(a*b).natAbs≤1000):prodD (intD a) (intD b)=intD (a*b):=by
 have ea:=intD_e a
 have eb:=intD_e b
 have h1:=prod_iv (a:=intD a) (b:=intD b) (by omega) (by omega)
 have h2:=canon_ofI ((intD a).neg != (intD b).neg) ((intD a).m*(intD b).m) ((intD a).e+(intD b).e) (by omega)
 have h3:prodD (intD a) (intD b)=ofI (sg ((intD a).neg != (intD b).neg) ((intD a).m*(intD b).m*2 ^ ((intD a).e+(intD b).e+16384).toNat)):=h2
 have h4:((intD a).e+(intD b).e+32768).toNat=((intD a).e+(intD b).e+16384).toNat+16384:=by omega
 have h6:sg ((intD a).neg != (intD b).neg) ((intD a).m*(intD b).m)*(2:Int) ^ ((intD a).e+(intD b).e+16384).toNat=sg ((intD a).neg != (intD b).neg) ((intD a).m*(intD b).m*2 ^ ((intD a).e+(intD b).e+16384).toNat):=by
  rw[← sg_mul,Int.natCast_pow];rfl
 rw[h4,Int.pow_add,← Int.mul_assoc,h6,intD_iv,intD_iv] at h1
 rw[h3]
 have hQ:=twoK_pos 16384
 have h5:sg ((intD a).neg != (intD b).neg) ((intD a).m*(intD b).m*2 ^ ((intD a).e+(intD b).e+16384).toNat)=(intD (a*b)).iv:=by
  rw[intD_iv]
  generalize sg _ _=V at *
  generalize (2:Int) ^ 16384=Q at *
  refine Int.eq_of_mul_eq_mul_right (by omega) (h1.symm.trans ?_)
  rw[Int.mul_assoc,Int.mul_left_comm Q b Q,← Int.mul_assoc,← Int.mul_assoc]
 rw[h5]
 exact ofI_of_ok (intD_oks h)
theorem ptR_int {a y:RD} {r z:List RD} {s u v:Int} (ha:a.dy=intD u) (hy:y.dy=intD v) (h1:(u*v).natAbs≤1000) (h2:(s+u*v).natAbs≤1000):ptR (a::r) (y::z) (intD s)=ptR r z (intD (s+u*v)):=by
 conv=>lhs;unfold ptR
 rw[ha,hy,prodD_int h1,chk_int h1]
 show (if (0:Int)≠0 then none else if (chk (sumD (intD s) (intD (u*v)))).2≠0 then none else ptR r z (chk (sumD (intD s) (intD (u*v)))).1)=_
 rw[sumD_int h2,chk_int h2]
 rfl
theorem exF_pt {f:RF} (h:exF f) {z0 z1:RD} (h0:z0.dy=intD 1) (h1:z1.dy=intD 2):ptM [z0,z1] (f.cs.zip f.ms)=some [intD 4,intD 3]:=by
 obtain⟨c0,c1,a0,a1,a2,a3,r0,r1,e1,e2,e3,⟨d0,d1⟩,⟨d2,d3,d4,d5⟩,_,_⟩:=h
 rw[e1,e2]
 have k0:ptR [a0,a1] [z0,z1] (intD 1)=some (intD 4):=by
  rw[ptR_int d2 h0 (by decide) (by decide),ptR_int d3 h1 (by decide) (by decide)]
  rfl
 have k1:ptR [a2,a3] [z0,z1] (intD 1)=some (intD 3):=by
  rw[ptR_int d4 h0 (by decide) (by decide),ptR_int d5 h1 (by decide) (by decide)]
  rfl
 show ptM [z0,z1] [(c0,[a0,a1]),(c1,[a2,a3])]=_
 unfold ptM
 rw[d0,k0]
 unfold ptM
 rw[d1,k1]
 rfl
end Go.Proofs.YtbhmhfnfceakoaaGreatDoor
