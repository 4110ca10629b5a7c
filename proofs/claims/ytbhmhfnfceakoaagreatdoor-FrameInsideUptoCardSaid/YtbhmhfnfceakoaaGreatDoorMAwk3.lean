/-
  Walks: the example of chapter 3: DivDown, DivUp, SqrtDown, Near at its numbers; the law's awake.
-/
import Derived.Test.YtbhmhfnfceakoaaGreatDoorMSumG
namespace Go.Proofs.YtbhmhfnfceakoaaGreatDoor
open Go.RowKit
open Lib (hid)
theorem rndB_rnd {w:World} {x:RD} (hx:x.ok w) {p:Int} (h0:8≤p) (h1:p≤512) (up:Bool):rndB x p up=rndE (rnd 0 x.iv p.toNat up):=by
 unfold rndB
 rw[if_pos (fltB_zero.2 ⟨by simp[hx.2],h0,h1⟩)]
 exact congrArg rndE (rndS_rnd (rdok_dy hx) (by omega) up)
theorem rndE_some {r:Option Dy} (h:(rndE r).2=0):r=some (rndE r).1:=by
 cases r with
 | some d=>rfl
 | none=>cases h
theorem bits_mul_le (a b:Nat):bits (a*b)≤bits a+bits b:=bits_le.2 (by rw[Nat.pow_add];exact Nat.mul_lt_mul'' (lt_two_pow_bits a) (lt_two_pow_bits b))
def mulB (x y:RD) (p:Int) (up:Bool):Dy×Int :=
 if fltB p [x,y]=0 then (if x.xs.length=0∨y.xs.length=0 then (.zero,0) else rndE (rndS (x.neg != y.neg) (val x.xs*val y.xs) (x.e+y.e) false p.toNat up)) else (.zero,fltB p [x,y])
set_option maxRecDepth 100000 in
set_option maxHeartbeats 8000000 in
theorem mul_rd (x y:RD) (p:Int) (up:Bool) (w:World) (hx:x.rd w) (hy:y.rd w) (hT:Tab w) :
  Calls Tryz.prog 165 #[.agg #[.bool x.neg,.slice x.a x.xs.length x.c,.int .i64 x.e],.agg #[.bool y.neg,.slice y.a y.xs.length y.c,.int .i64 y.e],.int .i64 p,.bool up] w (NumE w (mulB x y p up).1 (mulB x y p up).2):=by
 obtain⟨D,hD⟩:∃ D,D=mulB x y p up:=⟨_,rfl⟩
 have HD:=hid hD
 rw[← hD]
 clear hD
 go_enter Tryz.func165,Tryz.ntmps165
 go_wp2_with fail
 generalize hW:(((w.alloc _).alloc _).alloc _)=W at *
 have hk:Kp w W:=hW▸(((Kp.refl w).alloc _).alloc _).alloc _
 have hS:W.cell? ⟨w.heap.size,0,none⟩=some (.bool x.neg)∧W.cell? ⟨w.heap.size,1,none⟩=some (.slice x.a x.xs.length x.c)∧W.cell? ⟨w.heap.size,2,none⟩=some (.int .i64 x.e)∧W.cell? ⟨w.heap.size+1,0,none⟩=some (.bool y.neg)∧W.cell? ⟨w.heap.size+1,1,none⟩=some (.slice y.a y.xs.length y.c)∧W.cell? ⟨w.heap.size+1,2,none⟩=some (.int .i64 y.e):=by rw[← hW];exact keep6 ((Kp.refl _).alloc _) (by simp)
 have hB:Box3 W (w.heap.size+2) (.bool false) (.slice none 0 0) (.int .i64 0):=hW▸Box3.new3 _ _ _ _ _ _ _
 have hsz:W.heap.size=w.heap.size+1+1+1:=by rw[← hW];simp
 clear hW
 have hka:=(Kp.refl W).alloc (.cells #[.bool x.neg,.slice x.a x.xs.length x.c,.int .i64 x.e,.bool y.neg,.slice y.a y.xs.length y.c,.int .i64 y.e] 38)
 have hRw:=rowD_two W x y (hx.kp hk) (hy.kp hk) 38
 rw[hsz] at hRw
 clear hsz
 refine (fault_any p _ [x,y] 2 _ hRw (by simp)).mono ?_
 rintro e w1 ⟨rfl,hk1⟩
 have hS1:=keepRR (hka.trans hk1) hS
 have hB1:=hB.kp (hka.trans hk1)
 have hk2:=hk.trans (hka.trans hk1)
 clear hS hB hk hk1 hka hRw
 by_cases h0:fltB p [x,y]=0
 rotate_left
 ·have hz:(fltB p [x,y]==0)=false:=beq_eq_false_iff_ne.2 h0
  have hz2:(fltB p [x,y] != 0)=true:=by rw[bne,hz];rfl
  have HD2:=hid (show D=(.zero,fltB p [x,y]) by rw[HD.out];unfold mulB;rw[if_neg h0])
  clear h0 hS1
  obtain⟨q0,q1,q2,f0,f1,f2⟩:=hB1
  go_wp2_with fail
  have hst:=stored q0 q1 q2 nofun nofun nofun (.bool false) (.slice none 0 0) (.int .i64 0)
  generalize (((w1.setCell _ _).setCell _ _).setCell _ _)=W9 at hst ⊢
  obtain⟨s0,s1,s2,_,s4,s5,_,_⟩:=hst
  refine bodyPost_ret (v:=.tuple #[.agg #[.bool false,.slice none 0 0,.int .i64 0],.int .i64 (fltB p [x,y])]) (by simp[results,Tryz.results165,go_sem,s0,s1,s2]) rfl ?_
  rw[HD2.out]
  exact numE_zero rfl (s5 _ hk2 (by omega))
 obtain⟨hv,hp0,hp1⟩:=fltB_zero.1 h0
 obtain⟨q,rfl⟩:=Int.eq_ofNat_of_zero_le (show 0≤p by omega)
 have hxo:x.ok w1:=⟨hx.kp hk2,by simpa using (List.all_eq_true.1 hv) x (by simp)⟩
 have hyo:y.ok w1:=⟨hy.kp hk2,by simpa using (List.all_eq_true.1 hv) y (by simp)⟩
 have HD2:=hid (show D=(if x.xs.length=0∨y.xs.length=0 then (.zero,0) else rndE (rndS (x.neg != y.neg) (val x.xs*val y.xs) (x.e+y.e) false q up)) by
  rw[HD.out];unfold mulB;rw[if_pos h0];rfl)
 rw[h0]
 clear h0 hv
 have hT1:=hT.kp hk2
 by_cases hx0:x.xs.length=0
 ·have hz:((x.xs.length:Int)==0)=true:=beq_iff_eq.2 (by omega)
  have HD3:=hid (show D=(.zero,0) by rw[HD2.out,if_pos (.inl hx0)])
  clear hx0
  obtain⟨q0,q1,q2,f0,f1,f2⟩:=hB1
  obtain⟨s0,s1,s2,t0,t1,t2⟩:=hS1
  go_wp2_with fail
  have hst:=stored q0 q1 q2 nofun nofun nofun (.bool false) (.slice none 0 0) (.int .i64 0)
  generalize (((w1.setCell _ _).setCell _ _).setCell _ _)=W9 at hst ⊢
  obtain⟨s0,s1,s2,_,s4,s5,_,_⟩:=hst
  refine bodyPost_ret (v:=.tuple #[.agg #[.bool false,.slice none 0 0,.int .i64 0],.int .i64 0]) (by simp[results,Tryz.results165,go_sem,s0,s1,s2]) rfl ?_
  rw[HD3.out]
  exact numE_zero rfl (s5 _ hk2 (by omega))
 have hz:((x.xs.length:Int)==0)=false:=beq_eq_false_iff_ne.2 (by omega)
 by_cases hy0:y.xs.length=0
 ·have hz2:((y.xs.length:Int)==0)=true:=beq_iff_eq.2 (by omega)
  have HD3:=hid (show D=(.zero,0) by rw[HD2.out,if_pos (.inr hy0)])
  clear hy0 hx0
  obtain⟨q0,q1,q2,f0,f1,f2⟩:=hB1
  obtain⟨s0,s1,s2,t0,t1,t2⟩:=hS1
  go_wp2_with fail
  have hst:=stored q0 q1 q2 nofun nofun nofun (.bool false) (.slice none 0 0) (.int .i64 0)
  generalize (((w1.setCell _ _).setCell _ _).setCell _ _)=W9 at hst ⊢
  obtain⟨s0,s1,s2,_,s4,s5,_,_⟩:=hst
  refine bodyPost_ret (v:=.tuple #[.agg #[.bool false,.slice none 0 0,.int .i64 0],.int .i64 0]) (by simp[results,Tryz.results165,go_sem,s0,s1,s2]) rfl ?_
  rw[HD3.out]
  exact numE_zero rfl (s5 _ hk2 (by omega))
 have hz2:((y.xs.length:Int)==0)=false:=beq_eq_false_iff_ne.2 (by omega)
 have HD3:=hid (show D=rndE (rndS (x.neg != y.neg) (val x.xs*val y.xs) (x.e+y.e) false q up) by
  rw[HD2.out,if_neg (by rintro (h | h);exact hx0 h;exact hy0 h)])
 clear hx0 hy0
 obtain⟨s0,s1,s2,t0,t1,t2⟩:=hS1
 have hlx:=rdok_len hxo
 have hly:=rdok_len hyo
 have hex:=rdok_e hxo
 have hey:=rdok_e hyo
 have HP:=hid (show (limbs (val x.xs*val y.xs)).length≤256 by
  refine limbs_of_bits ?_
  have h1:bits (val x.xs)≤4096:=dok_bits (rdok_dy hxo)
  have h2:bits (val y.xs)≤4096:=dok_bits (rdok_dy hyo)
  exact Nat.le_trans (bits_mul_le _ _) (by omega))
 have Hmu:=hid (Mul_any x.a y.a x.xs y.xs x.c y.c w1 hxo.1.1 hyo.1.1 (by omega) (by omega) hxo.1.2.1 hyo.1.2.1 hxo.1.2.2.1 hyo.1.2.2.1 HP.out)
 go_wp2_with fail
 refine Hmu.out.mono ?_
 rintro e w3 ⟨a3,c3,rfl,l3,m3,rd3,k3⟩
 generalize val x.xs*val y.xs=N at *
 have u0:=k3.cell s0
 have u2:=k3.cell s2
 have v0:=k3.cell t0
 have v2:=k3.cell t2
 have hB3:=hB1.kp k3
 have hk4:=hk2.trans k3
 have hT4:=hT1.kp k3
 have hwe:IntKind.i64.wrap (x.e+y.e)=x.e+y.e:=IntWalk.i64_in _ (by omega)
 clear s0 s1 s2 t0 t1 t2 hB1 hk2 k3 hT1 Hmu
 go_wp2_with fail
 have Hsg:=signed_any (x.neg != y.neg) a3 (limbs N) c3 (x.e+y.e) false q up w3 rd3 HP.out l3 m3 (by omega) (by omega) (by omega) (by omega) hT4
 rw[val_limbs] at Hsg
 refine Hsg.mono ?_
 clear Hsg
 rintro e w9 ⟨z,rfl,hzr,hzd,hzv,hk9⟩
 obtain⟨q0,q1,q2,f0,f1,f2⟩:=hB3.kp hk9
 have hkk:=hk4.trans hk9
 clear u0 u2 v0 v2 hB3 hk4 hk9 hT4
 have hst:=stored q0 q1 q2 nofun nofun nofun (.bool z.neg) (.slice z.a z.xs.length z.c) (.int .i64 z.e)
 go_wp2_with fail
 generalize (((w9.setCell _ _).setCell _ _).setCell _ _)=W2 at hst ⊢
 obtain⟨s0,s1,s2,_,s4,s5,_,_⟩:=hst
 refine bodyPost_ret (v:=.tuple #[.agg #[.bool z.neg,.slice z.a z.xs.length z.c,.int .i64 z.e],.int .i64 (rndE (rndS (x.neg != y.neg) N (x.e+y.e) false q up)).2]) (by simp[results,Tryz.results165,go_sem,s0,s1,s2]) rfl ?_
 rw[HD3.out]
 exact⟨z,rfl,⟨s4 _ _ hzr.1,hzr.2⟩,hzd,hzv,s5 _ hkk (by omega)⟩
def prodD (d f:Dy):Dy:=canon (d.neg != f.neg) (d.m*f.m) (d.e+f.e)
theorem chk_zero_dy:chk Dy.zero=(.zero,0):=chk_of_ok Dy.ok_zero
theorem odd_mul {a b:Nat} (ha:a % 2=1) (hb:b % 2=1):a*b % 2=1:=by rw[Nat.mul_mod,ha,hb]
theorem bits_mul_ge {a b:Nat} (ha:a≠0) (hb:b≠0):bits a+bits b≤bits (a*b)+1:=by
 have h1:=two_pow_le_of_bits ha
 have h2:=two_pow_le_of_bits hb
 have h3:=bits_pos ha
 have h4:=bits_pos hb
 have h5:bits a-1+(bits b-1)<bits (a*b):=lt_bits.2 (by rw[Nat.pow_add];exact Nat.mul_le_mul h1 h2)
 omega
theorem ok_odd {d:Dy} (h:d.ok) (h0:d.m≠0):d.m % 2=1:=by
 rcases h with ⟨h1,_⟩ | ⟨h1,_⟩
 ·exact absurd h1 h0
 exact h1
theorem prod_big {d f:Dy} (hd:d.ok) (hf:f.ok) (hd0:d.m≠0) (hf0:f.m≠0) (h:4096<bits d.m+bits f.m-1):chk (prodD d f)=(.zero,9):=by
 have ho:=odd_mul (ok_odd hd hd0) (ok_odd hf hf0)
 have hb:=bits_mul_ge hd0 hf0
 unfold chk prodD
 rw[inrB_canon ho (by omega)];rfl
set_option maxRecDepth 100000 in
set_option maxHeartbeats 8000000 in
theorem Mul_rd (x y:RD) (w:World) (hx:x.ok w) (hy:y.ok w) (hT:Tab w) :
  Calls Tryz.prog 14 #[.agg #[.bool x.neg,.slice x.a x.xs.length x.c,.int .i64 x.e],.agg #[.bool y.neg,.slice y.a y.xs.length y.c,.int .i64 y.e]] w (NumE w (chk (prodD x.dy y.dy)).1 (chk (prodD x.dy y.dy)).2):=by
 obtain⟨D,hD⟩:∃ D,D=chk (prodD x.dy y.dy):=⟨_,rfl⟩
 have HD0:=hid hD
 rw[← hD]
 clear hD
 go_enter Tryz.func14,Tryz.ntmps14
 go_wp2_with fail
 generalize hW:(((w.alloc _).alloc _).alloc _)=W at *
 have hk:Kp w W:=hW▸(((Kp.refl w).alloc _).alloc _).alloc _
 have hS:W.cell? ⟨w.heap.size,0,none⟩=some (.bool x.neg)∧W.cell? ⟨w.heap.size,1,none⟩=some (.slice x.a x.xs.length x.c)∧W.cell? ⟨w.heap.size,2,none⟩=some (.int .i64 x.e)∧W.cell? ⟨w.heap.size+1,0,none⟩=some (.bool y.neg)∧W.cell? ⟨w.heap.size+1,1,none⟩=some (.slice y.a y.xs.length y.c)∧W.cell? ⟨w.heap.size+1,2,none⟩=some (.int .i64 y.e):=by rw[← hW];exact keep6 ((Kp.refl _).alloc _) (by simp)
 have hB:Box3 W (w.heap.size+2) (.bool false) (.slice none 0 0) (.int .i64 0):=hW▸Box3.new3 _ _ _ _ _ _ _
 clear hW
 refine (Valid_rok x _ (hx.kp hk)).mono ?_
 rintro e w1 ⟨rfl,hk1⟩
 have hS1:=keepRR hk1 hS
 have hB1:=hB.kp hk1
 have hk2:=hk.trans hk1
 clear hS hk hk1 hB
 obtain⟨s0,s1,s2,t0,t1,t2⟩:=id hS1
 go_wp2_with fail
 refine (Valid_rok y _ (hy.kp hk2)).mono ?_
 rintro e w2 ⟨rfl,hk3⟩
 clear s0 s1 s2 t0 t1 t2
 have hS2:=keepRR hk3 hS1
 have hB2:=hB1.kp hk3
 have hk4:=hk2.trans hk3
 have hx2:=hx.kp hk4
 have hy2:=hy.kp hk4
 have hT2:=hT.kp hk4
 clear hS1 hB1 hk2 hk3
 by_cases hx0:x.xs.length=0
 ·have hz:((x.xs.length:Int)==0)=true:=beq_iff_eq.2 (by omega)
  have HD:=hid (show D=(.zero,0) by
   rw[HD0.out];unfold prodD;rw[(rdok_zero hx2).1 hx0,Nat.zero_mul,canon_zero];exact chk_zero_dy)
  obtain⟨s0,s1,s2,t0,t1,t2⟩:=hS2
  clear hx0
  obtain⟨q0,q1,q2,f0,f1,f2⟩:=hB2
  go_wp2_with fail
  have hst:=stored q0 q1 q2 nofun nofun nofun (.bool false) (.slice none 0 0) (.int .i64 0)
  generalize (((w2.setCell _ _).setCell _ _).setCell _ _)=W9 at hst ⊢
  obtain⟨s0,s1,s2,_,s4,s5,_,_⟩:=hst
  refine bodyPost_ret (v:=.tuple #[.agg #[.bool false,.slice none 0 0,.int .i64 0],.int .i64 0]) (by simp[results,Tryz.results14,go_sem,s0,s1,s2]) rfl ?_
  rw[HD.out]
  exact numE_zero rfl (s5 _ hk4 (by omega))
 have hz:((x.xs.length:Int)==0)=false:=beq_eq_false_iff_ne.2 (by omega)
 have hxm:=hid (show x.dy.m≠0 from fun h=>hx0 ((rdok_zero hx2).2 h))
 clear hx0
 by_cases hy0:y.xs.length=0
 ·have hz2:((y.xs.length:Int)==0)=true:=beq_iff_eq.2 (by omega)
  have HD:=hid (show D=(.zero,0) by
   rw[HD0.out];unfold prodD;rw[(rdok_zero hy2).1 hy0,Nat.mul_zero,canon_zero];exact chk_zero_dy)
  obtain⟨s0,s1,s2,t0,t1,t2⟩:=hS2
  clear hy0
  obtain⟨q0,q1,q2,f0,f1,f2⟩:=hB2
  go_wp2_with fail
  have hst:=stored q0 q1 q2 nofun nofun nofun (.bool false) (.slice none 0 0) (.int .i64 0)
  generalize (((w2.setCell _ _).setCell _ _).setCell _ _)=W9 at hst ⊢
  obtain⟨s0,s1,s2,_,s4,s5,_,_⟩:=hst
  refine bodyPost_ret (v:=.tuple #[.agg #[.bool false,.slice none 0 0,.int .i64 0],.int .i64 0]) (by simp[results,Tryz.results14,go_sem,s0,s1,s2]) rfl ?_
  rw[HD.out]
  exact numE_zero rfl (s5 _ hk4 (by omega))
 have hz2:((y.xs.length:Int)==0)=false:=beq_eq_false_iff_ne.2 (by omega)
 have hym:=hid (show y.dy.m≠0 from fun h=>hy0 ((rdok_zero hy2).2 h))
 clear hy0
 obtain⟨s0,s1,s2,t0,t1,t2⟩:=id hS2
 go_wp2_with fail
 clear s0 s1 s2 t0 t1 t2
 have hS3:=keepRR (Kp.refl w2).drew hS2
 have hB3:=hB2.kp (Kp.refl w2).drew
 have hk5:=hk4.drew
 have hx3:=hx2.drew
 have hy3:=hy2.drew
 have hT3:=hT2.kp (Kp.refl w2).drew
 clear hS2 hB2 hk4 hx2 hy2 hT2
 have hbx:bits (val x.xs)≤4096:=dok_bits (rdok_dy hx3)
 have hby:bits (val y.xs)≤4096:=dok_bits (rdok_dy hy3)
 have Hsx:=hid (size_any x.a x.xs x.c w2.drew hx3.1.1 hx3.1.2.1 hx3.1.2.2.1 hx3.1.2.2.2.1)
 have Hsy:=hid (size_any y.a y.xs y.c w2.drew hy3.1.1 hy3.1.2.1 hy3.1.2.2.1 hy3.1.2.2.2.1)
 go_region_held3 (fun w'=>w'.cell? ⟨w.heap.size,0,none⟩=some (.bool x.neg)∧w'.cell? ⟨w.heap.size,1,none⟩=some (.slice x.a x.xs.length x.c)∧w'.cell? ⟨w.heap.size,2,none⟩=some (.int .i64 x.e)∧w'.cell? ⟨w.heap.size+1,0,none⟩=some (.bool y.neg)∧w'.cell? ⟨w.heap.size+1,1,none⟩=some (.slice y.a y.xs.length y.c)∧w'.cell? ⟨w.heap.size+1,2,none⟩=some (.int .i64 y.e)) (first | with_reducible assumption | with_reducible exact keepRR (by assumption) (by assumption))
  (first
   | (go_at_call 58;(with_reducible refine Hsx.out.mono ?_);rintro e w4 ⟨rfl,rfl⟩)
   | (go_at_call 58;(with_reducible refine Hsy.out.mono ?_);rintro e w5 ⟨rfl,rfl⟩)
   | fail)
 have hw1:IntKind.i64.wrap ((bits (val x.xs):Int)+(bits (val y.xs):Int))=(bits (val x.xs):Int)+(bits (val y.xs):Int):=IntWalk.i64_in _ (by omega)
 have hw2:IntKind.i64.wrap ((bits (val x.xs):Int)+(bits (val y.xs):Int)-1)=(bits (val x.xs):Int)+(bits (val y.xs):Int)-1:=IntWalk.i64_in _ (by omega)
 rw[hw1,hw2]
 clear hw1 hw2 Hsx Hsy
 generalize w2.drew=V at *
 by_cases hbig:(4096:Int)<(bits (val x.xs):Int)+(bits (val y.xs):Int)-1
 ·have HD:=hid (show D=(.zero,9) by
   rw[HD0.out];exact prod_big (rdok_dy hx3) (rdok_dy hy3) hxm.out hym.out (show 4096<bits (val x.xs)+bits (val y.xs)-1 by omega))
  clear hS3
  obtain⟨q0,q1,q2,f0,f1,f2⟩:=hB3
  go_wp2_with fail
  have hst:=stored q0 q1 q2 nofun nofun nofun (.bool false) (.slice none 0 0) (.int .i64 0)
  generalize (((V.setCell _ _).setCell _ _).setCell _ _)=W9 at hst ⊢
  obtain⟨s0,s1,s2,_,s4,s5,_,_⟩:=hst
  refine bodyPost_ret (v:=.tuple #[.agg #[.bool false,.slice none 0 0,.int .i64 0],.int .i64 9]) (by simp[results,Tryz.results14,go_sem,s0,s1,s2]) rfl ?_
  rw[HD.out]
  exact numE_zero rfl (s5 _ hk5 (by omega))
 obtain⟨s0,s1,s2,t0,t1,t2⟩:=hS3
 have hlx:=rdok_len hx3
 have hly:=rdok_len hy3
 have hex:=rdok_e hx3
 have hey:=rdok_e hy3
 have HP:=hid (show (limbs (val x.xs*val y.xs)).length≤256 from limbs_of_bits (Nat.le_trans (bits_mul_le _ _) (by omega)))
 have Hmu:=hid (Mul_any x.a y.a x.xs y.xs x.c y.c V hx3.1.1 hy3.1.1 (by omega) (by omega) hx3.1.2.1 hy3.1.2.1 hx3.1.2.2.1 hy3.1.2.2.1 HP.out)
 have HD:=hid (show D=chk (canon (x.neg != y.neg) (val x.xs*val y.xs) (x.e+y.e)) from HD0.out)
 go_wp2_with fail
 refine Hmu.out.mono ?_
 rintro e w3 ⟨a3,c3,rfl,l3,m3,rd3,k3⟩
 generalize val x.xs*val y.xs=N at *
 have u0:=k3.cell s0
 have u2:=k3.cell s2
 have v0:=k3.cell t0
 have v2:=k3.cell t2
 have hB4:=hB3.kp k3
 have hk6:=hk5.trans k3
 have hT4:=hT3.kp k3
 have hcl:=canon_len (x.neg != y.neg) N (x.e+y.e)
 have hce:=canon_e (x.neg != y.neg) (show -1000000000≤x.e+y.e by omega) (show x.e+y.e≤1000000000 by omega) HP.out
 have Hok:=hid (chk_canon_ok (x.neg != y.neg) N (x.e+y.e))
 have HcN:=hid (canonical_any (x.neg != y.neg) a3 (limbs N) c3 (x.e+y.e) w3 rd3 l3 m3 HP.out (by omega) (by omega) hT4)
 clear s0 s1 s2 t0 t1 t2 hB3 hk5 hT3 Hmu k3
 go_wp2_with fail
 have hC:=HcN.out
 rw[val_limbs] at hC
 refine hC.mono ?_
 clear hC HcN
 rintro e w4 ⟨a4,c4,rfl,r4,l4,m4,k4⟩
 have HPl:=HP.out
 clear HD0
 generalize canon (x.neg != y.neg) N (x.e+y.e)=G at *
 clear u0 u2 v0 v2
 go_wp2_with fail
 refine (checked_any G a4 c4 _ r4 l4 m4 (by omega) ⟨by omega,by omega⟩).mono ?_
 rintro e w5 ⟨a5,c5,rfl,r5,l5,m5,k5⟩
 obtain⟨q0,q1,q2,f0,f1,f2⟩:=(hB4.kp k4).kp k5
 have hkk:=(hk6.trans k4).trans k5
 clear hB4 hk6 k4 k5 r4
 have HG1:=hid (show D.1=(chk G).1∧D.2=(chk G).2 by rw[HD.out];exact⟨rfl,rfl⟩)
 clear HD
 generalize (chk G).1=F at *
 have hst:=stored q0 q1 q2 nofun nofun nofun (.bool F.neg) (.slice a5 (limbs F.m).length c5) (.int .i64 F.e)
 go_wp2_with fail
 generalize (((w5.setCell _ _).setCell _ _).setCell _ _)=W2 at hst ⊢
 obtain⟨s0,s1,s2,_,s4,s5,_,_⟩:=hst
 refine bodyPost_ret (v:=.tuple #[.agg #[.bool F.neg,.slice a5 (limbs F.m).length c5,.int .i64 F.e],.int .i64 (chk G).2]) (by simp[results,Tryz.results14,go_sem,s0,s1,s2]) rfl ?_
 rw[HG1.out.1,HG1.out.2]
 exact⟨rdOf F a5 c5,rfl,rdOf_rd Hok.out (s4 _ _ r5) l5 m5,rdOf_dy _ _ _,fun hd=>rdOf_vl hd _ _,s5 _ hkk (by omega)⟩
section
theorem rndS_rnde {s:Bool} {M p:Nat} {e:Int} {up:Bool} (hM:M≠0):rndS s M e false p up=rnde (sg s M) e p up:=by
 unfold rndS sgnR rnde
 have hs:sg s M≠0:=fun h=>hM (sg_eq_zero.1 h)
 rw[if_neg hs]
 cases s with
 | false =>
  have hlt:¬ sg false M<0:=by unfold sg;simp
  have:(sg false M).natAbs=M:=by unfold sg;simp
  rw[if_neg hlt,this]
  simp
 | true =>
 have hlt:sg true M<0:=by unfold sg;simp;omega
 have:(sg true M).natAbs=M:=by unfold sg;simp
 rw[if_pos hlt,this,if_pos rfl]
 cases up <;> rfl
theorem rndS_val {s:Bool} {M p a b:Nat} {e S:Int} {up:Bool} (hM:M≠0) (h:S*2 ^ a=sg s M*2 ^ b) (he:e=(b:Int)-a-16384):rndS s M e false p up=rnd 0 S p up:=by
 rw[rndS_rnde hM]
 have h1:rnd 0 S p up=rnde S (-16384) p up:=by
  have:=rnde_rnd 0 S p up
  rw[show (-16384-((0:Nat):Int))=-16384 from rfl] at this
  exact this.symm
 rw[h1,← rnde_shift S a (-16384) p up,h,show (-16384:Int)-a=e-b from by omega,rnde_shift]
theorem rndS_more {s:Bool} {m k F p:Nat} {e:Int} {up:Bool} (hm:m≠0) (hF:F<2 ^ k) (hb:F≠0→p<bits m) :
  rndS s m e (decide (F≠0)) p up=rndS s (m*2 ^ k+F) (e-k) false p up:=by
 unfold rndS sgnR
 have h (u:Bool):rcut m e (decide (F≠0)) p u=rcut (m*2 ^ k+F) (e-k) false p u:=by
  have:=rcut_more (m:=m) (k:=k) (f:=F) (p:=p) (e:=e) (more:=false) (up:=u) hm hF (by simpa using hb)
  simpa using this
 rw[h]
theorem sg_mul (s:Bool) (n k:Nat):sg s n*((2 ^ k:Nat):Int)=sg s (n*2 ^ k):=by
 unfold sg
 split
 ·rw[Int.neg_mul,Int.natCast_mul]
 rw[Int.natCast_mul]
theorem sg_add (s:Bool) (m n:Nat):sg s m+sg s n=sg s (m+n):=by
 unfold sg;split <;> omega
theorem sg_sub {s t:Bool} (h:s≠t) {m n:Nat} (hn:n≤m):sg s m+sg t n=sg s (m-n):=by
 cases s <;> cases t <;> simp[sg] at h ⊢ <;> omega
theorem iv_scale {d:Dy} (h0:-16384≤d.e) {low:Int} (hl:low≤d.e):d.iv*2 ^ (-(low+16384)).toNat=sg d.neg (d.m*2 ^ (d.e-low).toNat)*2 ^ (low+16384).toNat:=by
 have e1:((2:Int) ^ (-(low+16384)).toNat)=((2 ^ (-(low+16384)).toNat:Nat):Int):=by push_cast;rfl
 have e2:((2:Int) ^ (low+16384).toNat)=((2 ^ (low+16384).toNat:Nat):Int):=by push_cast;rfl
 rw[e1,e2,sg_mul]
 unfold Dy.iv
 rw[sg_mul,Nat.mul_assoc,Nat.mul_assoc,← Nat.pow_add,← Nat.pow_add]
 congr 3;omega
section
variable {d f:Dy} {p:Nat} {low:Int} {up:Bool}
theorem sum_same_at (hd:d.ok) (hf:f.ok) (hd0:d.m≠0) (h1:low≤d.e) (h2:low≤f.e) (hs:d.neg=f.neg) :
  rndS d.neg (d.m*2 ^ (d.e-low).toNat+f.m*2 ^ (f.e-low).toNat) low false p up=rnd 0 (d.iv+f.iv) p up:=by
 refine rndS_val (a:=(-(low+16384)).toNat) (b:=(low+16384).toNat) ?_ ?_ (by omega)
 ·have:=Nat.mul_ne_zero hd0 (two_pow_ne (d.e-low).toNat);omega
 rw[Int.add_mul,iv_scale (ok_e hd).1 h1,iv_scale (ok_e hf).1 h2,← Int.add_mul,← hs,sg_add]
theorem sum_diff_at (hd:d.ok) (hf:f.ok) (h1:low≤d.e) (h2:low≤f.e) (hs:d.neg≠f.neg) (hlt:f.m*2 ^ (f.e-low).toNat<d.m*2 ^ (d.e-low).toNat) :
  rndS d.neg (d.m*2 ^ (d.e-low).toNat-f.m*2 ^ (f.e-low).toNat) low false p up=rnd 0 (d.iv+f.iv) p up:=by
 refine rndS_val (a:=(-(low+16384)).toNat) (b:=(low+16384).toNat) (by omega) ?_ (by omega)
 rw[Int.add_mul,iv_scale (ok_e hd).1 h1,iv_scale (ok_e hf).1 h2,← Int.add_mul,sg_sub hs (by omega)]
theorem shift_split {D k j l:Nat} (h:j+k=l):D*2 ^ j*2 ^ k=D*2 ^ l:=by rw[Nat.mul_assoc,← Nat.pow_add,h]
theorem bits_ge_of {n k:Nat} (h:2 ^ k≤n):k<bits n:=lt_bits.2 h
theorem sum_same_lost (hd:d.ok) (hf:f.ok) (hd0:d.m≠0) (h1:low≤d.e) (h2:f.e<low) (hp:low+p+8≤(bits d.m:Int)+d.e) (hs:d.neg=f.neg) :
  rndS d.neg (d.m*2 ^ (d.e-low).toNat+f.m/2 ^ (low-f.e).toNat) low (decide (f.m % 2 ^ (low-f.e).toNat≠0)) p up=rnd 0 (d.iv+f.iv) p up:=by
 obtain⟨k,hk⟩:∃ k,k=(low-f.e).toNat:=⟨_,rfl⟩
 rw[← hk]
 have hX:2 ^ (p+7)≤d.m*2 ^ (d.e-low).toNat:=by
  have h3:=two_pow_le_of_bits hd0
  have h4:=bits_pos hd0
  calc 2 ^ (p+7)≤2 ^ (bits d.m-1+(d.e-low).toNat):=Nat.pow_le_pow_right (by decide) (by omega)
   _=2 ^ (bits d.m-1)*2 ^ (d.e-low).toNat:=Nat.pow_add _ _ _
   _≤_:=Nat.mul_le_mul_right _ h3
 have hpos:=Nat.lt_of_lt_of_le (two_pow_pos (p+7)) hX
 rw[rndS_more (m:=d.m*2 ^ (d.e-low).toNat+f.m/2 ^ k) (k:=k) (Nat.ne_of_gt (Nat.lt_of_lt_of_le hpos (Nat.le_add_right _ _))) (Nat.mod_lt _ (two_pow_pos k)) (fun _=>Nat.lt_of_le_of_lt (by omega:p≤p+7) (bits_ge_of (Nat.le_trans hX (Nat.le_add_right _ _))))]
 have e1:(d.m*2 ^ (d.e-low).toNat+f.m/2 ^ k)*2 ^ k+f.m % 2 ^ k=d.m*2 ^ (d.e-f.e).toNat+f.m*2 ^ (f.e-f.e).toNat:=by
  rw[Nat.add_mul,shift_split (l:=(d.e-f.e).toNat) (by omega),show (f.e-f.e).toNat=0 from by omega,Nat.pow_zero,Nat.mul_one,Nat.add_assoc]
  congr 1
  rw[Nat.mul_comm];exact Nat.div_add_mod _ _
 rw[e1,show low-(k:Int)=f.e from by omega]
 exact sum_same_at hd hf hd0 (by omega) (Int.le_refl _) hs
theorem sum_diff_lost (hd:d.ok) (hf:f.ok) (hd0:d.m≠0) (h1:low≤d.e) (h2:f.e<low) (hp:low+p+8≤(bits d.m:Int)+d.e) (ht:(bits f.m:Int)+f.e+2<(bits d.m:Int)+d.e) (hs:d.neg≠f.neg) (hF:f.m % 2 ^ (low-f.e).toNat≠0) :
  rndS d.neg (d.m*2 ^ (d.e-low).toNat-(f.m/2 ^ (low-f.e).toNat+1)) low true p up=rnd 0 (d.iv+f.iv) p up:=by
 obtain⟨k,hk⟩:∃ k,k=(low-f.e).toNat:=⟨_,rfl⟩
 rw[← hk] at hF ⊢
 obtain⟨L,hL⟩:∃ L:Nat,(L:Int)=(bits d.m:Int)+d.e-low:=⟨((bits d.m:Int)+d.e-low).toNat,by omega⟩
 have hX:2 ^ (L-1)≤d.m*2 ^ (d.e-low).toNat:=by
  have h3:=two_pow_le_of_bits hd0
  have h4:=bits_pos hd0
  calc 2 ^ (L-1)≤2 ^ (bits d.m-1+(d.e-low).toNat):=Nat.pow_le_pow_right (by decide) (by omega)
   _=2 ^ (bits d.m-1)*2 ^ (d.e-low).toNat:=Nat.pow_add _ _ _
   _≤_:=Nat.mul_le_mul_right _ h3
 have hY:f.m/2 ^ k<2 ^ (L-3):=by
  rw[Nat.div_lt_iff_lt_mul (two_pow_pos k),← Nat.pow_add]
  exact Nat.lt_of_lt_of_le (lt_two_pow_bits f.m) (Nat.pow_le_pow_right (by decide) (by omega))
 have e2:2 ^ (L-1)=4*2 ^ (L-3):=by rw[show L-1=2+(L-3) from by omega,Nat.pow_add]
 have hlt:=Nat.mod_lt f.m (two_pow_pos k)
 have hm:2 ^ (L-3)≤d.m*2 ^ (d.e-low).toNat-(f.m/2 ^ k+1):=by omega
 have hpos:=two_pow_pos (L-3)
 have h:=rndS_more (s:=d.neg) (m:=d.m*2 ^ (d.e-low).toNat-(f.m/2 ^ k+1)) (k:=k) (F:=2 ^ k-f.m % 2 ^ k) (p:=p) (e:=low) (up:=up) (by omega) (by omega) (fun _=>Nat.lt_of_le_of_lt (by omega:p≤L-3) (bits_ge_of hm))
 rw[decide_eq_true (show 2 ^ k-f.m % 2 ^ k≠0 by omega)] at h
 rw[h]
 have e1:(d.m*2 ^ (d.e-low).toNat-(f.m/2 ^ k+1))*2 ^ k+(2 ^ k-f.m % 2 ^ k)=d.m*2 ^ (d.e-f.e).toNat-f.m*2 ^ (f.e-f.e).toNat:=by
  have h5:f.m/2 ^ k*2 ^ k+f.m % 2 ^ k=f.m:=by rw[Nat.mul_comm];exact Nat.div_add_mod _ _
  have h6:(f.m/2 ^ k+1)*2 ^ k≤d.m*2 ^ (d.e-low).toNat*2 ^ k:=Nat.mul_le_mul_right _ (by omega)
  have h7:(f.m/2 ^ k+1)*2 ^ k=f.m/2 ^ k*2 ^ k+2 ^ k:=by rw[Nat.add_mul,Nat.one_mul]
  have h8:d.m*2 ^ (d.e-low).toNat*2 ^ k=d.m*2 ^ (d.e-f.e).toNat:=shift_split (by omega)
  rw[Nat.sub_mul,h7,h8,show (f.e-f.e).toNat=0 from by omega,Nat.pow_zero,Nat.mul_one]
  rw[h7,h8] at h6
  omega
 rw[e1,show low-(k:Int)=f.e from by omega]
 refine sum_diff_at hd hf (by omega) (Int.le_refl _) hs ?_
 have h5:f.m/2 ^ k*2 ^ k+f.m % 2 ^ k=f.m:=by rw[Nat.mul_comm];exact Nat.div_add_mod _ _
 have h6:(f.m/2 ^ k+1)*2 ^ k≤d.m*2 ^ (d.e-low).toNat*2 ^ k:=Nat.mul_le_mul_right _ (by omega)
 have h7:(f.m/2 ^ k+1)*2 ^ k=f.m/2 ^ k*2 ^ k+2 ^ k:=by rw[Nat.add_mul,Nat.one_mul]
 have h8:d.m*2 ^ (d.e-low).toNat*2 ^ k=d.m*2 ^ (d.e-f.e).toNat:=shift_split (by omega)
 rw[h7,h8] at h6
 rw[show (f.e-f.e).toNat=0 from by omega,Nat.pow_zero,Nat.mul_one]
 omega
theorem sumP_same (hd:d.ok) (hf:f.ok) (hd0:d.m≠0) (h1:low≤d.e) (hp:low+p+8≤(bits d.m:Int)+d.e) (hs:d.neg=f.neg) {Y:Nat} {lost:Bool}
  (hY:(low≤f.e∧Y=f.m*2 ^ (f.e-low).toNat∧lost=false)∨(f.e<low∧Y=f.m/2 ^ (low-f.e).toNat∧lost=!decide (f.m % 2 ^ (low-f.e).toNat=0))) :
  rndS d.neg (d.m*2 ^ (d.e-low).toNat+Y) low lost p up=rnd 0 (d.iv+f.iv) p up:=by
 rcases hY with ⟨h2,rfl,rfl⟩ | ⟨h2,rfl,rfl⟩
 ·exact sum_same_at hd hf hd0 h1 h2 hs
 have:=sum_same_lost (up:=up) hd hf hd0 h1 h2 hp hs
 rw[show (!decide (f.m % 2 ^ (low-f.e).toNat=0))=decide (f.m % 2 ^ (low-f.e).toNat≠0) by simp]
 exact this
theorem lossy_big (hd0:d.m≠0) (h1:low≤d.e) (h2:f.e<low) (hp:low+p+8≤(bits d.m:Int)+d.e) (ht:(bits f.m:Int)+f.e+2<(bits d.m:Int)+d.e) :
  ∃ Q,0<Q∧Q+(f.m/2 ^ (low-f.e).toNat+1)≤d.m*2 ^ (d.e-low).toNat:=by
 obtain⟨k,hk⟩:∃ k,k=(low-f.e).toNat:=⟨_,rfl⟩
 rw[← hk]
 obtain⟨L,hL⟩:∃ L:Nat,(L:Int)=(bits d.m:Int)+d.e-low:=⟨((bits d.m:Int)+d.e-low).toNat,by omega⟩
 have hX:2 ^ (L-1)≤d.m*2 ^ (d.e-low).toNat:=by
  have h3:=two_pow_le_of_bits hd0
  have h4:=bits_pos hd0
  calc 2 ^ (L-1)≤2 ^ (bits d.m-1+(d.e-low).toNat):=Nat.pow_le_pow_right (by decide) (by omega)
   _=2 ^ (bits d.m-1)*2 ^ (d.e-low).toNat:=Nat.pow_add _ _ _
   _≤_:=Nat.mul_le_mul_right _ h3
 have hY:f.m/2 ^ k<2 ^ (L-3):=by
  rw[Nat.div_lt_iff_lt_mul (two_pow_pos k),← Nat.pow_add]
  exact Nat.lt_of_lt_of_le (lt_two_pow_bits f.m) (Nat.pow_le_pow_right (by decide) (by omega))
 have e2:2 ^ (L-1)=4*2 ^ (L-3):=by rw[show L-1=2+(L-3) from by omega,Nat.pow_add]
 refine⟨2 ^ (L-3),two_pow_pos _,?_⟩
 omega
theorem sum_zero_at (hd:d.ok) (hf:f.ok) (h1:low≤d.e) (h2:low≤f.e) (hs:d.neg≠f.neg) (h:d.m*2 ^ (d.e-low).toNat=f.m*2 ^ (f.e-low).toNat):d.iv+f.iv=0:=by
 have e:(d.iv+f.iv)*2 ^ (-(low+16384)).toNat=0:=by
  rw[Int.add_mul,iv_scale (ok_e hd).1 h1,iv_scale (ok_e hf).1 h2,← Int.add_mul,h,sg_sub hs (Nat.le_refl _),Nat.sub_self,sg_zero,Int.zero_mul]
 rcases Int.mul_eq_zero.1 e with h3 | h3
 ·exact h3
 exact absurd h3 (Int.pow_ne_zero (by decide))
theorem sumP_diff (hd:d.ok) (hf:f.ok) (hd0:d.m≠0) (h1:low≤d.e) (hp:low+p+8≤(bits d.m:Int)+d.e) (hs:d.neg≠f.neg) {Y:Nat} {lost:Bool}
  (hY:(low≤f.e∧Y=f.m*2 ^ (f.e-low).toNat∧lost=false)∨(f.e<low∧(bits f.m:Int)+f.e+2<(bits d.m:Int)+d.e∧Y=f.m/2 ^ (low-f.e).toNat∧lost=!decide (f.m % 2 ^ (low-f.e).toNat=0))) :
  (d.m*2 ^ (d.e-low).toNat<Y+(if lost then 1 else 0)→lost=false∧∀ up,rndS f.neg (Y+(if lost then 1 else 0)-d.m*2 ^ (d.e-low).toNat) low false p up=rnd 0 (d.iv+f.iv) p up) ∧
  (Y+(if lost then 1 else 0)≤d.m*2 ^ (d.e-low).toNat→(d.m*2 ^ (d.e-low).toNat-(Y+(if lost then 1 else 0))=0∧lost=false→d.iv+f.iv=0) ∧
   (¬ (d.m*2 ^ (d.e-low).toNat-(Y+(if lost then 1 else 0))=0∧lost=false)→∀ up,rndS d.neg (d.m*2 ^ (d.e-low).toNat-(Y+(if lost then 1 else 0))) low lost p up=rnd 0 (d.iv+f.iv) p up)):=by
 rcases hY with ⟨h2,rfl,rfl⟩ | ⟨h2,ht,rfl,rfl⟩
 ·simp only[Bool.false_eq_true,if_false,Nat.add_zero,and_true,true_and]
  refine⟨fun hlt up=>?_,fun hle=>⟨fun h0=>sum_zero_at hd hf h1 h2 hs (by omega),fun h0 up=>sum_diff_at hd hf h1 h2 hs (by omega)⟩⟩
  rw[Int.add_comm]
  exact sum_diff_at hf hd h2 h1 (Ne.symm hs) hlt
 obtain⟨Q,hQ,hQ2⟩:=lossy_big (f:=f) hd0 h1 h2 hp ht
 by_cases hF:f.m % 2 ^ (low-f.e).toNat=0
 rotate_left
 ·rw[decide_eq_false hF]
  simp only[Bool.not_false,if_true,Bool.true_eq_false,and_false,false_and,not_false_eq_true,forall_const]
  refine⟨fun h=>by omega,fun hle=>⟨fun h=>h.elim,fun up=>sum_diff_lost hd hf hd0 h1 h2 hp ht hs hF⟩⟩
 rw[decide_eq_true hF]
 simp only[Bool.not_true,Bool.false_eq_true,if_false,Nat.add_zero,and_true,true_and]
 refine⟨fun h=>by omega,fun hle=>⟨fun h0=>by omega,fun h0 up=>?_⟩⟩
 obtain⟨k,hk⟩:∃ k,k=(low-f.e).toNat:=⟨_,rfl⟩
 rw[← hk] at hF hQ2 ⊢
 have h:=rndS_more (s:=d.neg) (m:=d.m*2 ^ (d.e-low).toNat-f.m/2 ^ k) (k:=k) (F:=0) (p:=p) (e:=low) (up:=up) (by omega) (two_pow_pos k) (fun h=>absurd rfl h)
 rw[decide_eq_false (by simp),Nat.add_zero] at h
 rw[h]
 have h5:f.m/2 ^ k*2 ^ k=f.m:=by have:=Nat.div_add_mod f.m (2 ^ k);rw[hF,Nat.add_zero,Nat.mul_comm] at this;exact this
 have h8:d.m*2 ^ (d.e-low).toNat*2 ^ k=d.m*2 ^ (d.e-f.e).toNat:=shift_split (by omega)
 have h6:(Q+(f.m/2 ^ k+1))*2 ^ k≤d.m*2 ^ (d.e-low).toNat*2 ^ k:=Nat.mul_le_mul_right _ hQ2
 have h9:f.m/2 ^ k*2 ^ k<(Q+(f.m/2 ^ k+1))*2 ^ k:=Nat.mul_lt_mul_of_pos_right (by omega) (two_pow_pos k)
 have e1:(d.m*2 ^ (d.e-low).toNat-f.m/2 ^ k)*2 ^ k=d.m*2 ^ (d.e-f.e).toNat-f.m*2 ^ (f.e-f.e).toNat:=by
  rw[Nat.sub_mul,h8,h5,show (f.e-f.e).toNat=0 from by omega,Nat.pow_zero,Nat.mul_one]
 rw[e1,show low-(k:Int)=f.e from by omega]
 refine sum_diff_at hd hf (by omega) (Int.le_refl _) hs ?_
 rw[show (f.e-f.e).toNat=0 from by omega,Nat.pow_zero,Nat.mul_one]
 rw[h5] at h9
 rw[h8] at h6
 omega
end
end
end Go.Proofs.YtbhmhfnfceakoaaGreatDoor
