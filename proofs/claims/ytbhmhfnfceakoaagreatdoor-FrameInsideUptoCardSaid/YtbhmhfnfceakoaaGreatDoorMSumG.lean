/-
  Walks: dyadic.sum of two numbers that are not 0 and not far apart, of different signs, the second one being the greater.
-/
import Derived.Test.YtbhmhfnfceakoaaGreatDoorMSumF
import Derived.Test.YtbhmhfnfceakoaaGreatDoorMOpen
import Derived.Test.YtbhmhfnfceakoaaGreatDoorMRoE
import Derived.Test.YtbhmhfnfceakoaaGreatDoorMNum
import Derived.Test.YtbhmhfnfceakoaaGreatDoorMCmp
import Derived.Test.YtbhmhfnfceakoaaGreatDoorMSig
namespace Go.Proofs.YtbhmhfnfceakoaaGreatDoor
open Go.RowKit
open Lib (hid)
set_option maxHeartbeats 4000000 in
theorem sum_lt_ok (d f:Dy) (a b:Option Addr) (c k:Nat) (w:World) (hd:DyAt w d a c) (hf:DyAt w f b k) (hd0:d.m≠0) (hf0:f.m≠0) (hnear:¬ farB d f) (hT:Tab w) (hs:d.neg≠f.neg) (hlt:d.m*2 ^ (d.e-min d.e f.e).toNat<f.m*2 ^ (f.e-min d.e f.e).toNat) :
  Calls Tryz.prog 57 #[.agg #[.bool d.neg,.slice a (limbs d.m).length c,.int .i64 d.e],.agg #[.bool f.neg,.slice b (limbs f.m).length k,.int .i64 f.e]] w (DyE w (chk (sumD d f)).1 (chk (sumD d f)).2):=by
 have td:=topI_bounds hd.1
 have tf:=topI_bounds hf.1
 have hed:=ok_e hd.1
 have hef:=ok_e hf.1
 have z1:=len_ne hd0
 have z2:=len_ne hf0
 have hE1:min d.e f.e≤d.e:=Int.min_le_left _ _
 have hE2:min d.e f.e≤f.e:=Int.min_le_right _ _
 have hE0:-16384≤min d.e f.e:=by omega
 obtain⟨hl1,hl2⟩:=near_len hd.1 hf.1 hd0 hf0 hnear
 have Hl1:=hid (limbs_len_bits (n:=d.m*2 ^ (d.e-min d.e f.e).toNat) (k:=256) (by omega))
 have Hl2:=hid (limbs_len_bits (n:=f.m*2 ^ (f.e-min d.e f.e).toNat) (k:=256) (by omega))
 have Hsum:=hid ((sumD_comm d f).trans (sum_diff hE0 hE2 hE1 (Ne.symm hs) (Nat.le_of_lt hlt)))
 have Hv:=hid (limbs_len_bits (n:=f.m*2 ^ (f.e-min d.e f.e).toNat-d.m*2 ^ (d.e-min d.e f.e).toNat) (k:=256) (Nat.le_trans (bits_mono (Nat.sub_le _ _)) (by omega)))
 have hq:(d.neg==f.neg)=false:=beq_eq_false_iff_ne.2 hs
 have Hz:=hid (cmpN_isneg hlt)
 have Hle:=hid (Nat.le_of_lt hlt)
 clear hs hlt
 have Hnt:=hid (fun h3=>near_test (d:=d) (f:=f) rfl rfl hnear h3)
 clear hl1 hl2 hnear
 go_enter Tryz.func57,Tryz.ntmps57
 go_wp2_with fail
 generalize hW:(((w.alloc _).alloc _).alloc _)=W at *
 have hk:Kp w W:=hW▸(((Kp.refl w).alloc _).alloc _).alloc _
 have hd1:=(hd.kp hk).drew
 have hf1:=(hf.kp hk).drew
 have hS:W.cell? ⟨w.heap.size,0,none⟩=some (.bool d.neg)∧W.cell? ⟨w.heap.size,1,none⟩=some (.slice a (limbs d.m).length c)∧W.cell? ⟨w.heap.size,2,none⟩=some (.int .i64 d.e)∧W.cell? ⟨w.heap.size+1,0,none⟩=some (.bool f.neg)∧W.cell? ⟨w.heap.size+1,1,none⟩=some (.slice b (limbs f.m).length k)∧W.cell? ⟨w.heap.size+1,2,none⟩=some (.int .i64 f.e):=by rw[← hW];exact keep6 ((Kp.refl _).alloc _) (by simp)
 have hA:Box3 W w.heap.size (.bool d.neg) (.slice a (limbs d.m).length c) (.int .i64 d.e):=hW▸(Box3.new1 _ _ _ _ _ _).alloc _
 have hB:Box3 W (w.heap.size+2) (.bool false) (.slice none 0 0) (.int .i64 0):=hW▸Box3.new3 _ _ _ _ _ _ _
 clear hW
 go_region_held3 (fun w'=>w'.cell? ⟨w.heap.size,0,none⟩=some (.bool d.neg)∧w'.cell? ⟨w.heap.size,1,none⟩=some (.slice a (limbs d.m).length c)∧w'.cell? ⟨w.heap.size,2,none⟩=some (.int .i64 d.e)∧w'.cell? ⟨w.heap.size+1,0,none⟩=some (.bool f.neg)∧w'.cell? ⟨w.heap.size+1,1,none⟩=some (.slice b (limbs f.m).length k)∧w'.cell? ⟨w.heap.size+1,2,none⟩=some (.int .i64 f.e)) (first | assumption | exact keep6 (by assumption) (by assumption))
  (first
   | (go_at_call_of 120 (Value.agg #[.bool d.neg,.slice a (limbs d.m).length c,.int .i64 d.e]);refine (Top_ok d a c _ hd1).mono ?_;rintro e w2 ⟨rfl,hk2⟩)
   | (go_at_call_of 120 (Value.agg #[.bool f.neg,.slice b (limbs f.m).length k,.int .i64 f.e]);refine (Top_ok f b k _ (hf1.kp (by assumption))).mono ?_;rintro e w3 ⟨rfl,hk3⟩))
 have hk4:=(hk.drew.trans hk2).trans hk3
 have hS3:=keep6 hk3 (keep6 hk2 (keep6 (Kp.refl W).drew hS))
 have hB3:=((hB.kp (Kp.refl W).drew).kp hk2).kp hk3
 have hA3:=((hA.kp (Kp.refl W).drew).kp hk2).kp hk3
 have hd3:=(hd.kp hk4).drew
 have hf3:=(hf.kp hk4).drew
 have HT0:=hid hT
 clear hS hB hA hd1 hf1 hd hf hT
 generalize topI d=x at *
 generalize topI f=y at *
 have e1:IntKind.i64.wrap (max x y-min d.e f.e)=max x y-min d.e f.e:=IntWalk.i64_in _ (by omega)
 have e2:IntKind.i64.wrap (x-y)=x-y:=IntWalk.i64_in _ (by omega)
 have e3:IntKind.i64.wrap (y-x)=y-x:=IntWalk.i64_in _ (by omega)
 by_cases h3:4097<max x y-min d.e f.e
 rotate_left
 ·clear Hnt
  go_wp2_with fail
  have e4:IntKind.i64.wrap (d.e-min d.e f.e)=d.e-min d.e f.e:=IntWalk.i64_in _ (by omega)
  have e5:IntKind.i64.wrap (f.e-min d.e f.e)=f.e-min d.e f.e:=IntWalk.i64_in _ (by omega)
  have z3:0≤d.e-min d.e f.e:=by omega
  have z4:0≤f.e-min d.e f.e:=by omega
  have z5:d.e-min d.e f.e≤65536:=by omega
  have z6:f.e-min d.e f.e≤65536:=by omega
  have z7:min d.e f.e≤16384:=by omega
  generalize min d.e f.e=E at *
  go_region_held3 (fun w'=>w'.cell? ⟨w.heap.size,0,none⟩=some (.bool d.neg)∧w'.cell? ⟨w.heap.size,1,none⟩=some (.slice a (limbs d.m).length c)∧w'.cell? ⟨w.heap.size,2,none⟩=some (.int .i64 d.e)∧w'.cell? ⟨w.heap.size+1,0,none⟩=some (.bool f.neg)∧w'.cell? ⟨w.heap.size+1,1,none⟩=some (.slice b (limbs f.m).length k)∧w'.cell? ⟨w.heap.size+1,2,none⟩=some (.int .i64 f.e)) (first | assumption | exact keep6 (by assumption) (by assumption))
   (first
    | (go_at_call_of 121 (Value.slice a (limbs d.m).length c);refine (shifted_ok d a c _ _ hd3 z3 z5 Hl1.out).mono ?_;rintro e w5 ⟨a5,c5,rfl,r5,l5,m5,hk5⟩)
    | (go_at_call_of 121 (Value.slice b (limbs f.m).length k);refine (shifted_ok f b k _ _ (hf3.kp (by assumption)) z4 z6 Hl2.out).mono ?_;rintro e w6 ⟨a6,c6,rfl,r6,l6,m6,hk6⟩))
  have r5:=r5.kp hk6
  have hk7:=((hk4.drew).trans hk5).trans hk6
  have hS6:=keep6 hk6 (keep6 hk5 hS3)
  have hB6:=((hB3.kp (Kp.refl _).drew).kp hk5).kp hk6
  have hA6:=((hA3.kp (Kp.refl _).drew).kp hk5).kp hk6
  generalize d.m*2 ^ (d.e-E).toNat=P at *
  generalize f.m*2 ^ (f.e-E).toNat=Q at *
  clear hS3 hB3 hA3 hd3 hf3 hk4 hk5 hk6 hk2 hk3 hk
  have HCm:=cmp_any a5 a6 (limbs P) (limbs Q) c5 c6 w6 r5 r6 l5 l6 m5 m6
  rw[val_limbs,val_limbs] at HCm
  have HCm:=hid HCm
  have hz:=Hz.out
  clear Hz
  go_wp2_with fail
  refine HCm.out.mono ?_
  rintro e wc ⟨rfl,j1⟩
  clear HCm
  generalize cmpN P Q=z at *
  have r5:=r5.kp j1
  have r6:=r6.kp j1
  have hS6:=keep6 j1 hS6
  have hB6:=hB6.kp j1
  have hA6:=hA6.kp j1
  have hk7:=hk7.trans j1
  clear j1
  obtain⟨p0,p1,p2,_,_,_⟩:=hA6
  have hst0:=stored p0 p1 p2 nofun nofun nofun (.bool f.neg) (.slice b (limbs f.m).length k) (.int .i64 f.e)
  have hfr:=stored_fr wc w.heap.size (.bool f.neg) (.slice b (limbs f.m).length k) (.int .i64 f.e)
  go_wp2_with fail
  generalize (((wc.setCell _ _).setCell _ _).setCell _ _)=Wm at hst0 hfr ⊢
  obtain⟨u0,_,_,_,s4,s5,s6,s7⟩:=hst0
  have r5:=s4 _ _ r5
  have r6:=s4 _ _ r6
  have hk7:=s5 _ hk7 (Nat.le_refl _)
  have hB6:Box3 Wm (w.heap.size+2) (.bool false) (.slice none 0 0) (.int .i64 0):=by
   obtain⟨q0,q1,q2,f0,f1,f2⟩:=hB6
   exact⟨(s6 _ (by show w.heap.size+2≠w.heap.size;omega)).trans q0,(s6 _ (by show w.heap.size+2≠w.heap.size;omega)).trans q1,(s6 _ (by show w.heap.size+2≠w.heap.size;omega)).trans q2,(hfr _).trans f0,(hfr _).trans f1,(hfr _).trans f2⟩
  clear hS6 hfr s4 s5 s6 p0 p1 p2
  have HSub:=Sub_any a6 a5 (limbs Q) (limbs P) c6 c5 Wm r6 r5 Hl2.out Hl1.out l6 l5 m6 m5 (by rw[val_limbs,val_limbs];exact Hle.out)
  rw[val_limbs,val_limbs] at HSub
  have HSub:=hid HSub
  go_wp2_with fail
  refine HSub.out.mono ?_
  rintro e w7 ⟨a7,c7,rfl,l7,m7,r7,k7⟩
  have HC:=canonical_any f.neg a7 (limbs (Q-P)) c7 E w7 r7 l7 m7 Hv.out (by omega) (by omega) (HT0.out.kp (hk7.trans k7))
  have hcl:=canon_len f.neg (Q-P) E
  have hce:=canon_e f.neg (show -1000000000≤E by omega) (show E≤1000000000 by omega) Hv.out
  have hv2:=Hv.out
  rw[val_limbs,← Hsum.out] at HC
  rw[← Hsum.out] at hcl hce
  have HC:=hid HC
  have hu7:=k7.cell u0
  clear HSub u0
  go_wp2_with fail
  refine HC.out.mono ?_
  rintro e w8 ⟨a8,c8,rfl,h2,h3',h4',k8⟩
  clear HC Hsum
  generalize sumD d f=D at *
  go_wp2_with fail
  refine (checked_any D a8 c8 _ h2 h3' h4' (by omega) ⟨by omega,by omega⟩).mono ?_
  rintro e w9 ⟨a9,c9,rfl,h6,h7,h8,k9⟩
  generalize (chk D).1=F at *
  generalize (chk D).2=ff at *
  obtain⟨q0,q1,q2,f0,f1,f2⟩:=((hB6.kp k7).kp k8).kp k9
  have hkk:=((hk7.trans k7).trans k8).trans k9
  go_wp2_with fail
  have hst:=stored q0 q1 q2 nofun nofun nofun (.bool F.neg) (.slice a9 (limbs F.m).length c9) (.int .i64 F.e)
  generalize (((w9.setCell _ _).setCell _ _).setCell _ _)=W2 at hst ⊢
  obtain⟨s0,s1,s2,_,s4,s5,_,_⟩:=hst
  refine bodyPost_ret (v:=.tuple #[.agg #[.bool F.neg,.slice a9 (limbs F.m).length c9,.int .i64 F.e],.int .i64 ff]) (by simp[results,Tryz.results57,go_sem,s0,s1,s2]) rfl ?_
  exact⟨a9,c9,rfl,s4 _ _ h6,h7,h8,s5 _ hkk (by omega)⟩
 obtain⟨h4,h5⟩:=Hnt.out h3
 clear Hnt
 go_wp2_with fail
 have e4:IntKind.i64.wrap (d.e-min d.e f.e)=d.e-min d.e f.e:=IntWalk.i64_in _ (by omega)
 have e5:IntKind.i64.wrap (f.e-min d.e f.e)=f.e-min d.e f.e:=IntWalk.i64_in _ (by omega)
 have z3:0≤d.e-min d.e f.e:=by omega
 have z4:0≤f.e-min d.e f.e:=by omega
 have z5:d.e-min d.e f.e≤65536:=by omega
 have z6:f.e-min d.e f.e≤65536:=by omega
 have z7:min d.e f.e≤16384:=by omega
 generalize min d.e f.e=E at *
 go_region_held3 (fun w'=>w'.cell? ⟨w.heap.size,0,none⟩=some (.bool d.neg)∧w'.cell? ⟨w.heap.size,1,none⟩=some (.slice a (limbs d.m).length c)∧w'.cell? ⟨w.heap.size,2,none⟩=some (.int .i64 d.e)∧w'.cell? ⟨w.heap.size+1,0,none⟩=some (.bool f.neg)∧w'.cell? ⟨w.heap.size+1,1,none⟩=some (.slice b (limbs f.m).length k)∧w'.cell? ⟨w.heap.size+1,2,none⟩=some (.int .i64 f.e)) (first | assumption | exact keep6 (by assumption) (by assumption))
  (first
   | (go_at_call_of 121 (Value.slice a (limbs d.m).length c);refine (shifted_ok d a c _ _ hd3 z3 z5 Hl1.out).mono ?_;rintro e w5 ⟨a5,c5,rfl,r5,l5,m5,hk5⟩)
   | (go_at_call_of 121 (Value.slice b (limbs f.m).length k);refine (shifted_ok f b k _ _ (hf3.kp (by assumption)) z4 z6 Hl2.out).mono ?_;rintro e w6 ⟨a6,c6,rfl,r6,l6,m6,hk6⟩))
 have r5:=r5.kp hk6
 have hk7:=((hk4.drew).trans hk5).trans hk6
 have hS6:=keep6 hk6 (keep6 hk5 hS3)
 have hB6:=((hB3.kp (Kp.refl _).drew).kp hk5).kp hk6
 have hA6:=((hA3.kp (Kp.refl _).drew).kp hk5).kp hk6
 generalize d.m*2 ^ (d.e-E).toNat=P at *
 generalize f.m*2 ^ (f.e-E).toNat=Q at *
 clear hS3 hB3 hA3 hd3 hf3 hk4 hk5 hk6 hk2 hk3 hk
 have HCm:=cmp_any a5 a6 (limbs P) (limbs Q) c5 c6 w6 r5 r6 l5 l6 m5 m6
 rw[val_limbs,val_limbs] at HCm
 have HCm:=hid HCm
 have hz:=Hz.out
 clear Hz
 go_wp2_with fail
 refine HCm.out.mono ?_
 rintro e wc ⟨rfl,j1⟩
 clear HCm
 generalize cmpN P Q=z at *
 have r5:=r5.kp j1
 have r6:=r6.kp j1
 have hS6:=keep6 j1 hS6
 have hB6:=hB6.kp j1
 have hA6:=hA6.kp j1
 have hk7:=hk7.trans j1
 clear j1
 obtain⟨p0,p1,p2,_,_,_⟩:=hA6
 have hst0:=stored p0 p1 p2 nofun nofun nofun (.bool f.neg) (.slice b (limbs f.m).length k) (.int .i64 f.e)
 have hfr:=stored_fr wc w.heap.size (.bool f.neg) (.slice b (limbs f.m).length k) (.int .i64 f.e)
 go_wp2_with fail
 generalize (((wc.setCell _ _).setCell _ _).setCell _ _)=Wm at hst0 hfr ⊢
 obtain⟨u0,_,_,_,s4,s5,s6,s7⟩:=hst0
 have r5:=s4 _ _ r5
 have r6:=s4 _ _ r6
 have hk7:=s5 _ hk7 (Nat.le_refl _)
 have hB6:Box3 Wm (w.heap.size+2) (.bool false) (.slice none 0 0) (.int .i64 0):=by
  obtain⟨q0,q1,q2,f0,f1,f2⟩:=hB6
  exact⟨(s6 _ (by show w.heap.size+2≠w.heap.size;omega)).trans q0,(s6 _ (by show w.heap.size+2≠w.heap.size;omega)).trans q1,(s6 _ (by show w.heap.size+2≠w.heap.size;omega)).trans q2,(hfr _).trans f0,(hfr _).trans f1,(hfr _).trans f2⟩
 clear hS6 hfr s4 s5 s6 p0 p1 p2
 have HSub:=Sub_any a6 a5 (limbs Q) (limbs P) c6 c5 Wm r6 r5 Hl2.out Hl1.out l6 l5 m6 m5 (by rw[val_limbs,val_limbs];exact Hle.out)
 rw[val_limbs,val_limbs] at HSub
 have HSub:=hid HSub
 go_wp2_with fail
 refine HSub.out.mono ?_
 rintro e w7 ⟨a7,c7,rfl,l7,m7,r7,k7⟩
 have HC:=canonical_any f.neg a7 (limbs (Q-P)) c7 E w7 r7 l7 m7 Hv.out (by omega) (by omega) (HT0.out.kp (hk7.trans k7))
 have hcl:=canon_len f.neg (Q-P) E
 have hce:=canon_e f.neg (show -1000000000≤E by omega) (show E≤1000000000 by omega) Hv.out
 have hv2:=Hv.out
 rw[val_limbs,← Hsum.out] at HC
 rw[← Hsum.out] at hcl hce
 have HC:=hid HC
 have hu7:=k7.cell u0
 clear HSub u0
 go_wp2_with fail
 refine HC.out.mono ?_
 rintro e w8 ⟨a8,c8,rfl,h2,h3',h4',k8⟩
 clear HC Hsum
 generalize sumD d f=D at *
 go_wp2_with fail
 refine (checked_any D a8 c8 _ h2 h3' h4' (by omega) ⟨by omega,by omega⟩).mono ?_
 rintro e w9 ⟨a9,c9,rfl,h6,h7,h8,k9⟩
 generalize (chk D).1=F at *
 generalize (chk D).2=ff at *
 obtain⟨q0,q1,q2,f0,f1,f2⟩:=((hB6.kp k7).kp k8).kp k9
 have hkk:=((hk7.trans k7).trans k8).trans k9
 go_wp2_with fail
 have hst:=stored q0 q1 q2 nofun nofun nofun (.bool F.neg) (.slice a9 (limbs F.m).length c9) (.int .i64 F.e)
 generalize (((w9.setCell _ _).setCell _ _).setCell _ _)=W2 at hst ⊢
 obtain⟨s0,s1,s2,_,s4,s5,_,_⟩:=hst
 refine bodyPost_ret (v:=.tuple #[.agg #[.bool F.neg,.slice a9 (limbs F.m).length c9,.int .i64 F.e],.int .i64 ff]) (by simp[results,Tryz.results57,go_sem,s0,s1,s2]) rfl ?_
 exact⟨a9,c9,rfl,s4 _ _ h6,h7,h8,s5 _ hkk (by omega)⟩
theorem len_is0 {n:Nat} (h:n=0):(((limbs n).length:Int)==0)=true:=by subst h;rw[limbs_zero];rfl
set_option maxHeartbeats 2000000 in
theorem sum_z2_ok (d f:Dy) (a b:Option Addr) (c k:Nat) (w:World) (hd:DyAt w d a c) (hf:DyAt w f b k) (hd0:d.m≠0) (hf0:f.m=0) (hT:Tab w) :
  Calls Tryz.prog 57 #[.agg #[.bool d.neg,.slice a (limbs d.m).length c,.int .i64 d.e],.agg #[.bool f.neg,.slice b (limbs f.m).length k,.int .i64 f.e]] w (DyE w (chk (sumD d f)).1 (chk (sumD d f)).2):=by
 have Hs:=hid (show chk (sumD d f)=(d,0) by rw[f.eq_zero hf.1 hf0,sumD_zero' hd.1,chk_of_ok hd.1])
 have z1:=len_ne hd0
 have z2:=len_is0 hf0
 have hed:=ok_e hd.1
 have hl:=ok_len hd.1
 clear hd0 hf0
 go_enter Tryz.func57,Tryz.ntmps57
 go_wp2_with fail
 generalize hW:(((w.alloc _).alloc _).alloc _)=W at *
 have hk:Kp w W:=hW▸(((Kp.refl w).alloc _).alloc _).alloc _
 have hB:Box3 W (w.heap.size+2) (.bool false) (.slice none 0 0) (.int .i64 0):=hW▸Box3.new3 _ _ _ _ _ _ _
 clear hW
 have hd1:=hd.kp hk
 have HC:=canonical_any d.neg a (limbs d.m) c d.e W hd1.2.1 hd1.2.2.1 hd1.2.2.2 (by omega) (by omega) (by omega) (hT.kp hk)
 rw[val_limbs,canon_ok hd.1] at HC
 refine HC.mono ?_
 rintro e w8 ⟨a8,c8,rfl,h2,h3',h4',k8⟩
 obtain⟨q0,q1,q2,f0,f1,f2⟩:=hB.kp k8
 have hkk:=hk.trans k8
 clear HC hd1 hd hf hT hB
 go_wp2_with fail
 have hst:=stored q0 q1 q2 nofun nofun nofun (.bool d.neg) (.slice a8 (limbs d.m).length c8) (.int .i64 d.e)
 generalize (((w8.setCell _ _).setCell _ _).setCell _ _)=W2 at hst ⊢
 obtain⟨s0,s1,s2,_,s4,s5,_,_⟩:=hst
 refine bodyPost_ret (v:=.tuple #[.agg #[.bool d.neg,.slice a8 (limbs d.m).length c8,.int .i64 d.e],.int .i64 0]) (by simp[results,Tryz.results57,go_sem,s0,s1,s2]) rfl ?_
 rw[Hs.out]
 exact⟨a8,c8,rfl,s4 _ _ h2,h3',h4',s5 _ hkk (by omega)⟩
set_option maxHeartbeats 2000000 in
theorem sum_z1_ok (d f:Dy) (a b:Option Addr) (c k:Nat) (w:World) (hd:DyAt w d a c) (hf:DyAt w f b k) (hd0:d.m=0) (hT:Tab w) :
  Calls Tryz.prog 57 #[.agg #[.bool d.neg,.slice a (limbs d.m).length c,.int .i64 d.e],.agg #[.bool f.neg,.slice b (limbs f.m).length k,.int .i64 f.e]] w (DyE w (chk (sumD d f)).1 (chk (sumD d f)).2):=by
 have Hs:=hid (show chk (sumD d f)=(f,0) by rw[d.eq_zero hd.1 hd0,sumD_zero hf.1,chk_of_ok hf.1])
 have z1:=len_is0 hd0
 have hed:=ok_e hf.1
 have hl:=ok_len hf.1
 clear hd0
 go_enter Tryz.func57,Tryz.ntmps57
 go_wp2_with fail
 generalize hW:(((w.alloc _).alloc _).alloc _)=W at *
 have hk:Kp w W:=hW▸(((Kp.refl w).alloc _).alloc _).alloc _
 have hB:Box3 W (w.heap.size+2) (.bool false) (.slice none 0 0) (.int .i64 0):=hW▸Box3.new3 _ _ _ _ _ _ _
 clear hW
 have hd1:=hf.kp hk
 have HC:=canonical_any f.neg b (limbs f.m) k f.e W hd1.2.1 hd1.2.2.1 hd1.2.2.2 (by omega) (by omega) (by omega) (hT.kp hk)
 rw[val_limbs,canon_ok hf.1] at HC
 refine HC.mono ?_
 rintro e w8 ⟨a8,c8,rfl,h2,h3',h4',k8⟩
 obtain⟨q0,q1,q2,f0,f1,f2⟩:=hB.kp k8
 have hkk:=hk.trans k8
 clear HC hd1 hd hf hT hB
 go_wp2_with fail
 have hst:=stored q0 q1 q2 nofun nofun nofun (.bool f.neg) (.slice a8 (limbs f.m).length c8) (.int .i64 f.e)
 generalize (((w8.setCell _ _).setCell _ _).setCell _ _)=W2 at hst ⊢
 obtain⟨s0,s1,s2,_,s4,s5,_,_⟩:=hst
 refine bodyPost_ret (v:=.tuple #[.agg #[.bool f.neg,.slice a8 (limbs f.m).length c8,.int .i64 f.e],.int .i64 0]) (by simp[results,Tryz.results57,go_sem,s0,s1,s2]) rfl ?_
 rw[Hs.out]
 exact⟨a8,c8,rfl,s4 _ _ h2,h3',h4',s5 _ hkk (by omega)⟩
theorem sum_ok (d f:Dy) (a b:Option Addr) (c k:Nat) (w:World) (hd:DyAt w d a c) (hf:DyAt w f b k) (hT:Tab w) :
  Calls Tryz.prog 57 #[.agg #[.bool d.neg,.slice a (limbs d.m).length c,.int .i64 d.e],.agg #[.bool f.neg,.slice b (limbs f.m).length k,.int .i64 f.e]] w (DyE w (chk (sumD d f)).1 (chk (sumD d f)).2):=by
 by_cases hd0:d.m=0
 ·exact sum_z1_ok d f a b c k w hd hf hd0 hT
 by_cases hf0:f.m=0
 ·exact sum_z2_ok d f a b c k w hd hf hd0 hf0 hT
 by_cases hb:farB d f
 ·exact sum_farB d f a b c k w hd hf hd0 hf0 hb
 by_cases hs:d.neg=f.neg
 ·exact sum_same_ok d f a b c k w hd hf hd0 hf0 hb hT hs
 rcases Nat.lt_or_ge (d.m*2 ^ (d.e-min d.e f.e).toNat) (f.m*2 ^ (f.e-min d.e f.e).toNat) with h | h
 ·exact sum_lt_ok d f a b c k w hd hf hd0 hf0 hb hT hs h
 exact sum_ge_ok d f a b c k w hd hf hd0 hf0 hb hT hs h
theorem sumD_chk_ok (d f:Dy):(chk (sumD d f)).1.ok:=chk_canon_ok _ _ _
theorem rdok_at {w:World} {x:RD} (h:x.ok w):DyAt w x.dy x.a x.c:=⟨rdok_dy h,by rw[rdok_limbs h];exact h.1.1,by rw[rdok_limbs h];exact h.1.2.1,h.1.2.2.1⟩
theorem sum_rd (x y:RD) (w:World) (hx:x.ok w) (hy:y.ok w) (hT:Tab w) :
  Calls Tryz.prog 57 #[.agg #[.bool x.neg,.slice x.a x.xs.length x.c,.int .i64 x.e],.agg #[.bool y.neg,.slice y.a y.xs.length y.c,.int .i64 y.e]] w (NumE w (chk (sumD x.dy y.dy)).1 (chk (sumD x.dy y.dy)).2):=by
 have H:=sum_ok x.dy y.dy x.a y.a x.c y.c w (rdok_at hx) (rdok_at hy) hT
 rw[rdok_limbs hx,rdok_limbs hy] at H
 have hok:=sumD_chk_ok x.dy y.dy
 have hl:=ok_len hok
 exact H.mono fun e w' h=>h.num (by omega) (ok_I64 hok)
theorem keepRR {w w':World} (k:Kp w w') {g h:Nat} {x y:RD} (hS:w.cell? ⟨g,0,none⟩=some (.bool x.neg)∧w.cell? ⟨g,1,none⟩=some (.slice x.a x.xs.length x.c)∧w.cell? ⟨g,2,none⟩=some (.int .i64 x.e)∧w.cell? ⟨h,0,none⟩=some (.bool y.neg)∧w.cell? ⟨h,1,none⟩=some (.slice y.a y.xs.length y.c)∧w.cell? ⟨h,2,none⟩=some (.int .i64 y.e)):w'.cell? ⟨g,0,none⟩=some (.bool x.neg)∧w'.cell? ⟨g,1,none⟩=some (.slice x.a x.xs.length x.c)∧w'.cell? ⟨g,2,none⟩=some (.int .i64 x.e)∧w'.cell? ⟨h,0,none⟩=some (.bool y.neg)∧w'.cell? ⟨h,1,none⟩=some (.slice y.a y.xs.length y.c)∧w'.cell? ⟨h,2,none⟩=some (.int .i64 y.e):=keep6 k hS
theorem setRR {w:World} {o g h:Nat} (n:g≠o) (n':h≠o) {x y:RD} {v0 v1 v2:Value} (hS:w.cell? ⟨g,0,none⟩=some (.bool x.neg)∧w.cell? ⟨g,1,none⟩=some (.slice x.a x.xs.length x.c)∧w.cell? ⟨g,2,none⟩=some (.int .i64 x.e)∧w.cell? ⟨h,0,none⟩=some (.bool y.neg)∧w.cell? ⟨h,1,none⟩=some (.slice y.a y.xs.length y.c)∧w.cell? ⟨h,2,none⟩=some (.int .i64 y.e)) :
  (((w.setCell ⟨o,0,none⟩ v0).setCell ⟨o,1,none⟩ v1).setCell ⟨o,2,none⟩ v2).cell? ⟨g,0,none⟩=some (.bool x.neg)∧(((w.setCell ⟨o,0,none⟩ v0).setCell ⟨o,1,none⟩ v1).setCell ⟨o,2,none⟩ v2).cell? ⟨g,1,none⟩=some (.slice x.a x.xs.length x.c)∧(((w.setCell ⟨o,0,none⟩ v0).setCell ⟨o,1,none⟩ v1).setCell ⟨o,2,none⟩ v2).cell? ⟨g,2,none⟩=some (.int .i64 x.e)∧(((w.setCell ⟨o,0,none⟩ v0).setCell ⟨o,1,none⟩ v1).setCell ⟨o,2,none⟩ v2).cell? ⟨h,0,none⟩=some (.bool y.neg)∧(((w.setCell ⟨o,0,none⟩ v0).setCell ⟨o,1,none⟩ v1).setCell ⟨o,2,none⟩ v2).cell? ⟨h,1,none⟩=some (.slice y.a y.xs.length y.c)∧(((w.setCell ⟨o,0,none⟩ v0).setCell ⟨o,1,none⟩ v1).setCell ⟨o,2,none⟩ v2).cell? ⟨h,2,none⟩=some (.int .i64 y.e):=by
 obtain⟨a0,a1,a2,b0,b1,b2⟩:=hS
 obtain⟨c0,c1,c2⟩:=set3x (x0:=v0) (x1:=v1) (x2:=v2) n ⟨a0,a1,a2⟩
 obtain⟨d0,d1,d2⟩:=set3x (x0:=v0) (x1:=v1) (x2:=v2) n' ⟨b0,b1,b2⟩
 exact⟨c0,c1,c2,d0,d1,d2⟩
set_option maxHeartbeats 2000000 in
theorem Add_rd (x y:RD) (w:World) (hx:x.ok w) (hy:y.ok w) (hT:Tab w) :
  Calls Tryz.prog 13 #[.agg #[.bool x.neg,.slice x.a x.xs.length x.c,.int .i64 x.e],.agg #[.bool y.neg,.slice y.a y.xs.length y.c,.int .i64 y.e]] w (NumE w (chk (sumD x.dy y.dy)).1 (chk (sumD x.dy y.dy)).2):=by
 have hvx:=hx.2
 have hvy:=hy.2
 have hok:=sumD_chk_ok x.dy y.dy
 go_enter Tryz.func13,Tryz.ntmps13
 go_wp2_with fail
 generalize hW:(((w.alloc _).alloc _).alloc _)=W at *
 have hk:Kp w W:=hW▸(((Kp.refl w).alloc _).alloc _).alloc _
 have hS:W.cell? ⟨w.heap.size,0,none⟩=some (.bool x.neg)∧W.cell? ⟨w.heap.size,1,none⟩=some (.slice x.a x.xs.length x.c)∧W.cell? ⟨w.heap.size,2,none⟩=some (.int .i64 x.e)∧W.cell? ⟨w.heap.size+1,0,none⟩=some (.bool y.neg)∧W.cell? ⟨w.heap.size+1,1,none⟩=some (.slice y.a y.xs.length y.c)∧W.cell? ⟨w.heap.size+1,2,none⟩=some (.int .i64 y.e):=by rw[← hW];exact keep6 ((Kp.refl _).alloc _) (by simp)
 have hB:Box3 W (w.heap.size+2) (.bool false) (.slice none 0 0) (.int .i64 0):=hW▸Box3.new3 _ _ _ _ _ _ _
 clear hW
 refine (Valid_rok x _ (hx.kp hk)).mono ?_
 rintro e w1 ⟨rfl,hk1⟩
 have hS1:=keepRR hk1 hS
 have hB1:=hB.kp hk1
 have hk2:=hk.trans hk1
 clear hS hk hk1 hB
 go_wp2_with fail
 refine (Valid_rok y _ (hy.kp hk2)).mono ?_
 rintro e w2 ⟨rfl,hk3⟩
 have hS2:=keepRR hk3 hS1
 have hB2:=hB1.kp hk3
 have hk4:=hk2.trans hk3
 clear hS1 hk2 hk3 hB1
 go_wp2_with fail
 refine (sum_rd x y _ (hx.kp hk4) (hy.kp hk4) (hT.kp hk4)).mono ?_
 generalize (chk (sumD x.dy y.dy)).1=F at *
 generalize (chk (sumD x.dy y.dy)).2=ff at *
 rintro e w3 ⟨z,rfl,rz,hz,vz,hk5⟩
 obtain⟨q0,q1,q2,f0,f1,f2⟩:=hB2.kp hk5
 have hkk:=hk4.trans hk5
 clear hS2 hB2 hk4 hk5
 go_wp2_with fail
 have hst:=stored q0 q1 q2 nofun nofun nofun (.bool z.neg) (.slice z.a z.xs.length z.c) (.int .i64 z.e)
 generalize (((w3.setCell _ _).setCell _ _).setCell _ _)=W2 at hst ⊢
 obtain⟨s0,s1,s2,_,s4,s5,_,_⟩:=hst
 refine bodyPost_ret (v:=.tuple #[.agg #[.bool z.neg,.slice z.a z.xs.length z.c,.int .i64 z.e],.int .i64 ff]) (by simp[results,Tryz.results13,go_sem,s0,s1,s2]) rfl ?_
 exact⟨z,rfl,⟨s4 _ _ rz.1,rz.2⟩,hz,vz,s5 _ hkk (by omega)⟩
set_option maxHeartbeats 2000000 in
theorem Sub_rd (x y:RD) (w:World) (hx:x.ok w) (hy:y.ok w) (hT:Tab w) :
  Calls Tryz.prog 64 #[.agg #[.bool x.neg,.slice x.a x.xs.length x.c,.int .i64 x.e],.agg #[.bool y.neg,.slice y.a y.xs.length y.c,.int .i64 y.e]] w (NumE w (chk (sumD x.dy y.dy.opp)).1 (chk (sumD x.dy y.dy.opp)).2):=by
 have hvx:=hx.2
 have hvy:=hy.2
 have hyd:=rdok_dy hy
 go_enter Tryz.func64,Tryz.ntmps64
 go_wp2_with fail
 generalize hW:(((w.alloc _).alloc _).alloc _)=W at *
 have hk:Kp w W:=hW▸(((Kp.refl w).alloc _).alloc _).alloc _
 have hS:W.cell? ⟨w.heap.size,0,none⟩=some (.bool x.neg)∧W.cell? ⟨w.heap.size,1,none⟩=some (.slice x.a x.xs.length x.c)∧W.cell? ⟨w.heap.size,2,none⟩=some (.int .i64 x.e)∧W.cell? ⟨w.heap.size+1,0,none⟩=some (.bool y.neg)∧W.cell? ⟨w.heap.size+1,1,none⟩=some (.slice y.a y.xs.length y.c)∧W.cell? ⟨w.heap.size+1,2,none⟩=some (.int .i64 y.e):=by rw[← hW];exact keep6 ((Kp.refl _).alloc _) (by simp)
 have hB:Box3 W (w.heap.size+2) (.bool false) (.slice none 0 0) (.int .i64 0):=hW▸Box3.new3 _ _ _ _ _ _ _
 clear hW
 refine (Valid_rok x _ (hx.kp hk)).mono ?_
 rintro e w1 ⟨rfl,hk1⟩
 have hS1:=keepRR hk1 hS
 have hB1:=hB.kp hk1
 have hk2:=hk.trans hk1
 clear hS hk hk1 hB
 go_wp2_with fail
 refine (Valid_rok y _ (hy.kp hk2)).mono ?_
 rintro e w2 ⟨rfl,hk3⟩
 have hk4:=(hk2.trans hk3).drew
 have hS2:=keepRR (Kp.refl w2).drew (keepRR hk3 hS1)
 have hB2:=(hB1.kp hk3).kp (Kp.refl w2).drew
 have hx4:=hx.kp hk4
 have hy4:=hy.kp hk4
 have hT4:=hT.kp hk4
 clear hS1 hk2 hk3 hB1
 go_wp2_with fail
 go_region_held3 (fun w'=>w'.cell? ⟨w.heap.size,0,none⟩=some (.bool x.neg)∧w'.cell? ⟨w.heap.size,1,none⟩=some (.slice x.a x.xs.length x.c)∧w'.cell? ⟨w.heap.size,2,none⟩=some (.int .i64 x.e)∧w'.cell? ⟨w.heap.size+1,0,none⟩=some (.bool y.neg)∧w'.cell? ⟨w.heap.size+1,1,none⟩=some (.slice y.a y.xs.length y.c)∧w'.cell? ⟨w.heap.size+1,2,none⟩=some (.int .i64 y.e)) (first | with_reducible assumption | with_reducible exact keepRR (by assumption) (by assumption) | with_reducible exact setRR (by omega) (by omega) (by assumption))
  (first
   | (go_at_call 67;refine (Neg_ok y _ hy4).mono ?_;rintro e w5 ⟨v,rfl,rv,hv,vv,hk5⟩)
   | (go_at_call 57;refine (sum_rd x v _ (hx4.kp hk5) ⟨rv,vv (Dy.opp_ok hyd)⟩ (hT4.kp hk5)).mono ?_;rw[hv];rintro e w6 ⟨z,rfl,rz,hz,vz,hk6⟩;obtain⟨q0,q1,q2,f0,f1,f2⟩:=(hB2.kp hk5).kp hk6))
 have hkk:=(hk4.trans hk5).trans hk6
 clear hS2 hB2 hk4 hk5 hk6
 have hst:=stored q0 q1 q2 nofun nofun nofun (.bool z.neg) (.slice z.a z.xs.length z.c) (.int .i64 z.e)
 go_wp2_with fail
 generalize (((w6.setCell _ _).setCell _ _).setCell _ _)=W2 at hst ⊢
 obtain⟨s0,s1,s2,_,s4,s5,_,_⟩:=hst
 refine bodyPost_ret (v:=.tuple #[.agg #[.bool z.neg,.slice z.a z.xs.length z.c,.int .i64 z.e],.int .i64 (chk (sumD x.dy y.dy.opp)).2]) (by simp[results,Tryz.results64,go_sem,s0,s1,s2]) rfl ?_
 exact⟨z,rfl,⟨s4 _ _ rz.1,rz.2⟩,hz,vz,s5 _ hkk (by omega)⟩
set_option maxHeartbeats 1000000 in
theorem eqU_any (a b:Option Addr) (xs ys:List Nat) (c d:Nat) (w:World) (h1:Rd w a xs) (h2:Rd w b ys) (hxl:xs.length≤1100000) :
  Calls Tryz.prog 96 #[.slice a xs.length c,.slice b ys.length d] w fun e w'=>e=.returned (.bool (decide (xs=ys)))∧Kp w w':=by
 by_cases hlen:xs.length=ys.length
 rotate_left
 ·have hne:((xs.length:Int) != ys.length)=true:=by simp;omega
  have H:=hid (show ¬ xs=ys from fun h=>hlen (by rw[h]))
  clear hlen
  go_enter Tryz.func96,Tryz.ntmps96
  go_wp2_with fail
  go_ret
  exact⟨ret_bool (decide_eq_false H.out).symm,.refl _⟩
 have hne:((xs.length:Int) != ys.length)=false:=by simp;omega
 have Hlen:=hid hlen
 have hle1:xs.length≤ys.length:=by omega
 clear hlen
 go_enter Tryz.func96,Tryz.ntmps96
 go_wp2_with fail
 go_loopw [13] (fun ix wr=>∃ k:Nat,k≤xs.length∧ix=.int .i64 k∧xs.take k=ys.take k∧Kp w wr) (fun ix _=>xs.length-(intOf ix).toNat)
 case atStart=>exact⟨0,Nat.zero_le _,rfl,rfl,.refl _⟩
 case round =>
 obtain⟨k,hk,rfl,ht,hkp⟩:=hrel
 have Ht:=hid ht
 clear ht
 by_cases hlt:k<xs.length
 rotate_left
 ·have hke:k=xs.length:=by omega
  have H:=hid (show xs=ys by
   have:=Ht.out
   rw[hke,List.take_of_length_le (Nat.le_refl _),List.take_of_length_le (by have:=Hlen.out;omega)] at this
   exact this)
  clear hke
  go_wp2_with fail
  go_ret
  exact⟨ret_bool (decide_eq_true H.out).symm,hkp⟩
 have hlt2:k<ys.length:=by omega
 obtain⟨b1,o1,rfl,hcx⟩:=(h1.kp hkp).some hlt
 have hx1:=hcx k hlt
 obtain⟨b2,o2,rfl,hcy⟩:=(h2.kp hkp).some hlt2
 have hy1:=hcy k hlt2
 have Hn:=hid (And.intro (take_succ_nth hlt) (take_succ_nth hlt2))
 have He:=hid (show xs=ys→nth xs k=nth ys k from fun h=>by rw[h])
 clear hcx hcy
 have hi0:(0:Int)≤(k:Int):=by omega
 have hi1:(k:Int)<(xs.length:Int):=by omega
 have hi2:(k:Int)<(ys.length:Int):=by omega
 by_cases hq:nth xs k=nth ys k
 ·have hq1:((nth xs k:Int) != (nth ys k:Int))=false:=by simp;omega
  have Hq:=hid hq
  clear hq
  go_wp2_with fail
  go_quiet (fail)
  go_wp2_with fail
  go_roundw
  case rel=>exact⟨k+1,by omega,by go_num,by rw[Hn.out.1,Hn.out.2,Ht.out,Hq.out],hkp.drewN _⟩
  all_goals (simp[intOf];try omega)
 have hq1:((nth xs k:Int) != (nth ys k:Int))=true:=by simp;omega
 have Hq:=hid hq
 clear hq
 go_wp2_with fail
 go_quiet (fail)
 go_wp2_with fail
 go_ret
 exact⟨ret_bool (decide_eq_false fun h=>Hq.out (He.out h)).symm,hkp.drewN _⟩
def sameR (x y:RD):Bool:=(x.neg==y.neg)&&(decide (x.e=y.e)&&decide (x.xs=y.xs))
theorem sameR_dy {w w':World} {x y:RD} (hx:x.ok w) (hy:y.ok w') (h:x.dy=y.dy):sameR x y=true:=by
 have h1:=rdok_limbs hx
 have h2:=rdok_limbs hy
 have e1:x.neg=y.neg:=congrArg Dy.neg h
 have e2:x.e=y.e:=congrArg Dy.e h
 have e3:x.xs=y.xs:=by rw[← h1,← h2,h]
 unfold sameR
 rw[e1,e2,e3];simp
theorem Bits_rok (x:RD) (w:World) (h:x.ok w) :
  Calls Tryz.prog 231 #[.agg #[.bool x.neg,.slice x.a x.xs.length x.c,.int .i64 x.e]] w fun e w'=>e=.returned (.int .i64 (bits (val x.xs)))∧Kp w w':=by
 have H:=Bits_ok x.dy x.a x.c w (rdok_at h)
 rw[rdok_limbs h] at H
 exact H
section
theorem short_step {xs zs:List Nat} {d k r:Nat} (hk:k<xs.length) (hl:zs.length=xs.length) (_hr:r<d)
  (h:val (zs.drop (k+1))*d+r=val (xs.drop (k+1))) :
  val ((zs.set k ((nth xs k+4294967296*r)/d)).drop k)*d+(nth xs k+4294967296*r) % d=val (xs.drop k):=by
 have e1:(zs.set k ((nth xs k+4294967296*r)/d)).drop k=(nth xs k+4294967296*r)/d::zs.drop (k+1):=by
  rw[set_eq_take_drop (by omega),List.drop_append,List.drop_of_length_le (by simp;omega)]
  simp[Nat.min_eq_left (by omega:k≤zs.length)]
 rw[e1,drop_eq_nth hk,val_cons,val_cons,← h]
 have h2:=Nat.div_add_mod (nth xs k+4294967296*r) d
 generalize (nth xs k+4294967296*r)/d=q at *
 generalize (nth xs k+4294967296*r) % d=s at *
 generalize val (zs.drop (k+1))=V at *
 rw[Nat.add_mul,Nat.mul_comm q d,Nat.mul_assoc,Nat.mul_add]
 omega
theorem short_digit {x d r:Nat} (hx:x<4294967296) (hr:r<d):(x+4294967296*r)/d<4294967296:=by
 rw[Nat.div_lt_iff_lt_mul (by omega)]
 calc x+4294967296*r<4294967296+4294967296*r:=by omega
  _=4294967296*(r+1):=by omega
  _≤4294967296*d:=Nat.mul_le_mul_left _ hr
end
theorem join64 {x y:Nat} (hx:x<4294967296) (hy:y<4294967296) :
  Go.bits BinOp.or IntKind.u64 ((y:Int)*4294967296) (x:Int)=((x+4294967296*y:Nat):Int):=by
 rw[show (y:Int)*4294967296=((y*2 ^ 32:Nat):Int) from by rw[Int.natCast_mul];rfl,u64_or_nat _ _ (by omega) (by omega),nat_join 32 _ _ (Nat.mul_mod_left _ _) hx]
 congr 1;omega
theorem ret_div32 {a b:Int} {c d:Nat} (h:a=c) (h':b=d):Ending.returned (.tuple #[.int .u32 a,.int .u32 b])=.returned (.tuple #[.int .u32 (c:Int),.int .u32 (d:Int)]):=by rw[h,h']
set_option maxHeartbeats 1000000 in
theorem div32_any (hi lo y:Nat) (w:World) (hlo:lo<4294967296) (hy:y<4294967296) (hlt:hi<y) :
  Calls Tryz.prog 251 #[.int .u32 hi,.int .u32 lo,.int .u32 y] w fun e w' =>
   e=.returned (.tuple #[.int .u32 ((lo+4294967296*hi)/y:Nat),.int .u32 ((lo+4294967296*hi) % y:Nat)])∧Kp w w':=by
 have hor:=join64 hlo (show hi<4294967296 by omega)
 have Hq:=hid (short_digit hlo hlt)
 have Hr:=hid (Nat.lt_trans (Nat.mod_lt (lo+4294967296*hi) (by omega:y > 0)) hy)
 have hy0:(y:Int)≠0:=by omega
 have hy1:((y:Int)==0)=false:=beq_eq_false_iff_ne.2 hy0
 have hy2:((y:Int) != 0)=true:=by rw[bne,hy1];rfl
 have hle:¬ (y:Int)≤(hi:Int):=by omega
 have hw:((hi:Int)*4294967296) % 18446744073709551616=(hi:Int)*4294967296:=by omega
 go_enter Tryz.func251,Tryz.ntmps251
 go_wp2_with fail
 go_quiet (fail)
 go_wp2_with fail
 refine bodyPost_ret (v:=.tuple #[.int .u32 (((lo:Int)+4294967296*hi)/y % 4294967296),.int .u32 (((lo:Int)+4294967296*hi) % y % 4294967296)]) (by simp[results,Tryz.results251,go_sem]) rfl ?_
 have e1:((lo:Int)+4294967296*hi)/y=(((lo+4294967296*hi)/y:Nat):Int):=by rw[Int.natCast_ediv,Int.natCast_add,Int.natCast_mul];rfl
 have e2:((lo:Int)+4294967296*hi) % y=(((lo+4294967296*hi) % y:Nat):Int):=by rw[Int.natCast_emod,Int.natCast_add,Int.natCast_mul];rfl
 have hq:=Hq.out
 have hr:=Hr.out
 rw[e1,e2]
 generalize (lo+4294967296*hi)/y=q at *
 generalize (lo+4294967296*hi) % y=r at *
 exact⟨ret_div32 (by omega) (by omega),(Kp.refl w).drewN _⟩
def ShortOut (w:World) (xs:List Nat) (d:Nat) (e:Ending) (w':World):Prop :=
 ∃ g zs r,e=.returned (.tuple #[.slice (some ⟨g,0,none⟩) xs.length xs.length,.int .u32 (r:Nat)])∧zs.length=xs.length∧val zs*d+r=val xs∧r<d∧Rd w' (some ⟨g,0,none⟩) zs∧Kp w w'
set_option maxHeartbeats 2000000 in
theorem short_any (a:Option Addr) (xs:List Nat) (c d:Nat) (w:World) (hx:Rd w a xs) (hxl:xs.length≤1000) (hd0:0<d) (hd:d<4294967296) :
  Calls Tryz.prog 246 #[.slice a xs.length c,.int .u32 d] w (ShortOut w xs d):=by
 go_enter Tryz.func246,Tryz.ntmps246
 have hmk:=make_u32 (xs.length:Int) xs.length rfl (by omega)
 go_wp2
 clear hmk
 go_loopw [7,8] (fun cy ix wr=>∃ (k r:Nat) (zs:List Nat),k≤xs.length∧ix=.int .i64 ((k:Int)-1)∧cy=.int .u32 (r:Nat)∧r<d∧zs.length=xs.length∧Blk wr w.heap.size zs∧Lt32 zs ∧
   val (zs.drop k)*d+r=val (xs.drop k)∧Kp w wr) (fun _ ix _=>(intOf ix+1).toNat)
 case atStart=>exact⟨xs.length,0,_,Nat.le_refl _,rfl,rfl,hd0,by simp,Blk.made _ _,.replicate _,by simp[val],(Kp.refl _).alloc _⟩
 case round =>
 obtain⟨k,r,zs,hk,rfl,rfl,hr,hzl,hb,hz32,hvz,hkp⟩:=hrel
 have Hvz:=hid hvz
 have Hzl:=hid hzl
 clear hvz
 rcases k with _ | j
 ·rw[show (((0:Nat):Int)-1)=-1 from rfl]
  go_wp2_with fail
  go_ret2
  have e2:=Hvz.out
  rw[List.drop_zero,List.drop_zero] at e2
  exact⟨_,zs,r,rfl,Hzl.out,e2,hr,hb.rd hz32,hkp⟩
 rw[show (((j+1:Nat):Int)-1)=(j:Int) from by omega]
 obtain⟨b1,o1,rfl,hcx⟩:=(hx.kp hkp).some (i:=j) (by omega)
 have hx1:=hcx j (by omega)
 have bx:=hx.lt32.nth j
 have hs1:=hb.cell (i:=j) (by omega)
 have hs2:=hb.frozen j
 have Hd:=hid (short_digit bx hr)
 have Hst:=hid (short_step (by omega) Hzl.out hr Hvz.out)
 have Hm:=hid (Nat.mod_lt (nth xs j+4294967296*r) hd0)
 clear hcx
 go_wp2_with fail
 refine (div32_any r (nth xs j) d _ bx hd hr).mono ?_
 rintro e w2 ⟨rfl,hk2⟩
 have hb2:=hb.kp hk2
 have hs3:=hb2.cell (i:=j) (by omega)
 have hs4:=hb2.frozen j
 clear hs1 hs2
 go_wp2_with fail
 go_roundw
 case rel =>
  exact⟨j,(nth xs j+4294967296*r) % d,zs.set j ((nth xs j+4294967296*r)/d),by omega,by go_num,rfl,Hm.out,by simp[Hzl.out],hb2.set _ _,hz32.set _ _ Hd.out,Hst.out,(hkp.trans hk2).set (Nat.le_refl _) _⟩
 all_goals (simp[intOf];try omega)
def DivOut (w:World) (n m l:Nat) (e:Ending) (w':World):Prop :=
 ∃ a1 c1 qs a2 c2 rs,e=.returned (.tuple #[.slice a1 qs.length c1,.slice a2 rs.length c2])∧qs.length≤c1∧c1≤maxLen∧rs.length≤c2∧c2≤maxLen∧Rd w' a1 qs∧Rd w' a2 rs ∧
  val qs=n/m∧val rs=n % m∧qs.length≤l∧rs.length≤l∧Kp w w'
theorem one_limb {n:Nat} (h:(limbs n).length=1):nth (limbs n) 0=n∧0<n∧n<4294967296:=by
 have h0:n≠0:=fun k=>by subst k;rw[limbs_zero] at h;cases h
 have h1:n<4294967296 ^ 1:=limbs_length_le.1 (by omega)
 have h2:=val_limbs n
 match hl:limbs n,h with
 | [x],_ =>
  rw[hl] at h2
  refine⟨?_,by omega,by simpa using h1⟩
  rw[nth_cons_zero]
  simpa [val] using h2
set_option maxRecDepth 100000 in
set_option maxHeartbeats 4000000 in
theorem divide1_any (a b:Option Addr) (xs ys:List Nat) (c d:Nat) (w:World) (hx:Rd w a xs) (hy:Rd w b ys) (hxl:xs.length≤256) (hxc:xs.length≤c) (hyc:ys.length≤d) (hc:c≤maxLen) (hd:d≤maxLen) (h1:(limbs (val ys)).length=1) :
  Calls Tryz.prog 244 #[.slice a xs.length c,.slice b ys.length d] w (DivOut w (val xs) (val ys) 256):=by
 have H1:=hid (trim_any a xs c w hx hxc hc)
 have H2:=hid (trim_any b ys d w hy hyc hd)
 have g1:=hx.limbs
 have g2:=hy.limbs
 have hl1:=limbs_len_le hx.lt32
 have hl2:=limbs_len_le hy.lt32
 have Hv1:=hid (val_limbs (val xs))
 have Hv2:=hid (val_limbs (val ys))
 have Ho:=hid (one_limb h1)
 have H11:=hid h1
 clear h1
 have hcu:(limbs (val xs)).length≤c:=by omega
 have hcv:(limbs (val ys)).length≤d:=by omega
 go_enter Tryz.func244,Tryz.ntmps244
 go_wp2_with fail
 refine H1.out.mono ?_
 rintro e w2 ⟨rfl,rfl⟩
 go_wp2_with fail
 refine H2.out.mono ?_
 rintro e w2 ⟨rfl,rfl⟩
 clear H1 H2 hx hy
 generalize val xs=m at *
 generalize val ys=n at *
 generalize limbs m=us at *
 generalize limbs n=vs at *
 have hul:us.length≤256:=by omega
 clear hxl hxc hyc hl1 hl2
 go_wp2_with fail
 refine (cmp_any a b us vs c d _ g1 g2 hcu hcv hc hd).mono ?_
 rw[Hv1.out,Hv2.out]
 rintro e w3 ⟨rfl,hk3⟩
 by_cases hlt:m<n
 ·have hcm:cmpN m n<0:=by rw[cmpN_lt hlt];decide
  have Hlt:=hid hlt
  clear hlt
  go_wp2_with fail
  refine (clone_any a us c _ (g1.kp hk3) (by omega)).mono ?_
  rintro e w4 ⟨a4,c4,rfl,r4,l4,m4,hk4⟩
  go_wp2_with fail
  refine bodyPost_ret (v:=.tuple #[.slice none 0 0,.slice a4 us.length c4]) (by simp[results,Tryz.results244,go_sem]) rfl ?_
  exact⟨none,0,[],a4,c4,us,rfl,Nat.le_refl _,by decide,l4,m4,.nil _ _,r4,by rw[Nat.div_eq_of_lt Hlt.out];rfl,by rw[Nat.mod_eq_of_lt Hlt.out];exact Hv1.out,Nat.zero_le _,hul,hk3.trans hk4⟩
 have hcm:¬ cmpN m n<0:=by
  rcases Nat.lt_or_eq_of_le (Nat.le_of_not_lt hlt) with h | h
  ·unfold cmpN;split <;> (try split) <;> omega
  ·unfold cmpN;split <;> (try split) <;> omega
 clear hlt
 obtain⟨b1,o1,rfl,hcx⟩:=(g2.kp hk3).some (i:=0) (by have:=H11.out;omega)
 have hy0:=hcx 0 (by have:=H11.out;omega)
 obtain⟨e0,hn0,hn1⟩:=Ho.out
 rw[e0,Nat.add_zero] at hy0
 have hpos:(0:Int)<(vs.length:Int):=by have:=H11.out;omega
 have h1b:((vs.length:Int)==1)=true:=by rw[H11.out];rfl
 clear hcx e0
 go_wp2_with fail
 refine (short_any a us c n _ (g1.kp hk3) (by omega) hn0 hn1).mono ?_
 rintro e w4 ⟨g,zs,r,rfl,hzl,hzv,hr,hrd,hk4⟩
 rw[← hzl]
 have Hz:=hid (show val zs=m/n∧r=m % n by
  rw[Hv1.out] at hzv
  have h2:=Nat.div_mod_unique hn0 (a:=m) (c:=r) (d:=val zs)
  have h3:=h2.2 ⟨by rw[← hzv,Nat.mul_comm];omega,hr⟩
  exact⟨h3.1.symm,h3.2.symm⟩)
 have hzl2:zs.length≤256:=by omega
 have hrn:r<4294967296:=by omega
 have hk5:=(hk3.trans hk4).alloc (.cells #[.int .u32 (r:Nat)] 109)
 have hrd5:=hrd.kp ((Kp.refl w4).alloc (.cells #[.int .u32 (r:Nat)] 109))
 have hr5:Rd (w4.alloc (.cells #[.int .u32 (r:Nat)] 109)) (some ⟨w4.heap.size,0,none⟩) [r]:=⟨.cons hrn .nil,.inr ⟨_,0,rfl,fun i hi=>by
  have:i=0:=by simpa using hi
  subst this
  simp[nth_cons_zero]⟩⟩
 clear hzv hzl hrd
 go_wp2_with fail
 refine bodyPost_ret (v:=.tuple #[.slice (some ⟨g,0,none⟩) zs.length zs.length,.slice (some ⟨w4.heap.size,0,none⟩) 1 1]) (by simp[results,Tryz.results244,go_sem]) rfl ?_
 exact⟨_,_,zs,_,1,[r],rfl,Nat.le_refl _,by unfold maxLen;omega,Nat.le_refl _,by decide,hrd5,hr5,Hz.out.1,by rw[← Hz.out.2];simp[val],hzl2,by simp,hk5⟩
def DmOut (w:World) (n m:Nat) (e:Ending) (w':World):Prop :=
 ∃ a1 c1 a2 c2,e=.returned (.tuple #[.slice a1 (limbs (n/m)).length c1,.slice a2 (limbs (n % m)).length c2,.int .i64 0])∧(limbs (n/m)).length≤c1∧c1≤maxLen∧(limbs (n % m)).length≤c2∧c2≤maxLen ∧
  Rd w' a1 (limbs (n/m))∧Rd w' a2 (limbs (n % m))∧Kp w w'
set_option maxHeartbeats 1000000 in
theorem DivMod_of (a b:Option Addr) (xs ys:List Nat) (c d:Nat) (w:World) (hy:Rd w b ys) (hxl:xs.length≤256) (hyl:ys.length≤256) (hyc:ys.length≤d) (hd:d≤maxLen) (h0:val ys≠0)
  (hdiv:∀ W,Kp w W→Calls Tryz.prog 244 #[.slice a xs.length c,.slice b ys.length d] W (DivOut W (val xs) (val ys) 256)) :
  Calls Tryz.prog 232 #[.slice a xs.length c,.slice b ys.length d] w (DmOut w (val xs) (val ys)):=by
 have Hd:=hid hdiv
 have hl0:((limbs (val ys)).length:Int)≠0:=by
  have:limbs (val ys)≠[]:=fun h=>h0 (limbs_eq_nil.1 h)
  have:=List.length_pos_iff.2 this
  omega
 have hl1:(((limbs (val ys)).length:Int)==0)=false:=beq_eq_false_iff_ne.2 hl0
 clear hdiv h0 hl0
 go_enter Tryz.func232,Tryz.ntmps232
 go_wp2_with fail
 refine (long_two a b xs.length c ys.length d _ _ hxl hyl (by simp) (by simp)).mono ?_
 rintro e w1 ⟨rfl,hk1⟩
 have hk:Kp w w1:=((Kp.refl w).alloc _).trans hk1
 clear hk1
 go_wp2_with fail
 refine (trim_any b ys d w1 (hy.kp hk) hyc hd).mono ?_
 rintro e w2 ⟨rfl,rfl⟩
 go_wp2_with fail
 refine (Hd.out _ hk).mono ?_
 rintro e w3 ⟨a1,c1,qs,a2,c2,rs,rfl,hq1,hq2,hr1,hr2,rq,rr,vq,vr,lq,lr,hk3⟩
 have hq3:=limbs_len_le rq.lt32
 have hr3:=limbs_len_le rr.lt32
 have gq:=rq.limbs
 have gr:=rr.limbs
 have tq:=trim_any a1 qs c1 w3 rq hq1 hq2
 have tr:=trim_any a2 rs c2 w3 rr hr1 hr2
 rw[vq] at tq gq hq3
 rw[vr] at tr gr hr3
 have Tq:=hid tq
 have Tr:=hid tr
 have hk4:=hk.trans hk3
 clear tq tr vq vr rq rr hk hk3 hl1
 go_wp2_with fail
 refine Tq.out.mono ?_
 rintro e w4 ⟨rfl,rfl⟩
 go_wp2_with fail
 refine (clip_any _ _ _ _ (by omega) hq2).mono ?_
 rintro e w4 ⟨rfl,rfl⟩
 go_wp2_with fail
 refine Tr.out.mono ?_
 rintro e w4 ⟨rfl,rfl⟩
 go_wp2_with fail
 refine (clip_any _ _ _ _ (by omega) hr2).mono ?_
 rintro e w4 ⟨rfl,rfl⟩
 go_wp2_with fail
 refine bodyPost_ret (v:=.tuple #[.slice a1 (limbs (val xs/val ys)).length (limbs (val xs/val ys)).length,.slice a2 (limbs (val xs % val ys)).length (limbs (val xs % val ys)).length,.int .i64 0]) (by simp[results,Tryz.results232,go_sem]) rfl ?_
 exact⟨a1,_,a2,_,rfl,Nat.le_refl _,by omega,Nat.le_refl _,by omega,gq,gr,hk4⟩
theorem fltB_ok {p:Nat} {ys:List RD} (h:ys.all RD.vl=true) (h0:8≤p) (h1:p≤512):fltB p ys=0:=fltB_zero.2 ⟨h,by omega,by omega⟩
theorem permitted_any (p:Int) (w:World) :
  Calls Tryz.prog 139 #[.int .i64 p] w fun e w'=>e=.returned (.bool (preB p))∧w=w':=by
 by_cases h1:8≤p
 rotate_left
 ·have H:=hid (show preB p=false from decide_eq_false (by omega))
  go_enter Tryz.func139,Tryz.ntmps139
  go_wp2_with fail
  go_ret
  exact⟨ret_bool (by first | exact H.out.symm | (rw[H.out];simp;omega)),rfl⟩
 by_cases h2:p≤512
 ·have H:=hid (show preB p=true from decide_eq_true ⟨h1,h2⟩)
  go_enter Tryz.func139,Tryz.ntmps139
  go_wp2_with fail
  go_ret
  exact⟨ret_bool (by first | exact H.out.symm | (rw[H.out];simp;omega)),rfl⟩
 have H:=hid (show preB p=false from decide_eq_false (by omega))
 go_enter Tryz.func139,Tryz.ntmps139
 go_wp2_with fail
 go_ret
 exact⟨ret_bool (by first | exact H.out.symm | (rw[H.out];simp;omega)),rfl⟩
theorem limbs_of_bits {n k:Nat} (h:bits n≤32*k):(limbs n).length≤k:=limbs_length_le.2 (by rw[pow32];exact bits_le.1 h)
theorem dok_bits {d:Dy} (h:d.ok):bits d.m≤4096:=by
 rcases h with ⟨h1,_⟩ | ⟨_,h1,_⟩
 ·rw[h1,bits_zero];omega
 exact h1
set_option maxRecDepth 100000 in
set_option maxHeartbeats 8000000 in
theorem div_of (x y:RD) (p K:Nat) (up:Bool) (w:World) (hx:x.ok w) (hy:y.ok w) (hx0:val x.xs≠0) (hy0:val y.xs≠0) (hp0:8≤p) (hp1:p≤512) (hT:Tab w)
  (hK:(K:Int)=max 0 ((p:Int)+3+bits (val y.xs)-bits (val x.xs)))
  (hdiv:∀ W a c,Kp w W→Rd W a (limbs (val x.xs*2 ^ K))→(limbs (val x.xs*2 ^ K)).length≤c→c≤maxLen→Rd W y.a y.xs→Calls Tryz.prog 244 #[.slice a (limbs (val x.xs*2 ^ K)).length c,.slice y.a y.xs.length y.c] W (DivOut W (val x.xs*2 ^ K) (val y.xs) 256)) :
  Calls Tryz.prog 208 #[.agg #[.bool x.neg,.slice x.a x.xs.length x.c,.int .i64 x.e],.agg #[.bool y.neg,.slice y.a y.xs.length y.c,.int .i64 y.e],.int .i64 p,.bool up] w
   (NumE w (rndE (rndS (x.neg != y.neg) (val x.xs*2 ^ K/val y.xs) (x.e-K-y.e) (decide (0<bits (val x.xs*2 ^ K % val y.xs))) p up)).1 (rndE (rndS (x.neg != y.neg) (val x.xs*2 ^ K/val y.xs) (x.e-K-y.e) (decide (0<bits (val x.xs*2 ^ K % val y.xs))) p up)).2):=by
 have Hdv:=hid hdiv
 have hxl:(x.xs.length:Int)≠0:=by have:=(rdok_zero hx).1;intro h;exact hx0 (this (by omega))
 have hyl:(y.xs.length:Int)≠0:=by have:=(rdok_zero hy).1;intro h;exact hy0 (this (by omega))
 have hxz:((x.xs.length:Int)==0)=false:=beq_eq_false_iff_ne.2 hxl
 have hyz:((y.xs.length:Int)==0)=false:=beq_eq_false_iff_ne.2 hyl
 have Hf:=hid (show fltB p [x,y]=0 from fltB_ok (by simp[hx.2,hy.2]) hp0 hp1)
 have HKK:=hid hK
 have Hn:=hid (show (limbs (val x.xs*2 ^ K)).length≤200 by
  have hbx:bits (val x.xs)≤4096:=dok_bits (rdok_dy hx)
  have hby:bits (val y.xs)≤4096:=dok_bits (rdok_dy hy)
  refine limbs_of_bits ?_
  rw[bits_mul_pow hx0];omega)
 have HdM:=hid (show ∀ W a c,Kp w W→Rd W a (limbs (val x.xs*2 ^ K))→(limbs (val x.xs*2 ^ K)).length≤c→c≤maxLen→Rd W y.a y.xs→Calls Tryz.prog 232 #[.slice a (limbs (val x.xs*2 ^ K)).length c,.slice y.a y.xs.length y.c] W (DmOut W (val x.xs*2 ^ K) (val y.xs)) from
  fun W a c k1 k2 k3 k4 k5=>by
   have:=DivMod_of a y.a (limbs (val x.xs*2 ^ K)) y.xs c y.c W k5 (Nat.le_trans Hn.out (by decide)) (Nat.le_trans (rdok_len hy) (by decide)) hy.1.2.1 hy.1.2.2.1 hy0
    (fun W' k=>by rw[val_limbs];exact hdiv W' a c (k1.trans k) (k2.kp k) k3 k4 (k5.kp k))
   rwa [val_limbs] at this)
 clear hdiv hxl hyl hK hx0 hy0
 go_enter Tryz.func208,Tryz.ntmps208
 go_wp2_with fail
 generalize hW:(((w.alloc _).alloc _).alloc _)=W at *
 have hk:Kp w W:=hW▸(((Kp.refl w).alloc _).alloc _).alloc _
 have hS:W.cell? ⟨w.heap.size,0,none⟩=some (.bool x.neg)∧W.cell? ⟨w.heap.size,1,none⟩=some (.slice x.a x.xs.length x.c)∧W.cell? ⟨w.heap.size,2,none⟩=some (.int .i64 x.e)∧W.cell? ⟨w.heap.size+1,0,none⟩=some (.bool y.neg)∧W.cell? ⟨w.heap.size+1,1,none⟩=some (.slice y.a y.xs.length y.c)∧W.cell? ⟨w.heap.size+1,2,none⟩=some (.int .i64 y.e):=by rw[← hW];exact keep6 ((Kp.refl _).alloc _) (by simp)
 have hB:Box3 W (w.heap.size+2) (.bool false) (.slice none 0 0) (.int .i64 0):=hW▸Box3.new3 _ _ _ _ _ _ _
 have hsz:W.heap.size=w.heap.size+1+1+1:=by rw[← hW];simp
 clear hW
 have hka:=(Kp.refl W).alloc (.cells #[.bool x.neg,.slice x.a x.xs.length x.c,.int .i64 x.e,.bool y.neg,.slice y.a y.xs.length y.c,.int .i64 y.e] 38)
 have hRw:=rowD_two W x y (hx.kp hk).1 (hy.kp hk).1 38
 rw[hsz] at hRw
 clear hsz
 refine (fault_any p _ [x,y] 2 _ hRw (by simp)).mono ?_
 rw[Hf.out]
 rintro e w1 ⟨rfl,hk1⟩
 have hS1:=keepRR (hka.trans hk1) hS
 have hB1:=hB.kp (hka.trans hk1)
 have hk2:=hk.trans (hka.trans hk1)
 clear hS hB hk hk1 hka hRw
 go_wp2_with fail
 have hxd:=(hx.kp hk2).drew
 have hyd:=(hy.kp hk2).drew
 have hbx:bits (val x.xs)≤4096:=dok_bits (rdok_dy hx)
 have hby:bits (val y.xs)≤4096:=dok_bits (rdok_dy hy)
 have hS2:=keepRR (Kp.refl w1).drew hS1
 have hB2:=hB1.kp (Kp.refl w1).drew
 have hk3:=hk2.drew
 clear hS1 hB1 hk2
 go_region_held3 (fun w'=>w'.cell? ⟨w.heap.size,0,none⟩=some (.bool x.neg)∧w'.cell? ⟨w.heap.size,1,none⟩=some (.slice x.a x.xs.length x.c)∧w'.cell? ⟨w.heap.size,2,none⟩=some (.int .i64 x.e)∧w'.cell? ⟨w.heap.size+1,0,none⟩=some (.bool y.neg)∧w'.cell? ⟨w.heap.size+1,1,none⟩=some (.slice y.a y.xs.length y.c)∧w'.cell? ⟨w.heap.size+1,2,none⟩=some (.int .i64 y.e)) (first | with_reducible assumption | with_reducible exact keepRR (by assumption) (by assumption))
  (first
   | (go_at_call 231;refine (Bits_rok y _ hyd).mono ?_;rintro e w4 ⟨rfl,hk4⟩)
   | (go_at_call 231;refine (Bits_rok x _ (hxd.kp hk4)).mono ?_;rintro e w5 ⟨rfl,hk5⟩))
 have hKw:max 0 (IntKind.i64.wrap (IntKind.i64.wrap (IntKind.i64.wrap ((p:Int)+3)+(bits (val y.xs):Int))-(bits (val x.xs):Int)))=(K:Int):=by
  rw[IntWalk.i64_in ((p:Int)+3) (by omega),IntWalk.i64_in ((p:Int)+3+_) (by omega),IntWalk.i64_in _ (by omega)]
  exact HKK.out.symm
 rw[hKw]
 have hK2:K≤4611:=by have:=HKK.out;omega
 have hk5':=(hk3.trans hk4).trans hk5
 have hx5:=(hxd.kp hk4).kp hk5
 have hy5:=(hyd.kp hk4).kp hk5
 have hT5:=hT.kp hk5'
 have hB5:=(hB2.kp hk4).kp hk5
 have hS5:=keepRR (hk4.trans hk5) hS2
 clear hKw hbx hby hS2 hB2 hk3 hk4 hk5 hxd hyd
 have hlen:=rdok_len hx5
 have hlen2:=rdok_len hy5
 have hel:=rdok_e hx5
 have hel2:=rdok_e hy5
 go_wp2_with fail
 have hk6:=hk5'.drew
 have hx6:=hx5.drew
 have hy6:=hy5.drew
 have hT6:=hT5.kp (Kp.refl w5).drew
 have hB6:=hB5.kp (Kp.refl w5).drew
 have hS6:=keepRR (Kp.refl w5).drew hS5
 have Hsh:=hid (roshl_any x.a x.xs x.c (K:Int) w5.drew hx6.1.1 (by omega) hx6.1.2.1 hx6.1.2.2.1 (by omega) (by omega) (by rw[Int.toNat_natCast];exact Nat.le_trans Hn.out (by decide)))
 clear hx5 hy5 hT5 hB5 hS5
 go_region_held3 (fun w'=>w'.cell? ⟨w.heap.size,0,none⟩=some (.bool x.neg)∧w'.cell? ⟨w.heap.size,1,none⟩=some (.slice x.a x.xs.length x.c)∧w'.cell? ⟨w.heap.size,2,none⟩=some (.int .i64 x.e)∧w'.cell? ⟨w.heap.size+1,0,none⟩=some (.bool y.neg)∧w'.cell? ⟨w.heap.size+1,1,none⟩=some (.slice y.a y.xs.length y.c)∧w'.cell? ⟨w.heap.size+1,2,none⟩=some (.int .i64 y.e)) (first | with_reducible assumption | with_reducible exact keepRR (by assumption) (by assumption))
  (first
   | (go_at_call 233;refine Hsh.out.mono ?_;rw[Int.toNat_natCast];rintro e w6 ⟨a6,c6,rfl,l6,m6,r6,hk7⟩)
   | (go_at_call 232;refine (HdM.out _ a6 c6 (hk6.trans hk7) r6 l6 m6 (hy6.1.1.kp hk7)).mono ?_;rintro e w7 ⟨a7,c7,a8,c8,rfl,l7,m7,l8,m8,r7,r8,hk8⟩))
 have hk9:=(hk6.trans hk7).trans hk8
 have hT7:=(hT6.kp hk7).kp hk8
 have hB7:=(hB6.kp hk7).kp hk8
 have hS7:=keepRR (hk7.trans hk8) hS6
 have HQ:=hid (Nat.le_trans (limbs_length_mono (Nat.div_le_self (val x.xs*2 ^ K) (val y.xs))) Hn.out)
 have HR:=hid (Nat.le_trans (limbs_length_mono (Nat.mod_le (val x.xs*2 ^ K) (val y.xs))) Hn.out)
 clear hk5' hx6 hy6 hT6 hB6 hS6 Hsh hk6 hk7 hk8 r6 l6 m6 HdM
 generalize val x.xs*2 ^ K/val y.xs=Q at *
 generalize val x.xs*2 ^ K % val y.xs=R at *
 go_wp2_with fail
 have hex:IntKind.i64.wrap (IntKind.i64.wrap (x.e-(K:Int))-y.e)=x.e-K-y.e:=by
  rw[IntWalk.i64_in (x.e-(K:Int)) (by omega),IntWalk.i64_in _ (by omega)]
 have Hex:=hid hex
 clear hex
 have HB:=hid (bits_any a8 (limbs R) c8)
 have Hsg:=hid (fun (W:World) (mo:Bool) (hr:Rd W a7 (limbs Q)) (hT:Tab W)=>signed_any (x.neg != y.neg) a7 (limbs Q) c7 (IntKind.i64.wrap (IntKind.i64.wrap (x.e-(K:Int))-y.e)) mo p up W hr (Nat.le_trans HQ.out (by decide)) l7 m7 (by rw[Hex.out];omega) (by rw[Hex.out];omega) hp0 hp1 hT)
 have hk9d:=hk9.drew
 have r7d:=r7.kp (Kp.refl w7).drew
 have r8d:=r8.kp (Kp.refl w7).drew
 have hT7d:=hT7.kp (Kp.refl w7).drew
 have hB7d:=hB7.kp (Kp.refl w7).drew
 have hS7d:=keepRR (Kp.refl w7).drew hS7
 clear hk9 r7 r8 hT7 hB7 hS7
 go_region_held3 (fun w'=>w'.cell? ⟨w.heap.size,0,none⟩=some (.bool x.neg)∧w'.cell? ⟨w.heap.size,1,none⟩=some (.slice x.a x.xs.length x.c)∧w'.cell? ⟨w.heap.size,2,none⟩=some (.int .i64 x.e)∧w'.cell? ⟨w.heap.size+1,0,none⟩=some (.bool y.neg)∧w'.cell? ⟨w.heap.size+1,1,none⟩=some (.slice y.a y.xs.length y.c)∧w'.cell? ⟨w.heap.size+1,2,none⟩=some (.int .i64 y.e)) (first | with_reducible assumption | with_reducible exact keepRR (by assumption) (by assumption) | with_reducible exact setRR (by omega) (by omega) (by assumption))
  (first
   | (go_at_call 125;refine (HB.out _ r8d l8 m8 (Nat.le_trans HR.out (by decide))).mono ?_;rw[val_limbs];rintro e w8 ⟨rfl,rfl⟩)
   | (go_at_call 202;refine (Hsg.out _ _ r7d hT7d).mono ?_;rw[val_limbs,Hex.out];rintro e w9 ⟨z,rfl,hzr,hzd,hzv,hk9⟩;obtain⟨q0,q1,q2,f0,f1,f2⟩:=hB7d.kp hk9))
 have hkk:=hk9d.trans hk9
 clear hS7d hB7d hk9d hk9 r7d r8d hT7d Hsg HB
 have hst:=stored q0 q1 q2 nofun nofun nofun (.bool z.neg) (.slice z.a z.xs.length z.c) (.int .i64 z.e)
 go_wp2_with fail
 generalize (((w9.setCell _ _).setCell _ _).setCell _ _)=W2 at hst ⊢
 obtain⟨s0,s1,s2,_,s4,s5,_,_⟩:=hst
 refine bodyPost_ret (v:=.tuple #[.agg #[.bool z.neg,.slice z.a z.xs.length z.c,.int .i64 z.e],.int .i64 (rndE (rndS (x.neg != y.neg) Q (x.e-K-y.e) (decide (0<bits R)) p up)).2]) (by simp[results,Tryz.results208,go_sem,s0,s1,s2]) rfl ?_
 exact⟨z,rfl,⟨s4 _ _ hzr.1,hzr.2⟩,hzd,hzv,s5 _ hkk (by omega)⟩
theorem cmpZ_cases (a b:Int):cmpZ a b=-1∨cmpZ a b=0∨cmpZ a b=1:=by unfold cmpZ;split <;> (try split) <;> simp
section
theorem rcut_zero (p:Nat) (up:Bool) (hp:p≤512):rcut 0 0 false p up=some .zero:=by
 have hu:runit 0 0 p=-(p:Int):=by unfold runit;rw[bits_zero];omega
 have hq:rq 0 0 false p up=0:=by
  unfold rq rlow rlost
  simp
 unfold rcut
 rw[hu,hq,bits_zero,if_neg (by omega),canon_zero]
theorem rndS_rnd {d:Dy} (hd:d.ok) {p:Nat} (hp:p≤512) (up:Bool):rndS d.neg d.m d.e false p up=rnd 0 d.iv p up:=by
 by_cases h0:d.m=0
 ·rw[d.eq_zero hd h0,Dy.iv_zero,rnd_zero]
  show rndS false 0 0 false p up=_
  unfold rndS sgnR
  simp[rcut_zero p up hp]
 have he:=ok_e hd
 have hk:d.e=((d.e+16384).toNat:Int)-16384-(0:Nat):=by omega
 have h1:=rnde_grid (sg d.neg d.m) d.e 0 _ hk p up
 have h2:d.iv=sg d.neg d.m*2 ^ (d.e+16384).toNat:=by
  unfold Dy.iv sg
  split
  ·rw[Int.neg_mul];push_cast;rfl
  ·push_cast;rfl
 rw[h2,← h1]
 unfold rndS sgnR rnde
 have hs:sg d.neg d.m≠0:=fun h=>h0 (sg_eq_zero.1 h)
 rw[if_neg hs]
 cases hn:d.neg with
 | false =>
  have hlt:¬ sg false d.m<0:=by unfold sg;simp
  rw[if_neg hlt]
  have:(sg false d.m).natAbs=d.m:=by unfold sg;simp
  rw[this]
  simp
 | true =>
 have hlt:sg true d.m<0:=by unfold sg;simp;omega
 rw[if_pos hlt]
 have:(sg true d.m).natAbs=d.m:=by unfold sg;simp
 rw[this,if_pos rfl]
 cases up <;> rfl
section
variable {p q:Nat} {S T:Int} {x y:Dy}
theorem isP.mono {d:Dy} (h:isP p d) (hpq:p≤q):isP q d:=⟨h.1,Nat.le_trans h.2 hpq⟩
end
theorem rcut_more {m k f p:Nat} {e:Int} {more up:Bool} (hm:m≠0) (hf:f<2 ^ k) (hb:(more||decide (f≠0))=true→p<bits m) :
  rcut m e (more||decide (f≠0)) p up=rcut (m*2 ^ k+f) (e-k) more p up:=by
 have hN:m*2 ^ k+f≠0:=by have:=Nat.mul_ne_zero hm (two_pow_ne k);omega
 have hbits:bits (m*2 ^ k+f)=bits m+k:=by
  refine bits_unique ?_ (.inr ?_)
  ·have h1:=lt_two_pow_bits m
   have h2:(m+1)*2 ^ k≤2 ^ bits m*2 ^ k:=Nat.mul_le_mul_right _ h1
   rw[Nat.pow_add];rw[Nat.add_mul] at h2;omega
  ·have h1:=two_pow_le_of_bits hm
   have h3:=bits_pos hm
   have h2:2 ^ (bits m-1)*2 ^ k≤m*2 ^ k:=Nat.mul_le_mul_right _ h1
   rw[← Nat.pow_add] at h2
   rw[show bits m+k-1=bits m-1+k from by omega];omega
 have hu:runit (m*2 ^ k+f) (e-k) p=runit m e p:=by unfold runit;rw[hbits];congr 1;omega
 have hdiv (j:Nat):(m*2 ^ k+f)/2 ^ (j+k)=m/2 ^ j:=by
  rw[Nat.pow_add,Nat.mul_comm (2 ^ j),← Nat.div_div_eq_div_mul,Nat.add_comm,Nat.add_mul_div_right _ _ (two_pow_pos k),Nat.div_eq_of_lt hf,Nat.zero_add]
 by_cases hz:(more||decide (f≠0))=true
 ·have hp:=hb hz
  have hue:e<runit m e p:=by unfold runit;omega
  obtain⟨j,hj⟩:∃ j:Nat,runit m e p=e+j+1:=⟨(runit m e p-e-1).toNat,by omega⟩
  have hl:rlow (m*2 ^ k+f) (e-k) (runit m e p)=rlow m e (runit m e p):=by
   unfold rlow
   rw[if_neg (by omega),if_neg (by omega),show (runit m e p-(e-k)).toNat=j+1+k from by omega,show (runit m e p-e).toNat=j+1 from by omega,hdiv]
  have hlost:(more||rlost (m*2 ^ k+f) (e-k) (runit m e p))=((more||decide (f≠0))||rlost m e (runit m e p)):=by
   rw[hz,Bool.true_or]
   cases hmore:more with
   | true=>rfl
   | false =>
    rw[hmore] at hz
    have hf0:f≠0:=by simpa using hz
    rw[Bool.false_or]
    unfold rlost
    have h2:(m*2 ^ k+f) % 2 ^ (runit m e p-(e-k)).toNat≠0:=by
     rw[show (runit m e p-(e-k)).toNat=j+1+k from by omega]
     intro h
     have h3:2 ^ k ∣ m*2 ^ k+f:=Nat.dvd_trans (Nat.pow_dvd_pow 2 (by omega)) (Nat.dvd_of_mod_eq_zero h)
     have h4:2 ^ k ∣ f:=(Nat.dvd_add_right (Nat.dvd_mul_left _ _)).1 h3
     exact hf0 (Nat.eq_zero_of_dvd_of_lt h4 hf)
    rw[decide_eq_false (by omega),decide_eq_false h2];rfl
  have hq:rq (m*2 ^ k+f) (e-k) more p up=rq m e (more||decide (f≠0)) p up:=by
   unfold rq
   rw[hu,hl,hlost]
  unfold rcut
  rw[hq,hu]
 have h0:more=false∧f=0:=by
  rw[Bool.or_eq_true,not_or] at hz
  exact⟨by simpa using hz.1,by simpa using hz.2⟩
 obtain⟨rfl,rfl⟩:=h0
 have hl:rlow (m*2 ^ k+0) (e-k) (runit m e p)=rlow m e (runit m e p):=by
  unfold rlow
  rw[Nat.add_zero]
  by_cases h1:runit m e p≤e-k
  ·rw[if_pos h1,if_pos (by omega),Nat.mul_assoc,← Nat.pow_add]
   congr 2;omega
  ·rw[if_neg h1]
   by_cases h2:runit m e p≤e
   ·rw[if_pos h2]
    have h3:k=(e-runit m e p).toNat+(runit m e p-(e-k)).toNat:=by omega
    conv=>lhs;lhs;rw[h3,Nat.pow_add,← Nat.mul_assoc]
    rw[Nat.mul_div_cancel _ (two_pow_pos _)]
   ·rw[if_neg h2]
    have h3:(runit m e p-(e-k)).toNat=(runit m e p-e).toNat+k:=by omega
    have:=hdiv (runit m e p-e).toNat
    rw[Nat.add_zero] at this
    rw[h3,this]
 have hlost:rlost (m*2 ^ k+0) (e-k) (runit m e p)=rlost m e (runit m e p):=by
  unfold rlost
  rw[Nat.add_zero]
  by_cases h1:runit m e p≤e-k
  ·rw[decide_eq_true h1,decide_eq_true (show runit m e p≤e by omega)];rfl
  ·by_cases h2:runit m e p≤e
   ·have h3:k=(e-runit m e p).toNat+(runit m e p-(e-k)).toNat:=by omega
    have h4:m*2 ^ k % 2 ^ (runit m e p-(e-k)).toNat=0:=by
     conv=>lhs;lhs;rw[h3,Nat.pow_add,← Nat.mul_assoc]
     exact Nat.mul_mod_left _ _
    rw[h4,decide_eq_true h2];simp
   ·have h3:(runit m e p-(e-k)).toNat=(runit m e p-e).toNat+k:=by omega
    rw[h3,Nat.pow_add,Nat.mul_mod_mul_right,decide_eq_false h1,decide_eq_false h2]
    have:(m % 2 ^ (runit m e p-e).toNat*2 ^ k=0)↔(m % 2 ^ (runit m e p-e).toNat=0):=by
     rw[Nat.mul_eq_zero];exact⟨fun h=>h.resolve_right (two_pow_ne k),.inl⟩
    simp only[this]
 have hq:rq (m*2 ^ k+0) (e-k) false p up=rq m e (false||decide (0≠0)) p up:=by
  unfold rq
  rw[hu,hl,hlost];simp
 unfold rcut
 rw[hq,hu]
end
end Go.Proofs.YtbhmhfnfceakoaaGreatDoor
