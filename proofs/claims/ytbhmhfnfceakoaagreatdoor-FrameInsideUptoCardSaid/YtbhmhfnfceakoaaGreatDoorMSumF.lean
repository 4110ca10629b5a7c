/-
  Walks: dyadic.sum of two numbers that are not 0 and not far apart, of different signs, the first one being the greater.
-/
import Derived.Test.YtbhmhfnfceakoaaGreatDoorMSumE
namespace Go.Proofs.YtbhmhfnfceakoaaGreatDoor
open Go.RowKit
open Lib (hid)
theorem cmpN_nlt {m n:Nat} (h:n≤m):¬ cmpN m n<0:=by unfold cmpN;rw[if_neg (by omega)];split <;> omega
theorem cmpN_isneg {m n:Nat} (h:m<n):cmpN m n<0:=by rw[cmpN_lt h];decide
theorem stored_fr (w:World) (g:Nat) (x0 x1 x2:Value) (p:Addr):(((w.setCell ⟨g,0,none⟩ x0).setCell ⟨g,1,none⟩ x1).setCell ⟨g,2,none⟩ x2).frozen? p=w.frozen? p:=by simp
set_option maxHeartbeats 4000000 in
theorem sum_ge_ok (d f:Dy) (a b:Option Addr) (c k:Nat) (w:World) (hd:DyAt w d a c) (hf:DyAt w f b k) (hd0:d.m≠0) (hf0:f.m≠0) (hnear:¬ farB d f) (hT:Tab w) (hs:d.neg≠f.neg) (hle:f.m*2 ^ (f.e-min d.e f.e).toNat≤d.m*2 ^ (d.e-min d.e f.e).toNat) :
  Calls Tryz.prog 57 #[.agg #[.bool d.neg,.slice a (limbs d.m).length c,.int .i64 d.e],.agg #[.bool f.neg,.slice b (limbs f.m).length k,.int .i64 f.e]] w (DyE w (chk (sumD d f)).1 (chk (sumD d f)).2):=by
 have td:=topI_bounds hd.1
 have tf:=topI_bounds hf.1
 have hed:=ok_e hd.1
 have hef:=ok_e hf.1
 have z1:=len_ne hd0
 have z2:=len_ne hf0
 have hE1:min d.e f.e≤d.e:=Int.min_le_left _ _
 have hE2:min d.e f.e≤f.e:=Int.min_le_right _ _
 have hE0:-16384≤min d.e f.e:=by omega
 obtain⟨hl1,hl2⟩:=near_len hd.1 hf.1 hd0 hf0 hnear
 have Hl1:=hid (limbs_len_bits (n:=d.m*2 ^ (d.e-min d.e f.e).toNat) (k:=256) (by omega))
 have Hl2:=hid (limbs_len_bits (n:=f.m*2 ^ (f.e-min d.e f.e).toNat) (k:=256) (by omega))
 have Hsum:=hid (sum_diff hE0 hE1 hE2 hs hle)
 have Hv:=hid (limbs_len_bits (n:=d.m*2 ^ (d.e-min d.e f.e).toNat-f.m*2 ^ (f.e-min d.e f.e).toNat) (k:=256) (Nat.le_trans (bits_mono (Nat.sub_le _ _)) (by omega)))
 have hq:(d.neg==f.neg)=false:=beq_eq_false_iff_ne.2 hs
 have Hz:=hid (cmpN_nlt hle)
 have Hle:=hid hle
 clear hs hle
 have Hnt:=hid (fun h3=>near_test (d:=d) (f:=f) rfl rfl hnear h3)
 clear hl1 hl2 hnear
 go_enter Tryz.func57,Tryz.ntmps57
 go_wp2_with fail
 generalize hW:(((w.alloc _).alloc _).alloc _)=W at *
 have hk:Kp w W:=hW▸(((Kp.refl w).alloc _).alloc _).alloc _
 have hd1:=(hd.kp hk).drew
 have hf1:=(hf.kp hk).drew
 have hS:W.cell? ⟨w.heap.size,0,none⟩=some (.bool d.neg)∧W.cell? ⟨w.heap.size,1,none⟩=some (.slice a (limbs d.m).length c)∧W.cell? ⟨w.heap.size,2,none⟩=some (.int .i64 d.e)∧W.cell? ⟨w.heap.size+1,0,none⟩=some (.bool f.neg)∧W.cell? ⟨w.heap.size+1,1,none⟩=some (.slice b (limbs f.m).length k)∧W.cell? ⟨w.heap.size+1,2,none⟩=some (.int .i64 f.e):=by rw[← hW];exact keep6 ((Kp.refl _).alloc _) (by simp)
 have hA:Box3 W w.heap.size (.bool d.neg) (.slice a (limbs d.m).length c) (.int .i64 d.e):=hW▸(Box3.new1 _ _ _ _ _ _).alloc _
 have hB:Box3 W (w.heap.size+2) (.bool false) (.slice none 0 0) (.int .i64 0):=hW▸Box3.new3 _ _ _ _ _ _ _
 clear hW
 go_region_held3 (fun w'=>w'.cell? ⟨w.heap.size,0,none⟩=some (.bool d.neg)∧w'.cell? ⟨w.heap.size,1,none⟩=some (.slice a (limbs d.m).length c)∧w'.cell? ⟨w.heap.size,2,none⟩=some (.int .i64 d.e)∧w'.cell? ⟨w.heap.size+1,0,none⟩=some (.bool f.neg)∧w'.cell? ⟨w.heap.size+1,1,none⟩=some (.slice b (limbs f.m).length k)∧w'.cell? ⟨w.heap.size+1,2,none⟩=some (.int .i64 f.e)) (first | assumption | exact keep6 (by assumption) (by assumption))
  (first
   | (go_at_call_of 120 (Value.agg #[.bool d.neg,.slice a (limbs d.m).length c,.int .i64 d.e]);refine (Top_ok d a c _ hd1).mono ?_;rintro e w2 ⟨rfl,hk2⟩)
   | (go_at_call_of 120 (Value.agg #[.bool f.neg,.slice b (limbs f.m).length k,.int .i64 f.e]);refine (Top_ok f b k _ (hf1.kp (by assumption))).mono ?_;rintro e w3 ⟨rfl,hk3⟩))
 have hk4:=(hk.drew.trans hk2).trans hk3
 have hS3:=keep6 hk3 (keep6 hk2 (keep6 (Kp.refl W).drew hS))
 have hB3:=((hB.kp (Kp.refl W).drew).kp hk2).kp hk3
 have hA3:=((hA.kp (Kp.refl W).drew).kp hk2).kp hk3
 have hd3:=(hd.kp hk4).drew
 have hf3:=(hf.kp hk4).drew
 have HT0:=hid hT
 clear hS hB hA hd1 hf1 hd hf hT
 generalize topI d=x at *
 generalize topI f=y at *
 have e1:IntKind.i64.wrap (max x y-min d.e f.e)=max x y-min d.e f.e:=IntWalk.i64_in _ (by omega)
 have e2:IntKind.i64.wrap (x-y)=x-y:=IntWalk.i64_in _ (by omega)
 have e3:IntKind.i64.wrap (y-x)=y-x:=IntWalk.i64_in _ (by omega)
 by_cases h3:4097<max x y-min d.e f.e
 rotate_left
 ·clear Hnt
  go_wp2_with fail
  have e4:IntKind.i64.wrap (d.e-min d.e f.e)=d.e-min d.e f.e:=IntWalk.i64_in _ (by omega)
  have e5:IntKind.i64.wrap (f.e-min d.e f.e)=f.e-min d.e f.e:=IntWalk.i64_in _ (by omega)
  have z3:0≤d.e-min d.e f.e:=by omega
  have z4:0≤f.e-min d.e f.e:=by omega
  have z5:d.e-min d.e f.e≤65536:=by omega
  have z6:f.e-min d.e f.e≤65536:=by omega
  have z7:min d.e f.e≤16384:=by omega
  generalize min d.e f.e=E at *
  go_region_held3 (fun w'=>w'.cell? ⟨w.heap.size,0,none⟩=some (.bool d.neg)∧w'.cell? ⟨w.heap.size,1,none⟩=some (.slice a (limbs d.m).length c)∧w'.cell? ⟨w.heap.size,2,none⟩=some (.int .i64 d.e)∧w'.cell? ⟨w.heap.size+1,0,none⟩=some (.bool f.neg)∧w'.cell? ⟨w.heap.size+1,1,none⟩=some (.slice b (limbs f.m).length k)∧w'.cell? ⟨w.heap.size+1,2,none⟩=some (.int .i64 f.e)) (first | assumption | exact keep6 (by assumption) (by assumption))
   (first
    | (go_at_call_of 121 (Value.slice a (limbs d.m).length c);refine (shifted_ok d a c _ _ hd3 z3 z5 Hl1.out).mono ?_;rintro e w5 ⟨a5,c5,rfl,r5,l5,m5,hk5⟩)
    | (go_at_call_of 121 (Value.slice b (limbs f.m).length k);refine (shifted_ok f b k _ _ (hf3.kp (by assumption)) z4 z6 Hl2.out).mono ?_;rintro e w6 ⟨a6,c6,rfl,r6,l6,m6,hk6⟩))
  have r5:=r5.kp hk6
  have hk7:=((hk4.drew).trans hk5).trans hk6
  have hS6:=keep6 hk6 (keep6 hk5 hS3)
  have hB6:=((hB3.kp (Kp.refl _).drew).kp hk5).kp hk6
  have hA6:=((hA3.kp (Kp.refl _).drew).kp hk5).kp hk6
  generalize d.m*2 ^ (d.e-E).toNat=P at *
  generalize f.m*2 ^ (f.e-E).toNat=Q at *
  clear hS3 hB3 hA3 hd3 hf3 hk4 hk5 hk6 hk2 hk3 hk
  have HCm:=cmp_any a5 a6 (limbs P) (limbs Q) c5 c6 w6 r5 r6 l5 l6 m5 m6
  rw[val_limbs,val_limbs] at HCm
  have HCm:=hid HCm
  have hz:=Hz.out
  clear Hz
  go_wp2_with fail
  refine HCm.out.mono ?_
  rintro e wc ⟨rfl,j1⟩
  clear HCm
  generalize cmpN P Q=z at *
  have r5:=r5.kp j1
  have r6:=r6.kp j1
  have hS6:=keep6 j1 hS6
  have hB6:=hB6.kp j1
  have hA6:=hA6.kp j1
  have hk7:=hk7.trans j1
  clear j1
  have HSub:=Sub_any a5 a6 (limbs P) (limbs Q) c5 c6 wc r5 r6 Hl1.out Hl2.out l5 l6 m5 m6 (by rw[val_limbs,val_limbs];exact Hle.out)
  rw[val_limbs,val_limbs] at HSub
  have HSub:=hid HSub
  go_wp2_with fail
  refine HSub.out.mono ?_
  rintro e w7 ⟨a7,c7,rfl,l7,m7,r7,k7⟩
  have HC:=canonical_any d.neg a7 (limbs (P-Q)) c7 E w7 r7 l7 m7 Hv.out (by omega) (by omega) (HT0.out.kp (hk7.trans k7))
  have hcl:=canon_len d.neg (P-Q) E
  have hce:=canon_e d.neg (show -1000000000≤E by omega) (show E≤1000000000 by omega) Hv.out
  have hv2:=Hv.out
  rw[val_limbs,← Hsum.out] at HC
  rw[← Hsum.out] at hcl hce
  have HC:=hid HC
  have hS7:=keep6 k7 hS6
  clear HSub hS6
  go_wp2_with fail
  refine HC.out.mono ?_
  rintro e w8 ⟨a8,c8,rfl,h2,h3',h4',k8⟩
  clear HC Hsum
  generalize sumD d f=D at *
  go_wp2_with fail
  refine (checked_any D a8 c8 _ h2 h3' h4' (by omega) ⟨by omega,by omega⟩).mono ?_
  rintro e w9 ⟨a9,c9,rfl,h6,h7,h8,k9⟩
  generalize (chk D).1=F at *
  generalize (chk D).2=ff at *
  obtain⟨q0,q1,q2,f0,f1,f2⟩:=((hB6.kp k7).kp k8).kp k9
  have hkk:=((hk7.trans k7).trans k8).trans k9
  go_wp2_with fail
  have hst:=stored q0 q1 q2 nofun nofun nofun (.bool F.neg) (.slice a9 (limbs F.m).length c9) (.int .i64 F.e)
  generalize (((w9.setCell _ _).setCell _ _).setCell _ _)=W2 at hst ⊢
  obtain⟨s0,s1,s2,_,s4,s5,_,_⟩:=hst
  refine bodyPost_ret (v:=.tuple #[.agg #[.bool F.neg,.slice a9 (limbs F.m).length c9,.int .i64 F.e],.int .i64 ff]) (by simp[results,Tryz.results57,go_sem,s0,s1,s2]) rfl ?_
  exact⟨a9,c9,rfl,s4 _ _ h6,h7,h8,s5 _ hkk (by omega)⟩
 obtain⟨h4,h5⟩:=Hnt.out h3
 clear Hnt
 go_wp2_with fail
 have e4:IntKind.i64.wrap (d.e-min d.e f.e)=d.e-min d.e f.e:=IntWalk.i64_in _ (by omega)
 have e5:IntKind.i64.wrap (f.e-min d.e f.e)=f.e-min d.e f.e:=IntWalk.i64_in _ (by omega)
 have z3:0≤d.e-min d.e f.e:=by omega
 have z4:0≤f.e-min d.e f.e:=by omega
 have z5:d.e-min d.e f.e≤65536:=by omega
 have z6:f.e-min d.e f.e≤65536:=by omega
 have z7:min d.e f.e≤16384:=by omega
 generalize min d.e f.e=E at *
 go_region_held3 (fun w'=>w'.cell? ⟨w.heap.size,0,none⟩=some (.bool d.neg)∧w'.cell? ⟨w.heap.size,1,none⟩=some (.slice a (limbs d.m).length c)∧w'.cell? ⟨w.heap.size,2,none⟩=some (.int .i64 d.e)∧w'.cell? ⟨w.heap.size+1,0,none⟩=some (.bool f.neg)∧w'.cell? ⟨w.heap.size+1,1,none⟩=some (.slice b (limbs f.m).length k)∧w'.cell? ⟨w.heap.size+1,2,none⟩=some (.int .i64 f.e)) (first | assumption | exact keep6 (by assumption) (by assumption))
  (first
   | (go_at_call_of 121 (Value.slice a (limbs d.m).length c);refine (shifted_ok d a c _ _ hd3 z3 z5 Hl1.out).mono ?_;rintro e w5 ⟨a5,c5,rfl,r5,l5,m5,hk5⟩)
   | (go_at_call_of 121 (Value.slice b (limbs f.m).length k);refine (shifted_ok f b k _ _ (hf3.kp (by assumption)) z4 z6 Hl2.out).mono ?_;rintro e w6 ⟨a6,c6,rfl,r6,l6,m6,hk6⟩))
 have r5:=r5.kp hk6
 have hk7:=((hk4.drew).trans hk5).trans hk6
 have hS6:=keep6 hk6 (keep6 hk5 hS3)
 have hB6:=((hB3.kp (Kp.refl _).drew).kp hk5).kp hk6
 have hA6:=((hA3.kp (Kp.refl _).drew).kp hk5).kp hk6
 generalize d.m*2 ^ (d.e-E).toNat=P at *
 generalize f.m*2 ^ (f.e-E).toNat=Q at *
 clear hS3 hB3 hA3 hd3 hf3 hk4 hk5 hk6 hk2 hk3 hk
 have HCm:=cmp_any a5 a6 (limbs P) (limbs Q) c5 c6 w6 r5 r6 l5 l6 m5 m6
 rw[val_limbs,val_limbs] at HCm
 have HCm:=hid HCm
 have hz:=Hz.out
 clear Hz
 go_wp2_with fail
 refine HCm.out.mono ?_
 rintro e wc ⟨rfl,j1⟩
 clear HCm
 generalize cmpN P Q=z at *
 have r5:=r5.kp j1
 have r6:=r6.kp j1
 have hS6:=keep6 j1 hS6
 have hB6:=hB6.kp j1
 have hA6:=hA6.kp j1
 have hk7:=hk7.trans j1
 clear j1
 have HSub:=Sub_any a5 a6 (limbs P) (limbs Q) c5 c6 wc r5 r6 Hl1.out Hl2.out l5 l6 m5 m6 (by rw[val_limbs,val_limbs];exact Hle.out)
 rw[val_limbs,val_limbs] at HSub
 have HSub:=hid HSub
 go_wp2_with fail
 refine HSub.out.mono ?_
 rintro e w7 ⟨a7,c7,rfl,l7,m7,r7,k7⟩
 have HC:=canonical_any d.neg a7 (limbs (P-Q)) c7 E w7 r7 l7 m7 Hv.out (by omega) (by omega) (HT0.out.kp (hk7.trans k7))
 have hcl:=canon_len d.neg (P-Q) E
 have hce:=canon_e d.neg (show -1000000000≤E by omega) (show E≤1000000000 by omega) Hv.out
 have hv2:=Hv.out
 rw[val_limbs,← Hsum.out] at HC
 rw[← Hsum.out] at hcl hce
 have HC:=hid HC
 have hS7:=keep6 k7 hS6
 clear HSub hS6
 go_wp2_with fail
 refine HC.out.mono ?_
 rintro e w8 ⟨a8,c8,rfl,h2,h3',h4',k8⟩
 clear HC Hsum
 generalize sumD d f=D at *
 go_wp2_with fail
 refine (checked_any D a8 c8 _ h2 h3' h4' (by omega) ⟨by omega,by omega⟩).mono ?_
 rintro e w9 ⟨a9,c9,rfl,h6,h7,h8,k9⟩
 generalize (chk D).1=F at *
 generalize (chk D).2=ff at *
 obtain⟨q0,q1,q2,f0,f1,f2⟩:=((hB6.kp k7).kp k8).kp k9
 have hkk:=((hk7.trans k7).trans k8).trans k9
 go_wp2_with fail
 have hst:=stored q0 q1 q2 nofun nofun nofun (.bool F.neg) (.slice a9 (limbs F.m).length c9) (.int .i64 F.e)
 generalize (((w9.setCell _ _).setCell _ _).setCell _ _)=W2 at hst ⊢
 obtain⟨s0,s1,s2,_,s4,s5,_,_⟩:=hst
 refine bodyPost_ret (v:=.tuple #[.agg #[.bool F.neg,.slice a9 (limbs F.m).length c9,.int .i64 F.e],.int .i64 ff]) (by simp[results,Tryz.results57,go_sem,s0,s1,s2]) rfl ?_
 exact⟨a9,c9,rfl,s4 _ _ h6,h7,h8,s5 _ hkk (by omega)⟩
end Go.Proofs.YtbhmhfnfceakoaaGreatDoor
