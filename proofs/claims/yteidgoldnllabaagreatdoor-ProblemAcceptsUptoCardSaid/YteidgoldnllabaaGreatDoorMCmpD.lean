/-
  Walks: dyadic.shifted, compare, Cmp, of valid numbers.
-/
import Derived.Test.YteidgoldnllabaaGreatDoorMRnd
import Derived.Test.YteidgoldnllabaaGreatDoorMNum
import Derived.Deep.AppendLies
import Derived.Test.YteidgoldnllabaaGreatDoorRows
import Derived.Deep.Slices
import Derived.ChangeArms
import Derived.OpenShut
import Derived.OpenVars
import Derived.ProofKit
namespace Go.Proofs.YteidgoldnllabaaGreatDoor
open Go.RowKit
open Lib (hid)
theorem keep2 {w w':World} (k:Kp w w') {p0 p1:Addr} {v0 v1:Value} (h:w.cell? p0=some v0∧w.cell? p1=some v1):w'.cell? p0=some v0∧w'.cell? p1=some v1 :=
 let ⟨h0,h1⟩:=h
 ⟨k.cell h0,k.cell h1⟩
theorem keep3 {w w':World} (k:Kp w w') {p0 p1 p2:Addr} {v0 v1 v2:Value} (h:w.cell? p0=some v0∧w.cell? p1=some v1∧w.cell? p2=some v2):w'.cell? p0=some v0∧w'.cell? p1=some v1∧w'.cell? p2=some v2 :=
 let ⟨h0,h1,h2⟩:=h
 ⟨k.cell h0,k.cell h1,k.cell h2⟩
theorem keep6 {w w':World} (k:Kp w w') {p0 p1 p2 p3 p4 p5:Addr} {v0 v1 v2 v3 v4 v5:Value} (h:w.cell? p0=some v0∧w.cell? p1=some v1∧w.cell? p2=some v2∧w.cell? p3=some v3∧w.cell? p4=some v4∧w.cell? p5=some v5):w'.cell? p0=some v0∧w'.cell? p1=some v1∧w'.cell? p2=some v2∧w'.cell? p3=some v3∧w'.cell? p4=some v4∧w'.cell? p5=some v5 :=
 let ⟨h0,h1,h2,h3,h4,h5⟩:=h
 ⟨k.cell h0,k.cell h1,k.cell h2,k.cell h3,k.cell h4,k.cell h5⟩
set_option maxHeartbeats 2000000 in
theorem shifted_ok (d:Dy) (a:Option Addr) (c:Nat) (n:Int) (w:World) (h:DyAt w d a c) (h0:0≤n) (hn:n≤65536) (hv:(limbs (d.m*2 ^ n.toNat)).length≤256) :
  Calls Tryz.prog 202 #[.slice a (limbs d.m).length c,.int .i64 n] w (Shows w (limbs (d.m*2 ^ n.toNat))):=by
 have H:=Shl_any a (limbs d.m) c n w h.2.1 (by have:=ok_len h.1;omega) h.2.2.1 h.2.2.2 h0 hn (by rw[val_limbs];exact hv)
 rw[val_limbs] at H
 have Hs:=hid H
 clear H
 go_enter Tryz.func202,Tryz.ntmps202
 go_wp2_with fail
 refine Hs.out.mono ?_
 rintro e w2 ⟨a2,c2,rfl,h1,h2,h3,h4⟩
 go_wp2_with fail
 go_ret
 exact⟨a2,c2,rfl,h3,h1,h2,h4⟩
theorem av_bits {d:Dy} (h:d.ok) (h0:d.m≠0):(bits d.av:Int)=topI d+16384:=by
 have he:=ok_e h
 unfold Dy.av topI
 rw[bits_mul_pow h0,if_neg h0];omega
theorem av_lt {d f:Dy} (hd:d.ok) (hf:f.ok) (hd0:d.m≠0) (hf0:f.m≠0) (h:topI d<topI f):d.av<f.av:=by
 have h1:=av_bits hd hd0
 have h2:=av_bits hf hf0
 have h3:bits d.av<bits f.av:=by omega
 apply Classical.byContradiction;intro hn
 have:=bits_mono (show f.av≤d.av by omega)
 omega
theorem av_shift {d:Dy} (k:Int) (h0:-16384≤k) (hk:k≤d.e):d.av=d.m*2 ^ (d.e-k).toNat*2 ^ (k+16384).toNat:=by
 unfold Dy.av
 rw[Nat.mul_assoc,← Nat.pow_add];congr 2;omega
theorem cmpN_mul {m n p:Nat} (hp:0<p):cmpN (m*p) (n*p)=cmpN m n:=by
 unfold cmpN
 simp only[Nat.mul_lt_mul_right hp,Nat.mul_left_inj (Nat.ne_of_gt hp)]
set_option maxHeartbeats 2000000 in
theorem compare_ok (d f:Dy) (a b:Option Addr) (c k:Nat) (w:World) (hd:DyAt w d a c) (hf:DyAt w f b k) (hd0:d.m≠0) (hf0:f.m≠0) :
  Calls Tryz.prog 163 #[.agg #[.bool d.neg,.slice a (limbs d.m).length c,.int .i64 d.e],.agg #[.bool f.neg,.slice b (limbs f.m).length k,.int .i64 f.e]] w fun e w'=>e=.returned (.int .i64 (cmpN d.av f.av))∧Kp w w':=by
 go_enter Tryz.func163,Tryz.ntmps163
 go_wp2_with fail
 generalize hW:((w.alloc _).alloc _)=W at *
 have hk:Kp w W:=hW▸((Kp.refl w).alloc _).alloc _
 have hd1:=(hd.kp hk).drew
 have hf1:=(hf.kp hk).drew
 have hS:W.cell? ⟨w.heap.size,0,none⟩=some (.bool d.neg)∧W.cell? ⟨w.heap.size,1,none⟩=some (.slice a (limbs d.m).length c)∧W.cell? ⟨w.heap.size,2,none⟩=some (.int .i64 d.e)∧W.cell? ⟨w.heap.size+1,0,none⟩=some (.bool f.neg)∧W.cell? ⟨w.heap.size+1,1,none⟩=some (.slice b (limbs f.m).length k)∧W.cell? ⟨w.heap.size+1,2,none⟩=some (.int .i64 f.e):=by rw[← hW];simp
 clear hW
 go_region_held3 (fun w'=>w'.cell? ⟨w.heap.size,0,none⟩=some (.bool d.neg)∧w'.cell? ⟨w.heap.size,1,none⟩=some (.slice a (limbs d.m).length c)∧w'.cell? ⟨w.heap.size,2,none⟩=some (.int .i64 d.e)∧w'.cell? ⟨w.heap.size+1,0,none⟩=some (.bool f.neg)∧w'.cell? ⟨w.heap.size+1,1,none⟩=some (.slice b (limbs f.m).length k)∧w'.cell? ⟨w.heap.size+1,2,none⟩=some (.int .i64 f.e)) (first | assumption | exact keep6 (by assumption) (by assumption))
  (first
   | (go_at_call_of 169 (Value.agg #[.bool d.neg,.slice a (limbs d.m).length c,.int .i64 d.e]);refine (Top_ok d a c _ hd1).mono ?_;rintro e w2 ⟨rfl,hk2⟩)
   | (go_at_call_of 169 (Value.agg #[.bool f.neg,.slice b (limbs f.m).length k,.int .i64 f.e]);refine (Top_ok f b k _ (hf1.kp (by assumption))).mono ?_;rintro e w3 ⟨rfl,hk3⟩))
 rcases Int.lt_trichotomy (topI d) (topI f) with ht | ht | ht
 ·have H:=hid (cmpN_lt (av_lt hd.1 hf.1 hd0 hf0 ht)).symm
  go_wp2_with fail
  go_ret
  exact⟨ret_int H.out,(hk.drew.trans hk2).trans hk3⟩
 ·have hE1:min d.e f.e≤d.e:=Int.min_le_left _ _
  have hE2:min d.e f.e≤f.e:=Int.min_le_right _ _
  have hE3:min d.e f.e=d.e∨min d.e f.e=f.e:=by omega
  have hed:=ok_e hd.1
  have hef:=ok_e hf.1
  have bd:=av_bits hd.1 hd0
  have bf:=av_bits hf.1 hf0
  have hfin:cmpN (d.m*2 ^ (d.e-min d.e f.e).toNat) (f.m*2 ^ (f.e-min d.e f.e).toNat)=cmpN d.av f.av:=by
   rw[av_shift (d:=d) (min d.e f.e) (by omega) hE1,av_shift (d:=f) (min d.e f.e) (by omega) hE2,cmpN_mul (two_pow_pos _)]
  have hl1:(limbs (d.m*2 ^ (d.e-min d.e f.e).toNat)).length≤256:=by
   apply limbs_len_bits
   rw[bits_mul_pow hd0]
   have hd4:bits d.m≤4096:=by rcases hd.1 with ⟨h,_⟩ | h <;> omega
   have hf4:bits f.m≤4096:=by rcases hf.1 with ⟨h,_⟩ | h <;> omega
   unfold topI at ht
   rw[if_neg hd0,if_neg hf0] at ht
   omega
  have hl2:(limbs (f.m*2 ^ (f.e-min d.e f.e).toNat)).length≤256:=by
   apply limbs_len_bits
   rw[bits_mul_pow hf0]
   have hd4:bits d.m≤4096:=by rcases hd.1 with ⟨h,_⟩ | h <;> omega
   have hf4:bits f.m≤4096:=by rcases hf.1 with ⟨h,_⟩ | h <;> omega
   unfold topI at ht
   rw[if_neg hd0,if_neg hf0] at ht
   omega
  have Hfin:=hid hfin
  have h1:¬ topI d<topI f:=by omega
  have h2:¬ topI f<topI d:=by omega
  clear ht hfin bd bf
  have hk4:=(hk.drew.trans hk2).trans hk3
  have hS3:=keep6 hk3 (keep6 hk2 hS)
  clear hS
  go_wp2_with fail
  generalize min d.e f.e=E at *
  have Hl1:=hid hl1
  have Hl2:=hid hl2
  have e1:IntKind.i64.wrap (d.e-E)=d.e-E:=IntWalk.i64_in _ (by omega)
  have e2:IntKind.i64.wrap (f.e-E)=f.e-E:=IntWalk.i64_in _ (by omega)
  have hd3:=(hd.kp hk4).drew
  have hf3:=(hf.kp hk4).drew
  have z1:0≤d.e-E:=by omega
  have z2:0≤f.e-E:=by omega
  have z3:d.e-E≤65536:=by omega
  have z4:f.e-E≤65536:=by omega
  clear hl1 hl2 hE3
  go_region_held3 (fun w'=>w'.cell? ⟨w.heap.size,0,none⟩=some (.bool d.neg)∧w'.cell? ⟨w.heap.size,1,none⟩=some (.slice a (limbs d.m).length c)∧w'.cell? ⟨w.heap.size,2,none⟩=some (.int .i64 d.e)∧w'.cell? ⟨w.heap.size+1,0,none⟩=some (.bool f.neg)∧w'.cell? ⟨w.heap.size+1,1,none⟩=some (.slice b (limbs f.m).length k)∧w'.cell? ⟨w.heap.size+1,2,none⟩=some (.int .i64 f.e)) (first | assumption | exact keep6 (by assumption) (by assumption))
   (first
    | (go_at_call_of 202 (Value.slice a (limbs d.m).length c);refine (shifted_ok d a c _ _ hd3 z1 z3 Hl1.out).mono ?_;rintro e w5 ⟨a5,c5,rfl,r5,l5,m5,hk5⟩)
    | (go_at_call_of 202 (Value.slice b (limbs f.m).length k);refine (shifted_ok f b k _ _ (hf3.kp (by assumption)) z2 z4 Hl2.out).mono ?_;rintro e w6 ⟨a6,c6,rfl,r6,l6,m6,hk6⟩)
    | (go_at_call 173;refine (cmp_any _ _ _ _ _ _ _ (r5.kp (by assumption)) r6 l5 l6 m5 m6).mono ?_;rintro e w7 ⟨rfl,hk7⟩))
  go_wp2_with fail
  go_ret
  refine⟨ret_int ?_,(((hk4.drew).trans hk5).trans hk6).trans hk7⟩
  rw[← Hfin.out,val_limbs,val_limbs]
 have H:=hid (cmpN_gt (av_lt hf.1 hd.1 hf0 hd0 ht)).symm
 have h1:¬ topI d<topI f:=by omega
 go_wp2_with fail
 go_ret
 exact⟨ret_int H.out,(hk.drew.trans hk2).trans hk3⟩
def cmpZ (x y:Int):Int:=if x<y then -1 else if x=y then 0 else 1
theorem cmpZ_lt {x y:Int}:cmpZ x y<0↔x<y:=by unfold cmpZ;split <;> (try split) <;> omega
theorem cmpZ_gt {x y:Int}:0<cmpZ x y↔y<x:=by unfold cmpZ;split <;> (try split) <;> omega
theorem cmpZ_eq {x y:Int}:cmpZ x y=0↔x=y:=by unfold cmpZ;split <;> (try split) <;> omega
theorem cmpZ_bound (x y:Int):-1≤cmpZ x y∧cmpZ x y≤1:=by unfold cmpZ;split <;> (try split) <;> omega
theorem cmpN_Z (m n:Nat):cmpN m n=cmpZ m n:=by
 unfold cmpZ
 rcases Nat.lt_trichotomy m n with h | h | h
 ·rw[cmpN_lt h,if_pos (by omega)]
 ·rw[cmpN_eq h,if_neg (by omega),if_pos (by omega)]
 rw[cmpN_gt h,if_neg (by omega),if_neg (by omega)]
theorem sgn_range (d:Dy):sgn d=-1∨sgn d=0∨sgn d=1:=by
 unfold sgn;split
 ·exact .inr (.inl rfl)
 split
 ·exact .inl rfl
 exact .inr (.inr rfl)
theorem cmp_sgn_lt {d f:Dy} (h:sgn d<sgn f):cmpZ d.iv f.iv=-1:=by
 have h1:=sgn_iv d
 have h2:=sgn_iv f
 have h3:=sgn_range d
 have h4:=sgn_range f
 unfold cmpZ
 rw[if_pos]
 omega
theorem cmp_sgn_gt {d f:Dy} (h:sgn f<sgn d):cmpZ d.iv f.iv=1:=by
 have h1:=sgn_iv d
 have h2:=sgn_iv f
 have h3:=sgn_range d
 have h4:=sgn_range f
 unfold cmpZ
 rw[if_neg (by omega),if_neg (by omega)]
theorem cmp_sgn_zero {d f:Dy} (h:sgn d=sgn f) (h0:sgn d=0):cmpZ d.iv f.iv=0:=by
 have h1:=sgn_iv d
 have h2:=sgn_iv f
 rw[cmpZ_eq];omega
theorem cmp_sgn_eq {d f:Dy} (h:sgn d=sgn f) (h0:sgn d≠0):cmpZ d.iv f.iv=sgn d*cmpN d.av f.av:=by
 have hm:d.m≠0:=fun h1=>h0 (by unfold sgn;rw[if_pos h1])
 have hf:f.m≠0:=fun h1=>h0 (by rw[h];unfold sgn;rw[if_pos h1])
 rw[cmpN_Z]
 unfold sgn at h ⊢
 rw[if_neg hm,if_neg hf] at h
 rw[if_neg hm]
 cases hd:d.neg with
 | false =>
  rw[hd] at h
  cases hg:f.neg with
  | false=>rw[Dy.iv_pos hd,Dy.iv_pos hg];simp
  | true=>rw[hg] at h;simp at h
 | true =>
 rw[hd] at h
 cases hg:f.neg with
 | false=>rw[hg] at h;simp at h
 | true =>
 rw[Dy.iv_neg hd,Dy.iv_neg hg]
 unfold cmpZ
 simp only[if_true]
 split <;> (try split) <;> (try split) <;> (try split) <;> omega
set_option maxHeartbeats 4000000 in
theorem Cmp_ok (d f:Dy) (a b:Option Addr) (c k:Nat) (w:World) (hd:DyAt w d a c) (hf:DyAt w f b k) :
  Calls Tryz.prog 115 #[.agg #[.bool d.neg,.slice a (limbs d.m).length c,.int .i64 d.e],.agg #[.bool f.neg,.slice b (limbs f.m).length k,.int .i64 f.e]] w fun e w'=>e=.returned (.int .i64 (cmpZ d.iv f.iv))∧Kp w w':=by
 have hs1:=sgn_range d
 have hs2:=sgn_range f
 go_enter Tryz.func115,Tryz.ntmps115
 go_wp2_with fail
 generalize hW:((w.alloc _).alloc _)=W at *
 have hk:Kp w W:=hW▸((Kp.refl w).alloc _).alloc _
 have hS:W.cell? ⟨w.heap.size,0,none⟩=some (.bool d.neg)∧W.cell? ⟨w.heap.size,1,none⟩=some (.slice a (limbs d.m).length c)∧W.cell? ⟨w.heap.size,2,none⟩=some (.int .i64 d.e)∧W.cell? ⟨w.heap.size+1,0,none⟩=some (.bool f.neg)∧W.cell? ⟨w.heap.size+1,1,none⟩=some (.slice b (limbs f.m).length k)∧W.cell? ⟨w.heap.size+1,2,none⟩=some (.int .i64 f.e):=by rw[← hW];simp
 clear hW
 refine (Valid_ok d a c _ (hd.kp hk)).mono ?_
 rintro e w1 ⟨rfl,hk1⟩
 have hS1:=keep6 hk1 hS
 clear hS
 go_wp2_with fail
 refine (Valid_ok f b k _ (hf.kp (hk.trans hk1))).mono ?_
 rintro e w2 ⟨rfl,hk2⟩
 have hS2:=keep6 hk2 hS1
 clear hS1
 have hk3:=(hk.trans hk1).trans hk2
 clear hk hk1 hk2
 go_wp2_with fail
 have hd1:=(hd.kp hk3).drew
 have hf1:=(hf.kp hk3).drew
 go_region_held3 (fun w'=>w'.cell? ⟨w.heap.size,0,none⟩=some (.bool d.neg)∧w'.cell? ⟨w.heap.size,1,none⟩=some (.slice a (limbs d.m).length c)∧w'.cell? ⟨w.heap.size,2,none⟩=some (.int .i64 d.e)∧w'.cell? ⟨w.heap.size+1,0,none⟩=some (.bool f.neg)∧w'.cell? ⟨w.heap.size+1,1,none⟩=some (.slice b (limbs f.m).length k)∧w'.cell? ⟨w.heap.size+1,2,none⟩=some (.int .i64 f.e)) (first | assumption | exact keep6 (by assumption) (by assumption))
  (first
   | (go_at_call_of 120 (Value.agg #[.bool d.neg,.slice a (limbs d.m).length c,.int .i64 d.e]);refine (Sign_ok d a c _ hd1).mono ?_;rintro e w4 ⟨rfl,hk4⟩)
   | (go_at_call_of 120 (Value.agg #[.bool f.neg,.slice b (limbs f.m).length k,.int .i64 f.e]);refine (Sign_ok f b k _ (hf1.kp (by assumption))).mono ?_;rintro e w5 ⟨rfl,hk5⟩))
 have hk6:=(hk3.drew.trans hk4).trans hk5
 have hS6:=keep6 hk5 (keep6 hk4 hS2)
 clear hS2
 rcases Int.lt_trichotomy (sgn d) (sgn f) with ht | ht | ht
 ·have H:=hid (cmp_sgn_lt ht).symm
  go_wp2_with fail
  go_ret
  exact⟨ret_int H.out,hk6⟩
 ·have h1:¬ sgn d<sgn f:=by omega
  have h2:¬ sgn f<sgn d:=by omega
  by_cases h0:sgn d=0
  ·have H:=hid (cmp_sgn_zero ht h0).symm
   have hz:(sgn d==0)=true:=beq_iff_eq.2 h0
   clear ht h0
   go_wp2_with fail
   go_ret
   exact⟨ret_int H.out,hk6⟩
  have H:=hid (cmp_sgn_eq ht h0).symm
  have hz:(sgn d==0)=false:=beq_eq_false_iff_ne.2 h0
  have hm:d.m≠0:=fun h1=>h0 (by unfold sgn;rw[if_pos h1])
  have hg:f.m≠0:=fun h1=>h0 (by rw[ht];unfold sgn;rw[if_pos h1])
  have hcb:-1≤cmpN d.av f.av∧cmpN d.av f.av≤1:=by rw[cmpN_Z];exact cmpZ_bound _ _
  clear ht h0
  go_wp2_with fail
  refine (compare_ok d f a b c k _ (hd.kp hk6) (hf.kp hk6) hm hg).mono ?_
  rintro e w7 ⟨rfl,hk7⟩
  go_wp2_with fail
  go_ret
  refine⟨ret_int (.trans ?_ H.out),hk6.trans hk7⟩
  have hp:-1≤sgn d*cmpN d.av f.av∧sgn d*cmpN d.av f.av≤1:=by rcases hs1 with h | h | h <;> rw[h] <;> omega
  unfold wrap64;omega
 have H:=hid (cmp_sgn_gt ht).symm
 have h1:¬ sgn d<sgn f:=by omega
 go_wp2_with fail
 go_ret
 exact⟨ret_int H.out,hk6⟩
structure RD where
 neg:Bool
 a:Option Addr
 xs:List Nat
 c:Nat
 e:Int
def RD.rd (w:World) (x:RD):Prop:=Rd w x.a x.xs∧x.xs.length≤x.c∧x.c≤maxLen∧x.xs.length≤1100000∧I64 x.e
theorem RD.rd.kp {w w':World} {x:RD} (h:x.rd w) (k:Kp w w'):x.rd w':=⟨h.1.kp k,h.2⟩
theorem RD.rd.drew {w:World} {x:RD} (h:x.rd w):x.rd w.drew:=h.kp (Kp.refl w).drew
def RD.vl (x:RD):Bool:=vld x.neg x.xs x.e
def RD.dy (x:RD):Dy:=⟨x.neg,val x.xs,x.e⟩
def RD.iv (x:RD):Int:=x.dy.iv
theorem RD.limbs {w:World} {x:RD} (h:x.rd w) (hv:x.vl=true):limbs x.dy.m=x.xs:=(vld_ok h.1.lt32 hv).2.1
theorem RD.at {w:World} {x:RD} (h:x.rd w) (hv:x.vl=true):DyAt w x.dy x.a x.c:=by
 have h1:=vld_ok h.1.lt32 hv
 have h2:=RD.limbs h hv
 exact⟨h1.1,by rw[h2];exact h.1,by rw[h2];exact h.2.1,h.2.2.1⟩
theorem Valid_raw (x:RD) (w:World) (h:x.rd w) :
  Calls Tryz.prog 114 #[.agg #[.bool x.neg,.slice x.a x.xs.length x.c,.int .i64 x.e]] w fun e w'=>e=.returned (.bool x.vl)∧Kp w w' :=
 Valid_any x.neg x.a x.xs x.c x.e w h.1 h.2.1 h.2.2.1 h.2.2.2.1 h.2.2.2.2
theorem Cmp_raw (x y:RD) (w:World) (hx:x.rd w) (hy:y.rd w) (vx:x.vl=true) (vy:y.vl=true) :
  Calls Tryz.prog 115 #[.agg #[.bool x.neg,.slice x.a x.xs.length x.c,.int .i64 x.e],.agg #[.bool y.neg,.slice y.a y.xs.length y.c,.int .i64 y.e]] w fun e w'=>e=.returned (.int .i64 (cmpZ x.iv y.iv))∧Kp w w':=by
 have H:=Cmp_ok x.dy y.dy x.a y.a x.c y.c w (RD.at hx vx) (RD.at hy vy)
 rw[RD.limbs hx vx,RD.limbs hy vy] at H
 exact H
structure RI where
 lo:RD
 hi:RD
 all:Bool
def RI.rd (w:World) (x:RI):Prop:=x.lo.rd w∧x.hi.rd w
theorem RI.rd.kp {w w':World} {x:RI} (h:x.rd w) (k:Kp w w'):x.rd w':=⟨h.1.kp k,h.2.kp k⟩
theorem RI.rd.drew {w:World} {x:RI} (h:x.rd w):x.rd w.drew:=h.kp (Kp.refl w).drew
def RD.zr (x:RD):Bool:=!x.neg&&(decide (x.xs.length=0)&&decide (x.e=0))
def RI.vl (x:RI):Bool:=if x.all then x.lo.zr&&x.hi.zr else x.lo.vl&&(x.hi.vl&&decide (cmpZ x.lo.iv x.hi.iv≤0))
theorem keep7 {w w':World} (k:Kp w w') {p0 p1 p2 p3 p4 p5 p6:Addr} {v0 v1 v2 v3 v4 v5 v6:Value} (h:w.cell? p0=some v0∧w.cell? p1=some v1∧w.cell? p2=some v2∧w.cell? p3=some v3∧w.cell? p4=some v4∧w.cell? p5=some v5∧w.cell? p6=some v6):w'.cell? p0=some v0∧w'.cell? p1=some v1∧w'.cell? p2=some v2∧w'.cell? p3=some v3∧w'.cell? p4=some v4∧w'.cell? p5=some v5∧w'.cell? p6=some v6 :=
 let ⟨h0,h1,h2,h3,h4,h5,h6⟩:=h
 ⟨k.cell h0,k.cell h1,k.cell h2,k.cell h3,k.cell h4,k.cell h5,k.cell h6⟩
def RI.ok (w:World) (x:RI):Prop:=x.rd w∧x.all=false∧x.vl=true
theorem RI.ok.kp {w w':World} {x:RI} (h:x.ok w) (k:Kp w w'):x.ok w':=⟨h.1.kp k,h.2⟩
theorem RI.ok.drew {w:World} {x:RI} (h:x.ok w):x.ok w.drew:=h.kp (Kp.refl w).drew
theorem RI.ok.parts {w:World} {x:RI} (h:x.ok w):x.lo.vl=true∧x.hi.vl=true∧x.lo.iv≤x.hi.iv:=by
 obtain⟨_,h1,h2⟩:=h
 unfold RI.vl at h2
 rw[h1] at h2
 simp only[Bool.false_eq_true,if_false,Bool.and_eq_true,decide_eq_true_eq] at h2
 refine⟨h2.1,h2.2.1,?_⟩
 have:=h2.2.2
 have h3:=@cmpZ_gt x.lo.iv x.hi.iv
 omega
def RD.ok (w:World) (x:RD):Prop:=x.rd w∧x.vl=true
theorem RD.ok.kp {w w':World} {x:RD} (h:x.ok w) (k:Kp w w'):x.ok w':=⟨h.1.kp k,h.2⟩
theorem RI.ok.lo {w:World} {x:RI} (h:x.ok w):x.lo.ok w:=⟨h.1.1,h.parts.1⟩
theorem RI.ok.hi {w:World} {x:RI} (h:x.ok w):x.hi.ok w:=⟨h.1.2,h.parts.2.1⟩
theorem Valid_rok (x:RD) (w:World) (h:x.ok w) :
  Calls Tryz.prog 114 #[.agg #[.bool x.neg,.slice x.a x.xs.length x.c,.int .i64 x.e]] w fun e w'=>e=.returned (.bool true)∧Kp w w':=by
 have H:=Valid_raw x w h.1
 rwa [h.2] at H
def RowD (w:World) (a:Option Addr) (zs:List RD):Prop :=
 ∀ i x,zs[i]? = some x→∃ b o,a=some ⟨b,o,none⟩∧x.rd w∧w.cell? ⟨b,o+i*3,none⟩=some (.bool x.neg)∧w.cell? ⟨b,o+i*3+1,none⟩=some (.slice x.a x.xs.length x.c)∧w.cell? ⟨b,o+i*3+2,none⟩=some (.int .i64 x.e)
theorem RowD.kp {w w':World} {a:Option Addr} {zs:List RD} (h:RowD w a zs) (k:Kp w w'):RowD w' a zs:=by
 intro i x hi
 obtain⟨b,o,rfl,hr,h0,h1,h2⟩:=h i x hi
 exact⟨b,o,rfl,hr.kp k,k.cell h0,k.cell h1,k.cell h2⟩
def RowI (w:World) (a:Option Addr) (zs:List RI):Prop :=
 ∀ i x,zs[i]? = some x→∃ b o,a=some ⟨b,o,none⟩∧x.rd w∧w.cell? ⟨b,o+i*7,none⟩=some (.bool x.lo.neg)∧w.cell? ⟨b,o+i*7+1,none⟩=some (.slice x.lo.a x.lo.xs.length x.lo.c)∧w.cell? ⟨b,o+i*7+2,none⟩=some (.int .i64 x.lo.e) ∧
  w.cell? ⟨b,o+i*7+3,none⟩=some (.bool x.hi.neg)∧w.cell? ⟨b,o+i*7+4,none⟩=some (.slice x.hi.a x.hi.xs.length x.hi.c)∧w.cell? ⟨b,o+i*7+5,none⟩=some (.int .i64 x.hi.e)∧w.cell? ⟨b,o+i*7+6,none⟩=some (.bool x.all)
theorem RowI.kp {w w':World} {a:Option Addr} {zs:List RI} (h:RowI w a zs) (k:Kp w w'):RowI w' a zs:=by
 intro i x hi
 obtain⟨b,o,rfl,hr,h0,h1,h2,h3,h4,h5,h6⟩:=h i x hi
 exact⟨b,o,rfl,hr.kp k,k.cell h0,k.cell h1,k.cell h2,k.cell h3,k.cell h4,k.cell h5,k.cell h6⟩
theorem Box3.new3 (w:World) (x0 x1 x2:Value) (t:TypeId) (o1 o2:Obj):Box3 (((w.alloc o1).alloc o2).alloc (.cells #[x0,x1,x2] t)) (w.heap.size+2) x0 x1 x2:=by
 have:=Box3.new ((w.alloc o1).alloc o2) x0 x1 x2 t
 rwa [World.size_alloc,World.size_alloc] at this
def Upd (g:Nat) (w W:World):Prop :=
 (∀ p:Addr,W.frozen? p=w.frozen? p)∧(∀ a xs,Rd w a xs→Rd W a xs)∧(∀ a:World,Kp a w→a.heap.size≤g→Kp a W)∧(∀ p:Addr,p.block≠g→W.cell? p=w.cell? p)∧W.heap.size=w.heap.size
theorem Upd.refl (g:Nat) (w:World):Upd g w w:=⟨fun _=>rfl,fun _ _ h=>h,fun _ h _=>h,fun _ _=>rfl,rfl⟩
theorem Upd.step {g:Nat} {w W:World} (h:Upd g w W) {i:Nat} {y:Value} (hc:W.cell? ⟨g,i,none⟩=some y) (hy:∀ n:Int,y≠.int .u32 n) (v:Value):Upd g w (W.setCell ⟨g,i,none⟩ v):=by
 obtain⟨h1,h2,h3,h4,h5⟩:=h
 refine⟨fun p=>by rw[← h1 p];simp,fun a xs hr=>(h2 a xs hr).other hc hy,fun a hk hg=>(h3 a hk hg).set hg _,fun p hp=>?_,by rw[← h5];simp⟩
 rw[cell_set_ne,h4 p hp]
 intro e;exact hp (by rw[← e])
theorem set_at {w:World} {g i j:Nat} {v u:Value} (hij:i≠j) (h:w.cell? ⟨g,j,none⟩=some u):(w.setCell ⟨g,i,none⟩ v).cell? ⟨g,j,none⟩=some u:=by
 rw[cell_set_ne (fun e=>hij (by injection e))];exact h
def Box7 (w:World) (g:Nat) (x0 x1 x2 x3 x4 x5 x6:Value):Prop :=
 w.cell? ⟨g,0,none⟩=some x0∧w.cell? ⟨g,1,none⟩=some x1∧w.cell? ⟨g,2,none⟩=some x2∧w.cell? ⟨g,3,none⟩=some x3∧w.cell? ⟨g,4,none⟩=some x4∧w.cell? ⟨g,5,none⟩=some x5∧w.cell? ⟨g,6,none⟩=some x6
theorem Box7.kp {w w':World} {g:Nat} {x0 x1 x2 x3 x4 x5 x6:Value} (h:Box7 w g x0 x1 x2 x3 x4 x5 x6) (k:Kp w w'):Box7 w' g x0 x1 x2 x3 x4 x5 x6:=keep7 k h
theorem Box7.new (w:World) (x0 x1 x2 x3 x4 x5 x6:Value) (t:TypeId):Box7 (w.alloc (.cells #[x0,x1,x2,x3,x4,x5,x6] t)) w.heap.size x0 x1 x2 x3 x4 x5 x6:=by
 refine⟨?_,?_,?_,?_,?_,?_,?_⟩ <;> simp
theorem stored7 {w:World} {g:Nat} {y0 y1 y2 y3 y4 y5 y6:Value} (h:Box7 w g y0 y1 y2 y3 y4 y5 y6)
  (n0:∀ n:Int,y0≠.int .u32 n) (n1:∀ n:Int,y1≠.int .u32 n) (n2:∀ n:Int,y2≠.int .u32 n) (n3:∀ n:Int,y3≠.int .u32 n) (n4:∀ n:Int,y4≠.int .u32 n) (n5:∀ n:Int,y5≠.int .u32 n) (n6:∀ n:Int,y6≠.int .u32 n)
  (x0 x1 x2 x3 x4 x5 x6:Value) {W:World}
  (hW:(((((((w.setCell ⟨g,0,none⟩ x0).setCell ⟨g,1,none⟩ x1).setCell ⟨g,2,none⟩ x2).setCell ⟨g,3,none⟩ x3).setCell ⟨g,4,none⟩ x4).setCell ⟨g,5,none⟩ x5).setCell ⟨g,6,none⟩ x6)=W) :
  Box7 W g x0 x1 x2 x3 x4 x5 x6∧Upd g w W:=by
 subst hW
 obtain⟨h0,h1,h2,h3,h4,h5,h6⟩:=h
 have d (i j:Nat) (h:i≠j):i≠j:=h
 have u0:=(Upd.refl g w).step h0 n0 x0
 have u1:=u0.step (set_at (by decide) h1) n1 x1
 have u2:=u1.step (set_at (by decide) (set_at (by decide) h2)) n2 x2
 have u3:=u2.step (set_at (by decide) (set_at (by decide) (set_at (by decide) h3))) n3 x3
 have u4:=u3.step (set_at (by decide) (set_at (by decide) (set_at (by decide) (set_at (by decide) h4)))) n4 x4
 have u5:=u4.step (set_at (by decide) (set_at (by decide) (set_at (by decide) (set_at (by decide) (set_at (by decide) h5))))) n5 x5
 have u6:=u5.step (set_at (by decide) (set_at (by decide) (set_at (by decide) (set_at (by decide) (set_at (by decide) (set_at (by decide) h6)))))) n6 x6
 refine⟨⟨?_,?_,?_,?_,?_,?_,?_⟩,u6⟩
 ·exact set_at (by decide) (set_at (by decide) (set_at (by decide) (set_at (by decide) (set_at (by decide) (set_at (by decide) (cell_set_eq h0))))))
 ·exact set_at (by decide) (set_at (by decide) (set_at (by decide) (set_at (by decide) (set_at (by decide) (cell_set_eq (set_at (by decide) h1))))))
 ·exact set_at (by decide) (set_at (by decide) (set_at (by decide) (set_at (by decide) (cell_set_eq (set_at (by decide) (set_at (by decide) h2))))))
 ·exact set_at (by decide) (set_at (by decide) (set_at (by decide) (cell_set_eq (set_at (by decide) (set_at (by decide) (set_at (by decide) h3))))))
 ·exact set_at (by decide) (set_at (by decide) (cell_set_eq (set_at (by decide) (set_at (by decide) (set_at (by decide) (set_at (by decide) h4))))))
 ·exact set_at (by decide) (cell_set_eq (set_at (by decide) (set_at (by decide) (set_at (by decide) (set_at (by decide) (set_at (by decide) h5))))))
 exact cell_set_eq (set_at (by decide) (set_at (by decide) (set_at (by decide) (set_at (by decide) (set_at (by decide) (set_at (by decide) h6))))))
def Frz (w:World) (g:Nat):Prop :=
 w.frozen? ⟨g,0,none⟩=false∧w.frozen? ⟨g,1,none⟩=false∧w.frozen? ⟨g,2,none⟩=false∧w.frozen? ⟨g,3,none⟩=false∧w.frozen? ⟨g,4,none⟩=false∧w.frozen? ⟨g,5,none⟩=false∧w.frozen? ⟨g,6,none⟩=false
theorem Frz.kp {w w':World} {g:Nat} {x0 x1 x2 x3 x4 x5 x6:Value} (h:Frz w g) (b:Box7 w g x0 x1 x2 x3 x4 x5 x6) (k:Kp w w'):Frz w' g :=
 ⟨k.frozen b.1 h.1,k.frozen b.2.1 h.2.1,k.frozen b.2.2.1 h.2.2.1,k.frozen b.2.2.2.1 h.2.2.2.1,k.frozen b.2.2.2.2.1 h.2.2.2.2.1,k.frozen b.2.2.2.2.2.1 h.2.2.2.2.2.1,k.frozen b.2.2.2.2.2.2 h.2.2.2.2.2.2⟩
theorem Frz.new (w:World) (x0 x1 x2 x3 x4 x5 x6:Value) (t:TypeId):Frz (w.alloc (.cells #[x0,x1,x2,x3,x4,x5,x6] t)) w.heap.size:=by
 refine⟨?_,?_,?_,?_,?_,?_,?_⟩ <;> simp
def Var7 (w:World) (g:Nat):Prop:=Box7 w g (.bool false) (.slice none 0 0) (.int .i64 0) (.bool false) (.slice none 0 0) (.int .i64 0) (.bool false)∧Frz w g
theorem Var7.kp {w w':World} {g:Nat} (h:Var7 w g) (k:Kp w w'):Var7 w' g:=⟨h.1.kp k,h.2.kp h.1 k⟩
theorem Var7.alloc {w:World} {g:Nat} (h:Var7 w g) (o:Obj):Var7 (w.alloc o) g:=h.kp ((Kp.refl w).alloc o)
theorem Var7.new (w:World) (t:TypeId):Var7 (w.alloc (.cells #[.bool false,.slice none 0 0,.int .i64 0,.bool false,.slice none 0 0,.int .i64 0,.bool false] t)) w.heap.size:=⟨Box7.new _ _ _ _ _ _ _ _ _,Frz.new _ _ _ _ _ _ _ _ _⟩
theorem Var7.new2 (w:World) (t:TypeId) (o1 o2:Obj):Var7 (((w.alloc o1).alloc o2).alloc (.cells #[.bool false,.slice none 0 0,.int .i64 0,.bool false,.slice none 0 0,.int .i64 0,.bool false] t)) (w.heap.size+1+1):=by
 have:=Var7.new ((w.alloc o1).alloc o2) t
 rwa [World.size_alloc,World.size_alloc] at this
def RI.cells (x:RI):List Value:=[.bool x.lo.neg,.slice x.lo.a x.lo.xs.length x.lo.c,.int .i64 x.lo.e,.bool x.hi.neg,.slice x.hi.a x.hi.xs.length x.hi.c,.int .i64 x.hi.e,.bool x.all]
theorem RI.cells_len (x:RI):x.cells.length=7:=rfl
def OwnI (wb w:World) (v:Value) (zs:List RI):Prop :=
 ((∀ x,x∈zs→x.rd wb)∧Kp wb w)∧w.ownsRow wb.heap.size 115 7 v zs.length (zs.flatMap RI.cells)
theorem flat_get {zs:List RI} {i:Nat} {x:RI} (h:zs[i]? = some x) {j:Nat} (hj:j<7):(zs.flatMap RI.cells)[i*7+j]? = x.cells[j]?:=by
 induction zs generalizing i with
 | nil=>simp at h
 | cons z zs ih =>
  rw[List.flatMap_cons]
  cases i with
  | zero =>
   simp only[List.getElem?_cons_zero,Option.some.injEq] at h
   subst h
   rw[List.getElem?_append_left (by rw[RI.cells_len];omega),Nat.zero_mul,Nat.zero_add]
  | succ i =>
   rw[List.getElem?_cons_succ] at h
   rw[List.getElem?_append_right (by rw[RI.cells_len];omega),RI.cells_len,← ih h]
   congr 1;omega
theorem OwnI.nil {wb w:World} (k:Kp wb w):OwnI wb w (.slice none 0 0) []:=⟨⟨fun _ h=>by simp at h,k⟩,World.ownsRow_nil _ _ _ _⟩
theorem OwnI.value {wb w:World} {v:Value} {zs:List RI} (h:OwnI wb w v zs):∃ a c,v=.slice a zs.length c∧zs.length≤c∧c≤maxLen∧RowI w a zs:=by
 obtain⟨h1,h2,h3⟩:=h
 rcases h3 with ⟨rfl,h3⟩ | ⟨g,cap,cur,rfl,hb,hg,hn,hc,hs,ht⟩
 ·have h0:zs=[]:=List.length_eq_zero_iff.1 h3
  subst h0
  exact⟨none,0,rfl,Nat.le_refl _,by decide,fun i x hi=>by simp at hi⟩
 refine⟨_,_,rfl,hn,hc,fun i x hi=>⟨g,0,rfl,(h1.1 x (List.mem_of_getElem? hi)).kp h1.2,?_⟩⟩
 have hil:i<zs.length:=(List.getElem?_eq_some_iff.1 hi).1
 have key (j:Nat) (hj:j<7) (u:Value) (hu:x.cells[j]? = some u):w.cell? ⟨g,i*7+j,none⟩=some u:=by
  rw[cell_of_row w g _ cur _ _ hg]
  have h5:(cur.toList.take (zs.length*7))[i*7+j]? = some u:=by rw[ht,flat_get hi hj,hu]
  rw[List.getElem?_take,if_pos (by omega)] at h5
  simpa using h5
 simp only[Nat.zero_add]
 exact⟨key 0 (by decide) _ rfl,key 1 (by decide) _ rfl,key 2 (by decide) _ rfl,key 3 (by decide) _ rfl,key 4 (by decide) _ rfl,key 5 (by decide) _ rfl,key 6 (by decide) _ rfl⟩
theorem OwnI.kp {wb w w':World} {v:Value} {zs:List RI} (h:OwnI wb w v zs) (k:Kp w w'):OwnI wb w' v zs:=by
 refine⟨⟨h.1.1,h.1.2.trans k⟩,?_⟩
 obtain⟨_,h2,h3⟩:=h
 refine⟨h2,?_⟩
 rcases h3 with h3 | ⟨g,cap,cur,h4,hb,hg,hr⟩
 ·exact .inl h3
 exact .inr ⟨g,cap,cur,h4,hb,k.heap hg,hr⟩
theorem infoIvl:(Tryz.prog.info? 115).map (fun i=>(i.zero,i.size,i.bytes))=some (some (.agg #[.bool false,.slice none 0 0,.int .i64 0,.bool false,.slice none 0 0,.int .i64 0,.bool false]),7,88):=by kernel_rfl
section
open Go.ChangeShapes Go.WideShapes Go.RowKit Go.Deep
section
variable {H:Type}
theorem bulk_one (d:DataW H):1≤Rows.uptoBulk d:=by
 cases d with
 | nil=>simp[Rows.uptoBulk]
 | ptr d=>simp[Rows.uptoBulk]
 | slice elems spare=>simp[Rows.uptoBulk]
 | agg parts=>simp[Rows.uptoBulk]
 | iface t d=>simp[Rows.uptoBulk]
 | map entries=>simp[Rows.uptoBulk]
 | held h=>simp[Rows.uptoBulk]
 | lit l=>cases l <;> simp[Rows.uptoBulk]
theorem bulk_part {d:DataW H} {l:List (DataW H)} (h:d∈l):Rows.uptoBulk d≤Rows.uptoBulkAll l:=by
 induction l with
 | nil=>cases h
 | cons x r ih =>
  simp only[Rows.uptoBulkAll]
  cases List.mem_cons.1 h with
  | inl e=>subst e;omega
  | inr e=>have:=ih e;omega
theorem bulk_len (l:List (DataW H)):l.length≤Rows.uptoBulkAll l:=by
 induction l with
 | nil=>simp[Rows.uptoBulkAll]
 | cons x r ih=>have:=bulk_one x;simp only[Rows.uptoBulkAll,List.length_cons];omega
theorem bulk_slice (elems spare:List (DataW H)):elems.length≤Rows.uptoBulk (.slice elems spare):=by
 have h1:=bulk_len elems
 simp only[Rows.uptoBulk]
 omega
theorem bulk_elem {elems spare:List (DataW H)} {d:DataW H} (h:d∈elems):Rows.uptoBulk d≤Rows.uptoBulk (.slice elems spare):=by
 have:=bulk_part h
 simp only[Rows.uptoBulk]
 omega
theorem bulk_agg {parts:List (DataW H)} {d:DataW H} (h:d∈parts):Rows.uptoBulk d≤Rows.uptoBulk (.agg parts):=by
 have:=bulk_part h
 simp only[Rows.uptoBulk]
 omega
end
section
variable {H:Type} {enc:TypeId×Value→H} {w:World} {base:Nat} {spare:Nat→Bool} {held:Bool}
theorem cell_spot {a:Addr} {v:Value} (h:w.cell? (a.add 0)=some v):∃ b o,a=⟨b,o,none⟩:=by
 obtain⟨b,o,spot⟩:=a
 have hspot:spot=none:=by simpa [Addr.add] using World.cell?_spot h
 subst hspot
 exact⟨b,o,rfl⟩
theorem wf_u32_bd {n:Int} (h:(Lit.int .u32 n).wf=true):0≤n∧n≤4294967295:=by
 have:=bounds_u32 h
 omega
theorem wf_i64_bd {n:Int} (h:(Lit.int .i64 n).wf=true):I64 n:=by
 have:=bounds_i64 h
 exact⟨by omega,by omega⟩
theorem cells32:Tryz.prog.cellsOf 213=1:=by kernel_rfl
theorem cellsBool:Tryz.prog.cellsOf 4=1:=by kernel_rfl
theorem cellsInt:Tryz.prog.cellsOf 3=1:=by kernel_rfl
theorem cellsLimbs:Tryz.prog.cellsOf 111=1:=by kernel_rfl
theorem cellsDyd:Tryz.prog.cellsOf 113=3:=by kernel_rfl
theorem cellsIvl:Tryz.prog.cellsOf 115=7:=by kernel_rfl
theorem open_limbs {fuel:Nat} {cs:List Value} {x:DataW H×List MemPlace} (h:DataW.trod enc Tryz.prog w base spare held fuel 111 cs=some x) :
  ∃ (a:Option Addr) (xs:List Nat) (c:Nat),cs=[.slice a xs.length c]∧Rd w a xs∧xs.length≤c∧c≤maxLen∧xs.length≤Rows.uptoBulk x.1:=by
 rcases open_ints Tryz.underlying111 Tryz.underlying213 cells32 h with ⟨hcs,hx⟩ | ⟨a,len,cap,zs,hcs,_,hl,hm,hz,hx,hcell,hwz⟩
 ·exact⟨none,[],0,hcs,.nil _ _,Nat.le_refl _,by unfold maxLen;omega,Nat.zero_le _⟩
 have hle:len≤zs.length:=by rw[hz];split <;> omega
 have hlen:((zs.take len).map Int.toNat).length=len:=by simp;omega
 refine⟨some a,(zs.take len).map Int.toNat,cap,by rw[hlen];exact hcs,⟨?_,?_⟩,by omega,hm,?_⟩
 ·intro y hy
  obtain⟨z,hz',rfl⟩:=List.mem_map.1 hy
  have:=wf_u32_bd (hwz z (List.mem_of_mem_take hz'))
  omega
 ·by_cases h0:len=0
  ·exact .inl (by rw[h0];simp)
  obtain⟨b,o,rfl⟩:=cell_spot (hcell 0 (by omega))
  refine .inr ⟨b,o,rfl,fun i hi=>?_⟩
  rw[hlen] at hi
  have hc:=hcell i (by omega)
  rw[Addr.add_lit] at hc
  have hw:=wf_u32_bd (hwz (zs[i]'(by omega)) (List.getElem_mem _))
  have e:nth ((zs.take len).map Int.toNat) i=(zs[i]'(by omega)).toNat:=by
   rw[nth_eq (by rw[hlen];exact hi)]
   simp
  have e2:zs.getD i 0=zs[i]'(by omega):=by simp[List.getD,List.getElem?_eq_getElem (show i<zs.length by omega)]
  rw[hc,e,e2,Int.toNat_of_nonneg hw.1]
 rw[hx]
 show _≤Rows.uptoBulk (DataW.slice _ _)
 refine Nat.le_trans ?_ (bulk_slice _ _)
 simp[lits]
theorem list3 {α:Type} {l:List α} (h:l.length=3):∃ a b c,l=[a,b,c]:=by
 match l,h with
 | [a,b,c],_=>exact⟨a,b,c,rfl⟩
theorem open_dyd {fuel:Nat} {cs:List Value} {x:DataW H×List MemPlace} (h:DataW.trod enc Tryz.prog w base spare held fuel 113 cs=some x) (hb:Rows.uptoBulk x.1≤1048576) :
  ∃ y:RD,cs=[.bool y.neg,.slice y.a y.xs.length y.c,.int .i64 y.e]∧y.rd w:=by
 obtain⟨xs,n,_,hx,hlen,hxl,hf⟩:=DataW.trod_struct Tryz.underlying113 h
 replace hlen:=hlen.trans cellsDyd
 obtain⟨c0,c1,c2,rfl⟩:=list3 hlen
 obtain⟨y0,y1,y2,rfl⟩:=list3 hxl
 have h0:DataW.trod enc Tryz.prog w base spare held n 4 (([c0,c1,c2].drop 0).take (Tryz.prog.cellsOf 4))=some y0:=hf 0 _ rfl
 have h1:DataW.trod enc Tryz.prog w base spare held n 111 (([c0,c1,c2].drop 1).take (Tryz.prog.cellsOf 111))=some y1:=hf 1 _ rfl
 have h2:DataW.trod enc Tryz.prog w base spare held n 3 (([c0,c1,c2].drop 2).take (Tryz.prog.cellsOf 3))=some y2:=hf 2 _ rfl
 rw[cellsBool] at h0
 rw[cellsLimbs] at h1
 rw[cellsInt] at h2
 have h0:DataW.trod enc Tryz.prog w base spare held n 4 [c0]=some y0:=h0
 have h1:DataW.trod enc Tryz.prog w base spare held n 111 [c1]=some y1:=h1
 have h2:DataW.trod enc Tryz.prog w base spare held n 3 [c2]=some y2:=h2
 obtain⟨s,e0,_⟩:=DataW.trod_bool Tryz.underlying4 h0
 obtain⟨a,zs,c,e1,hr,hc,hm,hbz⟩:=open_limbs h1
 obtain⟨e,e2,_,hw⟩:=DataW.trod_int Tryz.underlying3 h2
 simp only[List.cons.injEq,and_true] at e0 e1 e2
 subst e0 e1 e2
 have hy1:y1.1∈[y0,y1,y2].map (·.1):=by simp
 have hle:Rows.uptoBulk y1.1≤Rows.uptoBulk x.1:=by rw[hx];exact bulk_agg hy1
 exact⟨⟨s,a,zs,c,e⟩,rfl,hr,hc,hm,by show zs.length≤_;omega,wf_i64_bd hw⟩
theorem list7 {α:Type} {l:List α} (h:l.length=7):∃ a b c d e f g,l=[a,b,c,d,e,f,g]:=by
 match l,h with
 | [a,b,c,d,e,f,g],_=>exact⟨a,b,c,d,e,f,g,rfl⟩
theorem open_ivl {fuel:Nat} {cs:List Value} {x:DataW H×List MemPlace} (h:DataW.trod enc Tryz.prog w base spare held fuel 115 cs=some x) (hb:Rows.uptoBulk x.1≤1048576) :
  ∃ y:RI,cs=[.bool y.lo.neg,.slice y.lo.a y.lo.xs.length y.lo.c,.int .i64 y.lo.e,.bool y.hi.neg,.slice y.hi.a y.hi.xs.length y.hi.c,.int .i64 y.hi.e,.bool y.all]∧y.rd w:=by
 obtain⟨xs,n,_,hx,hlen,hxl,hf⟩:=DataW.trod_struct Tryz.underlying115 h
 replace hlen:=hlen.trans cellsIvl
 obtain⟨c0,c1,c2,c3,c4,c5,c6,rfl⟩:=list7 hlen
 obtain⟨y0,y1,y2,rfl⟩:=list3 hxl
 have h0:DataW.trod enc Tryz.prog w base spare held n 113 (([c0,c1,c2,c3,c4,c5,c6].drop 0).take (Tryz.prog.cellsOf 113))=some y0:=hf 0 _ rfl
 have h1:DataW.trod enc Tryz.prog w base spare held n 113 (([c0,c1,c2,c3,c4,c5,c6].drop 3).take (Tryz.prog.cellsOf 113))=some y1:=hf 1 _ rfl
 have h2:DataW.trod enc Tryz.prog w base spare held n 4 (([c0,c1,c2,c3,c4,c5,c6].drop 6).take (Tryz.prog.cellsOf 4))=some y2:=hf 2 _ rfl
 rw[cellsDyd] at h0 h1
 rw[cellsBool] at h2
 have hle0:Rows.uptoBulk y0.1≤Rows.uptoBulk x.1:=by rw[hx];exact bulk_agg (by simp)
 have hle1:Rows.uptoBulk y1.1≤Rows.uptoBulk x.1:=by rw[hx];exact bulk_agg (by simp)
 have h0:DataW.trod enc Tryz.prog w base spare held n 113 [c0,c1,c2]=some y0:=h0
 have h1:DataW.trod enc Tryz.prog w base spare held n 113 [c3,c4,c5]=some y1:=h1
 have h2:DataW.trod enc Tryz.prog w base spare held n 4 [c6]=some y2:=h2
 obtain⟨lo,e0,r0⟩:=open_dyd h0 (by omega)
 obtain⟨hi,e1,r1⟩:=open_dyd h1 (by omega)
 obtain⟨s,e2,_⟩:=DataW.trod_bool Tryz.underlying4 h2
 simp only[List.cons.injEq,and_true] at e0 e1 e2
 obtain⟨rfl,rfl,rfl⟩:=e0
 obtain⟨rfl,rfl,rfl⟩:=e1
 subst e2
 exact⟨⟨lo,hi,s⟩,rfl,r0,r1⟩
instance:Inhabited RD:=⟨⟨false,none,[],0,0⟩⟩
instance:Inhabited RI:=⟨⟨default,default,false⟩⟩
theorem open_rowI {fuel:Nat} {cs:List Value} {x:DataW H×List MemPlace} (h:DataW.trod enc Tryz.prog w base spare held fuel 58 cs=some x) (hb:Rows.uptoBulk x.1≤1048576) :
  ∃ (a:Option Addr) (zs:List RI) (c:Nat),cs=[.slice a zs.length c]∧RowI w a zs∧zs.length≤1048576:=by
 rcases open_slice Tryz.underlying58 h with ⟨hcs,hx⟩ | ⟨a,len,cap,m,n,D,Pl,hcs,_,hl,hm,hmm,hx,hi⟩
 ·exact⟨none,[],0,hcs,fun i x hx=>by simp at hx,Nat.zero_le _⟩
 have hle:len≤m:=by rw[hmm];split <;> omega
 have hbl:∀ i,i<len→Rows.uptoBulk (D i)≤1048576:=fun i hil=>by
  refine Nat.le_trans ?_ hb
  rw[hx]
  exact bulk_elem (List.mem_map.2 ⟨i,List.mem_range.2 hil,rfl⟩)
 have hll:len≤1048576:=by
  refine Nat.le_trans ?_ hb
  rw[hx]
  refine Nat.le_trans ?_ (bulk_slice _ _)
  simp
 obtain⟨f,hf⟩:=choose_lt (α:=RI) (n:=len) (p:=fun i y=>w.cells? base (a.add (i*7)) 7=some [.bool y.lo.neg,.slice y.lo.a y.lo.xs.length y.lo.c,.int .i64 y.lo.e,.bool y.hi.neg,.slice y.hi.a y.hi.xs.length y.hi.c,.int .i64 y.hi.e,.bool y.all]∧y.rd w) (fun i hil=>by
  obtain⟨cs',h1,h2⟩:=hi i (by omega)
  rw[cellsIvl] at h1
  obtain⟨y,e,hr⟩:=open_ivl h2 (hbl i hil)
  exact⟨y,by rw[h1,e],hr⟩)
 have hfl:((List.range len).map f).length=len:=by simp
 refine⟨some a,(List.range len).map f,cap,by rw[hfl];exact hcs,fun i x hx=>?_,by omega⟩
 have hil:i<len:=by have:=(List.getElem?_eq_some_iff.1 hx).1;rwa [hfl] at this
 rw[List.getElem?_map,List.getElem?_range hil] at hx
 cases hx
 obtain⟨h1,h2⟩:=hf i hil
 obtain⟨_,_,hat⟩:=World.cells?_some h1
 have h0:=hf 0 (by omega)
 have hspot:∃ b o,a=⟨b,o,none⟩:=by
  obtain⟨_,_,hat0⟩:=World.cells?_some h0.1
  have:=hat0 0 (by decide)
  rw[Nat.zero_mul,add_add] at this
  exact cell_spot this
 obtain⟨b,o,rfl⟩:=hspot
 have key (j:Nat) (hj:j<7) (u:Value) (hu:([.bool (f i).lo.neg,.slice (f i).lo.a (f i).lo.xs.length (f i).lo.c,.int .i64 (f i).lo.e,.bool (f i).hi.neg,.slice (f i).hi.a (f i).hi.xs.length (f i).hi.c,.int .i64 (f i).hi.e,.bool (f i).all]:List Value)[j]? = some u):w.cell? ⟨b,o+i*7+j,none⟩=some u:=by
  have:=hat j hj
  rw[add_add,Addr.add_lit,hu,← Nat.add_assoc] at this
  exact this
 exact⟨b,o,rfl,h2,key 0 (by decide) _ rfl,key 1 (by decide) _ rfl,key 2 (by decide) _ rfl,key 3 (by decide) _ rfl,key 4 (by decide) _ rfl,key 5 (by decide) _ rfl,key 6 (by decide) _ rfl⟩
end
end
end Go.Proofs.YteidgoldnllabaaGreatDoor
