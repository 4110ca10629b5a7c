/-
  Walks: the reference's Checked.
-/
import Derived.Test.YtbhmhfnfceakoaaGreatDoorMR2H
import Derived.Test.YtbhmhfnfceakoaaGreatDoorMRoQ
import Derived.Test.YtbhmhfnfceakoaaGreatDoorMCmp
import Derived.Test.YtbhmhfnfceakoaaGreatDoorMSumG
import Derived.Deep.DeepFit
import Derived.Deep.CutRange
import Derived.Test.YtbhmhfnfceakoaaGreatDoorMSig
import Derived.Test.YtbhmhfnfceakoaaGreatDoorMRoAdd
import Derived.Deep.LoopGhost
import Derived.Test.YtbhmhfnfceakoaaGreatDoorMIvMl
namespace Go.Proofs.YtbhmhfnfceakoaaGreatDoor
open Go.RowKit
open Lib (hid)
set_option maxHeartbeats 2000000 in
set_option maxRecDepth 100000 in
theorem r2left_any (a:Option Addr) (xs:List Nat) (c n:Nat) (w:World) (h1:Rd w a xs) (hxl:xs.length≤100000) (hn:n≤65536) :
  Calls Tryz.prog 211 #[.slice a xs.length c,.int .i64 n] w (NatOut w (val xs*2 ^ n)):=by
 have hmk:=make_u32 ((n:Int)/32) (n/32) (by omega) (by omega)
 go_enter Tryz.func211,Tryz.ntmps211
 go_wp2_with fail
 clear hmk
 have hr:n % 32<32:=Nat.mod_lt _ (by decide)
 go_loopw [5,6,7] (fun v cy ix wr=>∃ (k cr:Nat) (a':Option Addr) (c':Nat) (zs:List Nat),k≤xs.length∧ix=.int .i64 k∧cy=.int .u64 cr∧v=.slice a' zs.length c'∧cr<2 ^ (n % 32) ∧
   zs.length=n/32+k∧Own wr w.heap.size (.slice a' zs.length c') zs∧val zs+4294967296 ^ (n/32+k)*cr=4294967296 ^ (n/32)*(2 ^ (n % 32)*val (xs.take k))∧Kp w wr) (fun _ _ ix _=>xs.length-(intOf ix).toNat)
 case atStart =>
  refine⟨0,0,_,_,List.replicate (n/32) 0,Nat.zero_le _,rfl,rfl,by rw[List.length_replicate],two_pow_pos _,by simp,?_,by simp[val,val_replicate],(Kp.refl _).alloc _⟩
  rw[List.length_replicate]
  exact Own.made _ _ _ (by omega) (by omega) _ (Nat.le_refl _)
 case round =>
 obtain⟨k,cr,a',c',zs,hk,rfl,rfl,rfl,hcr,hzl,hown,hvz,hkp⟩:=hrel
 have Hvz:=hid hvz
 have Hzl:=hid hzl
 have hzl1:zs.length≤n/32+k:=by omega
 have Hcr:=hid hcr
 clear hvz hzl hcr
 by_cases hlt:k<xs.length
 ·obtain⟨b1,o1,rfl,hcx⟩:=(h1.kp hkp).some hlt
  have hx1:=hcx k hlt
  have bx:=h1.lt32.nth k
  obtain⟨s,hor,hs,hs2,hs3⟩:=shl_or bx hr Hcr.out
  have Hst:=hid (shl_step (zs:=zs) (q:=n/32) (k:=k) Hzl.out Hvz.out hs)
  have Hs2:=hid hs2
  have hcl:=hid (and_lowI (x:=(s:Int)) (s:=s) rfl (by omega))
  clear hcx hs hs2
  go_wp2_with (at_builtin;refine wpList_append_u32 rfl _ _ rfl w.heap.size _ _ rfl (hown.alloc _) _ _ rfl (World.cell?_alloc_new _ _ _ _) (s % 4294967296) hcl.out (by omega) (by omega) (by have:=hkp.size;simp;omega) ?_;intro a2 c2 w2 hown2 hb2)
  go_roundw
  case measure=>simp[intOf];omega
  case rel =>
  refine⟨k+1,s/4294967296,a2,c2,zs++[s % 4294967296],by omega,by go_num,by congr 1 <;> omega,by simp,Hs2.out,by simp[Hzl.out];omega,by simpa using hown2,?_,((hkp.alloc _).below.trans hb2)⟩
  rw[val_take_step];exact Hst.out
 have hke:k=xs.length:=by omega
 have hcr3:cr<4294967296:=by
  have:=Nat.lt_of_lt_of_le Hcr.out (Nat.pow_le_pow_right (by decide) (show n % 32≤31 by omega))
  omega
 have e3:=hid (show val (zs++[cr])=val xs*2 ^ n by
  have e2:=Hvz.out
  rw[hke,List.take_of_length_le (Nat.le_refl _),← Nat.mul_assoc,pow_split] at e2
  rw[val_snoc,Hzl.out,hke,e2,Nat.mul_comm])
 clear hke
 have hkk:=hid hkp
 go_wp2_with (at_builtin;refine wpList_append_u32 rfl _ _ rfl w.heap.size _ _ rfl (hown.alloc _) _ _ rfl (World.cell?_alloc_new _ _ _ _) cr (by omega) (by omega) (by omega) (by have:=hkp.size;simp;omega) ?_;intro a2 c2 w2 hown2 hb2)
 obtain⟨l5,m5,r5,r6⟩:=hown2.rd
 have hT:=r2trim_any a2 (zs++[cr]) c2 w2 r6 m5 r5 (by rw[List.length_append,List.length_singleton];omega)
 rw[List.length_append,List.length_singleton] at hT
 have HT:=hid hT
 have hkw:=hid (show Kp w w2 from (hkk.out.alloc _).below.trans hb2)
 clear hown2 r6 hT hb2 hown hkp l5 m5 r5
 refine HT.out.mono ?_
 rintro e w7 ⟨a6,c6,rfl,l6,m6,r6,k6⟩
 go_wp2_with fail
 go_ret
 rw[← e3.out]
 exact⟨a6,c6,rfl,l6,m6,r6,hkw.out.trans k6⟩
set_option maxRecDepth 100000 in
set_option maxHeartbeats 2000000 in
theorem r2Of_any (s:Bool) (a:Option Addr) (xs:List Nat) (c:Nat) (ex:Int) (w:World) (h:Rd w a xs) (hc:xs.length≤c) (hm:c≤maxLen) (hl:xs.length≤1100000) (he0:-1000000000≤ex) (he1:ex≤1000000000) :
  Calls Tryz.prog 212 #[.bool s,.slice a xs.length c,.int .i64 ex] w (DyOut w (canon s (val xs) ex)):=by
 have hll:=limbs_len_le h.lt32
 have hT:=hid (r2trim_any a xs c (w.alloc (.cells #[.bool false,.slice none 0 0,.int .i64 0] 38)) (h.kp ((Kp.refl w).alloc _)) hc hm hl)
 have hB:=Box3.new w (.bool false) (.slice none 0 0) (.int .i64 0) 38
 by_cases h0:val xs=0
 ·have hn:(limbs (val xs)).length=0:=by rw[h0,limbs_zero];rfl
  have H0:=hid h0
  clear h0
  go_enter Tryz.func212,Tryz.ntmps212
  go_wp2_with fail
  refine hT.out.mono ?_
  rintro e w1 ⟨a1,c1,rfl,l1,m1,r1,k1⟩
  rw[hn]
  obtain⟨q0,q1,q2,f0,f1,f2⟩:=hB.kp k1
  have hk2:=((Kp.refl w).alloc _).trans k1
  have hst:=stored q0 q1 q2 nofun nofun nofun (.bool false) (.slice none 0 0) (.int .i64 0)
  clear hn
  go_wp2_with fail
  generalize (((w1.setCell _ _).setCell _ _).setCell _ _)=W at hst ⊢
  obtain⟨s0,s1,s2,_,s4,s5,_,_⟩:=hst
  refine bodyPost_ret (v:=.agg #[.bool false,.slice none 0 0,.int .i64 0]) (by simp[results,Tryz.results212,go_sem,s0,s1,s2]) rfl ?_
  rw[H0.out,canon_zero]
  exact dyOut_intro none 0 0 false 0 rfl rfl (by show 0=(limbs 0).length;rw[limbs_zero];rfl) rfl (by show Rd _ none (limbs 0);rw[limbs_zero];exact .nil _ _) (Nat.le_refl _) (by unfold maxLen;omega) (s5 _ hk2 (by omega))
 have hne:(((limbs (val xs)).length:Int)==0)=false:=beq_eq_false_iff_ne.2 (by
  have:(limbs (val xs)).length≠0:=fun e=>h0 (limbs_eq_nil.1 (List.length_eq_zero_iff.1 e))
  omega)
 have Hc:=hid (show canon s (val xs) ex=⟨s,oddp (val xs),ex+tz (val xs)⟩ by unfold canon;rw[if_neg h0])
 have Hodd:=hid (show val xs/2 ^ tz (val xs)=oddp (val xs) from rfl)
 have htz:=bits_of_nz h0
 have hbv:=bits_val_le h.lt32
 have hv0:val (limbs (val xs))≠0:=by rw[val_limbs];exact h0
 have Hv0:=hid hv0
 clear h0 hv0
 go_enter Tryz.func212,Tryz.ntmps212
 go_wp2_with fail
 refine hT.out.mono ?_
 rintro e w1 ⟨a1,c1,rfl,l1,m1,r1,k1⟩
 go_wp2_with fail
 have hz:=r2zeros_any a1 _ c1 _ r1 (by omega) Hv0.out
 rw[val_limbs] at hz
 refine hz.mono ?_
 rintro e w2 ⟨rfl,rfl⟩
 clear hz
 have hr:=r2right_any a1 _ c1 (tz (val xs)) _ r1 l1 m1 (by omega) (by omega)
 rw[val_limbs,Hodd.out] at hr
 go_wp2_with fail
 refine hr.mono ?_
 rintro e w3 ⟨a3,c3,rfl,l3,m3,r3,k3⟩
 clear hr
 have hkb:=k1.trans k3
 obtain⟨q0,q1,q2,f0,f1,f2⟩:=hB.kp hkb
 have hk2:=((Kp.refl w).alloc _).trans hkb
 have hst:=stored q0 q1 q2 nofun nofun nofun (.bool s) (.slice a3 (limbs (oddp (val xs))).length c3) (.int .i64 (ex+tz (val xs)))
 go_wp2_with fail
 generalize (((w3.setCell _ _).setCell _ _).setCell _ _)=W at hst ⊢
 obtain⟨s0,s1,s2,_,s4,s5,_,_⟩:=hst
 refine bodyPost_ret (v:=.agg #[.bool s,.slice a3 (limbs (oddp (val xs))).length c3,.int .i64 (ex+tz (val xs))]) (by simp[results,Tryz.results212,go_sem,s0,s1,s2]) rfl ?_
 rw[Hc.out]
 exact dyOut_intro a3 _ c3 s _ rfl rfl rfl rfl (s4 _ _ r3) l3 m3 (s5 _ hk2 (by omega))
theorem rd_pair (w:World) (x y:Nat) (hx:x<4294967296) (hy:y<4294967296) (u v:Int) (hu:u=x) (hv:v=y):Rd (w.alloc (.cells #[.int .u32 u,.int .u32 v] 109)) (some ⟨w.heap.size,0,none⟩) [x,y]:=by
 subst hu hv
 refine⟨.cons hx (.cons hy .nil),.inr ⟨_,_,rfl,fun i hi=>?_⟩⟩
 match i,hi with
 | 0,_=>simp[nth]
 | 1,_=>simp[nth]
 | i+2,hi=>exact absurd hi (by simp)
theorem r2left_int (a:Option Addr) (xs:List Nat) (c:Nat) (n:Int) (w:World) (h1:Rd w a xs) (hxl:xs.length≤100000) (h0:0≤n) (hn:n≤65536) :
  Calls Tryz.prog 211 #[.slice a xs.length c,.int .i64 n] w (NatOut w (val xs*2 ^ n.toNat)):=by
 obtain⟨m,rfl⟩:=Int.eq_ofNat_of_zero_le h0
 exact r2left_any a xs c m w h1 hxl (by omega)
theorem r2left_lim (a:Option Addr) (m:Nat) (c:Nat) (n:Int) (w:World) (h1:Rd w a (limbs m)) (hxl:(limbs m).length≤100000) (h0:0≤n) (hn:n≤65536) :
  Calls Tryz.prog 211 #[.slice a (limbs m).length c,.int .i64 n] w (NatOut w (m*2 ^ n.toNat)):=by
 have:=r2left_int a (limbs m) c n w h1 hxl h0 hn
 rwa [val_limbs] at this
theorem r2plus_lim (a b:Option Addr) (P Q:Nat) (c d:Nat) (w:World) (h1:Rd w a (limbs P)) (h2:Rd w b (limbs Q)) (hxl:(limbs P).length≤100000) (hyl:(limbs Q).length≤100000) :
  Calls Tryz.prog 213 #[.slice a (limbs P).length c,.slice b (limbs Q).length d] w (NatOut w (P+Q)):=by
 have:=r2plus_any a b (limbs P) (limbs Q) c d w h1 h2 (by omega) (by omega)
 rwa [val_limbs,val_limbs] at this
theorem r2minus_lim (a b:Option Addr) (P Q:Nat) (c d:Nat) (w:World) (h1:Rd w a (limbs P)) (h2:Rd w b (limbs Q)) (hxl:(limbs P).length≤100000) (hle:Q≤P) :
  Calls Tryz.prog 215 #[.slice a (limbs P).length c,.slice b (limbs Q).length d] w (NatOut w (P-Q)):=by
 have:=r2minus_any a b (limbs P) (limbs Q) c d w h1 h2 (by omega) (limbs_length_mono hle) (by rw[val_limbs,val_limbs];exact hle)
 rwa [val_limbs,val_limbs] at this
theorem r2Of_lim (s:Bool) (a:Option Addr) (V:Nat) (c:Nat) (ex:Int) (w:World) (h:Rd w a (limbs V)) (hc:(limbs V).length≤c) (hm:c≤maxLen) (hl:(limbs V).length≤100000) (he0:-16384≤ex) (he1:ex≤16384) :
  Calls Tryz.prog 212 #[.bool s,.slice a (limbs V).length c,.int .i64 ex] w (DyOut w (canon s V ex)):=by
 have:=r2Of_any s a (limbs V) c ex w h hc hm (by omega) (by omega) (by omega)
 rwa [val_limbs] at this
theorem cmpL_lim {P Q:Nat}:(Q≤P→0≤cmpL (limbs P) (limbs Q))∧(P<Q→cmpL (limbs P) (limbs Q)<0):=by
 unfold cmpL
 constructor
 ·intro h
  have:=limbs_length_mono h
  rw[if_neg (by omega)]
  split
  ·decide
  rw[val_limbs,val_limbs];have:=cmpN_nlt h;omega
 intro h
 have:=limbs_length_mono (Nat.le_of_lt h)
 split
 ·decide
 rw[if_neg (by omega),val_limbs,val_limbs];exact cmpN_isneg h
theorem wide_len {d f:Dy} (hd:d.ok) (hf:f.ok) (hd0:d.m≠0) (hf0:f.m≠0):bits (d.m*2 ^ (d.e-min d.e f.e).toNat)≤40000∧bits (f.m*2 ^ (f.e-min d.e f.e).toNat)≤40000:=by
 have bd:(bits d.m:Int)≤4096:=by rcases hd with ⟨h,_⟩ | ⟨_,h,_⟩;exact absurd h hd0;omega
 have bf:(bits f.m:Int)≤4096:=by rcases hf with ⟨h,_⟩ | ⟨_,h,_⟩;exact absurd h hf0;omega
 have hed:=ok_e hd
 have hef:=ok_e hf
 rw[bits_mul_pow hd0,bits_mul_pow hf0]
 omega
theorem set6 {w:World} {o g h:Nat} (n:g≠o) (n':h≠o) {d f:Dy} {a b:Option Addr} {c k:Nat} {v0 v1 v2:Value} (hS:w.cell? ⟨g,0,none⟩=some (.bool d.neg)∧w.cell? ⟨g,1,none⟩=some (.slice a (limbs d.m).length c)∧w.cell? ⟨g,2,none⟩=some (.int .i64 d.e)∧w.cell? ⟨h,0,none⟩=some (.bool f.neg)∧w.cell? ⟨h,1,none⟩=some (.slice b (limbs f.m).length k)∧w.cell? ⟨h,2,none⟩=some (.int .i64 f.e)) :
  (((w.setCell ⟨o,0,none⟩ v0).setCell ⟨o,1,none⟩ v1).setCell ⟨o,2,none⟩ v2).cell? ⟨g,0,none⟩=some (.bool d.neg)∧(((w.setCell ⟨o,0,none⟩ v0).setCell ⟨o,1,none⟩ v1).setCell ⟨o,2,none⟩ v2).cell? ⟨g,1,none⟩=some (.slice a (limbs d.m).length c)∧(((w.setCell ⟨o,0,none⟩ v0).setCell ⟨o,1,none⟩ v1).setCell ⟨o,2,none⟩ v2).cell? ⟨g,2,none⟩=some (.int .i64 d.e)∧(((w.setCell ⟨o,0,none⟩ v0).setCell ⟨o,1,none⟩ v1).setCell ⟨o,2,none⟩ v2).cell? ⟨h,0,none⟩=some (.bool f.neg)∧(((w.setCell ⟨o,0,none⟩ v0).setCell ⟨o,1,none⟩ v1).setCell ⟨o,2,none⟩ v2).cell? ⟨h,1,none⟩=some (.slice b (limbs f.m).length k)∧(((w.setCell ⟨o,0,none⟩ v0).setCell ⟨o,1,none⟩ v1).setCell ⟨o,2,none⟩ v2).cell? ⟨h,2,none⟩=some (.int .i64 f.e):=by
 obtain⟨a0,a1,a2,b0,b1,b2⟩:=hS
 obtain⟨c0,c1,c2⟩:=set3x (x0:=v0) (x1:=v1) (x2:=v2) n ⟨a0,a1,a2⟩
 obtain⟨d0,d1,d2⟩:=set3x (x0:=v0) (x1:=v1) (x2:=v2) n' ⟨b0,b1,b2⟩
 exact⟨c0,c1,c2,d0,d1,d2⟩
set_option maxHeartbeats 4000000 in
theorem r2sum_same (d f:Dy) (a b:Option Addr) (c k:Nat) (w:World) (hd:DyAt w d a c) (hf:DyAt w f b k) (hd0:d.m≠0) (hf0:f.m≠0) (hs:d.neg=f.neg) :
  Calls Tryz.prog 180 #[.agg #[.bool d.neg,.slice a (limbs d.m).length c,.int .i64 d.e],.agg #[.bool f.neg,.slice b (limbs f.m).length k,.int .i64 f.e]] w (DyOut w (sumD d f)):=by
 have hed:=ok_e hd.1
 have hef:=ok_e hf.1
 have z1:=len_ne hd0
 have z2:=len_ne hf0
 have hE1:min d.e f.e≤d.e:=Int.min_le_left _ _
 have hE2:min d.e f.e≤f.e:=Int.min_le_right _ _
 have hE0:-16384≤min d.e f.e:=by omega
 have hE3:min d.e f.e≤16384:=by omega
 obtain⟨hl1,hl2⟩:=wide_len hd.1 hf.1 hd0 hf0
 have Hl1:=hid (limbs_len_bits (n:=d.m*2 ^ (d.e-min d.e f.e).toNat) (k:=100000) (by omega))
 have Hl2:=hid (limbs_len_bits (n:=f.m*2 ^ (f.e-min d.e f.e).toNat) (k:=100000) (by omega))
 have ll1:=ok_len hd.1
 have ll2:=ok_len hf.1
 have Hsum:=hid (sum_same hE0 hE1 hE2 hs)
 have Hv:=hid (limbs_len_bits (n:=d.m*2 ^ (d.e-min d.e f.e).toNat+f.m*2 ^ (f.e-min d.e f.e).toNat) (k:=100000) (Nat.le_trans (bits_add_le hl1 hl2) (by omega)))
 have hq:(d.neg==f.neg)=true:=by rw[hs];exact beq_self_eq_true _
 clear hs
 clear hl1 hl2
 go_enter Tryz.func180,Tryz.ntmps180
 go_wp2_with fail
 generalize hW:(((w.alloc _).alloc _).alloc _)=W at *
 have hk:Kp w W:=hW▸(((Kp.refl w).alloc _).alloc _).alloc _
 have hd1:=(hd.kp hk).drew
 have hf1:=(hf.kp hk).drew
 have hS:W.cell? ⟨w.heap.size,0,none⟩=some (.bool d.neg)∧W.cell? ⟨w.heap.size,1,none⟩=some (.slice a (limbs d.m).length c)∧W.cell? ⟨w.heap.size,2,none⟩=some (.int .i64 d.e)∧W.cell? ⟨w.heap.size+1,0,none⟩=some (.bool f.neg)∧W.cell? ⟨w.heap.size+1,1,none⟩=some (.slice b (limbs f.m).length k)∧W.cell? ⟨w.heap.size+1,2,none⟩=some (.int .i64 f.e):=by rw[← hW];exact keep6 ((Kp.refl _).alloc _) (by simp)
 have hB:Box3 W (w.heap.size+2) (.bool false) (.slice none 0 0) (.int .i64 0):=hW▸Box3.new3 _ _ _ _ _ _ _
 clear hW
 have e4:IntKind.i64.wrap (d.e-min d.e f.e)=d.e-min d.e f.e:=IntWalk.i64_in _ (by omega)
 have e5:IntKind.i64.wrap (f.e-min d.e f.e)=f.e-min d.e f.e:=IntWalk.i64_in _ (by omega)
 have z3:0≤d.e-min d.e f.e:=by omega
 have z4:0≤f.e-min d.e f.e:=by omega
 have z5:d.e-min d.e f.e≤65536:=by omega
 have z6:f.e-min d.e f.e≤65536:=by omega
 generalize min d.e f.e=E at *
 go_region_held3 (fun w'=>w'.cell? ⟨w.heap.size,0,none⟩=some (.bool d.neg)∧w'.cell? ⟨w.heap.size,1,none⟩=some (.slice a (limbs d.m).length c)∧w'.cell? ⟨w.heap.size,2,none⟩=some (.int .i64 d.e)∧w'.cell? ⟨w.heap.size+1,0,none⟩=some (.bool f.neg)∧w'.cell? ⟨w.heap.size+1,1,none⟩=some (.slice b (limbs f.m).length k)∧w'.cell? ⟨w.heap.size+1,2,none⟩=some (.int .i64 f.e)) (first | assumption | exact keep6 (by assumption) (by assumption))
  (first
   | (go_at_call_of 211 (Value.slice a (limbs d.m).length c);refine (r2left_lim a d.m c _ _ hd1.2.1 (by omega) z3 z5).mono ?_;rintro e w5 ⟨a5,c5,rfl,l5,m5,r5,hk5⟩)
   | (go_at_call_of 211 (Value.slice b (limbs f.m).length k);refine (r2left_lim b f.m k _ _ (hf1.kp (by assumption)).2.1 (by omega) z4 z6).mono ?_;rintro e w6 ⟨a6,c6,rfl,l6,m6,r6,hk6⟩))
 have r5:=r5.kp hk6
 have hk7:=((hk.drew).trans hk5).trans hk6
 have hS6:=keep6 hk6 (keep6 hk5 (keep6 (Kp.refl W).drew hS))
 have hB6:=((hB.kp (Kp.refl W).drew).kp hk5).kp hk6
 generalize d.m*2 ^ (d.e-E).toNat=P at *
 generalize f.m*2 ^ (f.e-E).toNat=Q at *
 clear hS hB hd1 hf1 hk5 hk6 hk hd hf
 go_wp2_with fail
 have r5:=r5.kp (Kp.refl w6).drew
 have r6:=r6.kp (Kp.refl w6).drew
 have hS6:=keep6 (Kp.refl w6).drew hS6
 have hB6:=hB6.kp (Kp.refl w6).drew
 have hk7:=hk7.drew
 go_region_held3 (fun w'=>w'.cell? ⟨w.heap.size,0,none⟩=some (.bool d.neg)∧w'.cell? ⟨w.heap.size,1,none⟩=some (.slice a (limbs d.m).length c)∧w'.cell? ⟨w.heap.size,2,none⟩=some (.int .i64 d.e)∧w'.cell? ⟨w.heap.size+1,0,none⟩=some (.bool f.neg)∧w'.cell? ⟨w.heap.size+1,1,none⟩=some (.slice b (limbs f.m).length k)∧w'.cell? ⟨w.heap.size+1,2,none⟩=some (.int .i64 f.e)) (first | with_reducible assumption | with_reducible exact keep6 (by assumption) (by assumption) | with_reducible exact set6 (by omega) (by omega) (by assumption))
  (first
   | (go_at_call 213;refine (r2plus_lim a5 a6 P Q c5 c6 _ r5 r6 Hl1.out Hl2.out).mono ?_;rintro e w7 ⟨a7,c7,rfl,l7,m7,r7,k7⟩)
   | (go_at_call 212;refine (r2Of_lim d.neg a7 (P+Q) c7 E _ r7 l7 m7 Hv.out hE0 hE3).mono ?_;rw[← Hsum.out];rintro e w8 ⟨a8,c8,rfl,h2,h3,h4,k8⟩;obtain⟨q0,q1,q2,f0,f1,f2⟩:=(hB6.kp k7).kp k8))
 have hkk:=(hk7.trans k7).trans k8
 clear Hsum hS6 hB6
 generalize sumD d f=D at *
 have hst:=stored q0 q1 q2 nofun nofun nofun (.bool D.neg) (.slice a8 (limbs D.m).length c8) (.int .i64 D.e)
 go_wp2_with fail
 generalize (((w8.setCell _ _).setCell _ _).setCell _ _)=W2 at hst ⊢
 obtain⟨s0,s1,s2,_,s4,s5,_,_⟩:=hst
 refine bodyPost_ret (v:=.agg #[.bool D.neg,.slice a8 (limbs D.m).length c8,.int .i64 D.e]) (by simp[results,Tryz.results180,go_sem,s0,s1,s2]) rfl ?_
 exact⟨a8,c8,rfl,s4 _ _ h2,h3,h4,s5 _ hkk (by omega)⟩
set_option maxHeartbeats 4000000 in
theorem r2sum_ge (d f:Dy) (a b:Option Addr) (c k:Nat) (w:World) (hd:DyAt w d a c) (hf:DyAt w f b k) (hd0:d.m≠0) (hf0:f.m≠0) (hs:d.neg≠f.neg) (hle:f.m*2 ^ (f.e-min d.e f.e).toNat≤d.m*2 ^ (d.e-min d.e f.e).toNat) :
  Calls Tryz.prog 180 #[.agg #[.bool d.neg,.slice a (limbs d.m).length c,.int .i64 d.e],.agg #[.bool f.neg,.slice b (limbs f.m).length k,.int .i64 f.e]] w (DyOut w (sumD d f)):=by
 have hed:=ok_e hd.1
 have hef:=ok_e hf.1
 have z1:=len_ne hd0
 have z2:=len_ne hf0
 have hE1:min d.e f.e≤d.e:=Int.min_le_left _ _
 have hE2:min d.e f.e≤f.e:=Int.min_le_right _ _
 have hE0:-16384≤min d.e f.e:=by omega
 have hE3:min d.e f.e≤16384:=by omega
 obtain⟨hl1,hl2⟩:=wide_len hd.1 hf.1 hd0 hf0
 have Hl1:=hid (limbs_len_bits (n:=d.m*2 ^ (d.e-min d.e f.e).toNat) (k:=100000) (by omega))
 have Hl2:=hid (limbs_len_bits (n:=f.m*2 ^ (f.e-min d.e f.e).toNat) (k:=100000) (by omega))
 have ll1:=ok_len hd.1
 have ll2:=ok_len hf.1
 have Hsum:=hid (sum_diff hE0 hE1 hE2 hs hle)
 have Hv:=hid (limbs_len_bits (n:=d.m*2 ^ (d.e-min d.e f.e).toNat-f.m*2 ^ (f.e-min d.e f.e).toNat) (k:=100000) (Nat.le_trans (bits_mono (Nat.sub_le _ _)) (by omega)))
 have hq:(d.neg==f.neg)=false:=beq_eq_false_iff_ne.2 hs
 have Hz:=hid (cmpL_lim.1 hle)
 have Hle:=hid hle
 clear hs hle
 clear hl1 hl2
 go_enter Tryz.func180,Tryz.ntmps180
 go_wp2_with fail
 generalize hW:(((w.alloc _).alloc _).alloc _)=W at *
 have hk:Kp w W:=hW▸(((Kp.refl w).alloc _).alloc _).alloc _
 have hd1:=(hd.kp hk).drew
 have hf1:=(hf.kp hk).drew
 have hS:W.cell? ⟨w.heap.size,0,none⟩=some (.bool d.neg)∧W.cell? ⟨w.heap.size,1,none⟩=some (.slice a (limbs d.m).length c)∧W.cell? ⟨w.heap.size,2,none⟩=some (.int .i64 d.e)∧W.cell? ⟨w.heap.size+1,0,none⟩=some (.bool f.neg)∧W.cell? ⟨w.heap.size+1,1,none⟩=some (.slice b (limbs f.m).length k)∧W.cell? ⟨w.heap.size+1,2,none⟩=some (.int .i64 f.e):=by rw[← hW];exact keep6 ((Kp.refl _).alloc _) (by simp)
 have hB:Box3 W (w.heap.size+2) (.bool false) (.slice none 0 0) (.int .i64 0):=hW▸Box3.new3 _ _ _ _ _ _ _
 clear hW
 have e4:IntKind.i64.wrap (d.e-min d.e f.e)=d.e-min d.e f.e:=IntWalk.i64_in _ (by omega)
 have e5:IntKind.i64.wrap (f.e-min d.e f.e)=f.e-min d.e f.e:=IntWalk.i64_in _ (by omega)
 have z3:0≤d.e-min d.e f.e:=by omega
 have z4:0≤f.e-min d.e f.e:=by omega
 have z5:d.e-min d.e f.e≤65536:=by omega
 have z6:f.e-min d.e f.e≤65536:=by omega
 generalize min d.e f.e=E at *
 go_region_held3 (fun w'=>w'.cell? ⟨w.heap.size,0,none⟩=some (.bool d.neg)∧w'.cell? ⟨w.heap.size,1,none⟩=some (.slice a (limbs d.m).length c)∧w'.cell? ⟨w.heap.size,2,none⟩=some (.int .i64 d.e)∧w'.cell? ⟨w.heap.size+1,0,none⟩=some (.bool f.neg)∧w'.cell? ⟨w.heap.size+1,1,none⟩=some (.slice b (limbs f.m).length k)∧w'.cell? ⟨w.heap.size+1,2,none⟩=some (.int .i64 f.e)) (first | assumption | exact keep6 (by assumption) (by assumption))
  (first
   | (go_at_call_of 211 (Value.slice a (limbs d.m).length c);refine (r2left_lim a d.m c _ _ hd1.2.1 (by omega) z3 z5).mono ?_;rintro e w5 ⟨a5,c5,rfl,l5,m5,r5,hk5⟩)
   | (go_at_call_of 211 (Value.slice b (limbs f.m).length k);refine (r2left_lim b f.m k _ _ (hf1.kp (by assumption)).2.1 (by omega) z4 z6).mono ?_;rintro e w6 ⟨a6,c6,rfl,l6,m6,r6,hk6⟩))
 have r5:=r5.kp hk6
 have hk7:=((hk.drew).trans hk5).trans hk6
 have hS6:=keep6 hk6 (keep6 hk5 (keep6 (Kp.refl W).drew hS))
 have hB6:=((hB.kp (Kp.refl W).drew).kp hk5).kp hk6
 generalize d.m*2 ^ (d.e-E).toNat=P at *
 generalize f.m*2 ^ (f.e-E).toNat=Q at *
 clear hS hB hd1 hf1 hk5 hk6 hk hd hf
 have HCm:=hid (r2compare_any a5 a6 (limbs P) (limbs Q) c5 c6 w6 r5 r6 (by have:=Hl1.out;omega) (by have:=Hl2.out;omega))
 have hz:=Hz.out
 clear Hz
 go_wp2_with fail
 refine HCm.out.mono ?_
 rintro e wc ⟨rfl,j1⟩
 clear HCm
 generalize cmpL (limbs P) (limbs Q)=z at *
 have r5:=r5.kp j1
 have r6:=r6.kp j1
 have hS6:=keep6 j1 hS6
 have hB6:=hB6.kp j1
 have hk7:=hk7.trans j1
 clear j1
 go_wp2_with fail
 have r5:=r5.kp (Kp.refl wc).drew
 have r6:=r6.kp (Kp.refl wc).drew
 have hS6:=keep6 (Kp.refl wc).drew hS6
 have hB6:=hB6.kp (Kp.refl wc).drew
 have hk7:=hk7.drew
 go_region_held3 (fun w'=>w'.cell? ⟨w.heap.size,0,none⟩=some (.bool d.neg)∧w'.cell? ⟨w.heap.size,1,none⟩=some (.slice a (limbs d.m).length c)∧w'.cell? ⟨w.heap.size,2,none⟩=some (.int .i64 d.e)∧w'.cell? ⟨w.heap.size+1,0,none⟩=some (.bool f.neg)∧w'.cell? ⟨w.heap.size+1,1,none⟩=some (.slice b (limbs f.m).length k)∧w'.cell? ⟨w.heap.size+1,2,none⟩=some (.int .i64 f.e)) (first | with_reducible assumption | with_reducible exact keep6 (by assumption) (by assumption) | with_reducible exact set6 (by omega) (by omega) (by assumption))
  (first
   | (go_at_call 215;refine (r2minus_lim a5 a6 P Q c5 c6 _ r5 r6 Hl1.out Hle.out).mono ?_;rintro e w7 ⟨a7,c7,rfl,l7,m7,r7,k7⟩)
   | (go_at_call 212;refine (r2Of_lim d.neg a7 (P-Q) c7 E _ r7 l7 m7 Hv.out hE0 hE3).mono ?_;rw[← Hsum.out];rintro e w8 ⟨a8,c8,rfl,h2,h3,h4,k8⟩;obtain⟨q0,q1,q2,f0,f1,f2⟩:=(hB6.kp k7).kp k8))
 have hkk:=(hk7.trans k7).trans k8
 clear Hsum hS6 hB6
 generalize sumD d f=D at *
 have hst:=stored q0 q1 q2 nofun nofun nofun (.bool D.neg) (.slice a8 (limbs D.m).length c8) (.int .i64 D.e)
 go_wp2_with fail
 generalize (((w8.setCell _ _).setCell _ _).setCell _ _)=W2 at hst ⊢
 obtain⟨s0,s1,s2,_,s4,s5,_,_⟩:=hst
 refine bodyPost_ret (v:=.agg #[.bool D.neg,.slice a8 (limbs D.m).length c8,.int .i64 D.e]) (by simp[results,Tryz.results180,go_sem,s0,s1,s2]) rfl ?_
 exact⟨a8,c8,rfl,s4 _ _ h2,h3,h4,s5 _ hkk (by omega)⟩
set_option maxHeartbeats 4000000 in
theorem r2sum_lt (d f:Dy) (a b:Option Addr) (c k:Nat) (w:World) (hd:DyAt w d a c) (hf:DyAt w f b k) (hd0:d.m≠0) (hf0:f.m≠0) (hs:d.neg≠f.neg) (hlt:d.m*2 ^ (d.e-min d.e f.e).toNat<f.m*2 ^ (f.e-min d.e f.e).toNat) :
  Calls Tryz.prog 180 #[.agg #[.bool d.neg,.slice a (limbs d.m).length c,.int .i64 d.e],.agg #[.bool f.neg,.slice b (limbs f.m).length k,.int .i64 f.e]] w (DyOut w (sumD d f)):=by
 have hed:=ok_e hd.1
 have hef:=ok_e hf.1
 have z1:=len_ne hd0
 have z2:=len_ne hf0
 have hE1:min d.e f.e≤d.e:=Int.min_le_left _ _
 have hE2:min d.e f.e≤f.e:=Int.min_le_right _ _
 have hE0:-16384≤min d.e f.e:=by omega
 have hE3:min d.e f.e≤16384:=by omega
 obtain⟨hl1,hl2⟩:=wide_len hd.1 hf.1 hd0 hf0
 have Hl1:=hid (limbs_len_bits (n:=d.m*2 ^ (d.e-min d.e f.e).toNat) (k:=100000) (by omega))
 have Hl2:=hid (limbs_len_bits (n:=f.m*2 ^ (f.e-min d.e f.e).toNat) (k:=100000) (by omega))
 have ll1:=ok_len hd.1
 have ll2:=ok_len hf.1
 have Hsum:=hid ((sumD_comm d f).trans (sum_diff hE0 hE2 hE1 (Ne.symm hs) (Nat.le_of_lt hlt)))
 have Hv:=hid (limbs_len_bits (n:=f.m*2 ^ (f.e-min d.e f.e).toNat-d.m*2 ^ (d.e-min d.e f.e).toNat) (k:=100000) (Nat.le_trans (bits_mono (Nat.sub_le _ _)) (by omega)))
 have hq:(d.neg==f.neg)=false:=beq_eq_false_iff_ne.2 hs
 have Hz:=hid (cmpL_lim.2 hlt)
 have Hle:=hid (Nat.le_of_lt hlt)
 clear hs hlt
 clear hl1 hl2
 go_enter Tryz.func180,Tryz.ntmps180
 go_wp2_with fail
 generalize hW:(((w.alloc _).alloc _).alloc _)=W at *
 have hk:Kp w W:=hW▸(((Kp.refl w).alloc _).alloc _).alloc _
 have hd1:=(hd.kp hk).drew
 have hf1:=(hf.kp hk).drew
 have hS:W.cell? ⟨w.heap.size,0,none⟩=some (.bool d.neg)∧W.cell? ⟨w.heap.size,1,none⟩=some (.slice a (limbs d.m).length c)∧W.cell? ⟨w.heap.size,2,none⟩=some (.int .i64 d.e)∧W.cell? ⟨w.heap.size+1,0,none⟩=some (.bool f.neg)∧W.cell? ⟨w.heap.size+1,1,none⟩=some (.slice b (limbs f.m).length k)∧W.cell? ⟨w.heap.size+1,2,none⟩=some (.int .i64 f.e):=by rw[← hW];exact keep6 ((Kp.refl _).alloc _) (by simp)
 have hB:Box3 W (w.heap.size+2) (.bool false) (.slice none 0 0) (.int .i64 0):=hW▸Box3.new3 _ _ _ _ _ _ _
 clear hW
 have e4:IntKind.i64.wrap (d.e-min d.e f.e)=d.e-min d.e f.e:=IntWalk.i64_in _ (by omega)
 have e5:IntKind.i64.wrap (f.e-min d.e f.e)=f.e-min d.e f.e:=IntWalk.i64_in _ (by omega)
 have z3:0≤d.e-min d.e f.e:=by omega
 have z4:0≤f.e-min d.e f.e:=by omega
 have z5:d.e-min d.e f.e≤65536:=by omega
 have z6:f.e-min d.e f.e≤65536:=by omega
 generalize min d.e f.e=E at *
 go_region_held3 (fun w'=>w'.cell? ⟨w.heap.size,0,none⟩=some (.bool d.neg)∧w'.cell? ⟨w.heap.size,1,none⟩=some (.slice a (limbs d.m).length c)∧w'.cell? ⟨w.heap.size,2,none⟩=some (.int .i64 d.e)∧w'.cell? ⟨w.heap.size+1,0,none⟩=some (.bool f.neg)∧w'.cell? ⟨w.heap.size+1,1,none⟩=some (.slice b (limbs f.m).length k)∧w'.cell? ⟨w.heap.size+1,2,none⟩=some (.int .i64 f.e)) (first | assumption | exact keep6 (by assumption) (by assumption))
  (first
   | (go_at_call_of 211 (Value.slice a (limbs d.m).length c);refine (r2left_lim a d.m c _ _ hd1.2.1 (by omega) z3 z5).mono ?_;rintro e w5 ⟨a5,c5,rfl,l5,m5,r5,hk5⟩)
   | (go_at_call_of 211 (Value.slice b (limbs f.m).length k);refine (r2left_lim b f.m k _ _ (hf1.kp (by assumption)).2.1 (by omega) z4 z6).mono ?_;rintro e w6 ⟨a6,c6,rfl,l6,m6,r6,hk6⟩))
 have r5:=r5.kp hk6
 have hk7:=((hk.drew).trans hk5).trans hk6
 have hS6:=keep6 hk6 (keep6 hk5 (keep6 (Kp.refl W).drew hS))
 have hB6:=((hB.kp (Kp.refl W).drew).kp hk5).kp hk6
 generalize d.m*2 ^ (d.e-E).toNat=P at *
 generalize f.m*2 ^ (f.e-E).toNat=Q at *
 clear hS hB hd1 hf1 hk5 hk6 hk hd hf
 have HCm:=hid (r2compare_any a5 a6 (limbs P) (limbs Q) c5 c6 w6 r5 r6 (by have:=Hl1.out;omega) (by have:=Hl2.out;omega))
 have hz:=Hz.out
 clear Hz
 go_wp2_with fail
 refine HCm.out.mono ?_
 rintro e wc ⟨rfl,j1⟩
 clear HCm
 generalize cmpL (limbs P) (limbs Q)=z at *
 have r5:=r5.kp j1
 have r6:=r6.kp j1
 have hS6:=keep6 j1 hS6
 have hB6:=hB6.kp j1
 have hk7:=hk7.trans j1
 clear j1
 go_wp2_with fail
 have r5:=r5.kp (Kp.refl wc).drew
 have r6:=r6.kp (Kp.refl wc).drew
 have hS6:=keep6 (Kp.refl wc).drew hS6
 have hB6:=hB6.kp (Kp.refl wc).drew
 have hk7:=hk7.drew
 go_region_held3 (fun w'=>w'.cell? ⟨w.heap.size,0,none⟩=some (.bool d.neg)∧w'.cell? ⟨w.heap.size,1,none⟩=some (.slice a (limbs d.m).length c)∧w'.cell? ⟨w.heap.size,2,none⟩=some (.int .i64 d.e)∧w'.cell? ⟨w.heap.size+1,0,none⟩=some (.bool f.neg)∧w'.cell? ⟨w.heap.size+1,1,none⟩=some (.slice b (limbs f.m).length k)∧w'.cell? ⟨w.heap.size+1,2,none⟩=some (.int .i64 f.e)) (first | with_reducible assumption | with_reducible exact keep6 (by assumption) (by assumption) | with_reducible exact set6 (by omega) (by omega) (by assumption))
  (first
   | (go_at_call 215;refine (r2minus_lim a6 a5 Q P c6 c5 _ r6 r5 Hl2.out Hle.out).mono ?_;rintro e w7 ⟨a7,c7,rfl,l7,m7,r7,k7⟩)
   | (go_at_call 212;refine (r2Of_lim f.neg a7 (Q-P) c7 E _ r7 l7 m7 Hv.out hE0 hE3).mono ?_;rw[← Hsum.out];rintro e w8 ⟨a8,c8,rfl,h2,h3,h4,k8⟩;obtain⟨q0,q1,q2,f0,f1,f2⟩:=(hB6.kp k7).kp k8))
 have hkk:=(hk7.trans k7).trans k8
 clear Hsum hS6 hB6
 generalize sumD d f=D at *
 have hst:=stored q0 q1 q2 nofun nofun nofun (.bool D.neg) (.slice a8 (limbs D.m).length c8) (.int .i64 D.e)
 go_wp2_with fail
 generalize (((w8.setCell _ _).setCell _ _).setCell _ _)=W2 at hst ⊢
 obtain⟨s0,s1,s2,_,s4,s5,_,_⟩:=hst
 refine bodyPost_ret (v:=.agg #[.bool D.neg,.slice a8 (limbs D.m).length c8,.int .i64 D.e]) (by simp[results,Tryz.results180,go_sem,s0,s1,s2]) rfl ?_
 exact⟨a8,c8,rfl,s4 _ _ h2,h3,h4,s5 _ hkk (by omega)⟩
set_option maxHeartbeats 1000000 in
theorem r2sum_z1 (d f:Dy) (a b:Option Addr) (c k:Nat) (w:World) (hd:DyAt w d a c) (hf:DyAt w f b k) (hd0:d.m=0) :
  Calls Tryz.prog 180 #[.agg #[.bool d.neg,.slice a (limbs d.m).length c,.int .i64 d.e],.agg #[.bool f.neg,.slice b (limbs f.m).length k,.int .i64 f.e]] w (DyOut w (sumD d f)):=by
 have Hs:=hid (show sumD d f=f by rw[d.eq_zero hd.1 hd0,sumD_zero hf.1])
 have z1:=len_is0 hd0
 clear hd0
 go_enter Tryz.func180,Tryz.ntmps180
 go_wp2_with fail
 generalize hW:(((w.alloc _).alloc _).alloc _)=W at *
 have hk:Kp w W:=hW▸(((Kp.refl w).alloc _).alloc _).alloc _
 obtain⟨q0,q1,q2,f0,f1,f2⟩:Box3 W (w.heap.size+2) (.bool f.neg) (.slice b (limbs f.m).length k) (.int .i64 f.e):=hW▸Box3.new3 _ _ _ _ _ _ _
 clear hW
 refine bodyPost_ret (v:=.agg #[.bool f.neg,.slice b (limbs f.m).length k,.int .i64 f.e]) (by simp[results,Tryz.results180,go_sem,q0,q1,q2]) rfl ?_
 rw[Hs.out]
 exact⟨b,k,rfl,hf.2.1.kp hk,hf.2.2.1,hf.2.2.2,hk⟩
set_option maxHeartbeats 1000000 in
theorem r2sum_z2 (d f:Dy) (a b:Option Addr) (c k:Nat) (w:World) (hd:DyAt w d a c) (hf:DyAt w f b k) (hd0:d.m≠0) (hf0:f.m=0) :
  Calls Tryz.prog 180 #[.agg #[.bool d.neg,.slice a (limbs d.m).length c,.int .i64 d.e],.agg #[.bool f.neg,.slice b (limbs f.m).length k,.int .i64 f.e]] w (DyOut w (sumD d f)):=by
 have Hs:=hid (show sumD d f=d by rw[f.eq_zero hf.1 hf0,sumD_zero' hd.1])
 have z1:=len_ne hd0
 have z2:=len_is0 hf0
 clear hd0 hf0
 go_enter Tryz.func180,Tryz.ntmps180
 go_wp2_with fail
 generalize hW:(((w.alloc _).alloc _).alloc _)=W at *
 have hk:Kp w W:=hW▸(((Kp.refl w).alloc _).alloc _).alloc _
 obtain⟨q0,q1,q2,f0,f1,f2⟩:Box3 W (w.heap.size+2) (.bool d.neg) (.slice a (limbs d.m).length c) (.int .i64 d.e):=hW▸Box3.new3 _ _ _ _ _ _ _
 clear hW
 refine bodyPost_ret (v:=.agg #[.bool d.neg,.slice a (limbs d.m).length c,.int .i64 d.e]) (by simp[results,Tryz.results180,go_sem,q0,q1,q2]) rfl ?_
 rw[Hs.out]
 exact⟨a,c,rfl,hd.2.1.kp hk,hd.2.2.1,hd.2.2.2,hk⟩
theorem r2sum_ok (d f:Dy) (a b:Option Addr) (c k:Nat) (w:World) (hd:DyAt w d a c) (hf:DyAt w f b k) :
  Calls Tryz.prog 180 #[.agg #[.bool d.neg,.slice a (limbs d.m).length c,.int .i64 d.e],.agg #[.bool f.neg,.slice b (limbs f.m).length k,.int .i64 f.e]] w (DyOut w (sumD d f)):=by
 by_cases hd0:d.m=0
 ·exact r2sum_z1 d f a b c k w hd hf hd0
 by_cases hf0:f.m=0
 ·exact r2sum_z2 d f a b c k w hd hf hd0 hf0
 by_cases hs:d.neg=f.neg
 ·exact r2sum_same d f a b c k w hd hf hd0 hf0 hs
 rcases Nat.lt_or_ge (d.m*2 ^ (d.e-min d.e f.e).toNat) (f.m*2 ^ (f.e-min d.e f.e).toNat) with h | h
 ·exact r2sum_lt d f a b c k w hd hf hd0 hf0 hs h
 exact r2sum_ge d f a b c k w hd hf hd0 hf0 hs h
set_option maxHeartbeats 2000000 in
theorem r2sign_dy (d:Dy) (a:Option Addr) (c:Nat) (w:World) :
  Calls Tryz.prog 178 #[.agg #[.bool d.neg,.slice a (limbs d.m).length c,.int .i64 d.e]] w fun e w'=>e=.returned (.int .i64 (sgn d))∧Kp w w':=by
 by_cases h0:d.m=0
 ·have H:=hid (show sgn d=0 by unfold sgn;rw[if_pos h0])
  have hl:(limbs d.m).length=0:=by rw[h0,limbs_zero];rfl
  have hz:(((limbs d.m).length:Int)==0)=true:=beq_iff_eq.2 (by omega)
  clear h0 hl
  go_enter Tryz.func178,Tryz.ntmps178
  go_wp2_with fail
  go_ret
  exact⟨ret_int H.out.symm,(Kp.refl w).alloc _⟩
 have hl:(limbs d.m).length≠0:=fun h=>h0 (limbs_eq_nil.1 (List.length_eq_zero_iff.1 h))
 have hz:(((limbs d.m).length:Int)==0)=false:=beq_eq_false_iff_ne.2 (by omega)
 cases hn:d.neg with
 | false =>
  have H:=hid (show sgn d=1 by unfold sgn;rw[if_neg h0,hn];rfl)
  clear h0 hl hn
  go_enter Tryz.func178,Tryz.ntmps178
  go_wp2_with fail
  go_ret
  exact⟨ret_int H.out.symm,(Kp.refl w).alloc _⟩
 | true =>
 have H:=hid (show sgn d=-1 by unfold sgn;rw[if_neg h0,hn];rfl)
 clear h0 hl hn
 go_enter Tryz.func178,Tryz.ntmps178
 go_wp2_with fail
 go_ret
 exact⟨ret_int H.out.symm,(Kp.refl w).alloc _⟩
theorem r2sign_rok (x:RD) (w:World) (h:x.ok w) :
  Calls Tryz.prog 178 #[.agg #[.bool x.neg,.slice x.a x.xs.length x.c,.int .i64 x.e]] w fun e w'=>e=.returned (.int .i64 (sgn x.dy))∧Kp w w':=by
 have H:=r2sign_dy x.dy x.a x.c w
 rw[rdok_limbs h] at H
 exact H
set_option maxHeartbeats 2000000 in
theorem r2top_rok (x:RD) (w:World) (h:x.ok w) (h0:x.dy.m≠0) :
  Calls Tryz.prog 179 #[.agg #[.bool x.neg,.slice x.a x.xs.length x.c,.int .i64 x.e]] w fun e w'=>e=.returned (.int .i64 (topI x.dy))∧Kp w w':=by
 have hl:x.xs.length≠0:=fun k=>h0 ((rdok_zero h).1 k)
 have hz:((x.xs.length:Int)==0)=false:=beq_eq_false_iff_ne.2 (by omega)
 have he:=rdok_e h
 have hb:bits x.dy.m≤4096:=by
  rcases rdok_dy h with k | k
  ·exact absurd k.1 h0
  ·exact k.2.1
 have k1:=(Kp.refl w).alloc (.cells #[.bool x.neg,.slice x.a x.xs.length x.c,.int .i64 x.e] 38)
 have hr:=(h.1.1.kp k1).kp (Kp.refl _).drew
 have hlen:=rdok_len h
 have hlim:=rdok_limbs h
 have HB:=hid (fun W (k:Rd W x.a x.xs)=>by
  have q:=r2bits_any x.a x.dy.m x.c W (by rw[hlim];exact k) (by rw[hlim];omega)
  rw[hlim] at q
  exact q)
 have Hm:=hid h0
 clear h0 hl hlim h
 have HI:=hid (show topI x.dy=(bits x.dy.m:Int)+x.e by unfold topI;rw[if_neg Hm.out];rfl)
 rw[HI.out]
 generalize hD:x.dy.m=D at *
 clear hD
 go_enter Tryz.func179,Tryz.ntmps179
 go_upto_region 3 with fail
 generalize hW:(w.alloc (.cells #[.bool x.neg,.slice x.a x.xs.length x.c,.int .i64 x.e] 38))=W at *
 have hS:W.cell? ⟨w.heap.size,0,none⟩=some (.bool x.neg)∧W.cell? ⟨w.heap.size,1,none⟩=some (.slice x.a x.xs.length x.c)∧W.cell? ⟨w.heap.size,2,none⟩=some (.int .i64 x.e):=by rw[← hW];simp
 clear hW
 have hSd:=keep3 (Kp.refl W).drew hS
 clear hS
 go_region_held3 (fun w'=>w'.cell? ⟨w.heap.size,0,none⟩=some (.bool x.neg)∧w'.cell? ⟨w.heap.size,1,none⟩=some (.slice x.a x.xs.length x.c)∧w'.cell? ⟨w.heap.size,2,none⟩=some (.int .i64 x.e)) (first | with_reducible assumption | with_reducible exact keep3 (by assumption) (by assumption))
  (first
   | (go_at_call 116;go_fit (HB.out _ hr);rintro e w4 ⟨rfl,rfl⟩)
   | fail)
 go_wp2_with fail
 go_ret
 exact⟨ret_int (IntWalk.i64_in _ (by omega)),k1.trans (Kp.refl W).drew⟩
theorem r2sumDy (x y:RD) (w:World) (hx:x.ok w) (hy:y.ok w) :
  Calls Tryz.prog 180 #[.agg #[.bool x.neg,.slice x.a x.xs.length x.c,.int .i64 x.e],.agg #[.bool y.neg,.slice y.a y.xs.length y.c,.int .i64 y.e]] w (DyOut w (sumD x.dy y.dy)):=by
 have H:=r2sum_ok x.dy y.dy x.a y.a x.c y.c w (rdok_at hx) (rdok_at hy)
 rw[rdok_limbs hx,rdok_limbs hy] at H
 exact H
theorem topI_lt {d f:Dy} (hd:d.ok) (hf:f.ok) (hd0:d.m≠0) (hf0:f.m≠0) (h:topI d<topI f):d.av<f.av:=by
 have e1:=(ok_e hd).1
 have e2:=(ok_e hf).1
 have b1:bits d.av=bits d.m+(d.e+16384).toNat:=bits_mul_pow hd0
 have b2:bits f.av=bits f.m+(f.e+16384).toNat:=bits_mul_pow hf0
 unfold topI at h
 rw[if_neg hd0,if_neg hf0] at h
 apply Classical.byContradiction
 intro hc
 have:=bits_mono (show f.av≤d.av by omega)
 omega
theorem cmp_tops {d f:Dy} (hd:d.ok) (hf:f.ok) (hs:sgn d=sgn f) (h0:sgn d≠0) (ht:topI d≠topI f):cmpZ d.iv f.iv=if (decide (topI d<topI f)==decide (0<sgn d))=true then -1 else 1:=by
 have hd0:d.m≠0:=fun h=>h0 (by unfold sgn;rw[if_pos h])
 have hf0:f.m≠0:=fun h=>h0 (by rw[hs];unfold sgn;rw[if_pos h])
 rw[cmp_sgn_eq hs h0]
 rcases sgn_range d with h1 | h1 | h1
 ·rw[h1]
  rcases Int.lt_or_gt_of_ne ht with h2 | h2
  ·rw[cmpN_lt (topI_lt hd hf hd0 hf0 h2),decide_eq_true h2];rfl
  rw[cmpN_gt (topI_lt hf hd hf0 hd0 h2),decide_eq_false (by omega)];rfl
 ·exact absurd h1 h0
 rw[h1]
 rcases Int.lt_or_gt_of_ne ht with h2 | h2
 ·rw[cmpN_lt (topI_lt hd hf hd0 hf0 h2),decide_eq_true h2];rfl
 rw[cmpN_gt (topI_lt hf hd hf0 hd0 h2),decide_eq_false (by omega)];rfl
theorem sgn_diff (d f:Dy):sgn (sumD d f.opp)=cmpZ d.iv f.iv:=by
 have h1:=sgn_iv (sumD d f.opp)
 have h2:=sgn_range (sumD d f.opp)
 rw[sumD_iv,Dy.opp_iv] at h1
 have e1:=@cmpZ_lt d.iv f.iv
 have e2:=@cmpZ_gt d.iv f.iv
 have e3:=@cmpZ_eq d.iv f.iv
 have e4:=cmpZ_bound d.iv f.iv
 omega
theorem Dy.opp_ok' {d:Dy} (h:d.ok):d.opp.ok:=by
 unfold Dy.opp
 split
 ·exact Dy.ok_zero
 next h0 =>
 rcases h with h | h
 ·exact absurd h.1 h0
 exact .inr h
set_option maxRecDepth 100000 in
set_option maxHeartbeats 8000000 in
theorem r2cmp_rok (x y:RD) (w:World) (hx:x.ok w) (hy:y.ok w) :
   Calls Tryz.prog 118 #[.agg #[.bool x.neg,.slice x.a x.xs.length x.c,.int .i64 x.e],.agg #[.bool y.neg,.slice y.a y.xs.length y.c,.int .i64 y.e]] w fun e w'=>e=.returned (.int .i64 (cmpZ x.iv y.iv))∧Kp w w':=by
 have hs1:=sgn_range x.dy
 have hs2:=sgn_range y.dy
 go_enter Tryz.func118,Tryz.ntmps118
 go_wp2_with fail
 generalize hW:((w.alloc _).alloc _)=W at *
 have hk:Kp w W:=hW▸((Kp.refl w).alloc _).alloc _
 have hS:W.cell? ⟨w.heap.size,0,none⟩=some (.bool x.neg)∧W.cell? ⟨w.heap.size,1,none⟩=some (.slice x.a x.xs.length x.c)∧W.cell? ⟨w.heap.size,2,none⟩=some (.int .i64 x.e)∧W.cell? ⟨w.heap.size+1,0,none⟩=some (.bool y.neg)∧W.cell? ⟨w.heap.size+1,1,none⟩=some (.slice y.a y.xs.length y.c)∧W.cell? ⟨w.heap.size+1,2,none⟩=some (.int .i64 y.e):=by rw[← hW];exact keep6 (Kp.refl _) (by simp)
 clear hW
 have kd:=(Kp.refl W).drew
 have hSd:=keepRR kd hS
 have hkd:=hk.trans kd
 have Ox:=hid ((hx.kp hk).kp kd)
 have Oy:=hid ((hy.kp hk).kp kd)
 clear hS hk
 go_region_held3 (fun w'=>w'.cell? ⟨w.heap.size,0,none⟩=some (.bool x.neg)∧w'.cell? ⟨w.heap.size,1,none⟩=some (.slice x.a x.xs.length x.c)∧w'.cell? ⟨w.heap.size,2,none⟩=some (.int .i64 x.e)∧w'.cell? ⟨w.heap.size+1,0,none⟩=some (.bool y.neg)∧w'.cell? ⟨w.heap.size+1,1,none⟩=some (.slice y.a y.xs.length y.c)∧w'.cell? ⟨w.heap.size+1,2,none⟩=some (.int .i64 y.e)) (first | with_reducible assumption | with_reducible exact keepRR (by assumption) (by assumption))
   (first
     | (go_at_call 178;go_fit (r2sign_rok x _ Ox.out);rintro e w4 ⟨rfl,hk4⟩)
     | (go_at_call 178;go_fit (r2sign_rok y _ (Oy.out.kp hk4));rintro e w5 ⟨rfl,hk5⟩)
     | fail)
 have hk6:=(hkd.trans hk4).trans hk5
 have hS6:=keepRR hk5 (keepRR hk4 hSd)
 have Ox6:=hid ((Ox.out.kp hk4).kp hk5)
 have Oy6:=hid ((Oy.out.kp hk4).kp hk5)
 clear hSd Ox Oy hk4 hk5 hkd kd
 rcases Int.lt_trichotomy (sgn x.dy) (sgn y.dy) with ht | ht | ht
 · have H:=hid (show cmpZ x.iv y.iv=-1 from cmp_sgn_lt ht)
   have b1:(sgn x.dy==sgn y.dy)=false:=beq_eq_false_iff_ne.2 (by omega)
   have b2:(sgn x.dy != sgn y.dy)=true:=by rw[bne,b1];rfl
   clear hS6
   go_wp2_with fail
   go_ret
   exact⟨ret_int H.out.symm,hk6⟩
 · by_cases h0:sgn x.dy=0
   · have H:=hid (show cmpZ x.iv y.iv=0 from cmp_sgn_zero ht h0)
     have b1:(sgn x.dy==sgn y.dy)=true:=beq_iff_eq.2 ht
     have b2:(sgn x.dy != sgn y.dy)=false:=by rw[bne,b1];rfl
     have b3:(sgn x.dy==0)=true:=beq_iff_eq.2 h0
     clear ht h0 hS6
     go_wp2_with fail
     go_ret
     exact⟨ret_int H.out.symm,hk6⟩
   have hm:x.dy.m≠0:=fun h1=>h0 (by unfold sgn;rw[if_pos h1])
   have hg:y.dy.m≠0:=fun h1=>h0 (by rw[ht];unfold sgn;rw[if_pos h1])
   have b1:(sgn x.dy==sgn y.dy)=true:=beq_iff_eq.2 ht
   have b2:(sgn x.dy != sgn y.dy)=false:=by rw[bne,b1];rfl
   have b3:(sgn x.dy==0)=false:=beq_eq_false_iff_ne.2 h0
   have HT:=hid (fun h=>cmp_tops (rdok_dy Ox6.out) (rdok_dy Oy6.out) ht h0 h)
   clear ht h0
   have kd:=(Kp.refl w5).drew
   have hSd:=keepRR kd hS6
   have hkd:=hk6.trans kd
   have Ox7:=hid (Ox6.out.kp kd)
   have Oy7:=hid (Oy6.out.kp kd)
   clear hS6 hk6 Ox6 Oy6 kd
   go_wp2_with fail
   go_region_held3 (fun w'=>w'.cell? ⟨w.heap.size,0,none⟩=some (.bool x.neg)∧w'.cell? ⟨w.heap.size,1,none⟩=some (.slice x.a x.xs.length x.c)∧w'.cell? ⟨w.heap.size,2,none⟩=some (.int .i64 x.e)∧w'.cell? ⟨w.heap.size+1,0,none⟩=some (.bool y.neg)∧w'.cell? ⟨w.heap.size+1,1,none⟩=some (.slice y.a y.xs.length y.c)∧w'.cell? ⟨w.heap.size+1,2,none⟩=some (.int .i64 y.e)) (first | with_reducible assumption | with_reducible exact keepRR (by assumption) (by assumption))
     (first
       | (go_at_call 179;go_fit (r2top_rok x _ Ox7.out hm);rintro e wa ⟨rfl,ja⟩)
       | (go_at_call 179;go_fit (r2top_rok y _ (Oy7.out.kp ja) hg);rintro e wb ⟨rfl,jb⟩)
       | fail)
   have hk8:=(hkd.trans ja).trans jb
   have hS8:=keepRR jb (keepRR ja hSd)
   have Ox8:=hid ((Ox7.out.kp ja).kp jb)
   have Oy8:=hid ((Oy7.out.kp ja).kp jb)
   clear hSd hkd Ox7 Oy7 ja jb
   by_cases htt:topI x.dy=topI y.dy
   · have c1:(topI x.dy==topI y.dy)=true:=beq_iff_eq.2 htt
     have c2:(topI x.dy != topI y.dy)=false:=by rw[bne,c1];rfl
     clear htt HT hm hg
     have kd:=(Kp.refl wb).drew
     have hSd:=keepRR kd hS8
     have hkd:=hk8.trans kd
     have Ox9:=hid (Ox8.out.kp kd)
     have Oy9:=hid (Oy8.out.kp kd)
     have HS:=hid (sgn_diff x.dy y.dy)
     clear hS8 hk8 Ox8 Oy8 kd
     go_wp2_with fail
     go_region_held3 (fun w'=>w'.cell? ⟨w.heap.size,0,none⟩=some (.bool x.neg)∧w'.cell? ⟨w.heap.size,1,none⟩=some (.slice x.a x.xs.length x.c)∧w'.cell? ⟨w.heap.size,2,none⟩=some (.int .i64 x.e)∧w'.cell? ⟨w.heap.size+1,0,none⟩=some (.bool y.neg)∧w'.cell? ⟨w.heap.size+1,1,none⟩=some (.slice y.a y.xs.length y.c)∧w'.cell? ⟨w.heap.size+1,2,none⟩=some (.int .i64 y.e)) (first | with_reducible assumption | with_reducible exact keepRR (by assumption) (by assumption))
       (first
         | (go_at_call 181; go_fit (r2Neg_ok y _ Oy9.out); rintro e wd ⟨n, rfl, rn, dn, vn, ja⟩
            have On:=hid (show n.ok wd from ⟨rn,vn (Dy.opp_ok' (rdok_dy Oy9.out))⟩)
            have DN:=hid dn
            clear rn dn vn)
         | (go_at_call 180;go_fit (r2sumDy x n _ (Ox9.out.kp ja) On.out);rintro e we ⟨a9,c9,rfl,_,_,_,jb⟩)
         | (go_at_call 178;go_fit (r2sign_dy (sumD x.dy n.dy) a9 c9 _);rintro e wf ⟨rfl,jc⟩)
         | fail)
     go_wp2_with fail
     go_ret
     exact⟨ret_int (by rw[DN.out];exact HS.out),((hkd.trans ja).trans jb).trans jc⟩
   have c1:(topI x.dy==topI y.dy)=false:=beq_eq_false_iff_ne.2 htt
   have c2:(topI x.dy != topI y.dy)=true:=by rw[bne,c1];rfl
   have HT2:=hid (HT.out htt)
   clear htt HT
   have kd:=(Kp.refl wb).drew
   have hSd:=keepRR kd hS8
   have hkd:=hk8.trans kd
   have Ox9:=hid (Ox8.out.kp kd)
   have Oy9:=hid (Oy8.out.kp kd)
   clear hS8 hk8 Ox8 Oy8 kd
   go_wp2_with fail
   go_region_held3 (fun w'=>w'.cell? ⟨w.heap.size,0,none⟩=some (.bool x.neg)∧w'.cell? ⟨w.heap.size,1,none⟩=some (.slice x.a x.xs.length x.c)∧w'.cell? ⟨w.heap.size,2,none⟩=some (.int .i64 x.e)∧w'.cell? ⟨w.heap.size+1,0,none⟩=some (.bool y.neg)∧w'.cell? ⟨w.heap.size+1,1,none⟩=some (.slice y.a y.xs.length y.c)∧w'.cell? ⟨w.heap.size+1,2,none⟩=some (.int .i64 y.e)) (first | with_reducible assumption | with_reducible exact keepRR (by assumption) (by assumption))
     (first
       | (go_at_call 179;go_fit (r2top_rok x _ Ox9.out hm);rintro e wd ⟨rfl,ja⟩)
       | (go_at_call 179;go_fit (r2top_rok y _ (Oy9.out.kp ja) hg);rintro e we ⟨rfl,jb⟩)
       | fail)
   have hk10:=(hkd.trans ja).trans jb
   clear hSd Ox9 Oy9 hm hg
   cases hB:(decide (topI x.dy<topI y.dy)==decide (0<sgn x.dy)) with
   | false =>
     have H:=hid (show cmpZ x.iv y.iv=1 from by rw[show cmpZ x.iv y.iv=cmpZ x.dy.iv y.dy.iv from rfl,HT2.out,hB];rfl)
     go_wp2_with fail
     go_ret
     exact⟨ret_int H.out.symm,hk10⟩
   | true =>
   have H:=hid (show cmpZ x.iv y.iv=-1 from by rw[show cmpZ x.iv y.iv=cmpZ x.dy.iv y.dy.iv from rfl,HT2.out,if_pos hB])
   go_wp2_with fail
   go_ret
   exact⟨ret_int H.out.symm,hk10⟩
 have H:=hid (show cmpZ x.iv y.iv=1 from cmp_sgn_gt ht)
 have b0:¬ sgn x.dy<sgn y.dy:=by omega
 have b1:(sgn x.dy==sgn y.dy)=false:=beq_eq_false_iff_ne.2 (by omega)
 have b2:(sgn x.dy != sgn y.dy)=true:=by rw[bne,b1];rfl
 clear hS6
 go_wp2_with fail
 go_ret
 exact⟨ret_int H.out.symm,hk6⟩
theorem r2Valid_raw (x:RD) (w:World) (h:x.rd w) :
  Calls Tryz.prog 52 #[.agg #[.bool x.neg,.slice x.a x.xs.length x.c,.int .i64 x.e]] w fun e w'=>e=.returned (.bool x.vl)∧Kp w w' :=
 r2Valid_any x.neg x.a x.xs x.c x.e w h.1 h.2.2.2.1 h.2.2.2.2
theorem r2cmp_raw (x y:RD) (w:World) (hx:x.rd w) (hy:y.rd w) (vx:x.vl=true) (vy:y.vl=true) :
  Calls Tryz.prog 118 #[.agg #[.bool x.neg,.slice x.a x.xs.length x.c,.int .i64 x.e],.agg #[.bool y.neg,.slice y.a y.xs.length y.c,.int .i64 y.e]] w fun e w'=>e=.returned (.int .i64 (cmpZ x.iv y.iv))∧Kp w w':=r2cmp_rok x y w ⟨hx,vx⟩ ⟨hy,vy⟩
set_option maxHeartbeats 2000000 in
theorem r5zero_raw (x:RD) (w:World) :
  Calls Tryz.prog 117 #[.agg #[.bool x.neg,.slice x.a x.xs.length x.c,.int .i64 x.e]] w fun e w'=>e=.returned (.bool x.zr)∧Kp w w':=by
 have H:=hid (show x.zr=(!x.neg&&(decide (x.xs.length=0)&&decide (x.e=0))) from rfl)
 go_enter Tryz.func117,Tryz.ntmps117
 cases hn:x.neg with
 | true =>
  rw[hn] at H
  clear hn
  go_wp2_with fail
  go_ret
  exact⟨ret_bool H.out.symm,((Kp.refl w).alloc _)⟩
 | false =>
 rw[hn] at H
 clear hn
 by_cases h0:x.xs.length=0
 ·have hz:((x.xs.length:Int)==0)=true:=beq_iff_eq.2 (by omega)
  rw[decide_eq_true h0] at H
  clear h0
  go_wp2_with fail
  go_ret
  exact⟨ret_bool (by rw[H.out];exact Bool.eq_iff_iff.2 (by simp)),((Kp.refl w).alloc _)⟩
 have hz:((x.xs.length:Int)==0)=false:=beq_eq_false_iff_ne.2 (by omega)
 rw[decide_eq_false h0] at H
 clear h0
 go_wp2_with fail
 go_ret
 exact⟨ret_bool (by rw[H.out];simp),((Kp.refl w).alloc _)⟩
set_option maxHeartbeats 4000000 in
theorem r5Valid_raw (x:RI) (w:World) (h:x.rd w) :
  Calls Tryz.prog 53 #[.agg #[.bool x.lo.neg,.slice x.lo.a x.lo.xs.length x.lo.c,.int .i64 x.lo.e,.bool x.hi.neg,.slice x.hi.a x.hi.xs.length x.hi.c,.int .i64 x.hi.e,.bool x.all]] w fun e w'=>e=.returned (.bool x.vl)∧Kp w w':=by
 have H:=hid (show x.vl=if x.all then x.lo.zr&&x.hi.zr else x.lo.vl&&(x.hi.vl&&decide (cmpZ x.lo.iv x.hi.iv≤0)) from rfl)
 go_enter Tryz.func53,Tryz.ntmps53
 cases ha:x.all with
 | true =>
  rw[ha] at H
  clear ha
  go_wp2_with fail
  refine (r5zero_raw x.lo _).mono ?_
  rintro e w1 ⟨rfl,hk1⟩
  have hS:=keep7 hk1 (show (w.alloc (.cells #[.bool x.lo.neg,.slice x.lo.a x.lo.xs.length x.lo.c,.int .i64 x.lo.e,.bool x.hi.neg,.slice x.hi.a x.hi.xs.length x.hi.c,.int .i64 x.hi.e,.bool true] 44)).cell? ⟨w.heap.size,0,none⟩=some (.bool x.lo.neg)∧(w.alloc (.cells #[.bool x.lo.neg,.slice x.lo.a x.lo.xs.length x.lo.c,.int .i64 x.lo.e,.bool x.hi.neg,.slice x.hi.a x.hi.xs.length x.hi.c,.int .i64 x.hi.e,.bool true] 44)).cell? ⟨w.heap.size,1,none⟩=some (.slice x.lo.a x.lo.xs.length x.lo.c)∧(w.alloc (.cells #[.bool x.lo.neg,.slice x.lo.a x.lo.xs.length x.lo.c,.int .i64 x.lo.e,.bool x.hi.neg,.slice x.hi.a x.hi.xs.length x.hi.c,.int .i64 x.hi.e,.bool true] 44)).cell? ⟨w.heap.size,2,none⟩=some (.int .i64 x.lo.e)∧(w.alloc (.cells #[.bool x.lo.neg,.slice x.lo.a x.lo.xs.length x.lo.c,.int .i64 x.lo.e,.bool x.hi.neg,.slice x.hi.a x.hi.xs.length x.hi.c,.int .i64 x.hi.e,.bool true] 44)).cell? ⟨w.heap.size,3,none⟩=some (.bool x.hi.neg)∧(w.alloc (.cells #[.bool x.lo.neg,.slice x.lo.a x.lo.xs.length x.lo.c,.int .i64 x.lo.e,.bool x.hi.neg,.slice x.hi.a x.hi.xs.length x.hi.c,.int .i64 x.hi.e,.bool true] 44)).cell? ⟨w.heap.size,4,none⟩=some (.slice x.hi.a x.hi.xs.length x.hi.c)∧(w.alloc (.cells #[.bool x.lo.neg,.slice x.lo.a x.lo.xs.length x.lo.c,.int .i64 x.lo.e,.bool x.hi.neg,.slice x.hi.a x.hi.xs.length x.hi.c,.int .i64 x.hi.e,.bool true] 44)).cell? ⟨w.heap.size,5,none⟩=some (.int .i64 x.hi.e)∧(w.alloc (.cells #[.bool x.lo.neg,.slice x.lo.a x.lo.xs.length x.lo.c,.int .i64 x.lo.e,.bool x.hi.neg,.slice x.hi.a x.hi.xs.length x.hi.c,.int .i64 x.hi.e,.bool true] 44)).cell? ⟨w.heap.size,6,none⟩=some (.bool true) by simp)
  have hk2:=((Kp.refl w).alloc _).trans hk1
  clear hk1
  cases hz:x.lo.zr with
  | false =>
   rw[hz] at H
   clear hz
   go_wp2_with fail
   go_ret
   exact⟨ret_bool H.out.symm,hk2⟩
  | true =>
  rw[hz] at H
  clear hz
  go_wp2_with fail
  refine (r5zero_raw x.hi _).mono ?_
  rintro e w3 ⟨rfl,hk3⟩
  go_wp2_with fail
  go_ret
  exact⟨ret_bool (by rw[H.out];simp),hk2.trans hk3⟩
 | false =>
 rw[ha] at H
 clear ha
 go_wp2_with fail
 have hk0:=((Kp.refl w).alloc (.cells #[.bool x.lo.neg,.slice x.lo.a x.lo.xs.length x.lo.c,.int .i64 x.lo.e,.bool x.hi.neg,.slice x.hi.a x.hi.xs.length x.hi.c,.int .i64 x.hi.e,.bool false] 44))
 refine (r2Valid_raw x.lo _ (h.1.kp hk0)).mono ?_
 rintro e w1 ⟨rfl,hk1⟩
 have hS:=keep7 hk1 (show (w.alloc (.cells #[.bool x.lo.neg,.slice x.lo.a x.lo.xs.length x.lo.c,.int .i64 x.lo.e,.bool x.hi.neg,.slice x.hi.a x.hi.xs.length x.hi.c,.int .i64 x.hi.e,.bool false] 44)).cell? ⟨w.heap.size,0,none⟩=some (.bool x.lo.neg)∧(w.alloc (.cells #[.bool x.lo.neg,.slice x.lo.a x.lo.xs.length x.lo.c,.int .i64 x.lo.e,.bool x.hi.neg,.slice x.hi.a x.hi.xs.length x.hi.c,.int .i64 x.hi.e,.bool false] 44)).cell? ⟨w.heap.size,1,none⟩=some (.slice x.lo.a x.lo.xs.length x.lo.c)∧(w.alloc (.cells #[.bool x.lo.neg,.slice x.lo.a x.lo.xs.length x.lo.c,.int .i64 x.lo.e,.bool x.hi.neg,.slice x.hi.a x.hi.xs.length x.hi.c,.int .i64 x.hi.e,.bool false] 44)).cell? ⟨w.heap.size,2,none⟩=some (.int .i64 x.lo.e)∧(w.alloc (.cells #[.bool x.lo.neg,.slice x.lo.a x.lo.xs.length x.lo.c,.int .i64 x.lo.e,.bool x.hi.neg,.slice x.hi.a x.hi.xs.length x.hi.c,.int .i64 x.hi.e,.bool false] 44)).cell? ⟨w.heap.size,3,none⟩=some (.bool x.hi.neg)∧(w.alloc (.cells #[.bool x.lo.neg,.slice x.lo.a x.lo.xs.length x.lo.c,.int .i64 x.lo.e,.bool x.hi.neg,.slice x.hi.a x.hi.xs.length x.hi.c,.int .i64 x.hi.e,.bool false] 44)).cell? ⟨w.heap.size,4,none⟩=some (.slice x.hi.a x.hi.xs.length x.hi.c)∧(w.alloc (.cells #[.bool x.lo.neg,.slice x.lo.a x.lo.xs.length x.lo.c,.int .i64 x.lo.e,.bool x.hi.neg,.slice x.hi.a x.hi.xs.length x.hi.c,.int .i64 x.hi.e,.bool false] 44)).cell? ⟨w.heap.size,5,none⟩=some (.int .i64 x.hi.e)∧(w.alloc (.cells #[.bool x.lo.neg,.slice x.lo.a x.lo.xs.length x.lo.c,.int .i64 x.lo.e,.bool x.hi.neg,.slice x.hi.a x.hi.xs.length x.hi.c,.int .i64 x.hi.e,.bool false] 44)).cell? ⟨w.heap.size,6,none⟩=some (.bool false) by simp)
 have hk2:=hk0.trans hk1
 clear hk0 hk1
 cases hz:x.lo.vl with
 | false =>
  rw[hz] at H
  clear hz
  go_wp2_with fail
  go_ret
  exact⟨ret_bool H.out.symm,hk2⟩
 | true =>
 rw[hz] at H
 have Hz:=hid hz
 clear hz
 go_wp2_with fail
 refine (r2Valid_raw x.hi _ (h.2.kp hk2)).mono ?_
 rintro e w3 ⟨rfl,hk3⟩
 have hS2:=keep7 hk3 hS
 have hk4:=hk2.trans hk3
 clear hk2 hk3 hS
 cases hy:x.hi.vl with
 | false =>
  rw[hy] at H
  clear hy
  go_wp2_with fail
  go_ret
  exact⟨ret_bool H.out.symm,hk4⟩
 | true =>
 rw[hy] at H
 have Hy:=hid hy
 clear hy
 go_wp2_with fail
 refine (r2cmp_raw x.lo x.hi _ (h.1.kp hk4) (h.2.kp hk4) Hz.out Hy.out).mono ?_
 rintro e w5 ⟨rfl,hk5⟩
 go_wp2_with fail
 go_ret
 exact⟨ret_bool H.out.symm,hk4.trans hk5⟩
theorem colsM_eq {m:List (List RI)} {r0:List RI} (h:m[0]? = some r0):colsM m=r0.length:=by
 unfold colsM
 cases m with
 | cons x t=>simp at h;subst h;rfl
 | nil=>simp at h
end Go.Proofs.YtbhmhfnfceakoaaGreatDoor
