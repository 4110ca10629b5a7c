/-
  Walks: the reference's Sum.
-/
import Derived.Test.YteidgoldnllabaaGreatDoorMR2I
namespace Go.Proofs.YteidgoldnllabaaGreatDoor
open Go.RowKit
open Lib (hid)
theorem r2left_int (a:Option Addr) (xs:List Nat) (c:Nat) (n:Int) (w:World) (h1:Rd w a xs) (hxl:xs.length≤100000) (h0:0≤n) (hn:n≤65536) :
  Calls Tryz.prog 245 #[.slice a xs.length c,.int .i64 n] w (NatOut w (val xs*2 ^ n.toNat)):=by
 obtain⟨m,rfl⟩:=Int.eq_ofNat_of_zero_le h0
 exact r2left_any a xs c m w h1 hxl (by omega)
theorem r2left_lim (a:Option Addr) (m:Nat) (c:Nat) (n:Int) (w:World) (h1:Rd w a (limbs m)) (hxl:(limbs m).length≤100000) (h0:0≤n) (hn:n≤65536) :
  Calls Tryz.prog 245 #[.slice a (limbs m).length c,.int .i64 n] w (NatOut w (m*2 ^ n.toNat)):=by
 have:=r2left_int a (limbs m) c n w h1 hxl h0 hn
 rwa [val_limbs] at this
theorem r2plus_lim (a b:Option Addr) (P Q:Nat) (c d:Nat) (w:World) (h1:Rd w a (limbs P)) (h2:Rd w b (limbs Q)) (hxl:(limbs P).length≤100000) (hyl:(limbs Q).length≤100000) :
  Calls Tryz.prog 247 #[.slice a (limbs P).length c,.slice b (limbs Q).length d] w (NatOut w (P+Q)):=by
 have:=r2plus_any a b (limbs P) (limbs Q) c d w h1 h2 (by omega) (by omega)
 rwa [val_limbs,val_limbs] at this
theorem r2minus_lim (a b:Option Addr) (P Q:Nat) (c d:Nat) (w:World) (h1:Rd w a (limbs P)) (h2:Rd w b (limbs Q)) (hxl:(limbs P).length≤100000) (hle:Q≤P) :
  Calls Tryz.prog 248 #[.slice a (limbs P).length c,.slice b (limbs Q).length d] w (NatOut w (P-Q)):=by
 have:=r2minus_any a b (limbs P) (limbs Q) c d w h1 h2 (by omega) (limbs_length_mono hle) (by rw[val_limbs,val_limbs];exact hle)
 rwa [val_limbs,val_limbs] at this
theorem r2Of_lim (s:Bool) (a:Option Addr) (V:Nat) (c:Nat) (ex:Int) (w:World) (h:Rd w a (limbs V)) (hc:(limbs V).length≤c) (hm:c≤maxLen) (hl:(limbs V).length≤100000) (he0:-16384≤ex) (he1:ex≤16384) :
  Calls Tryz.prog 246 #[.bool s,.slice a (limbs V).length c,.int .i64 ex] w (DyOut w (canon s V ex)):=by
 have:=r2Of_any s a (limbs V) c ex w h hc hm (by omega) (by omega) (by omega)
 rwa [val_limbs] at this
theorem cmpL_lim {P Q:Nat}:(Q≤P→0≤cmpL (limbs P) (limbs Q))∧(P<Q→cmpL (limbs P) (limbs Q)<0):=by
 unfold cmpL
 constructor
 ·intro h
  have:=limbs_length_mono h
  rw[if_neg (by omega)]
  split
  ·decide
  rw[val_limbs,val_limbs];have:=cmpN_nlt h;omega
 intro h
 have:=limbs_length_mono (Nat.le_of_lt h)
 split
 ·decide
 rw[if_neg (by omega),val_limbs,val_limbs];exact cmpN_isneg h
theorem wide_len {d f:Dy} (hd:d.ok) (hf:f.ok) (hd0:d.m≠0) (hf0:f.m≠0):bits (d.m*2 ^ (d.e-min d.e f.e).toNat)≤40000∧bits (f.m*2 ^ (f.e-min d.e f.e).toNat)≤40000:=by
 have bd:(bits d.m:Int)≤4096:=by rcases hd with ⟨h,_⟩ | ⟨_,h,_⟩;exact absurd h hd0;omega
 have bf:(bits f.m:Int)≤4096:=by rcases hf with ⟨h,_⟩ | ⟨_,h,_⟩;exact absurd h hf0;omega
 have hed:=ok_e hd
 have hef:=ok_e hf
 rw[bits_mul_pow hd0,bits_mul_pow hf0]
 omega
theorem set6 {w:World} {o g h:Nat} (n:g≠o) (n':h≠o) {d f:Dy} {a b:Option Addr} {c k:Nat} {v0 v1 v2:Value} (hS:w.cell? ⟨g,0,none⟩=some (.bool d.neg)∧w.cell? ⟨g,1,none⟩=some (.slice a (limbs d.m).length c)∧w.cell? ⟨g,2,none⟩=some (.int .i64 d.e)∧w.cell? ⟨h,0,none⟩=some (.bool f.neg)∧w.cell? ⟨h,1,none⟩=some (.slice b (limbs f.m).length k)∧w.cell? ⟨h,2,none⟩=some (.int .i64 f.e)) :
  (((w.setCell ⟨o,0,none⟩ v0).setCell ⟨o,1,none⟩ v1).setCell ⟨o,2,none⟩ v2).cell? ⟨g,0,none⟩=some (.bool d.neg)∧(((w.setCell ⟨o,0,none⟩ v0).setCell ⟨o,1,none⟩ v1).setCell ⟨o,2,none⟩ v2).cell? ⟨g,1,none⟩=some (.slice a (limbs d.m).length c)∧(((w.setCell ⟨o,0,none⟩ v0).setCell ⟨o,1,none⟩ v1).setCell ⟨o,2,none⟩ v2).cell? ⟨g,2,none⟩=some (.int .i64 d.e)∧(((w.setCell ⟨o,0,none⟩ v0).setCell ⟨o,1,none⟩ v1).setCell ⟨o,2,none⟩ v2).cell? ⟨h,0,none⟩=some (.bool f.neg)∧(((w.setCell ⟨o,0,none⟩ v0).setCell ⟨o,1,none⟩ v1).setCell ⟨o,2,none⟩ v2).cell? ⟨h,1,none⟩=some (.slice b (limbs f.m).length k)∧(((w.setCell ⟨o,0,none⟩ v0).setCell ⟨o,1,none⟩ v1).setCell ⟨o,2,none⟩ v2).cell? ⟨h,2,none⟩=some (.int .i64 f.e):=by
 obtain⟨a0,a1,a2,b0,b1,b2⟩:=hS
 obtain⟨c0,c1,c2⟩:=set3x (x0:=v0) (x1:=v1) (x2:=v2) n ⟨a0,a1,a2⟩
 obtain⟨d0,d1,d2⟩:=set3x (x0:=v0) (x1:=v1) (x2:=v2) n' ⟨b0,b1,b2⟩
 exact⟨c0,c1,c2,d0,d1,d2⟩
set_option maxHeartbeats 4000000 in
theorem r2sum_same (d f:Dy) (a b:Option Addr) (c k:Nat) (w:World) (hd:DyAt w d a c) (hf:DyAt w f b k) (hd0:d.m≠0) (hf0:f.m≠0) (hs:d.neg=f.neg) :
  Calls Tryz.prog 206 #[.agg #[.bool d.neg,.slice a (limbs d.m).length c,.int .i64 d.e],.agg #[.bool f.neg,.slice b (limbs f.m).length k,.int .i64 f.e]] w (DyOut w (sumD d f)):=by
 have hed:=ok_e hd.1
 have hef:=ok_e hf.1
 have z1:=len_ne hd0
 have z2:=len_ne hf0
 have hE1:min d.e f.e≤d.e:=Int.min_le_left _ _
 have hE2:min d.e f.e≤f.e:=Int.min_le_right _ _
 have hE0:-16384≤min d.e f.e:=by omega
 have hE3:min d.e f.e≤16384:=by omega
 obtain⟨hl1,hl2⟩:=wide_len hd.1 hf.1 hd0 hf0
 have Hl1:=hid (limbs_len_bits (n:=d.m*2 ^ (d.e-min d.e f.e).toNat) (k:=100000) (by omega))
 have Hl2:=hid (limbs_len_bits (n:=f.m*2 ^ (f.e-min d.e f.e).toNat) (k:=100000) (by omega))
 have ll1:=ok_len hd.1
 have ll2:=ok_len hf.1
 have Hsum:=hid (sum_same hE0 hE1 hE2 hs)
 have Hv:=hid (limbs_len_bits (n:=d.m*2 ^ (d.e-min d.e f.e).toNat+f.m*2 ^ (f.e-min d.e f.e).toNat) (k:=100000) (Nat.le_trans (bits_add_le hl1 hl2) (by omega)))
 have hq:(d.neg==f.neg)=true:=by rw[hs];exact beq_self_eq_true _
 clear hs
 clear hl1 hl2
 go_enter Tryz.func206,Tryz.ntmps206
 go_wp2_with fail
 generalize hW:(((w.alloc _).alloc _).alloc _)=W at *
 have hk:Kp w W:=hW▸(((Kp.refl w).alloc _).alloc _).alloc _
 have hd1:=(hd.kp hk).drew
 have hf1:=(hf.kp hk).drew
 have hS:W.cell? ⟨w.heap.size,0,none⟩=some (.bool d.neg)∧W.cell? ⟨w.heap.size,1,none⟩=some (.slice a (limbs d.m).length c)∧W.cell? ⟨w.heap.size,2,none⟩=some (.int .i64 d.e)∧W.cell? ⟨w.heap.size+1,0,none⟩=some (.bool f.neg)∧W.cell? ⟨w.heap.size+1,1,none⟩=some (.slice b (limbs f.m).length k)∧W.cell? ⟨w.heap.size+1,2,none⟩=some (.int .i64 f.e):=by rw[← hW];exact keep6 ((Kp.refl _).alloc _) (by simp)
 have hB:Box3 W (w.heap.size+2) (.bool false) (.slice none 0 0) (.int .i64 0):=hW▸Box3.new3 _ _ _ _ _ _ _
 clear hW
 have e4:IntKind.i64.wrap (d.e-min d.e f.e)=d.e-min d.e f.e:=IntWalk.i64_in _ (by omega)
 have e5:IntKind.i64.wrap (f.e-min d.e f.e)=f.e-min d.e f.e:=IntWalk.i64_in _ (by omega)
 have z3:0≤d.e-min d.e f.e:=by omega
 have z4:0≤f.e-min d.e f.e:=by omega
 have z5:d.e-min d.e f.e≤65536:=by omega
 have z6:f.e-min d.e f.e≤65536:=by omega
 generalize min d.e f.e=E at *
 go_region_held3 (fun w'=>w'.cell? ⟨w.heap.size,0,none⟩=some (.bool d.neg)∧w'.cell? ⟨w.heap.size,1,none⟩=some (.slice a (limbs d.m).length c)∧w'.cell? ⟨w.heap.size,2,none⟩=some (.int .i64 d.e)∧w'.cell? ⟨w.heap.size+1,0,none⟩=some (.bool f.neg)∧w'.cell? ⟨w.heap.size+1,1,none⟩=some (.slice b (limbs f.m).length k)∧w'.cell? ⟨w.heap.size+1,2,none⟩=some (.int .i64 f.e)) (first | assumption | exact keep6 (by assumption) (by assumption))
  (first
   | (go_at_call_of 245 (Value.slice a (limbs d.m).length c);refine (r2left_lim a d.m c _ _ hd1.2.1 (by omega) z3 z5).mono ?_;rintro e w5 ⟨a5,c5,rfl,l5,m5,r5,hk5⟩)
   | (go_at_call_of 245 (Value.slice b (limbs f.m).length k);refine (r2left_lim b f.m k _ _ (hf1.kp (by assumption)).2.1 (by omega) z4 z6).mono ?_;rintro e w6 ⟨a6,c6,rfl,l6,m6,r6,hk6⟩))
 have r5:=r5.kp hk6
 have hk7:=((hk.drew).trans hk5).trans hk6
 have hS6:=keep6 hk6 (keep6 hk5 (keep6 (Kp.refl W).drew hS))
 have hB6:=((hB.kp (Kp.refl W).drew).kp hk5).kp hk6
 generalize d.m*2 ^ (d.e-E).toNat=P at *
 generalize f.m*2 ^ (f.e-E).toNat=Q at *
 clear hS hB hd1 hf1 hk5 hk6 hk hd hf
 go_wp2_with fail
 have r5:=r5.kp (Kp.refl w6).drew
 have r6:=r6.kp (Kp.refl w6).drew
 have hS6:=keep6 (Kp.refl w6).drew hS6
 have hB6:=hB6.kp (Kp.refl w6).drew
 have hk7:=hk7.drew
 go_region_held3 (fun w'=>w'.cell? ⟨w.heap.size,0,none⟩=some (.bool d.neg)∧w'.cell? ⟨w.heap.size,1,none⟩=some (.slice a (limbs d.m).length c)∧w'.cell? ⟨w.heap.size,2,none⟩=some (.int .i64 d.e)∧w'.cell? ⟨w.heap.size+1,0,none⟩=some (.bool f.neg)∧w'.cell? ⟨w.heap.size+1,1,none⟩=some (.slice b (limbs f.m).length k)∧w'.cell? ⟨w.heap.size+1,2,none⟩=some (.int .i64 f.e)) (first | with_reducible assumption | with_reducible exact keep6 (by assumption) (by assumption) | with_reducible exact set6 (by omega) (by omega) (by assumption))
  (first
   | (go_at_call 247;refine (r2plus_lim a5 a6 P Q c5 c6 _ r5 r6 Hl1.out Hl2.out).mono ?_;rintro e w7 ⟨a7,c7,rfl,l7,m7,r7,k7⟩)
   | (go_at_call 246;refine (r2Of_lim d.neg a7 (P+Q) c7 E _ r7 l7 m7 Hv.out hE0 hE3).mono ?_;rw[← Hsum.out];rintro e w8 ⟨a8,c8,rfl,h2,h3,h4,k8⟩;obtain⟨q0,q1,q2,f0,f1,f2⟩:=(hB6.kp k7).kp k8))
 have hkk:=(hk7.trans k7).trans k8
 clear Hsum hS6 hB6
 generalize sumD d f=D at *
 have hst:=stored q0 q1 q2 nofun nofun nofun (.bool D.neg) (.slice a8 (limbs D.m).length c8) (.int .i64 D.e)
 go_wp2_with fail
 generalize (((w8.setCell _ _).setCell _ _).setCell _ _)=W2 at hst ⊢
 obtain⟨s0,s1,s2,_,s4,s5,_,_⟩:=hst
 refine bodyPost_ret (v:=.agg #[.bool D.neg,.slice a8 (limbs D.m).length c8,.int .i64 D.e]) (by simp[results,Tryz.results206,go_sem,s0,s1,s2]) rfl ?_
 exact⟨a8,c8,rfl,s4 _ _ h2,h3,h4,s5 _ hkk (by omega)⟩
set_option maxHeartbeats 4000000 in
theorem r2sum_ge (d f:Dy) (a b:Option Addr) (c k:Nat) (w:World) (hd:DyAt w d a c) (hf:DyAt w f b k) (hd0:d.m≠0) (hf0:f.m≠0) (hs:d.neg≠f.neg) (hle:f.m*2 ^ (f.e-min d.e f.e).toNat≤d.m*2 ^ (d.e-min d.e f.e).toNat) :
  Calls Tryz.prog 206 #[.agg #[.bool d.neg,.slice a (limbs d.m).length c,.int .i64 d.e],.agg #[.bool f.neg,.slice b (limbs f.m).length k,.int .i64 f.e]] w (DyOut w (sumD d f)):=by
 have hed:=ok_e hd.1
 have hef:=ok_e hf.1
 have z1:=len_ne hd0
 have z2:=len_ne hf0
 have hE1:min d.e f.e≤d.e:=Int.min_le_left _ _
 have hE2:min d.e f.e≤f.e:=Int.min_le_right _ _
 have hE0:-16384≤min d.e f.e:=by omega
 have hE3:min d.e f.e≤16384:=by omega
 obtain⟨hl1,hl2⟩:=wide_len hd.1 hf.1 hd0 hf0
 have Hl1:=hid (limbs_len_bits (n:=d.m*2 ^ (d.e-min d.e f.e).toNat) (k:=100000) (by omega))
 have Hl2:=hid (limbs_len_bits (n:=f.m*2 ^ (f.e-min d.e f.e).toNat) (k:=100000) (by omega))
 have ll1:=ok_len hd.1
 have ll2:=ok_len hf.1
 have Hsum:=hid (sum_diff hE0 hE1 hE2 hs hle)
 have Hv:=hid (limbs_len_bits (n:=d.m*2 ^ (d.e-min d.e f.e).toNat-f.m*2 ^ (f.e-min d.e f.e).toNat) (k:=100000) (Nat.le_trans (bits_mono (Nat.sub_le _ _)) (by omega)))
 have hq:(d.neg==f.neg)=false:=beq_eq_false_iff_ne.2 hs
 have Hz:=hid (cmpL_lim.1 hle)
 have Hle:=hid hle
 clear hs hle
 clear hl1 hl2
 go_enter Tryz.func206,Tryz.ntmps206
 go_wp2_with fail
 generalize hW:(((w.alloc _).alloc _).alloc _)=W at *
 have hk:Kp w W:=hW▸(((Kp.refl w).alloc _).alloc _).alloc _
 have hd1:=(hd.kp hk).drew
 have hf1:=(hf.kp hk).drew
 have hS:W.cell? ⟨w.heap.size,0,none⟩=some (.bool d.neg)∧W.cell? ⟨w.heap.size,1,none⟩=some (.slice a (limbs d.m).length c)∧W.cell? ⟨w.heap.size,2,none⟩=some (.int .i64 d.e)∧W.cell? ⟨w.heap.size+1,0,none⟩=some (.bool f.neg)∧W.cell? ⟨w.heap.size+1,1,none⟩=some (.slice b (limbs f.m).length k)∧W.cell? ⟨w.heap.size+1,2,none⟩=some (.int .i64 f.e):=by rw[← hW];exact keep6 ((Kp.refl _).alloc _) (by simp)
 have hB:Box3 W (w.heap.size+2) (.bool false) (.slice none 0 0) (.int .i64 0):=hW▸Box3.new3 _ _ _ _ _ _ _
 clear hW
 have e4:IntKind.i64.wrap (d.e-min d.e f.e)=d.e-min d.e f.e:=IntWalk.i64_in _ (by omega)
 have e5:IntKind.i64.wrap (f.e-min d.e f.e)=f.e-min d.e f.e:=IntWalk.i64_in _ (by omega)
 have z3:0≤d.e-min d.e f.e:=by omega
 have z4:0≤f.e-min d.e f.e:=by omega
 have z5:d.e-min d.e f.e≤65536:=by omega
 have z6:f.e-min d.e f.e≤65536:=by omega
 generalize min d.e f.e=E at *
 go_region_held3 (fun w'=>w'.cell? ⟨w.heap.size,0,none⟩=some (.bool d.neg)∧w'.cell? ⟨w.heap.size,1,none⟩=some (.slice a (limbs d.m).length c)∧w'.cell? ⟨w.heap.size,2,none⟩=some (.int .i64 d.e)∧w'.cell? ⟨w.heap.size+1,0,none⟩=some (.bool f.neg)∧w'.cell? ⟨w.heap.size+1,1,none⟩=some (.slice b (limbs f.m).length k)∧w'.cell? ⟨w.heap.size+1,2,none⟩=some (.int .i64 f.e)) (first | assumption | exact keep6 (by assumption) (by assumption))
  (first
   | (go_at_call_of 245 (Value.slice a (limbs d.m).length c);refine (r2left_lim a d.m c _ _ hd1.2.1 (by omega) z3 z5).mono ?_;rintro e w5 ⟨a5,c5,rfl,l5,m5,r5,hk5⟩)
   | (go_at_call_of 245 (Value.slice b (limbs f.m).length k);refine (r2left_lim b f.m k _ _ (hf1.kp (by assumption)).2.1 (by omega) z4 z6).mono ?_;rintro e w6 ⟨a6,c6,rfl,l6,m6,r6,hk6⟩))
 have r5:=r5.kp hk6
 have hk7:=((hk.drew).trans hk5).trans hk6
 have hS6:=keep6 hk6 (keep6 hk5 (keep6 (Kp.refl W).drew hS))
 have hB6:=((hB.kp (Kp.refl W).drew).kp hk5).kp hk6
 generalize d.m*2 ^ (d.e-E).toNat=P at *
 generalize f.m*2 ^ (f.e-E).toNat=Q at *
 clear hS hB hd1 hf1 hk5 hk6 hk hd hf
 have HCm:=hid (r2compare_any a5 a6 (limbs P) (limbs Q) c5 c6 w6 r5 r6 (by have:=Hl1.out;omega) (by have:=Hl2.out;omega))
 have hz:=Hz.out
 clear Hz
 go_wp2_with fail
 refine HCm.out.mono ?_
 rintro e wc ⟨rfl,j1⟩
 clear HCm
 generalize cmpL (limbs P) (limbs Q)=z at *
 have r5:=r5.kp j1
 have r6:=r6.kp j1
 have hS6:=keep6 j1 hS6
 have hB6:=hB6.kp j1
 have hk7:=hk7.trans j1
 clear j1
 go_wp2_with fail
 have r5:=r5.kp (Kp.refl wc).drew
 have r6:=r6.kp (Kp.refl wc).drew
 have hS6:=keep6 (Kp.refl wc).drew hS6
 have hB6:=hB6.kp (Kp.refl wc).drew
 have hk7:=hk7.drew
 go_region_held3 (fun w'=>w'.cell? ⟨w.heap.size,0,none⟩=some (.bool d.neg)∧w'.cell? ⟨w.heap.size,1,none⟩=some (.slice a (limbs d.m).length c)∧w'.cell? ⟨w.heap.size,2,none⟩=some (.int .i64 d.e)∧w'.cell? ⟨w.heap.size+1,0,none⟩=some (.bool f.neg)∧w'.cell? ⟨w.heap.size+1,1,none⟩=some (.slice b (limbs f.m).length k)∧w'.cell? ⟨w.heap.size+1,2,none⟩=some (.int .i64 f.e)) (first | with_reducible assumption | with_reducible exact keep6 (by assumption) (by assumption) | with_reducible exact set6 (by omega) (by omega) (by assumption))
  (first
   | (go_at_call 248;refine (r2minus_lim a5 a6 P Q c5 c6 _ r5 r6 Hl1.out Hle.out).mono ?_;rintro e w7 ⟨a7,c7,rfl,l7,m7,r7,k7⟩)
   | (go_at_call 246;refine (r2Of_lim d.neg a7 (P-Q) c7 E _ r7 l7 m7 Hv.out hE0 hE3).mono ?_;rw[← Hsum.out];rintro e w8 ⟨a8,c8,rfl,h2,h3,h4,k8⟩;obtain⟨q0,q1,q2,f0,f1,f2⟩:=(hB6.kp k7).kp k8))
 have hkk:=(hk7.trans k7).trans k8
 clear Hsum hS6 hB6
 generalize sumD d f=D at *
 have hst:=stored q0 q1 q2 nofun nofun nofun (.bool D.neg) (.slice a8 (limbs D.m).length c8) (.int .i64 D.e)
 go_wp2_with fail
 generalize (((w8.setCell _ _).setCell _ _).setCell _ _)=W2 at hst ⊢
 obtain⟨s0,s1,s2,_,s4,s5,_,_⟩:=hst
 refine bodyPost_ret (v:=.agg #[.bool D.neg,.slice a8 (limbs D.m).length c8,.int .i64 D.e]) (by simp[results,Tryz.results206,go_sem,s0,s1,s2]) rfl ?_
 exact⟨a8,c8,rfl,s4 _ _ h2,h3,h4,s5 _ hkk (by omega)⟩
set_option maxHeartbeats 4000000 in
theorem r2sum_lt (d f:Dy) (a b:Option Addr) (c k:Nat) (w:World) (hd:DyAt w d a c) (hf:DyAt w f b k) (hd0:d.m≠0) (hf0:f.m≠0) (hs:d.neg≠f.neg) (hlt:d.m*2 ^ (d.e-min d.e f.e).toNat<f.m*2 ^ (f.e-min d.e f.e).toNat) :
  Calls Tryz.prog 206 #[.agg #[.bool d.neg,.slice a (limbs d.m).length c,.int .i64 d.e],.agg #[.bool f.neg,.slice b (limbs f.m).length k,.int .i64 f.e]] w (DyOut w (sumD d f)):=by
 have hed:=ok_e hd.1
 have hef:=ok_e hf.1
 have z1:=len_ne hd0
 have z2:=len_ne hf0
 have hE1:min d.e f.e≤d.e:=Int.min_le_left _ _
 have hE2:min d.e f.e≤f.e:=Int.min_le_right _ _
 have hE0:-16384≤min d.e f.e:=by omega
 have hE3:min d.e f.e≤16384:=by omega
 obtain⟨hl1,hl2⟩:=wide_len hd.1 hf.1 hd0 hf0
 have Hl1:=hid (limbs_len_bits (n:=d.m*2 ^ (d.e-min d.e f.e).toNat) (k:=100000) (by omega))
 have Hl2:=hid (limbs_len_bits (n:=f.m*2 ^ (f.e-min d.e f.e).toNat) (k:=100000) (by omega))
 have ll1:=ok_len hd.1
 have ll2:=ok_len hf.1
 have Hsum:=hid ((sumD_comm d f).trans (sum_diff hE0 hE2 hE1 (Ne.symm hs) (Nat.le_of_lt hlt)))
 have Hv:=hid (limbs_len_bits (n:=f.m*2 ^ (f.e-min d.e f.e).toNat-d.m*2 ^ (d.e-min d.e f.e).toNat) (k:=100000) (Nat.le_trans (bits_mono (Nat.sub_le _ _)) (by omega)))
 have hq:(d.neg==f.neg)=false:=beq_eq_false_iff_ne.2 hs
 have Hz:=hid (cmpL_lim.2 hlt)
 have Hle:=hid (Nat.le_of_lt hlt)
 clear hs hlt
 clear hl1 hl2
 go_enter Tryz.func206,Tryz.ntmps206
 go_wp2_with fail
 generalize hW:(((w.alloc _).alloc _).alloc _)=W at *
 have hk:Kp w W:=hW▸(((Kp.refl w).alloc _).alloc _).alloc _
 have hd1:=(hd.kp hk).drew
 have hf1:=(hf.kp hk).drew
 have hS:W.cell? ⟨w.heap.size,0,none⟩=some (.bool d.neg)∧W.cell? ⟨w.heap.size,1,none⟩=some (.slice a (limbs d.m).length c)∧W.cell? ⟨w.heap.size,2,none⟩=some (.int .i64 d.e)∧W.cell? ⟨w.heap.size+1,0,none⟩=some (.bool f.neg)∧W.cell? ⟨w.heap.size+1,1,none⟩=some (.slice b (limbs f.m).length k)∧W.cell? ⟨w.heap.size+1,2,none⟩=some (.int .i64 f.e):=by rw[← hW];exact keep6 ((Kp.refl _).alloc _) (by simp)
 have hB:Box3 W (w.heap.size+2) (.bool false) (.slice none 0 0) (.int .i64 0):=hW▸Box3.new3 _ _ _ _ _ _ _
 clear hW
 have e4:IntKind.i64.wrap (d.e-min d.e f.e)=d.e-min d.e f.e:=IntWalk.i64_in _ (by omega)
 have e5:IntKind.i64.wrap (f.e-min d.e f.e)=f.e-min d.e f.e:=IntWalk.i64_in _ (by omega)
 have z3:0≤d.e-min d.e f.e:=by omega
 have z4:0≤f.e-min d.e f.e:=by omega
 have z5:d.e-min d.e f.e≤65536:=by omega
 have z6:f.e-min d.e f.e≤65536:=by omega
 generalize min d.e f.e=E at *
 go_region_held3 (fun w'=>w'.cell? ⟨w.heap.size,0,none⟩=some (.bool d.neg)∧w'.cell? ⟨w.heap.size,1,none⟩=some (.slice a (limbs d.m).length c)∧w'.cell? ⟨w.heap.size,2,none⟩=some (.int .i64 d.e)∧w'.cell? ⟨w.heap.size+1,0,none⟩=some (.bool f.neg)∧w'.cell? ⟨w.heap.size+1,1,none⟩=some (.slice b (limbs f.m).length k)∧w'.cell? ⟨w.heap.size+1,2,none⟩=some (.int .i64 f.e)) (first | assumption | exact keep6 (by assumption) (by assumption))
  (first
   | (go_at_call_of 245 (Value.slice a (limbs d.m).length c);refine (r2left_lim a d.m c _ _ hd1.2.1 (by omega) z3 z5).mono ?_;rintro e w5 ⟨a5,c5,rfl,l5,m5,r5,hk5⟩)
   | (go_at_call_of 245 (Value.slice b (limbs f.m).length k);refine (r2left_lim b f.m k _ _ (hf1.kp (by assumption)).2.1 (by omega) z4 z6).mono ?_;rintro e w6 ⟨a6,c6,rfl,l6,m6,r6,hk6⟩))
 have r5:=r5.kp hk6
 have hk7:=((hk.drew).trans hk5).trans hk6
 have hS6:=keep6 hk6 (keep6 hk5 (keep6 (Kp.refl W).drew hS))
 have hB6:=((hB.kp (Kp.refl W).drew).kp hk5).kp hk6
 generalize d.m*2 ^ (d.e-E).toNat=P at *
 generalize f.m*2 ^ (f.e-E).toNat=Q at *
 clear hS hB hd1 hf1 hk5 hk6 hk hd hf
 have HCm:=hid (r2compare_any a5 a6 (limbs P) (limbs Q) c5 c6 w6 r5 r6 (by have:=Hl1.out;omega) (by have:=Hl2.out;omega))
 have hz:=Hz.out
 clear Hz
 go_wp2_with fail
 refine HCm.out.mono ?_
 rintro e wc ⟨rfl,j1⟩
 clear HCm
 generalize cmpL (limbs P) (limbs Q)=z at *
 have r5:=r5.kp j1
 have r6:=r6.kp j1
 have hS6:=keep6 j1 hS6
 have hB6:=hB6.kp j1
 have hk7:=hk7.trans j1
 clear j1
 go_wp2_with fail
 have r5:=r5.kp (Kp.refl wc).drew
 have r6:=r6.kp (Kp.refl wc).drew
 have hS6:=keep6 (Kp.refl wc).drew hS6
 have hB6:=hB6.kp (Kp.refl wc).drew
 have hk7:=hk7.drew
 go_region_held3 (fun w'=>w'.cell? ⟨w.heap.size,0,none⟩=some (.bool d.neg)∧w'.cell? ⟨w.heap.size,1,none⟩=some (.slice a (limbs d.m).length c)∧w'.cell? ⟨w.heap.size,2,none⟩=some (.int .i64 d.e)∧w'.cell? ⟨w.heap.size+1,0,none⟩=some (.bool f.neg)∧w'.cell? ⟨w.heap.size+1,1,none⟩=some (.slice b (limbs f.m).length k)∧w'.cell? ⟨w.heap.size+1,2,none⟩=some (.int .i64 f.e)) (first | with_reducible assumption | with_reducible exact keep6 (by assumption) (by assumption) | with_reducible exact set6 (by omega) (by omega) (by assumption))
  (first
   | (go_at_call 248;refine (r2minus_lim a6 a5 Q P c6 c5 _ r6 r5 Hl2.out Hle.out).mono ?_;rintro e w7 ⟨a7,c7,rfl,l7,m7,r7,k7⟩)
   | (go_at_call 246;refine (r2Of_lim f.neg a7 (Q-P) c7 E _ r7 l7 m7 Hv.out hE0 hE3).mono ?_;rw[← Hsum.out];rintro e w8 ⟨a8,c8,rfl,h2,h3,h4,k8⟩;obtain⟨q0,q1,q2,f0,f1,f2⟩:=(hB6.kp k7).kp k8))
 have hkk:=(hk7.trans k7).trans k8
 clear Hsum hS6 hB6
 generalize sumD d f=D at *
 have hst:=stored q0 q1 q2 nofun nofun nofun (.bool D.neg) (.slice a8 (limbs D.m).length c8) (.int .i64 D.e)
 go_wp2_with fail
 generalize (((w8.setCell _ _).setCell _ _).setCell _ _)=W2 at hst ⊢
 obtain⟨s0,s1,s2,_,s4,s5,_,_⟩:=hst
 refine bodyPost_ret (v:=.agg #[.bool D.neg,.slice a8 (limbs D.m).length c8,.int .i64 D.e]) (by simp[results,Tryz.results206,go_sem,s0,s1,s2]) rfl ?_
 exact⟨a8,c8,rfl,s4 _ _ h2,h3,h4,s5 _ hkk (by omega)⟩
end Go.Proofs.YteidgoldnllabaaGreatDoor
