/-
  Walks: round.div of numbers that are not 0, from a contract of divide.
-/
import Derived.Test.YteidgoldnllabaaGreatDoorMEqU
namespace Go.Proofs.YteidgoldnllabaaGreatDoor
open Go.RowKit
open Lib (hid)
theorem limbs_of_bits {n k:Nat} (h:bits n≤32*k):(limbs n).length≤k:=limbs_length_le.2 (by rw[pow32];exact bits_le.1 h)
theorem dok_bits {d:Dy} (h:d.ok):bits d.m≤4096:=by
 rcases h with ⟨h1,_⟩ | ⟨_,h1,_⟩
 ·rw[h1,bits_zero];omega
 exact h1
set_option maxRecDepth 100000 in
set_option maxHeartbeats 8000000 in
theorem div_of (x y:RD) (p K:Nat) (up:Bool) (w:World) (hx:x.ok w) (hy:y.ok w) (hx0:val x.xs≠0) (hy0:val y.xs≠0) (hp0:8≤p) (hp1:p≤512) (hT:Tab w)
  (hK:(K:Int)=max 0 ((p:Int)+3+bits (val y.xs)-bits (val x.xs)))
  (hdiv:∀ W a c,Kp w W→Rd W a (limbs (val x.xs*2 ^ K))→(limbs (val x.xs*2 ^ K)).length≤c→c≤maxLen→Rd W y.a y.xs→Calls Tryz.prog 292 #[.slice a (limbs (val x.xs*2 ^ K)).length c,.slice y.a y.xs.length y.c] W (DivOut W (val x.xs*2 ^ K) (val y.xs) 256)) :
  Calls Tryz.prog 257 #[.agg #[.bool x.neg,.slice x.a x.xs.length x.c,.int .i64 x.e],.agg #[.bool y.neg,.slice y.a y.xs.length y.c,.int .i64 y.e],.int .i64 p,.bool up] w
   (NumE w (rndE (rndS (x.neg != y.neg) (val x.xs*2 ^ K/val y.xs) (x.e-K-y.e) (decide (0<bits (val x.xs*2 ^ K % val y.xs))) p up)).1 (rndE (rndS (x.neg != y.neg) (val x.xs*2 ^ K/val y.xs) (x.e-K-y.e) (decide (0<bits (val x.xs*2 ^ K % val y.xs))) p up)).2):=by
 have Hdv:=hid hdiv
 have hxl:(x.xs.length:Int)≠0:=by have:=(rdok_zero hx).1;intro h;exact hx0 (this (by omega))
 have hyl:(y.xs.length:Int)≠0:=by have:=(rdok_zero hy).1;intro h;exact hy0 (this (by omega))
 have hxz:((x.xs.length:Int)==0)=false:=beq_eq_false_iff_ne.2 hxl
 have hyz:((y.xs.length:Int)==0)=false:=beq_eq_false_iff_ne.2 hyl
 have Hf:=hid (show fltB p [x,y]=0 from fltB_ok (by simp[hx.2,hy.2]) hp0 hp1)
 have HKK:=hid hK
 have Hn:=hid (show (limbs (val x.xs*2 ^ K)).length≤200 by
  have hbx:bits (val x.xs)≤4096:=dok_bits (rdok_dy hx)
  have hby:bits (val y.xs)≤4096:=dok_bits (rdok_dy hy)
  refine limbs_of_bits ?_
  rw[bits_mul_pow hx0];omega)
 have HdM:=hid (show ∀ W a c,Kp w W→Rd W a (limbs (val x.xs*2 ^ K))→(limbs (val x.xs*2 ^ K)).length≤c→c≤maxLen→Rd W y.a y.xs→Calls Tryz.prog 282 #[.slice a (limbs (val x.xs*2 ^ K)).length c,.slice y.a y.xs.length y.c] W (DmOut W (val x.xs*2 ^ K) (val y.xs)) from
  fun W a c k1 k2 k3 k4 k5=>by
   have:=DivMod_of a y.a (limbs (val x.xs*2 ^ K)) y.xs c y.c W k5 (Nat.le_trans Hn.out (by decide)) (Nat.le_trans (rdok_len hy) (by decide)) hy.1.2.1 hy.1.2.2.1 hy0
    (fun W' k=>by rw[val_limbs];exact hdiv W' a c (k1.trans k) (k2.kp k) k3 k4 (k5.kp k))
   rwa [val_limbs] at this)
 clear hdiv hxl hyl hK hx0 hy0
 go_enter Tryz.func257,Tryz.ntmps257
 go_wp2_with fail
 generalize hW:(((w.alloc _).alloc _).alloc _)=W at *
 have hk:Kp w W:=hW▸(((Kp.refl w).alloc _).alloc _).alloc _
 have hS:W.cell? ⟨w.heap.size,0,none⟩=some (.bool x.neg)∧W.cell? ⟨w.heap.size,1,none⟩=some (.slice x.a x.xs.length x.c)∧W.cell? ⟨w.heap.size,2,none⟩=some (.int .i64 x.e)∧W.cell? ⟨w.heap.size+1,0,none⟩=some (.bool y.neg)∧W.cell? ⟨w.heap.size+1,1,none⟩=some (.slice y.a y.xs.length y.c)∧W.cell? ⟨w.heap.size+1,2,none⟩=some (.int .i64 y.e):=by rw[← hW];exact keep6 ((Kp.refl _).alloc _) (by simp)
 have hB:Box3 W (w.heap.size+2) (.bool false) (.slice none 0 0) (.int .i64 0):=hW▸Box3.new3 _ _ _ _ _ _ _
 have hsz:W.heap.size=w.heap.size+1+1+1:=by rw[← hW];simp
 clear hW
 have hka:=(Kp.refl W).alloc (.cells #[.bool x.neg,.slice x.a x.xs.length x.c,.int .i64 x.e,.bool y.neg,.slice y.a y.xs.length y.c,.int .i64 y.e] 113)
 have hRw:=rowD_two W x y (hx.kp hk).1 (hy.kp hk).1 113
 rw[hsz] at hRw
 clear hsz
 refine (fault_any p _ [x,y] 2 _ hRw (by simp)).mono ?_
 rw[Hf.out]
 rintro e w1 ⟨rfl,hk1⟩
 have hS1:=keepRR (hka.trans hk1) hS
 have hB1:=hB.kp (hka.trans hk1)
 have hk2:=hk.trans (hka.trans hk1)
 clear hS hB hk hk1 hka hRw
 go_wp2_with fail
 have hxd:=(hx.kp hk2).drew
 have hyd:=(hy.kp hk2).drew
 have hbx:bits (val x.xs)≤4096:=dok_bits (rdok_dy hx)
 have hby:bits (val y.xs)≤4096:=dok_bits (rdok_dy hy)
 have hS2:=keepRR (Kp.refl w1).drew hS1
 have hB2:=hB1.kp (Kp.refl w1).drew
 have hk3:=hk2.drew
 clear hS1 hB1 hk2
 go_region_held3 (fun w'=>w'.cell? ⟨w.heap.size,0,none⟩=some (.bool x.neg)∧w'.cell? ⟨w.heap.size,1,none⟩=some (.slice x.a x.xs.length x.c)∧w'.cell? ⟨w.heap.size,2,none⟩=some (.int .i64 x.e)∧w'.cell? ⟨w.heap.size+1,0,none⟩=some (.bool y.neg)∧w'.cell? ⟨w.heap.size+1,1,none⟩=some (.slice y.a y.xs.length y.c)∧w'.cell? ⟨w.heap.size+1,2,none⟩=some (.int .i64 y.e)) (first | with_reducible assumption | with_reducible exact keepRR (by assumption) (by assumption))
  (first
   | (go_at_call 281;refine (Bits_rok y _ hyd).mono ?_;rintro e w4 ⟨rfl,hk4⟩)
   | (go_at_call 281;refine (Bits_rok x _ (hxd.kp hk4)).mono ?_;rintro e w5 ⟨rfl,hk5⟩))
 have hKw:max 0 (IntKind.i64.wrap (IntKind.i64.wrap (IntKind.i64.wrap ((p:Int)+3)+(bits (val y.xs):Int))-(bits (val x.xs):Int)))=(K:Int):=by
  rw[IntWalk.i64_in ((p:Int)+3) (by omega),IntWalk.i64_in ((p:Int)+3+_) (by omega),IntWalk.i64_in _ (by omega)]
  exact HKK.out.symm
 rw[hKw]
 have hK2:K≤4611:=by have:=HKK.out;omega
 have hk5':=(hk3.trans hk4).trans hk5
 have hx5:=(hxd.kp hk4).kp hk5
 have hy5:=(hyd.kp hk4).kp hk5
 have hT5:=hT.kp hk5'
 have hB5:=(hB2.kp hk4).kp hk5
 have hS5:=keepRR (hk4.trans hk5) hS2
 clear hKw hbx hby hS2 hB2 hk3 hk4 hk5 hxd hyd
 have hlen:=rdok_len hx5
 have hlen2:=rdok_len hy5
 have hel:=rdok_e hx5
 have hel2:=rdok_e hy5
 go_wp2_with fail
 have hk6:=hk5'.drew
 have hx6:=hx5.drew
 have hy6:=hy5.drew
 have hT6:=hT5.kp (Kp.refl w5).drew
 have hB6:=hB5.kp (Kp.refl w5).drew
 have hS6:=keepRR (Kp.refl w5).drew hS5
 have Hsh:=hid (roshl_any x.a x.xs x.c (K:Int) w5.drew hx6.1.1 (by omega) hx6.1.2.1 hx6.1.2.2.1 (by omega) (by omega) (by rw[Int.toNat_natCast];exact Nat.le_trans Hn.out (by decide)))
 clear hx5 hy5 hT5 hB5 hS5
 go_region_held3 (fun w'=>w'.cell? ⟨w.heap.size,0,none⟩=some (.bool x.neg)∧w'.cell? ⟨w.heap.size,1,none⟩=some (.slice x.a x.xs.length x.c)∧w'.cell? ⟨w.heap.size,2,none⟩=some (.int .i64 x.e)∧w'.cell? ⟨w.heap.size+1,0,none⟩=some (.bool y.neg)∧w'.cell? ⟨w.heap.size+1,1,none⟩=some (.slice y.a y.xs.length y.c)∧w'.cell? ⟨w.heap.size+1,2,none⟩=some (.int .i64 y.e)) (first | with_reducible assumption | with_reducible exact keepRR (by assumption) (by assumption))
  (first
   | (go_at_call 283;refine Hsh.out.mono ?_;rw[Int.toNat_natCast];rintro e w6 ⟨a6,c6,rfl,l6,m6,r6,hk7⟩)
   | (go_at_call 282;refine (HdM.out _ a6 c6 (hk6.trans hk7) r6 l6 m6 (hy6.1.1.kp hk7)).mono ?_;rintro e w7 ⟨a7,c7,a8,c8,rfl,l7,m7,l8,m8,r7,r8,hk8⟩))
 have hk9:=(hk6.trans hk7).trans hk8
 have hT7:=(hT6.kp hk7).kp hk8
 have hB7:=(hB6.kp hk7).kp hk8
 have hS7:=keepRR (hk7.trans hk8) hS6
 have HQ:=hid (Nat.le_trans (limbs_length_mono (Nat.div_le_self (val x.xs*2 ^ K) (val y.xs))) Hn.out)
 have HR:=hid (Nat.le_trans (limbs_length_mono (Nat.mod_le (val x.xs*2 ^ K) (val y.xs))) Hn.out)
 clear hk5' hx6 hy6 hT6 hB6 hS6 Hsh hk6 hk7 hk8 r6 l6 m6 HdM
 generalize val x.xs*2 ^ K/val y.xs=Q at *
 generalize val x.xs*2 ^ K % val y.xs=R at *
 go_wp2_with fail
 have hex:IntKind.i64.wrap (IntKind.i64.wrap (x.e-(K:Int))-y.e)=x.e-K-y.e:=by
  rw[IntWalk.i64_in (x.e-(K:Int)) (by omega),IntWalk.i64_in _ (by omega)]
 have Hex:=hid hex
 clear hex
 have HB:=hid (bits_any a8 (limbs R) c8)
 have Hsg:=hid (fun (W:World) (mo:Bool) (hr:Rd W a7 (limbs Q)) (hT:Tab W)=>signed_any (x.neg != y.neg) a7 (limbs Q) c7 (IntKind.i64.wrap (IntKind.i64.wrap (x.e-(K:Int))-y.e)) mo p up W hr (Nat.le_trans HQ.out (by decide)) l7 m7 (by rw[Hex.out];omega) (by rw[Hex.out];omega) hp0 hp1 hT)
 have hk9d:=hk9.drew
 have r7d:=r7.kp (Kp.refl w7).drew
 have r8d:=r8.kp (Kp.refl w7).drew
 have hT7d:=hT7.kp (Kp.refl w7).drew
 have hB7d:=hB7.kp (Kp.refl w7).drew
 have hS7d:=keepRR (Kp.refl w7).drew hS7
 clear hk9 r7 r8 hT7 hB7 hS7
 go_region_held3 (fun w'=>w'.cell? ⟨w.heap.size,0,none⟩=some (.bool x.neg)∧w'.cell? ⟨w.heap.size,1,none⟩=some (.slice x.a x.xs.length x.c)∧w'.cell? ⟨w.heap.size,2,none⟩=some (.int .i64 x.e)∧w'.cell? ⟨w.heap.size+1,0,none⟩=some (.bool y.neg)∧w'.cell? ⟨w.heap.size+1,1,none⟩=some (.slice y.a y.xs.length y.c)∧w'.cell? ⟨w.heap.size+1,2,none⟩=some (.int .i64 y.e)) (first | with_reducible assumption | with_reducible exact keepRR (by assumption) (by assumption) | with_reducible exact setRR (by omega) (by omega) (by assumption))
  (first
   | (go_at_call 244;refine (HB.out _ r8d l8 m8 (Nat.le_trans HR.out (by decide))).mono ?_;rw[val_limbs];rintro e w8 ⟨rfl,rfl⟩)
   | (go_at_call 284;refine (Hsg.out _ _ r7d hT7d).mono ?_;rw[val_limbs,Hex.out];rintro e w9 ⟨z,rfl,hzr,hzd,hzv,hk9⟩;obtain⟨q0,q1,q2,f0,f1,f2⟩:=hB7d.kp hk9))
 have hkk:=hk9d.trans hk9
 clear hS7d hB7d hk9d hk9 r7d r8d hT7d Hsg HB
 have hst:=stored q0 q1 q2 nofun nofun nofun (.bool z.neg) (.slice z.a z.xs.length z.c) (.int .i64 z.e)
 go_wp2_with fail
 generalize (((w9.setCell _ _).setCell _ _).setCell _ _)=W2 at hst ⊢
 obtain⟨s0,s1,s2,_,s4,s5,_,_⟩:=hst
 refine bodyPost_ret (v:=.tuple #[.agg #[.bool z.neg,.slice z.a z.xs.length z.c,.int .i64 z.e],.int .i64 (rndE (rndS (x.neg != y.neg) Q (x.e-K-y.e) (decide (0<bits R)) p up)).2]) (by simp[results,Tryz.results257,go_sem,s0,s1,s2]) rfl ?_
 exact⟨z,rfl,⟨s4 _ _ hzr.1,hzr.2⟩,hzd,hzv,s5 _ hkk (by omega)⟩
end Go.Proofs.YteidgoldnllabaaGreatDoor
