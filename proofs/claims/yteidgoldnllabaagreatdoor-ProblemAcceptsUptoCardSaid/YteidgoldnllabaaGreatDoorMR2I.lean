/-
  Walks: the reference's Checked.
-/
import Derived.Test.YteidgoldnllabaaGreatDoorMR2H
import Derived.Test.YteidgoldnllabaaGreatDoorMKnuE
import Derived.Test.YteidgoldnllabaaGreatDoorMRnd
namespace Go.Proofs.YteidgoldnllabaaGreatDoor
open Go.RowKit
open Lib (hid)
set_option maxHeartbeats 2000000 in
set_option maxRecDepth 100000 in
theorem r2left_any (a:Option Addr) (xs:List Nat) (c n:Nat) (w:World) (h1:Rd w a xs) (hxl:xs.length≤100000) (hn:n≤65536) :
  Calls Tryz.prog 245 #[.slice a xs.length c,.int .i64 n] w (NatOut w (val xs*2 ^ n)):=by
 have hmk:=make_u32 ((n:Int)/32) (n/32) (by omega) (by omega)
 go_enter Tryz.func245,Tryz.ntmps245
 go_wp2_with fail
 clear hmk
 have hr:n % 32<32:=Nat.mod_lt _ (by decide)
 go_loopw [5,6,7] (fun v cy ix wr=>∃ (k cr:Nat) (a':Option Addr) (c':Nat) (zs:List Nat),k≤xs.length∧ix=.int .i64 k∧cy=.int .u64 cr∧v=.slice a' zs.length c'∧cr<2 ^ (n % 32) ∧
   zs.length=n/32+k∧Own wr w.heap.size (.slice a' zs.length c') zs∧val zs+4294967296 ^ (n/32+k)*cr=4294967296 ^ (n/32)*(2 ^ (n % 32)*val (xs.take k))∧Kp w wr) (fun _ _ ix _=>xs.length-(intOf ix).toNat)
 case atStart =>
  refine⟨0,0,_,_,List.replicate (n/32) 0,Nat.zero_le _,rfl,rfl,by rw[List.length_replicate],two_pow_pos _,by simp,?_,by simp[val,val_replicate],(Kp.refl _).alloc _⟩
  rw[List.length_replicate]
  exact Own.made _ _ _ (by omega) (by omega) _ (Nat.le_refl _)
 case round =>
 obtain⟨k,cr,a',c',zs,hk,rfl,rfl,rfl,hcr,hzl,hown,hvz,hkp⟩:=hrel
 have Hvz:=hid hvz
 have Hzl:=hid hzl
 have hzl1:zs.length≤n/32+k:=by omega
 have Hcr:=hid hcr
 clear hvz hzl hcr
 by_cases hlt:k<xs.length
 ·obtain⟨b1,o1,rfl,hcx⟩:=(h1.kp hkp).some hlt
  have hx1:=hcx k hlt
  have bx:=h1.lt32.nth k
  obtain⟨s,hor,hs,hs2,hs3⟩:=shl_or bx hr Hcr.out
  have Hst:=hid (shl_step (zs:=zs) (q:=n/32) (k:=k) Hzl.out Hvz.out hs)
  have Hs2:=hid hs2
  have hcl:=hid (and_lowI (x:=(s:Int)) (s:=s) rfl (by omega))
  clear hcx hs hs2
  go_wp2_with (at_builtin;refine wpList_append_u32 rfl _ _ rfl w.heap.size _ _ rfl (hown.alloc _) _ _ rfl (World.cell?_alloc_new _ _ _ _) (s % 4294967296) hcl.out (by omega) (by omega) (by have:=hkp.size;simp;omega) ?_;intro a2 c2 w2 hown2 hb2)
  go_roundw
  case measure=>simp[intOf];omega
  case rel =>
  refine⟨k+1,s/4294967296,a2,c2,zs++[s % 4294967296],by omega,by go_num,by congr 1 <;> omega,by simp,Hs2.out,by simp[Hzl.out];omega,by simpa using hown2,?_,((hkp.alloc _).below.trans hb2)⟩
  rw[val_take_step];exact Hst.out
 have hke:k=xs.length:=by omega
 have hcr3:cr<4294967296:=by
  have:=Nat.lt_of_lt_of_le Hcr.out (Nat.pow_le_pow_right (by decide) (show n % 32≤31 by omega))
  omega
 have e3:=hid (show val (zs++[cr])=val xs*2 ^ n by
  have e2:=Hvz.out
  rw[hke,List.take_of_length_le (Nat.le_refl _),← Nat.mul_assoc,pow_split] at e2
  rw[val_snoc,Hzl.out,hke,e2,Nat.mul_comm])
 clear hke
 have hkk:=hid hkp
 go_wp2_with (at_builtin;refine wpList_append_u32 rfl _ _ rfl w.heap.size _ _ rfl (hown.alloc _) _ _ rfl (World.cell?_alloc_new _ _ _ _) cr (by omega) (by omega) (by omega) (by have:=hkp.size;simp;omega) ?_;intro a2 c2 w2 hown2 hb2)
 obtain⟨l5,m5,r5,r6⟩:=hown2.rd
 have hT:=r2trim_any a2 (zs++[cr]) c2 w2 r6 m5 r5 (by rw[List.length_append,List.length_singleton];omega)
 rw[List.length_append,List.length_singleton] at hT
 have HT:=hid hT
 have hkw:=hid (show Kp w w2 from (hkk.out.alloc _).below.trans hb2)
 clear hown2 r6 hT hb2 hown hkp l5 m5 r5
 refine HT.out.mono ?_
 rintro e w7 ⟨a6,c6,rfl,l6,m6,r6,k6⟩
 go_wp2_with fail
 go_ret
 rw[← e3.out]
 exact⟨a6,c6,rfl,l6,m6,r6,hkw.out.trans k6⟩
set_option maxRecDepth 100000 in
set_option maxHeartbeats 2000000 in
theorem r2Of_any (s:Bool) (a:Option Addr) (xs:List Nat) (c:Nat) (ex:Int) (w:World) (h:Rd w a xs) (hc:xs.length≤c) (hm:c≤maxLen) (hl:xs.length≤1100000) (he0:-1000000000≤ex) (he1:ex≤1000000000) :
  Calls Tryz.prog 246 #[.bool s,.slice a xs.length c,.int .i64 ex] w (DyOut w (canon s (val xs) ex)):=by
 have hll:=limbs_len_le h.lt32
 have hT:=hid (r2trim_any a xs c (w.alloc (.cells #[.bool false,.slice none 0 0,.int .i64 0] 113)) (h.kp ((Kp.refl w).alloc _)) hc hm hl)
 have hB:=Box3.new w (.bool false) (.slice none 0 0) (.int .i64 0) 113
 by_cases h0:val xs=0
 ·have hn:(limbs (val xs)).length=0:=by rw[h0,limbs_zero];rfl
  have H0:=hid h0
  clear h0
  go_enter Tryz.func246,Tryz.ntmps246
  go_wp2_with fail
  refine hT.out.mono ?_
  rintro e w1 ⟨a1,c1,rfl,l1,m1,r1,k1⟩
  rw[hn]
  obtain⟨q0,q1,q2,f0,f1,f2⟩:=hB.kp k1
  have hk2:=((Kp.refl w).alloc _).trans k1
  have hst:=stored q0 q1 q2 nofun nofun nofun (.bool false) (.slice none 0 0) (.int .i64 0)
  clear hn
  go_wp2_with fail
  generalize (((w1.setCell _ _).setCell _ _).setCell _ _)=W at hst ⊢
  obtain⟨s0,s1,s2,_,s4,s5,_,_⟩:=hst
  refine bodyPost_ret (v:=.agg #[.bool false,.slice none 0 0,.int .i64 0]) (by simp[results,Tryz.results246,go_sem,s0,s1,s2]) rfl ?_
  rw[H0.out,canon_zero]
  exact dyOut_intro none 0 0 false 0 rfl rfl (by show 0=(limbs 0).length;rw[limbs_zero];rfl) rfl (by show Rd _ none (limbs 0);rw[limbs_zero];exact .nil _ _) (Nat.le_refl _) (by unfold maxLen;omega) (s5 _ hk2 (by omega))
 have hne:(((limbs (val xs)).length:Int)==0)=false:=beq_eq_false_iff_ne.2 (by
  have:(limbs (val xs)).length≠0:=fun e=>h0 (limbs_eq_nil.1 (List.length_eq_zero_iff.1 e))
  omega)
 have Hc:=hid (show canon s (val xs) ex=⟨s,oddp (val xs),ex+tz (val xs)⟩ by unfold canon;rw[if_neg h0])
 have Hodd:=hid (show val xs/2 ^ tz (val xs)=oddp (val xs) from rfl)
 have htz:=bits_of_nz h0
 have hbv:=bits_val_le h.lt32
 have hv0:val (limbs (val xs))≠0:=by rw[val_limbs];exact h0
 have Hv0:=hid hv0
 clear h0 hv0
 go_enter Tryz.func246,Tryz.ntmps246
 go_wp2_with fail
 refine hT.out.mono ?_
 rintro e w1 ⟨a1,c1,rfl,l1,m1,r1,k1⟩
 go_wp2_with fail
 have hz:=r2zeros_any a1 _ c1 _ r1 (by omega) Hv0.out
 rw[val_limbs] at hz
 refine hz.mono ?_
 rintro e w2 ⟨rfl,rfl⟩
 clear hz
 have hr:=r2right_any a1 _ c1 (tz (val xs)) _ r1 l1 m1 (by omega) (by omega)
 rw[val_limbs,Hodd.out] at hr
 go_wp2_with fail
 refine hr.mono ?_
 rintro e w3 ⟨a3,c3,rfl,l3,m3,r3,k3⟩
 clear hr
 have hkb:=k1.trans k3
 obtain⟨q0,q1,q2,f0,f1,f2⟩:=hB.kp hkb
 have hk2:=((Kp.refl w).alloc _).trans hkb
 have hst:=stored q0 q1 q2 nofun nofun nofun (.bool s) (.slice a3 (limbs (oddp (val xs))).length c3) (.int .i64 (ex+tz (val xs)))
 go_wp2_with fail
 generalize (((w3.setCell _ _).setCell _ _).setCell _ _)=W at hst ⊢
 obtain⟨s0,s1,s2,_,s4,s5,_,_⟩:=hst
 refine bodyPost_ret (v:=.agg #[.bool s,.slice a3 (limbs (oddp (val xs))).length c3,.int .i64 (ex+tz (val xs))]) (by simp[results,Tryz.results246,go_sem,s0,s1,s2]) rfl ?_
 rw[Hc.out]
 exact dyOut_intro a3 _ c3 s _ rfl rfl rfl rfl (s4 _ _ r3) l3 m3 (s5 _ hk2 (by omega))
theorem rd_pair (w:World) (x y:Nat) (hx:x<4294967296) (hy:y<4294967296) (u v:Int) (hu:u=x) (hv:v=y):Rd (w.alloc (.cells #[.int .u32 u,.int .u32 v] 213)) (some ⟨w.heap.size,0,none⟩) [x,y]:=by
 subst hu hv
 refine⟨.cons hx (.cons hy .nil),.inr ⟨_,_,rfl,fun i hi=>?_⟩⟩
 match i,hi with
 | 0,_=>simp[nth]
 | 1,_=>simp[nth]
 | i+2,hi=>exact absurd hi (by simp)
end Go.Proofs.YteidgoldnllabaaGreatDoor
