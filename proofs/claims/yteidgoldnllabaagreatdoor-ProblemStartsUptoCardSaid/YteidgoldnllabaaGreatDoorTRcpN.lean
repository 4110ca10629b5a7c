/-
  Walks: ratio.limbs, magnitude, Compare.
-/
import Derived.Test.YteidgoldnllabaaGreatDoorTRchN
import Derived.Test.YteidgoldnllabaaGreatDoorTRivN
set_option maxHeartbeats 8000000
set_option maxRecDepth 100000
namespace Go.Proofs.YteidgoldnllabaaGreatDoor
open Go.RowKit
open Lib (hid)
theorem qlimbs_any (n:Nat) (w:World) (hn:n≤1073741824) :
  Calls Tryz.prog 170 #[.int .u64 n] w fun e w'=>∃ a,e=.returned (.slice a 2 2)∧Rd w' a [n,0]∧Kp w w':=by
 have h1:(n:Int) % 4294967296=n:=by omega
 have h2:(n:Int)/4294967296=0:=by omega
 have hR:=rd_pair w n 0 (by omega) (by decide) n 0 rfl rfl
 have k1:Kp w (w.alloc (.cells #[.int .u32 n,.int .u32 0] 213)):=(Kp.refl w).alloc _
 go_enter Tryz.func170,Tryz.ntmps170
 go_wp2_with fail
 go_ret
 exact⟨_,rfl,hR,k1⟩
theorem limbs_le {n k:Nat} (h:n<2 ^ (32*k)):(limbs n).length≤k:=limbs_length_le.2 (by rw[pow32];exact h)
theorem mag_len {m d b c:Nat} (h:bits m≤b) (hd:d≤1073741824) (hc:c=b+31):m*d<2 ^ c:=by
 subst hc
 have h1:m<2 ^ b:=bits_le.1 h
 rw[Nat.pow_add]
 have h2:m*d≤m*1073741824:=Nat.mul_le_mul_left _ hd
 have h3:m*2147483648<2 ^ b*2 ^ 31:=by
  rw[show (2:Nat) ^ 31=2147483648 from by decide]
  exact Nat.mul_lt_mul_of_pos_right h1 (by decide)
 omega
set_option exponentiation.threshold 20000 in
theorem qmag_any (n d:Int) (x:RD) (w:World) (hv:ratB n d=true) (hx:x.ok w) (hm:x.dy.m≠0) :
  Calls Tryz.prog 121 #[.agg #[.int .i64 n,.int .i64 d],.agg #[.bool x.neg,.slice x.a x.xs.length x.c,.int .i64 x.e]] w fun e w'=>e=.returned (.int .i64 (magV n.natAbs d.natAbs x.dy.m x.e))∧Kp w w':=by
 obtain⟨d1,d2,n1,n2⟩:=ratB_parts hv
 have hb:bits x.dy.m≤4096:=dok_bits (rdok_dy hx)
 have hxe:=rdok_e hx
 have htop:topI x.dy=(bits x.dy.m:Int)+x.e:=by unfold topI;rw[if_neg hm];rfl
 have k1:Kp w ((w.alloc (.cells #[.int .i64 n,.int .i64 d] 25)).alloc (.cells #[.bool x.neg,.slice x.a x.xs.length x.c,.int .i64 x.e] 113)):=((Kp.refl w).alloc _).alloc _
 have hA:BoxV ((w.alloc (.cells #[.int .i64 n,.int .i64 d] 25)).alloc (.cells #[.bool x.neg,.slice x.a x.xs.length x.c,.int .i64 x.e] 113)) w.heap.size [.int .i64 n,.int .i64 d]:=(BoxV.new w [_,_] _ _ rfl).kp ((Kp.refl _).alloc _)
 have hB:BoxV ((w.alloc (.cells #[.int .i64 n,.int .i64 d] 25)).alloc (.cells #[.bool x.neg,.slice x.a x.xs.length x.c,.int .i64 x.e] 113)) (w.heap.size+1) [.bool x.neg,.slice x.a x.xs.length x.c,.int .i64 x.e]:=BoxV.new _ [_,_,_] _ _ (by simp)
 have HM:=hid (show magV n.natAbs d.natAbs x.dy.m x.e=if 32<topI x.dy then -1 else if topI x.dy < -32 then 1 else
  if 0≤x.e then cmpN n.natAbs (x.dy.m*d.natAbs*2 ^ x.e.toNat) else cmpN (n.natAbs*2 ^ (-x.e).toNat) (x.dy.m*d.natAbs) from by rw[htop];rfl)
 obtain⟨T,hT⟩:∃ T,T=topI x.dy:=⟨_,rfl⟩
 have HT:=hid fun W (k:Kp w W)=>Top_rok x W (hx.kp k)
 rw[← hT] at HM HT htop
 have HX:=hid hx
 have HTe:=hid htop
 have HV:=hid hv
 have HB:=hid hb
 clear hv hm hx hT htop hb
 go_enter Tryz.func121,Tryz.ntmps121
 go_upto_region 1 with fail
 generalize World.alloc _ _=W at *
 have K1:=hid k1
 have HA:=hid hA
 have HC:=hid hB
 have q0:=hB.cell 0 rfl
 have q1:=hB.cell 1 rfl
 have q2:=hB.cell 2 rfl
 clear k1 hA hB
 by_cases h1:32<T
 ·go_wp2_with (first | (go_at_call 169;go_fit (HT.out W K1.out);rintro r w2 ⟨rfl,k2⟩) | fail)
  go_ret
  exact⟨by rw[HM.out,if_pos h1];rfl,K1.out.trans k2⟩
 by_cases h2:T < -32
 ·go_wp2_with (first | (go_at_call 169;go_fit (HT.out W K1.out);rintro r w2 ⟨rfl,k2⟩) | fail)
  go_ret
  exact⟨by rw[HM.out,if_neg (by omega),if_pos h2];rfl,K1.out.trans k2⟩
 go_upto_region 6 with (first | (go_at_call 169;go_fit (HT.out W K1.out);rintro r w2 ⟨rfl,k2⟩) | fail)
 have hA2:=HA.out.kp k2
 have p0:=hA2.cell 0 rfl
 have K2:=hid (K1.out.trans k2)
 have HA2:=hid hA2
 have HC2:=hid (HC.out.kp k2)
 clear q0 q1 q2 hA2 k2
 go_upto_region 7 with (first
  | (go_at_call 168;go_fit (rsize_any n w2 n1 n2);rintro r w3 ⟨rfl,hq⟩;rw[hq];clear hq)
  | (go_at_call 170;go_fit (qlimbs_any n.natAbs w2 (by omega));rintro r w4 ⟨a4,rfl,r4,k4⟩)
  | fail)
 have hA4:=HA2.out.kp (k4.trans (Kp.refl w4).drew)
 have hC4:=HC2.out.kp (k4.trans (Kp.refl w4).drew)
 have hSd:w4.drew.cell? ⟨w.heap.size,0,none⟩=some (.int .i64 n)∧w4.drew.cell? ⟨w.heap.size,1,none⟩=some (.int .i64 d)∧w4.drew.cell? ⟨w.heap.size+1,1,none⟩=some (.slice x.a x.xs.length x.c)∧w4.drew.cell? ⟨w.heap.size+1,2,none⟩=some (.int .i64 x.e):=⟨hA4.cell 0 rfl,hA4.cell 1 rfl,hC4.cell 1 rfl,hC4.cell 2 rfl⟩
 have R4:=hid (r4.kp (Kp.refl w4).drew)
 have K4:=hid (K2.out.trans (k4.trans (Kp.refl w4).drew))
 have HA4:=hid hA4
 have HC4:=hid hC4
 have HD:=hid hSd
 refine wp_region_held_drew (S:=fun w'=>w'.cell? ⟨w.heap.size,0,none⟩=some (.int .i64 n)∧w'.cell? ⟨w.heap.size,1,none⟩=some (.int .i64 d)∧w'.cell? ⟨w.heap.size+1,1,none⟩=some (.slice x.a x.xs.length x.c)∧w'.cell? ⟨w.heap.size+1,2,none⟩=some (.int .i64 x.e)) (by kernel_rfl) hSd (fun hHeld=>?_)
 clear hSd hA4 hC4 r4 k4
 refine tk 0 ?_;refine tk 1 ?_;refine tk 2 ?_;refine tk 3 ?_;(try simp only[aput])
 refine cm 4 (fun K hK=>?_)
 (go_simp;go_fit (rsize_any d w4.drew (by omega) d2);rintro r w5 ⟨rfl,hq⟩;rw[hq];clear hq)
 refine hK.out _ _ HD.out (fun hHeld=>?_);clear hK K
 refine cm 5 (fun K hK=>?_)
 (go_simp;go_fit (qlimbs_any d.natAbs w4.drew (by omega));rintro r w6 ⟨a6,rfl,r6,k6⟩)
 have HD6:=hid (keep4V k6 HD.out)
 refine hK.out _ _ HD6.out (fun hHeld=>?_);clear hK K
 have R6:=hid r6
 have K6:=hid k6
 clear r6 k6
 have HMl:=hid (mag_len (m:=x.dy.m) (d:=d.natAbs) (b:=4096) (c:=4127) HB.out (by omega) rfl)
 have HMul:=hid (show Calls Tryz.prog 171 #[.slice x.a x.xs.length x.c,.slice a6 2 2] w6 (Nat2 w6 (x.dy.m*d.natAbs) 0) from by
  have hm2:val x.xs*val [d.natAbs,0]=x.dy.m*d.natAbs:=by rw[show val [d.natAbs,0]=d.natAbs from by simp[val]];rfl
  have:=Mul_any x.a a6 x.xs [d.natAbs,0] x.c 2 w6 (HX.out.1.1.kp (K4.out.trans K6.out)) R6.out (by have:=rdok_len HX.out;omega) (by simp) HX.out.1.2.1 (by simp) HX.out.1.2.2.1 (by unfold maxLen;omega)
   (by rw[hm2];exact limbs_le (Nat.lt_of_lt_of_le HMl.out (Nat.pow_le_pow_right (by decide) (by decide))))
  rw[hm2] at this
  exact this)
 refine cm 6 (fun K hK=>?_)
 (go_simp;go_fit HMul.out;rintro r w7 ⟨a7,c7,rfl,l7,m7,r7,k7⟩)
 have HD7:=hid (keep4V k7 HD6.out)
 refine hK.out _ _ HD7.out (fun hHeld=>?_);clear hK K
 have K7:=hid (K4.out.trans (K6.out.trans k7))
 have R4b:=hid (R4.out.kp (K6.out.trans k7))
 have R7:=hid (And.intro r7 (And.intro l7 m7))
 have hC7:=HC4.out.kp (K6.out.trans k7)
 clear r7 l7 m7 k7 HMul
 refine tk 7 ?_;refine tk 8 ?_;refine tk 9 ?_;refine tk 10 ?_;(try simp only[aput])
 refine cm 11 (fun K hK=>?_)
 go_simp
 refine hK.out _ _ HD7.out (fun hHeld=>?_);clear hK K
 refine wpAnyH_done (by kernel_rfl) ?_ _
 have c2:=hC7.cell 2 rfl
 clear hC7
 have hTe:=HTe.out
 have hBb:=HB.out
 have hMl:=HMl.out
 have hMk:(limbs (x.dy.m*d.natAbs)).length≤129:=limbs_le (Nat.lt_of_lt_of_le hMl (Nat.pow_le_pow_right (by decide) (by decide)))
 have hn31:n.natAbs<2 ^ 31:=by rw[show (2:Nat) ^ 31=2147483648 from by decide];omega
 have hvn:val [n.natAbs,0]=n.natAbs:=by simp[val]
 generalize x.dy.m*d.natAbs=M at *
 by_cases h0:0≤x.e
 ·have hS:M*2 ^ x.e.toNat<2 ^ 4159:=by
   rw[show (4159:Nat)=4127+32 from rfl,Nat.pow_add]
   have h3:(2:Nat) ^ x.e.toNat≤2 ^ 32:=Nat.pow_le_pow_right (by decide) (by omega)
   exact Nat.lt_of_le_of_lt (Nat.mul_le_mul_left _ h3) (Nat.mul_lt_mul_of_pos_right hMl (by decide))
  have hSk:(limbs (M*2 ^ x.e.toNat)).length≤256:=limbs_le (Nat.lt_of_lt_of_le hS (Nat.pow_le_pow_right (by decide) (by decide)))
  have HShl:=hid (show Calls Tryz.prog 172 #[.slice a7 (limbs M).length c7,.int .i64 x.e] w7 (Nat2 w7 (M*2 ^ x.e.toNat) 0) from by
   have:=Shl_any a7 (limbs M) c7 x.e w7 R7.out.1 (by omega) R7.out.2.1 R7.out.2.2 h0 (by omega) (by rw[val_limbs];exact hSk)
   rw[val_limbs] at this
   exact this)
  have HC:=hid fun (w8:World) (k:Kp w7 w8) (a8:Option Addr) (c8:Nat) (l8:(limbs (M*2 ^ x.e.toNat)).length≤c8) (m8:c8≤maxLen) (r8:Rd w8 a8 (limbs (M*2 ^ x.e.toNat))) =>
   show Calls Tryz.prog 173 #[.slice a4 2 2,.slice a8 (limbs (M*2 ^ x.e.toNat)).length c8] w8 fun e w'=>e=.returned (.int .i64 (cmpN n.natAbs (M*2 ^ x.e.toNat)))∧Kp w8 w' from by
   have:=cmp_any a4 a8 [n.natAbs,0] (limbs (M*2 ^ x.e.toNat)) 2 c8 w8 (R4b.out.kp k) r8 (by simp) l8 (by unfold maxLen;omega) m8
   rw[hvn,val_limbs] at this
   exact this
  have HZ:=hid (show magV n.natAbs d.natAbs x.dy.m x.e=cmpN n.natAbs (M*2 ^ x.e.toNat) by rw[HM.out,if_neg (by omega),if_neg (by omega),if_pos h0])
  generalize M*2 ^ x.e.toNat=M2 at *
  clear hTe hBb hMl hMk hn31 hvn hS hSk
  go_wp2_with (first
   | (go_at_call 172;go_fit HShl.out;rintro r w8 ⟨a8,c8,rfl,l8,m8,r8,k8⟩)
   | (go_at_call 173;go_fit (HC.out w8 k8 a8 c8 l8 m8 r8);rintro r w9 ⟨rfl,k9⟩)
   | fail)
  go_ret
  exact⟨by rw[HZ.out];rfl,K7.out.trans (k8.trans k9)⟩
 have hS:n.natAbs*2 ^ (-x.e).toNat<2 ^ 4159:=by
  rw[show (4159:Nat)=31+4128 from rfl,Nat.pow_add]
  have h3:(2:Nat) ^ (-x.e).toNat≤2 ^ 4128:=Nat.pow_le_pow_right (by decide) (by omega)
  exact Nat.lt_of_le_of_lt (Nat.mul_le_mul_left _ h3) (Nat.mul_lt_mul_of_pos_right hn31 (Nat.pow_pos (by decide)))
 have hSk:(limbs (n.natAbs*2 ^ (-x.e).toNat)).length≤256:=limbs_le (Nat.lt_of_lt_of_le hS (Nat.pow_le_pow_right (by decide) (by decide)))
 have HShl:=hid (show Calls Tryz.prog 172 #[.slice a4 2 2,.int .i64 (-x.e)] w7 (Nat2 w7 (n.natAbs*2 ^ (-x.e).toNat) 0) from by
  have:=Shl_any a4 [n.natAbs,0] 2 (-x.e) w7 R4b.out (by simp) (by simp) (by unfold maxLen;omega) (by omega) (by omega) (by rw[hvn];exact hSk)
  rw[hvn] at this
  exact this)
 have HC:=hid fun (w8:World) (k:Kp w7 w8) (a8:Option Addr) (c8:Nat) (l8:(limbs (n.natAbs*2 ^ (-x.e).toNat)).length≤c8) (m8:c8≤maxLen) (r8:Rd w8 a8 (limbs (n.natAbs*2 ^ (-x.e).toNat))) =>
  show Calls Tryz.prog 173 #[.slice a8 (limbs (n.natAbs*2 ^ (-x.e).toNat)).length c8,.slice a7 (limbs M).length c7] w8 fun e w'=>e=.returned (.int .i64 (cmpN (n.natAbs*2 ^ (-x.e).toNat) M))∧Kp w8 w' from by
  have:=cmp_any a8 a7 (limbs (n.natAbs*2 ^ (-x.e).toNat)) (limbs M) c8 c7 w8 r8 (R7.out.1.kp k) l8 R7.out.2.1 m8 R7.out.2.2
  rw[val_limbs,val_limbs] at this
  exact this
 have HZ:=hid (show magV n.natAbs d.natAbs x.dy.m x.e=cmpN (n.natAbs*2 ^ (-x.e).toNat) M by rw[HM.out,if_neg (by omega),if_neg (by omega),if_neg h0])
 generalize n.natAbs*2 ^ (-x.e).toNat=M2 at *
 clear hTe hBb hMl hMk hn31 hvn hS hSk
 go_wp2_with (first
  | (go_at_call 172;go_fit HShl.out;rintro r w8 ⟨a8,c8,rfl,l8,m8,r8,k8⟩)
  | (go_at_call 173;go_fit (HC.out w8 k8 a8 c8 l8 m8 r8);rintro r w9 ⟨rfl,k9⟩)
  | fail)
 go_ret
 exact⟨by rw[HZ.out];rfl,K7.out.trans (k8.trans k9)⟩
theorem qcompare_any (n d:Int) (x:RD) (w:World) (hv:ratB n d=true) (hx:x.ok w) :
  Calls Tryz.prog 55 #[.agg #[.int .i64 n,.int .i64 d],.agg #[.bool x.neg,.slice x.a x.xs.length x.c,.int .i64 x.e]] w fun e w'=>e=.returned (.tuple #[.int .i64 (cmpV n d x.dy),.int .i64 0])∧Kp w w':=by
 have k1:Kp w ((w.alloc (.cells #[.int .i64 n,.int .i64 d] 25)).alloc (.cells #[.bool x.neg,.slice x.a x.xs.length x.c,.int .i64 x.e] 113)):=((Kp.refl w).alloc _).alloc _
 have hA:BoxV ((w.alloc (.cells #[.int .i64 n,.int .i64 d] 25)).alloc (.cells #[.bool x.neg,.slice x.a x.xs.length x.c,.int .i64 x.e] 113)) w.heap.size [.int .i64 n,.int .i64 d]:=(BoxV.new w [_,_] _ _ rfl).kp ((Kp.refl _).alloc _)
 have hB:BoxV ((w.alloc (.cells #[.int .i64 n,.int .i64 d] 25)).alloc (.cells #[.bool x.neg,.slice x.a x.xs.length x.c,.int .i64 x.e] 113)) (w.heap.size+1) [.bool x.neg,.slice x.a x.xs.length x.c,.int .i64 x.e]:=BoxV.new _ [_,_,_] _ _ (by simp)
 have HC:=hid (show cmpV n d x.dy=if sgnZ n<sgn x.dy then -1 else if sgn x.dy<sgnZ n then 1 else if sgnZ n=0 then 0 else sgnZ n*magV n.natAbs d.natAbs x.dy.m x.e from rfl)
 have hSg:=Sign_ok x.dy x.a x.c
 have HS:=hid fun W (k:Kp w W)=>show Calls Tryz.prog 120 #[.agg #[.bool x.neg,.slice x.a x.xs.length x.c,.int .i64 x.e]] W fun e w'=>e=.returned (.int .i64 (sgn x.dy))∧Kp W w' from by
  have H:=Sign_ok x.dy x.a x.c W (rdok_at (hx.kp k))
  rw[rdok_limbs hx] at H
  exact H
 have HVd:=hid fun W (k:Kp w W)=>show Calls Tryz.prog 114 #[.agg #[.bool x.neg,.slice x.a x.xs.length x.c,.int .i64 x.e]] W fun e w'=>e=.returned (.bool true)∧Kp W w' from by
  have H:=Valid_raw x W (hx.1.kp k)
  rw[hx.2] at H
  exact H
 have HVr:=hid fun W=>show Calls Tryz.prog 119 #[.agg #[.int .i64 n,.int .i64 d]] W fun e w'=>e=.returned (.bool true)∧Kp W w' from by
  have H:=rvalid_any n d W
  rw[hv] at H
  exact H
 have HMg:=hid fun (hm:x.dy.m≠0) W (k:Kp w W)=>qmag_any n d x W hv (hx.kp k) hm
 have HMb:=hid (show -1≤magV n.natAbs d.natAbs x.dy.m x.e∧magV n.natAbs d.natAbs x.dy.m x.e≤1 from by
  unfold magV cmpN
  repeat' split
  all_goals omega)
 have HSb:=hid (show (sgn x.dy=0↔x.dy.m=0)∧-1≤sgn x.dy∧sgn x.dy≤1 from by
  unfold sgn
  repeat' split
  all_goals simp_all)
 clear hv hx hSg
 generalize magV n.natAbs d.natAbs x.dy.m x.e=G at *
 generalize cmpV n d x.dy=V at *
 generalize sgn x.dy=t at *
 go_enter Tryz.func55,Tryz.ntmps55
 go_upto_region 1 with fail
 generalize World.alloc _ _=W at *
 have K1:=hid k1
 have HA:=hid hA
 have HB:=hid hB
 have p0:=hA.cell 0 rfl
 have p1:=hA.cell 1 rfl
 have q0:=hB.cell 0 rfl
 have q1:=hB.cell 1 rfl
 have q2:=hB.cell 2 rfl
 clear k1 hA hB
 go_upto_region 3 with (first
  | (go_at_call 119;go_fit (HVr.out W);rintro r w2 ⟨rfl,k2⟩;clear p0 p1 q0 q1 q2;have q0:=(HB.out.kp k2).cell 0 rfl;have q1:=(HB.out.kp k2).cell 1 rfl;have q2:=(HB.out.kp k2).cell 2 rfl)
  | (go_at_call 114;go_fit (HVd.out w2 (K1.out.trans k2));rintro r w3 ⟨rfl,k3⟩;clear q0 q1 q2)
  | fail)
 have K3:=hid (K1.out.trans (k2.trans k3))
 have HA3:=hid (HA.out.kp (k2.trans k3))
 have HB3:=hid (HB.out.kp (k2.trans k3))
 clear k2 k3
 have p0:=HA3.out.cell 0 rfl
 have p1:=HA3.out.cell 1 rfl
 have q0:=HB3.out.cell 0 rfl
 have q1:=HB3.out.cell 1 rfl
 have q2:=HB3.out.cell 2 rfl
 have hGb:=HMb.out
 by_cases hn:0<n
 ·have hs:sgnZ n=1:=if_pos hn
  have HR:=hid hs
  clear hs
  by_cases ht:t=1
  ·have hm:x.dy.m≠0:=fun h=>by have:=HSb.out.1.2 h;omega
   have HV:=hid (show V=G by rw[HC.out,HR.out,ht];exact Int.one_mul G)
   subst ht
   go_wp2_with (first
   | (go_at_call 120;go_fit (HS.out w3 K3.out);rintro r w4 ⟨rfl,k4⟩;clear p0 p1 q0 q1 q2;have p0:=(HA3.out.kp k4).cell 0 rfl;have p1:=(HA3.out.kp k4).cell 1 rfl;have q0:=(HB3.out.kp k4).cell 0 rfl;have q1:=(HB3.out.kp k4).cell 1 rfl;have q2:=(HB3.out.kp k4).cell 2 rfl)
   | (go_at_call 121;go_fit (HMg.out hm w4 (K3.out.trans k4));rintro r w5 ⟨rfl,k5⟩)
   | fail)
   go_ret2
   exact⟨by rw[HV.out];rfl,K3.out.trans (k4.trans k5)⟩
  have h4:t<1:=by have:=HSb.out.2;omega
  have HV:=hid (show V=1 by rw[HC.out,HR.out,if_neg (by omega),if_pos h4])
  go_wp2_with (first
  | (go_at_call 120;go_fit (HS.out w3 K3.out);rintro r w4 ⟨rfl,k4⟩)
  | fail)
  go_ret2
  exact⟨by rw[HV.out];rfl,K3.out.trans k4⟩
 by_cases hn2:n<0
 ·have hs:sgnZ n=-1:=by unfold sgnZ;rw[if_neg hn,if_pos hn2]
  have HR:=hid hs
  clear hs
  by_cases ht:t=-1
  ·have hm:x.dy.m≠0:=fun h=>by have:=HSb.out.1.2 h;omega
   have HV:=hid (show V=-G by rw[HC.out,HR.out,ht];exact Int.neg_one_mul G)
   subst ht
   go_wp2_with (first
   | (go_at_call 120;go_fit (HS.out w3 K3.out);rintro r w4 ⟨rfl,k4⟩;clear p0 p1 q0 q1 q2;have p0:=(HA3.out.kp k4).cell 0 rfl;have p1:=(HA3.out.kp k4).cell 1 rfl;have q0:=(HB3.out.kp k4).cell 0 rfl;have q1:=(HB3.out.kp k4).cell 1 rfl;have q2:=(HB3.out.kp k4).cell 2 rfl)
   | (go_at_call 121;go_fit (HMg.out hm w4 (K3.out.trans k4));rintro r w5 ⟨rfl,k5⟩)
   | fail)
   go_ret2
   exact⟨by rw[HV.out];rfl,K3.out.trans (k4.trans k5)⟩
  have h4:-1<t:=by have:=HSb.out.2;omega
  have HV:=hid (show V=-1 by rw[HC.out,HR.out,if_pos h4])
  go_wp2_with (first
  | (go_at_call 120;go_fit (HS.out w3 K3.out);rintro r w4 ⟨rfl,k4⟩)
  | fail)
  go_ret2
  exact⟨by rw[HV.out];rfl,K3.out.trans k4⟩
 have hs:sgnZ n=0:=by unfold sgnZ;rw[if_neg hn,if_neg hn2]
 have HR:=hid hs
 clear hs
 by_cases h4:0<t
 ·have HV:=hid (show V=-1 by rw[HC.out,HR.out,if_pos h4])
  go_wp2_with (first
   | (go_at_call 120;go_fit (HS.out w3 K3.out);rintro r w4 ⟨rfl,k4⟩)
   | fail)
  go_ret2
  exact⟨by rw[HV.out];rfl,K3.out.trans k4⟩
 by_cases h5:t<0
 ·have HV:=hid (show V=1 by rw[HC.out,HR.out,if_neg (by omega),if_pos h5])
  go_wp2_with (first
   | (go_at_call 120;go_fit (HS.out w3 K3.out);rintro r w4 ⟨rfl,k4⟩)
   | fail)
  go_ret2
  exact⟨by rw[HV.out];rfl,K3.out.trans k4⟩
 have HV:=hid (show V=0 by rw[HC.out,HR.out,if_neg (by omega),if_neg (by omega),if_pos rfl])
 go_wp2_with (first
   | (go_at_call 120;go_fit (HS.out w3 K3.out);rintro r w4 ⟨rfl,k4⟩)
   | fail)
 go_ret2
 exact⟨by rw[HV.out];rfl,K3.out.trans k4⟩
end Go.Proofs.YteidgoldnllabaaGreatDoor
