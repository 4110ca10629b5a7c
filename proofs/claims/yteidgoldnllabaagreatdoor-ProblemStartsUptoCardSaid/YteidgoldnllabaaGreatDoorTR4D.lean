/-
  Walks: the fourth reference's Ends.
-/
import Derived.Test.YteidgoldnllabaaGreatDoorTR4A
set_option maxHeartbeats 16000000
set_option maxRecDepth 100000
namespace Go.Proofs.YteidgoldnllabaaGreatDoor
open Go.RowKit
open Lib (hid)
theorem bit64 {x r:Nat} (hx:x<18446744073709551616):Go.bits BinOp.and IntKind.u64 ((x:Int)/2 ^ r) 1=((x/2 ^ r % 2:Nat):Int):=by
 have e:((x:Int)/2 ^ r)=((x/2 ^ r:Nat):Int):=by rw[Int.natCast_ediv,Int.natCast_pow];rfl
 rw[e]
 have h1:=Nat.div_le_self x (2 ^ r)
 have h:=bits_and_u64_nat (x/2 ^ r) 1 (by omega) (by omega)
 rw[Nat.and_one_is_mod] at h
 exact h
theorem long_step {N d Q r b:Nat} (hd:0<d) (h:N=d*Q+r):(2*N+b)/d=2*Q+(2*r+b)/d∧(2*N+b) % d=(2*r+b) % d:=by
 have e:2*N+b=(2*r+b)+d*(2*Q):=by rw[h,Nat.mul_add,Nat.mul_left_comm];omega
 rw[e,Nat.add_mul_div_left _ _ hd,Nat.add_mul_mod_self_left]
 exact⟨Nat.add_comm _ _,rfl⟩
theorem quo_small2 {d r b:Nat} (hr:r<d) (hb:b≤1):(2*r+b)/d=0∨(2*r+b)/d=1:=by
 have:(2*r+b)/d<2:=Nat.div_lt_of_lt_mul (by omega)
 generalize (2*r+b)/d=f at *
 omega
theorem shr_next (n k:Nat):n/2 ^ k=2*(n/2 ^ (k+1))+n/2 ^ k % 2:=by
 rw[Nat.pow_succ,← Nat.div_div_eq_div_mul];omega
theorem dbl_quo {n d s:Nat} (hd:0<d):n*2 ^ (s+1)/d=2*(n*2 ^ s/d)+2*(n*2 ^ s % d)/d∧n*2 ^ (s+1) % d=2*(n*2 ^ s % d) % d:=by
 have h:=long_step (N:=n*2 ^ s) (b:=0) hd (Nat.div_add_mod (n*2 ^ s) d).symm
 rw[Nat.add_zero,Nat.add_zero] at h
 rw[Nat.pow_succ,← Nat.mul_assoc,Nat.mul_comm (n*2 ^ s) 2]
 exact h
theorem end_bound {n d s p:Nat} (hn:0<n) (hd:d≤1073741824) (hd0:0<d) (h:bits (n*2 ^ s/d)<p):s≤p+30:=by
 have h1:=lt_two_pow_bits (n*2 ^ s/d)
 have h2:n*2 ^ s<2 ^ bits (n*2 ^ s/d)*d:=(Nat.div_lt_iff_lt_mul hd0).1 h1
 have h3:2 ^ s≤n*2 ^ s:=Nat.le_mul_of_pos_left _ hn
 have h30:(2:Nat) ^ 30=1073741824:=by decide
 have h4:2 ^ bits (n*2 ^ s/d)*d≤2 ^ bits (n*2 ^ s/d)*2 ^ 30:=Nat.mul_le_mul_left _ (by rw[h30];exact hd)
 rw[← Nat.pow_add] at h4
 have h5:2 ^ s<2 ^ (bits (n*2 ^ s/d)+30):=Nat.lt_of_le_of_lt h3 (Nat.lt_of_lt_of_le h2 h4)
 have:=(Nat.pow_lt_pow_iff_right (by decide:1<2)).1 h5
 omega
theorem keep3V {w w':World} (k:Kp w w') {p0 p1 p2:Addr} {v0 v1 v2:Value} (h:w.cell? p0=some v0∧w.cell? p1=some v1∧w.cell? p2=some v2):w'.cell? p0=some v0∧w'.cell? p1=some v1∧w'.cell? p2=some v2:=⟨k.cell h.1,k.cell h.2.1,k.cell h.2.2⟩
def EndsO (w:World) (lo hi:Dy) (e:Ending) (w':World):Prop :=
 ∃ a1 c1 a2 c2,e=.returned (.tuple #[.agg #[.bool lo.neg,.slice a1 (limbs lo.m).length c1,.int .i64 lo.e],.agg #[.bool hi.neg,.slice a2 (limbs hi.m).length c2,.int .i64 hi.e]])∧(Rd w' a1 (limbs lo.m)∧(limbs lo.m).length≤c1∧c1≤maxLen)∧(Rd w' a2 (limbs hi.m)∧(limbs hi.m).length≤c2∧c2≤maxLen)∧Kp w w'
theorem r4ends_any (n d p:Nat) (w:World) (hn0:0<n) (hn:n≤1073741824) (hd0:0<d) (hd:d≤1073741824) (h8:8≤p) (h5:p≤512) :
   Calls Tryz.prog 241 #[.int .u64 n,.int .u64 d,.int .i64 p] w (EndsO w (dvP (intD n) (intD d) p false).1 (dvP (intD n) (intD d) p true).1):=by
 have k1:Kp w ((w.alloc (.cells #[.bool false,.slice none 0 0,.int .i64 0] 113)).alloc (.cells #[.bool false,.slice none 0 0,.int .i64 0] 113)):=((Kp.refl w).alloc _).alloc _
 have hb6:BoxV ((w.alloc (.cells #[.bool false,.slice none 0 0,.int .i64 0] 113)).alloc (.cells #[.bool false,.slice none 0 0,.int .i64 0] 113)) w.heap.size [.bool false,.slice none 0 0,.int .i64 0]:=(BoxV.new w [_,_,_] _ _ rfl).kp ((Kp.refl _).alloc _)
 have hb7:BoxV ((w.alloc (.cells #[.bool false,.slice none 0 0,.int .i64 0] 113)).alloc (.cells #[.bool false,.slice none 0 0,.int .i64 0] 113)) (w.heap.size+1) [.bool false,.slice none 0 0,.int .i64 0]:=BoxV.new _ [_,_,_] _ _ (by simp)
 go_enter Tryz.func241,Tryz.ntmps241
 go_upto_region 1 with fail
 generalize World.alloc _ _=W at *
 have HB6:=hid hb6
 have HB7:=hid hb7
 have K1:=hid k1
 clear hb6 hb7 k1
 have kE:Kp W (W.alloc (.cells #[] 213)):=(Kp.refl W).alloc _
 have hrE:Rd (W.alloc (.cells #[] 213)) (some ⟨W.heap.size,0,none⟩) []:=.nil _ _
 go_upto_region 5 with fail
 generalize World.alloc W (.cells #[] 213)=A at *
 have HRE:=hid hrE
 have KE:=hid kE
 clear hrE kE
 have hdne:¬ (d:Int)=0:=by omega
 go_loopw [8,9,11] (fun tm tr ti wr=>∃ (k:Nat) (ma:Option Addr) (mc:Nat) (ms:List Nat),k≤64∧ti=.int .i64 ((k:Int)-1)∧tr=.int .u64 ((n/2 ^ k % d:Nat):Int)∧tm=.slice ma ms.length mc∧val ms=n/2 ^ k/d∧ms.length≤2*(64-k)∧Rd wr ma ms∧Kp W wr) (fun _ _ ti _=>(intOf ti+1).toNat)
 case atStart =>
   have hz : n / 2 ^ 64 = 0 := Nat.div_eq_of_lt (by have : (2 : Nat) ^ 64 = 18446744073709551616 := by decide
                                                    omega)
   exact⟨64,_,_,[],Nat.le_refl _,rfl,by rw[hz,Nat.zero_mod];rfl,rfl,by rw[hz,Nat.zero_div];rfl,by simp,HRE.out,KE.out⟩
 case round =>
 obtain⟨k,ma,mc,ms,hk,rfl,rfl,rfl,hmv,hml,hrd,hkp⟩:=hrel
 have Hmv:=hid hmv
 have Hml:=hid hml
 have HRd:=hid hrd
 have HKp:=hid hkp
 clear hmv hml hrd hkp
 rcases k with _ | k
 rotate_left
 · rw[show (((k+1:Nat):Int)-1)=(k:Int) from by omega]
   have hb:=bit64 (x:=n) (r:=k) (by omega)
   have HN:=hid (shr_next n k)
   have hbl:n/2 ^ k % 2≤1:=by have:=Nat.mod_lt (n/2 ^ k) (show 0<2 by decide);omega
   have hrl:=Nat.mod_lt (n/2 ^ (k+1)) hd0
   have HLs:=hid (long_step (b:=n/2 ^ k % 2) hd0 (Nat.div_add_mod (n/2 ^ (k+1)) d).symm)
   have HQs:=hid (quo_small2 hrl hbl)
   generalize hB:n/2 ^ k % 2=b at *
   generalize hR:n/2 ^ (k+1) % d=r at *
   generalize hQ:n/2 ^ (k+1)/d=Q at *
   generalize hN1:n/2 ^ (k+1)=N1 at *
   clear hB hR hQ hN1
   have hq:(2*(r:Int)+(b:Int))/(d:Int)=(((2*r+b)/d:Nat):Int):=by rw[Int.natCast_ediv,Int.natCast_add,Int.natCast_mul];rfl
   have hr2:(2*(r:Int)+(b:Int)) % (d:Int)=(((2*r+b) % d:Nat):Int):=by rw[Int.natCast_emod,Int.natCast_add,Int.natCast_mul];rfl
   generalize hQ2:(2*r+b)/d=q at *
   generalize hR2:(2*r+b) % d=r2 at *
   clear hQ2 hR2
   have hrs:=HRd.out.kp ((Kp.refl wr).alloc (.cells #[] 213))
   have hmm:ms.length≤1000:=by have:=Hml.out;omega
   go_upto_region 10 with fail
   go_upto_region 11 with (first
     | (at_builtin;refine wpList_append_u32s rfl _ _ rfl wr.heap.size _ [] rfl (Own.empty wr _ (Nat.le_refl _)) ma ms mc rfl hrs (by simp;omega) (by simp) ?_;intro a2 c2 w2 hown2 hb2;simp only[List.nil_append,List.length_nil,Nat.zero_add] at hown2 ⊢;obtain⟨_,_,_,hrw⟩:=hown2.rd;have hk2:Kp wr w2:=((Kp.refl wr).alloc _).below.trans hb2)
     | (go_at_call 266;refine (r4shifted_any a2 ms c2 w2 hrw (by omega)).mono ?_;rintro e w3 ⟨a3,c3,zs,rfl,hv3,hl3,_,_,hr3,k3⟩)
     | fail)
   have HK3:=hid (HKp.out.trans (hk2.trans k3))
   have HZ:=hid (And.intro hv3 hr3)
   clear hown2 hb2 hrw hk2 k3 hrs hv3 hr3 hb
   rcases HQs.out with hq0 | hq1
   · have hq0b:((q:Int)==1)=false:=by rw[hq0];rfl
     have H0:=hid hq0
     clear hq0
     go_wp2_with fail
     go_roundw
     case measure=>simp only[intOf];omega
     case rel =>
     refine⟨k,a3,c3,zs,by omega,by first | rfl | go_num,by rw[HN.out,HLs.out.2],rfl,?_,by have:=Hml.out;omega,HZ.out.2,HK3.out⟩
     rw[HZ.out.1,Hmv.out,HN.out,HLs.out.1,H0.out,Nat.add_zero]
   have hq1b:((q:Int)==1)=true:=by rw[hq1];rfl
   have H1:=hid hq1
   clear hq1
   have hzz:zs.length≤1000000:=by omega
   have HSt:=hid (r4set_any a3 zs c3 w3 HZ.out.2 hzz (by rw[HZ.out.1];omega))
   go_wp2_with (first | (go_at_call 267;refine HSt.out.mono ?_;rintro e w4 ⟨a4,c4,ys,rfl,hv4,hl4,_,_,hr4,k4⟩) | fail)
   go_roundw
   case measure=>simp only[intOf];omega
   case rel =>
   refine⟨k,a4,c4,ys,by omega,by first | rfl | go_num,by rw[HN.out,HLs.out.2],rfl,?_,by have:=Hml.out;omega,hr4,HK3.out.trans k4⟩
   rw[hv4,HZ.out.1,Hmv.out,HN.out,HLs.out.1,H1.out]
 rw[show (((0:Nat):Int)-1)=-1 from rfl]
 have e0:n/2 ^ 0=n*2 ^ 0:=by rw[Nat.pow_zero,Nat.div_one,Nat.mul_one]
 rw[e0] at Hmv ⊢
 clear e0
 go_upto_region 13 with fail
 go_loopw [8,9,10] (fun tm tr te wr=>∃ (s:Nat) (ma:Option Addr) (mc:Nat) (ms:List Nat),s≤p+31∧te=.int .i64 (-(s:Int))∧tr=.int .u64 ((n*2 ^ s % d:Nat):Int)∧tm=.slice ma ms.length mc∧val ms=n*2 ^ s/d∧ms.length≤128+2*s∧Rd wr ma ms∧Kp W wr) (fun _ _ te _=>(p+32)-(-(intOf te)).toNat)
 case atStart=>exact⟨0,ma,mc,ms,by omega,rfl,rfl,rfl,Hmv.out,by have:=Hml.out;omega,HRd.out,HKp.out⟩
 case round =>
 obtain⟨s,ma,mc,ms,hs,rfl,rfl,rfl,hmv,hml,hrd,hkp⟩:=hrel
 have Hmv:=hid hmv
 have Hml:=hid hml
 have HRd:=hid hrd
 have HKp:=hid hkp
 clear hmv hml hrd hkp
 have hmm:ms.length≤3000:=by have:=Hml.out;omega
 have hBi:=r4bits_any ma ms mc wr HRd.out (by omega)
 rw[Hmv.out] at hBi
 have HBi:=hid hBi
 clear hBi
 by_cases hlt:bits (n*2 ^ s/d)<p
 · have hsb:=end_bound hn0 hd hd0 hlt
   have HDb:=hid (dbl_quo (n:=n) (s:=s) hd0)
   have hrl:=Nat.mod_lt (n*2 ^ s) hd0
   have hlt2:(bits (n*2 ^ s/d):Int)<(p:Int):=by omega
   generalize hB:bits (n*2 ^ s/d)=bq at *
   generalize hR:n*2 ^ s % d=r at *
   generalize hQ:n*2 ^ s/d=Q at *
   clear hB hR hQ hlt
   go_upto_region 16 with (first
     | (go_at_call 268;refine HBi.out.mono ?_;rintro e w2 ⟨rfl,rfl⟩)
     | (go_at_call 266;refine (r4shifted_any ma ms mc wr HRd.out (by omega)).mono ?_;rintro e w3 ⟨a3,c3,zs,rfl,hv3,hl3,_,_,hr3,k3⟩)
     | fail)
   have HK3:=hid (HKp.out.trans k3)
   have HZ:=hid (And.intro hv3 hr3)
   clear k3 hv3 hr3
   by_cases hge:d≤2*r
   rotate_left
   · have hge2:¬ (d:Int)≤2*(r:Int):=by omega
     have hq0:2*r/d=0:=Nat.div_eq_of_lt (by omega)
     have hr0:2*r % d=2*r:=Nat.mod_eq_of_lt (by omega)
     rw[hq0,hr0] at HDb
     clear hq0 hr0 hge
     go_wp2_with fail
     go_roundw
     case measure=>simp only[intOf];omega
     case rel =>
     refine⟨s+1,a3,c3,zs,by omega,by first | (congr 1;omega) | go_num,by rw[HDb.out.2];first | rfl | (congr 1;omega) | go_num,rfl,?_,by have:=Hml.out;omega,HZ.out.2,HK3.out⟩
     rw[HZ.out.1,Hmv.out,HDb.out.1,Nat.add_zero]
   have hge2:(d:Int)≤2*(r:Int):=by omega
   have hq1:2*r/d=1:=(Nat.div_eq_iff hd0).2 (by omega)
   have hr1:2*r % d=2*r-d:=by
     have:=Nat.div_add_mod (2*r) d
     rw[hq1] at this
     omega
   rw[hq1,hr1] at HDb
   clear hq1 hr1 hge
   have hzz:zs.length≤1000000:=by omega
   have HSt:=hid (r4set_any a3 zs c3 w3 HZ.out.2 hzz (by rw[HZ.out.1];omega))
   go_wp2_with (first | (go_at_call 267;refine HSt.out.mono ?_;rintro e w4 ⟨a4,c4,ys,rfl,hv4,hl4,_,_,hr4,k4⟩) | fail)
   go_roundw
   case measure=>simp only[intOf];omega
   case rel =>
   refine⟨s+1,a4,c4,ys,by omega,by first | (congr 1;omega) | go_num,by rw[HDb.out.2];first | (congr 1;omega) | go_num,rfl,?_,by have:=Hml.out;omega,hr4,HK3.out.trans k4⟩
   rw[hv4,HZ.out.1,Hmv.out,HDb.out.1]
 have hpb:p≤bits (n*2 ^ s/d):=by omega
 obtain⟨low,hlow⟩:∃ low,bits (n*2 ^ s/d)=low+p:=⟨bits (n*2 ^ s/d)-p,by omega⟩
 have h31:(2:Nat) ^ 31=2147483648:=by decide
 have hn31:n<2 ^ 31:=by omega
 have hd31:d<2 ^ 31:=by omega
 have hD0:=end_dvP (up:=false) hn0 hd0 hn31 hd31 hpb h8 h5 (by omega)
 have hD1:=end_dvP (up:=true) hn0 hd0 hn31 hd31 hpb h8 h5 (by omega)
 rw[show bits (n*2 ^ s/d)-p=low by omega] at hD0 hD1
 have HE0:=hid (show (dvP (intD n) (intD d) p false).1=canon false (n*2 ^ s/d/2 ^ low) ((low:Int)-s) by rw[hD0];unfold endM;simp)
 have HE1:=hid (show (dvP (intD n) (intD d) p true).1=canon false (if (decide (n*2 ^ s % d=0)&&decide (n*2 ^ s/d % 2 ^ low=0))=true then n*2 ^ s/d/2 ^ low else n*2 ^ s/d/2 ^ low+1) ((low:Int)-s) by
   rw[hD1]
   unfold endM endX
   cases (decide (n*2 ^ s % d=0)&&decide (n*2 ^ s/d % 2 ^ low=0)) <;> rfl)
 have hlt2:¬ (bits (n*2 ^ s/d):Int)<(p:Int):=by omega
 rw[hlow] at HBi hlt2
 have hq31:low+p≤31+s:=by
   rw[← hlow]
   refine Nat.le_trans bits_quo_le ?_
   rw[bits_mul_pow (by omega)]
   have:=bits_small (n:=n) (k:=31) hn31
   omega
 have HQl:=hid (show n*2 ^ s/d<2 ^ (low+p) by rw[← hlow];exact lt_two_pow_bits _)
 clear hD0 hD1 hpb hlow hlt h31 hn31 hd31
 obtain⟨x0,hx0⟩:∃ x0:Bool,decide (n*2 ^ s % d=0)=x0:=⟨_,rfl⟩
 have hx0b:(((n*2 ^ s % d:Nat):Int)==0)=x0:=by
   rw[← hx0]
   by_cases h:n*2 ^ s % d=0
   · rw[h,decide_eq_true rfl];rfl
   · rw[decide_eq_false h];exact beq_eq_false_iff_ne.2 fun e=>h (Int.natCast_eq_zero.1 e)
 rw[hx0] at HE1
 clear hx0
 generalize hR:n*2 ^ s % d=r at *
 generalize hQ:n*2 ^ s/d=q at *
 clear hR hQ
 generalize (dvP (intD n) (intD d) p false).1=D0 at *
 generalize (dvP (intD n) (intD d) p true).1=D1 at *
 have HBt:=hid fun k (hk:k≤100000000) (X:World) (kx:Kp wr X)=>r4bit_any ma ms mc k X (HRd.out.kp kx) (by omega) hk
 rw[Hmv.out] at HBt
 obtain⟨X,hX⟩:∃ X:World,X=wr:=⟨_,rfl⟩
 subst hX
 have HKpp:=hid HKp.out
 go_upto_region 24 with (first
   | (go_at_call 268;refine HBi.out.mono ?_;rintro e w2 ⟨rfl,rfl⟩)
   | fail)
 clear hx0b
 go_loopw [15,16] (fun tv ti wr=>∃ (j:Nat) (v:Value) (zs:List Nat),ti=.int .i64 ((32*j:Nat):Int)∧tv=v∧32*j<p+32∧zs.length=j∧Own wr X.heap.size v zs∧val zs=q/2 ^ low % 2 ^ (32*j)∧Kp X wr) (fun _ ti _=>(p+32)-(intOf ti).toNat)
 case atStart=>exact⟨0,_,[],rfl,rfl,by omega,rfl,Own.nil _ _,by simp[val,Nat.mod_one],.refl _⟩
 case round =>
 obtain⟨j,v,zs,rfl,rfl,hj,hzl,hown,hvz,hkq⟩:=hrel
 obtain⟨a5,c5,rfl,l5,m5,r5⟩:=hown.value
 have Hvz:=hid hvz
 have Hzl:=hid hzl
 have HOw:=hid hown
 have HKq:=hid hkq
 have H5:=hid (And.intro (And.intro l5 m5) r5)
 clear hvz hzl hown hkq l5 m5 r5
 have HBt2:=hid fun k (hk:k≤100000000)=>HBt.out k hk wr HKq.out
 by_cases hlt:32*j<p
 · obtain⟨i,hi⟩:∃ i,i=32*j:=⟨_,rfl⟩
   rw[← hi]
   have hltb:(i:Int)<(p:Int):=by omega
   have Hi:=hid hi
   have hip:i<p:=by omega
   clear hi hlt
   go_upto_region 28 with fail
   go_loop [17,18] (fun tx tk=>∃ k:Nat,k≤32∧i+k≤p∧tk=.int .i64 k∧tx=.int .u32 ((q/2 ^ (low+i) % 2 ^ k:Nat):Int)) (fun _ tk=>32-(intOf tk).toNat)
   case atStart=>exact⟨0,by omega,by omega,rfl,by rw[Nat.pow_zero,Nat.mod_one];rfl⟩
   case round =>
   obtain⟨k,hk,hkp,rfl,rfl⟩:=hrel
   have hxk:=Nat.mod_lt (q/2 ^ (low+i)) (two_pow_pos k)
   by_cases hk32:k<32
   rotate_left
   · have hk2:k=32:=by omega
     subst hk2
     have HDg:=hid (digits_step (V:=q) (low:=low) Hzl.out Hvz.out)
     rw[← Hi.out] at HDg
     have hx32:q/2 ^ (low+i) % 2 ^ 32<4294967296:=Nat.mod_lt _ (by decide)
     clear hxk
     generalize hX:q/2 ^ (low+i) % 2 ^ 32=x at *
     clear hX
     have hzl2:zs.length+1≤9000000:=by have:=Hzl.out;have:=Hi.out;omega
     have hbs:=HKq.out.size
     have Hx:=hid hx32
     go_upto_region 25 with (at_builtin;refine wpList_append_u32 rfl _ _ rfl X.heap.size _ _ rfl (HOw.out.alloc _) _ _ rfl (World.cell?_alloc_new _ _ _ _) x rfl Hx.out hzl2 (by simp;omega) ?_;intro a2 c2 w2 hown2 hb2)
     have hk2:Kp X w2:=Below.trans (HKq.out.alloc _) hb2
     go_wp2
     go_roundw
     case measure=>have:=Hi.out;simp only[intOf];omega
     case rel=>exact⟨j+1,_,zs++[x],by have:=Hi.out;congr 1;omega,rfl,by have:=Hi.out;omega,by rw[List.length_append,Hzl.out];rfl,hown2,HDg.out,hk2⟩
   by_cases hkp2:i+k<p
   · have hkb:(i:Int)+(k:Int)<(p:Int):=by omega
     have HC:=hid (HBt2.out (low+i+k) (by omega))
     have hb1:q/2 ^ (low+i+k) % 2≤1:=by have:=Nat.mod_lt (q/2 ^ (low+i+k)) (show 0<2 by decide);omega
     have hor:=or_shl hxk hb1 hk32
     have HDs:=hid (digit_step q (low+i) k)
     generalize hB:q/2 ^ (low+i+k) % 2=b at *
     generalize hXX:q/2 ^ (low+i) % 2 ^ k=x at *
     have hcv:(b:Int) % 4294967296=b:=by omega
     have hor1:=hor.1
     clear hor hxk hB hXX
     go_wp2_with (first | (go_at_call 269;refine HC.out.mono ?_;rintro e w2 ⟨rfl,rfl⟩) | fail)
     go_round
     case measure=>simp[intOf];omega
     case rel=>exact⟨k+1,by omega,by omega,by go_num,by rw[HDs.out];first | rfl | simp⟩
   have hkb:¬ (i:Int)+(k:Int)<(p:Int):=by omega
   have HDg:=hid (digits_step (V:=q) (low:=low) Hzl.out Hvz.out)
   rw[← Hi.out] at HDg
   have hx32:q/2 ^ (low+i) % 2 ^ 32<4294967296:=Nat.mod_lt _ (by decide)
   have HEq:=hid (show q/2 ^ (low+i) % 2 ^ k=q/2 ^ (low+i) % 2 ^ 32 by
     have h1:q/2 ^ (low+i)<2 ^ k:=by
       refine (Nat.div_lt_iff_lt_mul (two_pow_pos _)).2 ?_
       rw[← Nat.pow_add,show k+(low+i)=low+p by omega]
       exact HQl.out
     rw[Nat.mod_eq_of_lt h1,Nat.mod_eq_of_lt (Nat.lt_of_lt_of_le h1 (Nat.pow_le_pow_right (by decide) (by omega)))])
   rw[HEq.out]
   clear HEq hxk
   generalize hX:q/2 ^ (low+i) % 2 ^ 32=x at *
   clear hX
   have hzl2:zs.length+1≤9000000:=by have:=Hzl.out;have:=Hi.out;omega
   have hbs:=HKq.out.size
   have Hx:=hid hx32
   go_upto_region 25 with (at_builtin;refine wpList_append_u32 rfl _ _ rfl X.heap.size _ _ rfl (HOw.out.alloc _) _ _ rfl (World.cell?_alloc_new _ _ _ _) x rfl Hx.out hzl2 (by simp;omega) ?_;intro a2 c2 w2 hown2 hb2)
   have hk2:Kp X w2:=Below.trans (HKq.out.alloc _) hb2
   go_wp2
   go_roundw
   case measure=>have:=Hi.out;simp only[intOf];omega
   case rel=>exact⟨j+1,_,zs++[x],by have:=Hi.out;congr 1;omega,rfl,by have:=Hi.out;omega,by rw[List.length_append,Hzl.out];rfl,hown2,HDg.out,hk2⟩
 have hltb:¬ ((32*j:Nat):Int)<(p:Int):=by omega
 have HVz:=hid (show val zs=q/2 ^ low by
   rw[Hvz.out]
   refine Nat.mod_eq_of_lt ?_
   refine Nat.lt_of_lt_of_le ?_ (Nat.pow_le_pow_right (by decide) (show p≤32*j by omega))
   refine (Nat.div_lt_iff_lt_mul (two_pow_pos low)).2 ?_
   rw[← Nat.pow_add,Nat.add_comm]
   exact HQl.out)
 clear hlt
 go_upto_region 33 with fail
 go_loop [14,19] (fun tx ti=>∃ (i:Nat) (x:Bool),i≤low∧ti=.int .i64 i∧tx=.bool x∧x=(x0&&decide (q % 2 ^ i=0))) (fun _ ti=>low-(intOf ti).toNat)
 case atStart=>exact⟨0,x0,by omega,rfl,rfl,by rw[Nat.pow_zero,Nat.mod_one,decide_eq_true rfl,Bool.and_true]⟩
 case round =>
 obtain⟨i,x,hi,rfl,rfl,hx⟩:=hrel
 have Hx:=hid hx
 clear hx
 by_cases hil:i<low
 · cases x with
   | false =>
     have HF:=hid (show false=(x0&&decide (q % 2 ^ (i+1)=0)) by
       have h:=Hx.out
       cases x0 with
       | false=>rfl
       | true =>
         rw[Bool.true_and] at h ⊢
         symm
         refine decide_eq_false fun h2=>?_
         rw[Nat.add_comm,mod_pow_add] at h2
         rw[decide_eq_true h2.1] at h
         cases h)
     go_wp2_with fail
     go_round
     case measure=>simp[intOf];omega
     case rel=>exact⟨i+1,false,by omega,by go_num,rfl,HF.out⟩
   | true =>
   have HC:=hid (HBt2.out i (by omega))
   have hb1:q/2 ^ i % 2≤1:=by have:=Nat.mod_lt (q/2 ^ i) (show 0<2 by decide);omega
   obtain⟨y,hy⟩:∃ y:Bool,decide (q/2 ^ i % 2=0)=y:=⟨_,rfl⟩
   have HT:=hid (show y=(x0&&decide (q % 2 ^ (i+1)=0)) by
     have h:=Hx.out.symm
     rw[Bool.and_eq_true] at h
     rw[h.1,Bool.true_and,← hy,decide_eq_decide,Nat.add_comm,mod_pow_add,Nat.pow_one]
     exact⟨fun h2=>⟨of_decide_eq_true h.2,h2⟩,fun h2=>h2.2⟩)
   have hyb:(((q/2 ^ i % 2:Nat):Int)==0)=y:=by
     rw[← hy]
     by_cases h:q/2 ^ i % 2=0
     · rw[h,decide_eq_true rfl];rfl
     · rw[decide_eq_false h];exact beq_eq_false_iff_ne.2 fun e=>h (Int.natCast_eq_zero.1 e)
   generalize q/2 ^ i % 2=b at *
   clear hy
   go_wp2_with (first | (go_at_call 269;refine HC.out.mono ?_;rintro e w2 ⟨rfl,rfl⟩) | fail)
   go_round
   case measure=>simp[intOf];omega
   case rel=>exact⟨i+1,y,by omega,by go_num,rfl,HT.out⟩
 have hil2:i=low:=by omega
 subst hil2
 rw[← Hx.out] at HE1
 have HMd:=hid fun (W':World) (k:Kp wr W')=>r4made_any false a5 zs c5 (-(s:Int)+(i:Int)) W' (H5.out.2.kp k) (by have:=Hzl.out;omega) (by omega) (by omega)
 rw[HVz.out] at HMd
 have hex:(i:Int)-s=-(s:Int)+(i:Int):=by omega
 rw[hex] at HE0 HE1
 clear hex
 rw[← HE0.out] at HMd
 have hw1:wrap64 (-(s:Int)+(i:Int))=-(s:Int)+(i:Int):=IntWalk.wrap64_in _ ⟨by omega,by omega⟩
 have hw2:IntKind.i64.wrap (-(s:Int)+(i:Int))=-(s:Int)+(i:Int):=IntWalk.i64_in _ (by omega)
 go_upto_region 37 with (first | (go_at_call 270;refine (HMd.out wr (.refl _)).mono ?_;rintro e w6 ⟨a6,c6,rfl,hr6,hl6,hm6,k6⟩) | fail)
 have kB:=(Kp.refl w6).alloc (.cells #[.bool D0.neg,.slice a6 (limbs D0.m).length c6,.int .i64 D0.e] 113)
 have hb20:BoxV (w6.alloc (.cells #[.bool D0.neg,.slice a6 (limbs D0.m).length c6,.int .i64 D0.e] 113)) w6.heap.size [.bool D0.neg,.slice a6 (limbs D0.m).length c6,.int .i64 D0.e]:=BoxV.new w6 [_,_,_] _ _ rfl
 have KB:=hid (k6.trans kB)
 have H6:=hid (And.intro (hr6.kp kB) (And.intro hl6 hm6))
 have HB20:=hid hb20
 have HY6:=hid k6.size
 clear hr6 hl6 hm6 k6 kB hb20
 generalize World.alloc w6 _=Y at *
 have HR6:=hid (HB6.out.kp (HKpp.out.trans (HKq.out.trans KB.out)))
 have HR7:=hid (HB7.out.kp (HKpp.out.trans (HKq.out.trans KB.out)))
 have KY:=hid (K1.out.trans (HKpp.out.trans (HKq.out.trans KB.out)))
 have HG:=hid (show w.heap.size+1<w6.heap.size by have:=(HB7.out.kp (HKpp.out.trans (HKq.out.trans KB.out))).2.2;have:=HB20.out.2.2;have h7:=HB7.out.2.2;have hs:=(HKpp.out.trans (HKq.out)).size;have:=HY6.out;omega)
 cases x with
 | true =>
   have HD:=hid (show D1=D0 by rw[HE1.out,HE0.out];rfl)
   go_upto_region 38 with fail
   have hG:=HG.out
   have kd:=(Kp.refl Y).drew
   have hSd:Y.drew.cell? ⟨w6.heap.size,0,none⟩=some (.bool D0.neg)∧Y.drew.cell? ⟨w6.heap.size,1,none⟩=some (.slice a6 (limbs D0.m).length c6)∧Y.drew.cell? ⟨w6.heap.size,2,none⟩=some (.int .i64 D0.e):=⟨(HB20.out.kp kd).cell 0 rfl,(HB20.out.kp kd).cell 1 rfl,(HB20.out.kp kd).cell 2 rfl⟩
   have HSd:=hid hSd
   refine wp_region_held_drew (S:=fun w'=>w'.cell? ⟨w6.heap.size,0,none⟩=some (.bool D0.neg)∧w'.cell? ⟨w6.heap.size,1,none⟩=some (.slice a6 (limbs D0.m).length c6)∧w'.cell? ⟨w6.heap.size,2,none⟩=some (.int .i64 D0.e)) (by kernel_rfl) hSd (fun hHeld=>?_)
   clear hSd
   generalize Y.drew=V at *
   refine tk 0 ?_;refine tk 1 ?_;(try simp only[aput])
   have hR:=HR6.out.kp kd
   have r0:=hR.cell 0 rfl
   have r1:=hR.cell 1 rfl
   have r2:=hR.cell 2 rfl
   have f0:=hR.2.1 0
   have f1:=hR.2.1 1
   have f2:=hR.2.1 2
   have HRR:=hid hR
   clear hR
   refine cm 2 (fun K hK=>?_)
   go_simp
   generalize hW8:((World.setCell _ _ _).setCell _ _).setCell _ _=W8
   obtain⟨hFW8,hKW8,hUW8⟩:=box3_set HRR.out (KY.out.trans kd) (show w.heap.size≤w.heap.size by omega) nofun nofun nofun _ _ _ hW8
   clear hW8 r0 r1 r2 f0 f1 f2 HRR
   have HS8:=hid (show W8.cell? ⟨w6.heap.size,0,none⟩=some (.bool D0.neg)∧W8.cell? ⟨w6.heap.size,1,none⟩=some (.slice a6 (limbs D0.m).length c6)∧W8.cell? ⟨w6.heap.size,2,none⟩=some (.int .i64 D0.e) from ⟨(hUW8.2.2.2.1 ⟨w6.heap.size,0,none⟩ (show w6.heap.size≠_ by omega)).trans HSd.out.1,(hUW8.2.2.2.1 ⟨w6.heap.size,1,none⟩ (show w6.heap.size≠_ by omega)).trans HSd.out.2.1,(hUW8.2.2.2.1 ⟨w6.heap.size,2,none⟩ (show w6.heap.size≠_ by omega)).trans HSd.out.2.2⟩)
   refine hK.out _ _ HS8.out (fun hHeld=>?_)
   clear hK K
   have hR:=(HR7.out.kp kd).upd hUW8 (show w.heap.size+1≠w.heap.size by omega)
   have r0:=hR.cell 0 rfl
   have r1:=hR.cell 1 rfl
   have r2:=hR.cell 2 rfl
   have f0:=hR.2.1 0
   have f1:=hR.2.1 1
   have f2:=hR.2.1 2
   have HRR:=hid hR
   clear hR
   refine cm 3 (fun K hK=>?_)
   go_simp
   generalize hW9:((World.setCell _ _ _).setCell _ _).setCell _ _=W9
   obtain⟨hFW9,hKW9,hUW9⟩:=box3_set HRR.out (hKW8) (show w.heap.size≤w.heap.size+1 by omega) nofun nofun nofun _ _ _ hW9
   clear hW9 r0 r1 r2 f0 f1 f2 HRR
   refine hK.out _ _ ⟨(hUW9.2.2.2.1 ⟨w6.heap.size,0,none⟩ (show w6.heap.size≠_ by omega)).trans HS8.out.1,(hUW9.2.2.2.1 ⟨w6.heap.size,1,none⟩ (show w6.heap.size≠_ by omega)).trans HS8.out.2.1,(hUW9.2.2.2.1 ⟨w6.heap.size,2,none⟩ (show w6.heap.size≠_ by omega)).trans HS8.out.2.2⟩ (fun hHeld=>?_)
   clear hK K
   refine wpAnyH_done (by kernel_rfl) ?_ _
   have hF6:=hFW8.upd hUW9 (by omega)
   have s0:=hF6.cell 0 rfl
   have s1:=hF6.cell 1 rfl
   have s2:=hF6.cell 2 rfl
   have t0:=hFW9.cell 0 rfl
   have t1:=hFW9.cell 1 rfl
   have t2:=hFW9.cell 2 rfl
   go_wp2
   refine bodyPost_ret (v:=.tuple #[.agg #[.bool D0.neg,.slice a6 (limbs D0.m).length c6,.int .i64 D0.e],.agg #[.bool D0.neg,.slice a6 (limbs D0.m).length c6,.int .i64 D0.e]]) (by simp[results,Tryz.results241,go_sem,s0,s1,s2,t0,t1,t2]) rfl ?_
   rw[HD.out]
   have hrd:=hUW9.2.1 _ _ (hUW8.2.1 _ _ (H6.out.1.kp kd))
   exact⟨a6,c6,a6,c6,rfl,⟨hrd,H6.out.2⟩,⟨hrd,H6.out.2⟩,hKW9⟩
 | false =>
 have hG:=HG.out
 have hzz:zs.length≤2000:=by have:=Hzl.out;omega
 have kd:=(Kp.refl Y).drew
 have hSd:Y.drew.cell? ⟨w6.heap.size,0,none⟩=some (.bool D0.neg)∧Y.drew.cell? ⟨w6.heap.size,1,none⟩=some (.slice a6 (limbs D0.m).length c6)∧Y.drew.cell? ⟨w6.heap.size,2,none⟩=some (.int .i64 D0.e):=⟨(HB20.out.kp kd).cell 0 rfl,(HB20.out.kp kd).cell 1 rfl,(HB20.out.kp kd).cell 2 rfl⟩
 have HSd:=hid hSd
 go_upto_region 39 with fail
 refine wp_region_held_drew (S:=fun w'=>w'.cell? ⟨w6.heap.size,0,none⟩=some (.bool D0.neg)∧w'.cell? ⟨w6.heap.size,1,none⟩=some (.slice a6 (limbs D0.m).length c6)∧w'.cell? ⟨w6.heap.size,2,none⟩=some (.int .i64 D0.e)) (by kernel_rfl) hSd (fun hHeld=>?_)
 clear hSd
 generalize Y.drew=V at *
 refine tk 0 ?_;refine tk 1 ?_;refine tk 3 ?_;refine tk 4 ?_;refine tk 5 ?_;(try simp only[aput])
 refine cm 2 (fun K hK=>?_)
 (go_simp;refine (r4next_any a5 zs c5 V ((H5.out.2.kp KB.out).kp kd) (by omega)).mono ?_;rintro e w7 ⟨a7,c7,ys,rfl,hv7,hl7,_,_,hr7,k7⟩)
 have HS7:=hid (keep3V k7 HSd.out)
 refine hK.out _ _ HS7.out (fun hHeld=>?_)
 clear hK K
 refine cm 6 (fun K hK=>?_)
 have hM2:=r4made_any false a7 ys c7 (-(s:Int)+(i:Int)) w7 hr7 (by omega) (by omega) (by omega)
 rw[hv7,HVz.out,show canon false (q/2 ^ i+1) (-(s:Int)+(i:Int))=D1 from HE1.out.symm] at hM2
 (go_simp;refine hM2.mono ?_;rintro e w8 ⟨a8,c8,rfl,hr8,hl8,hm8,k8⟩)
 have HS8:=hid (keep3V k8 HS7.out)
 refine hK.out _ _ HS8.out (fun hHeld=>?_)
 clear hK K
 have K78:=hid (kd.trans (k7.trans k8))
 have hR:=HR6.out.kp K78.out
 have r0:=hR.cell 0 rfl
 have r1:=hR.cell 1 rfl
 have r2:=hR.cell 2 rfl
 have f0:=hR.2.1 0
 have f1:=hR.2.1 1
 have f2:=hR.2.1 2
 have HRR:=hid hR
 clear hR
 refine cm 7 (fun K hK=>?_)
 go_simp
 generalize hW8:((World.setCell _ _ _).setCell _ _).setCell _ _=W8
 obtain⟨hFW8,hKW8,hUW8⟩:=box3_set HRR.out (KY.out.trans K78.out) (show w.heap.size≤w.heap.size by omega) nofun nofun nofun _ _ _ hW8
 clear hW8 r0 r1 r2 f0 f1 f2 HRR
 have HS9:=hid (show W8.cell? ⟨w6.heap.size,0,none⟩=some (.bool D0.neg)∧W8.cell? ⟨w6.heap.size,1,none⟩=some (.slice a6 (limbs D0.m).length c6)∧W8.cell? ⟨w6.heap.size,2,none⟩=some (.int .i64 D0.e) from ⟨(hUW8.2.2.2.1 ⟨w6.heap.size,0,none⟩ (show w6.heap.size≠_ by omega)).trans HS8.out.1,(hUW8.2.2.2.1 ⟨w6.heap.size,1,none⟩ (show w6.heap.size≠_ by omega)).trans HS8.out.2.1,(hUW8.2.2.2.1 ⟨w6.heap.size,2,none⟩ (show w6.heap.size≠_ by omega)).trans HS8.out.2.2⟩)
 refine hK.out _ _ HS9.out (fun hHeld=>?_)
 clear hK K
 have hR:=(HR7.out.kp K78.out).upd hUW8 (show w.heap.size+1≠w.heap.size by omega)
 have r0:=hR.cell 0 rfl
 have r1:=hR.cell 1 rfl
 have r2:=hR.cell 2 rfl
 have f0:=hR.2.1 0
 have f1:=hR.2.1 1
 have f2:=hR.2.1 2
 have HRR:=hid hR
 clear hR
 refine cm 8 (fun K hK=>?_)
 go_simp
 generalize hW9:((World.setCell _ _ _).setCell _ _).setCell _ _=W9
 obtain⟨hFW9,hKW9,hUW9⟩:=box3_set HRR.out (hKW8) (show w.heap.size≤w.heap.size+1 by omega) nofun nofun nofun _ _ _ hW9
 clear hW9 r0 r1 r2 f0 f1 f2 HRR
 refine hK.out _ _ ⟨(hUW9.2.2.2.1 ⟨w6.heap.size,0,none⟩ (show w6.heap.size≠_ by omega)).trans HS9.out.1,(hUW9.2.2.2.1 ⟨w6.heap.size,1,none⟩ (show w6.heap.size≠_ by omega)).trans HS9.out.2.1,(hUW9.2.2.2.1 ⟨w6.heap.size,2,none⟩ (show w6.heap.size≠_ by omega)).trans HS9.out.2.2⟩ (fun hHeld=>?_)
 clear hK K
 refine wpAnyH_done (by kernel_rfl) ?_ _
 have hF6:=hFW8.upd hUW9 (by omega)
 have s0:=hF6.cell 0 rfl
 have s1:=hF6.cell 1 rfl
 have s2:=hF6.cell 2 rfl
 have t0:=hFW9.cell 0 rfl
 have t1:=hFW9.cell 1 rfl
 have t2:=hFW9.cell 2 rfl
 go_wp2
 refine bodyPost_ret (v:=.tuple #[.agg #[.bool D0.neg,.slice a6 (limbs D0.m).length c6,.int .i64 D0.e],.agg #[.bool D1.neg,.slice a8 (limbs D1.m).length c8,.int .i64 D1.e]]) (by simp[results,Tryz.results241,go_sem,s0,s1,s2,t0,t1,t2]) rfl ?_
 have hrd:=hUW9.2.1 _ _ (hUW8.2.1 _ _ (H6.out.1.kp K78.out))
 have hrd2:=hUW9.2.1 _ _ (hUW8.2.1 _ _ hr8)
 exact⟨a6,c6,a8,c8,rfl,⟨hrd,H6.out.2⟩,⟨hrd2,hl8,hm8⟩,hKW9⟩
end Go.Proofs.YteidgoldnllabaaGreatDoor
