/-
  Walks: the fourth reference's bits, bit, shifted, set, next.
-/
import Derived.Test.YteidgoldnllabaaGreatDoorTRchN
import Derived.Test.YteidgoldnllabaaGreatDoorTSysN
import Derived.Test.YteidgoldnllabaaGreatDoorTIvlN
import Derived.Test.YteidgoldnllabaaGreatDoorTWalN
import Derived.Test.YteidgoldnllabaaGreatDoorTDotM
import Derived.Test.YteidgoldnllabaaGreatDoorTAwk4
import Derived.Test.YteidgoldnllabaaGreatDoorTEqfR
import Derived.Test.YteidgoldnllabaaGreatDoorTEqoN
set_option maxHeartbeats 4000000
set_option maxRecDepth 100000
namespace Go.Proofs.YteidgoldnllabaaGreatDoor
open Go.RowKit
open Lib (hid)
theorem bit1 {x r:Nat} {V n:Nat} (hx:x<4294967296) (h:x/2 ^ r % 2=V/2 ^ n % 2) (b:Bool) (hb:decide (V/2 ^ n % 2=1)=b):(Go.bits BinOp.and IntKind.u32 ((x:Int)/2 ^ r) 1==1)=b:=by
 rw[bit32 hx,h,← hb]
 have:V/2 ^ n % 2=0∨V/2 ^ n % 2=1:=by omega
 rcases this with h | h <;> rw[h] <;> rfl
theorem bits_hit {x j:Nat} (h:x<2 ^ (j+1)) (hb:x/2 ^ j % 2=1):bits x=j+1:=by
 have h1:2 ^ j≤x:=by
  refine Classical.byContradiction fun hn=>?_
  rw[Nat.div_eq_of_lt (by omega)] at hb
  cases hb
 exact bits_unique h (.inr (by simpa using h1))
theorem bits_miss {x j:Nat} (h:x<2 ^ (j+1)) (hb:¬ x/2 ^ j % 2=1):x<2 ^ j:=by
 refine Classical.byContradiction fun hn=>hb ?_
 have h1:=Nat.div_lt_of_lt_mul (m:=x) (n:=2 ^ j) (k:=2) (by rw[Nat.pow_succ] at h;omega)
 have h2:1≤x/2 ^ j:=(Nat.le_div_iff_mul_le (two_pow_pos j)).2 (by omega)
 omega
theorem r4bits_any (a:Option Addr) (xs:List Nat) (c:Nat) (w:World) (h:Rd w a xs) (hl:xs.length≤1100000) :
  Calls Tryz.prog 268 #[.slice a xs.length c] w fun e w'=>e=.returned (.int .i64 (bits (val xs)))∧w=w':=by
 go_enter Tryz.func268,Tryz.ntmps268
 go_wp2_with fail
 go_loop [3] (fun x=>∃ n:Nat,n≤xs.length∧x=.int .i64 ((n:Int)-1)∧∀ i,n≤i→i<xs.length→nth xs i=0) (fun x=>(intOf x+1).toNat)
 case atStart=>exact⟨xs.length,Nat.le_refl _,rfl,fun i h1 h2=>by omega⟩
 case round =>
 obtain⟨n,hn,rfl,hz⟩:=hrel
 have Hz:=hid hz;clear hz
 rcases n with _ | k
 ·rw[show (((0:Nat):Int)-1)=-1 from rfl]
  have HB:=hid (show bits (val xs)=0 by rw[val_zero_of h.lt32 Hz.out,bits_zero])
  go_wp2_with fail
  go_ret
  rw[HB.out]
  exact⟨rfl,rfl⟩
 rw[show (((k+1:Nat):Int)-1)=(k:Int) from by omega]
 obtain⟨b,o,rfl,hcell⟩:=h.some (i:=k) (by omega)
 have hx:=hcell k (by omega)
 have hnt:=h.lt32.nth k
 clear hcell
 go_wp2_with fail
 go_loop [4] (fun x=>∃ j:Nat,j≤32∧x=.int .i64 ((j:Int)-1)∧nth xs k<2 ^ j) (fun x=>(intOf x+1).toNat)
 case atStart=>exact⟨32,Nat.le_refl _,rfl,hnt⟩
 case round =>
 obtain⟨j,hj,rfl,hlt⟩:=hrel
 have Hlt:=hid hlt;clear hlt
 rcases j with _ | j
 ·rw[show (((0:Nat):Int)-1)=-1 from rfl]
  have H0:=hid (show nth xs k=0 by have:=Hlt.out;omega)
  go_wp2_with fail
  go_round
  case measure=>simp[intOf]
  case rel =>
  refine⟨k,by omega,by go_num,fun i h1 h2=>?_⟩
  by_cases hi:i=k
  ·rw[hi];exact H0.out
  exact Hz.out i (by omega) h2
 rw[show (((j+1:Nat):Int)-1)=(j:Int) from by omega]
 by_cases hb:nth xs k/2 ^ j % 2=1
 rotate_left
 ·have ht:=bit1 (r:=j) hnt rfl false (decide_eq_false hb)
  have HM:=hid (bits_miss Hlt.out hb)
  clear hb
  go_wp2_with fail
  go_round
  case measure=>simp[intOf]
  case rel=>exact⟨j,by omega,by go_num,HM.out⟩
 have ht:=bit1 (r:=j) hnt rfl true (decide_eq_true hb)
 have HB:=hid (show bits (val xs)=32*k+j+1 by
  have hx0:nth xs k≠0:=fun e=>by rw[e,Nat.zero_div] at hb;cases hb
  rw[bits_at h.lt32 (show k<xs.length by omega) Hz.out hx0,bits_hit Hlt.out hb]
  omega)
 clear hb
 go_wp2_with fail
 go_ret
 rw[HB.out]
 exact⟨by simp,rfl⟩
theorem r4bit_any (a:Option Addr) (xs:List Nat) (c n:Nat) (w:World) (h:Rd w a xs) (hl:xs.length≤1100000) (hn:n≤100000000) :
  Calls Tryz.prog 269 #[.slice a xs.length c,.int .i64 n] w fun e w'=>e=.returned (.int .i64 ((val xs/2 ^ n % 2:Nat):Int))∧w=w':=by
 obtain⟨R,hR⟩:∃ R:Int,R=((val xs/2 ^ n % 2:Nat):Int):=⟨_,rfl⟩
 have hR0:0≤R∧R≤1:=by omega
 rw[← hR]
 by_cases hq:n/32<xs.length
 rotate_left
 ·have hi3:(32*(xs.length:Int))≤(n:Int):=by omega
  have H0:=hid (show R=0 by
   have h2:=val_lt h.lt32
   rw[pow32] at h2
   rw[hR,Nat.div_eq_of_lt (Nat.lt_of_lt_of_le h2 (Nat.pow_le_pow_right (by decide) (by omega)))]
   rfl)
  clear hq hR hR0
  go_enter Tryz.func269,Tryz.ntmps269
  go_wp2_with fail
  go_ret
  rw[H0.out]
  exact⟨rfl,rfl⟩
 obtain⟨b,o,rfl,hcell⟩:=h.some hq
 have hk:=hcell (n/32) hq
 have hnb:=h.lt32.nth (n/32)
 have ht:Go.bits BinOp.and IntKind.u32 ((nth xs (n/32):Int)/2 ^ (n % 32)) 1=R:=by
  rw[bit32 hnb,hR,bit_nth h.lt32 n]
 have hi1:(0:Int)≤((n/32:Nat):Int):=by omega
 have hi2:((n/32:Nat):Int)<(xs.length:Int):=by omega
 have hi3:¬ (32*(xs.length:Int))≤(n:Int):=by omega
 have hw:wrap64 R=R:=IntWalk.wrap64_in _ ⟨by omega,by omega⟩
 clear hcell hR hR0 h hnb
 go_enter Tryz.func269,Tryz.ntmps269
 go_wp2_with fail
 go_ret
 exact⟨rfl,rfl⟩
def LimO (w:World) (V L:Nat) (e:Ending) (w':World):Prop :=
 ∃ a' c' zs,e=.returned (.slice a' (List.length zs) c')∧val zs=V∧zs.length≤L∧zs.length≤c'∧c'≤maxLen∧Rd w' a' zs∧Kp w w'
theorem dbl_step {zs xs:List Nat} {k c:Nat} (hz:zs.length=k) (h:val zs+4294967296 ^ k*c=2*val (xs.take k)) :
  val (zs++[(2*nth xs k+c) % 4294967296])+4294967296 ^ (k+1)*((2*nth xs k+c)/4294967296)=2*val (xs.take (k+1)):=by
 rw[val_snoc,hz,val_take_step xs,Nat.pow_succ,Nat.mul_assoc]
 generalize 4294967296 ^ k=P at *
 have e2:P*(2*nth xs k+c)=2*(P*nth xs k)+P*c:=by rw[Nat.mul_add,Nat.mul_left_comm]
 generalize 2*nth xs k+c=s at *
 have e:P*(s % 4294967296)+P*(4294967296*(s/4294967296))=P*s:=by
  rw[← Nat.mul_add];congr 1;omega
 omega
theorem r4shifted_any (a:Option Addr) (xs:List Nat) (c:Nat) (w:World) (h:Rd w a xs) (hl:xs.length≤1000000) :
  Calls Tryz.prog 266 #[.slice a xs.length c,.int .u64 0] w (LimO w (2*val xs) (xs.length+1)):=by
 go_enter Tryz.func266,Tryz.ntmps266
 go_wp2_with fail
 go_loopw [5,6,7] (fun v cy ix wr=>∃ (k cr:Nat) (zs:List Nat),k≤xs.length∧ix=.int .i64 k∧cy=.int .u32 cr∧cr≤1∧zs.length=k∧Own wr w.heap.size v zs∧val zs+4294967296 ^ k*cr=2*val (xs.take k)∧Kp w wr) (fun _ _ ix _=>xs.length-(intOf ix).toNat)
 case atStart=>exact⟨0,0,[],Nat.zero_le _,rfl,rfl,by omega,rfl,Own.nil _ _,by simp[val],.refl _⟩
 case round =>
 obtain⟨k,cr,zs,hk,rfl,rfl,hcr,hzl,hown,hvz,hkp⟩:=hrel
 have Hvz:=hid hvz
 have Hzl:=hid hzl
 have hzl2:zs.length+1≤9000000:=by omega
 clear hvz hzl
 by_cases hlt:k<xs.length
 ·obtain⟨b2,o2,rfl,hcx⟩:=(h.kp hkp).some (i:=k) (by omega)
  have hx1:=hcx k (by omega)
  have bx:=h.lt32.nth k
  have hor:=hid (or_one (z:=nth xs k) hcr)
  have HS:=hid (dbl_step (c:=cr) Hzl.out Hvz.out)
  clear hcx
  go_upto_region 7 with (at_builtin;refine wpList_append_u32 rfl _ _ rfl w.heap.size _ _ rfl (hown.alloc _) _ _ rfl (World.cell?_alloc_new _ _ _ _) ((2*nth xs k+cr) % 4294967296) hor.out (Nat.mod_lt _ (by decide)) hzl2 (by have:=hkp.size;simp;omega) ?_;intro a2 c2 w2 hown2 hb2)
  have hx2:Kp w w2:=(hkp.alloc _).below.trans hb2
  obtain⟨b3,o3,e3,hcy⟩:=(h.kp hx2).some (i:=k) (by omega)
  cases e3
  have hx3:=hcy k (by omega)
  have hcy2:(nth xs k:Int)/2 ^ 31=(((2*nth xs k+cr)/4294967296:Nat):Int):=by omega
  clear hcy hx1
  go_wp2_with fail
  go_roundw
  case measure=>simp[intOf];omega
  case rel=>exact⟨k+1,(2*nth xs k+cr)/4294967296,_,by omega,by go_num,by first | rw[← hcy2];rfl | simp[← hcy2],by omega,by simp[Hzl.out],hown2,HS.out,hx2⟩
 have hke:k=xs.length:=by omega
 have e2:=Hvz.out
 rw[hke,List.take_of_length_le (Nat.le_refl _)] at e2
 have E2:=hid e2
 have Hke:=hid hke
 clear e2 hke
 rcases (show cr=0∨cr=1 by omega) with h0 | h0
 ·subst h0
  obtain⟨a5,c5,e5,l5,m5,r5⟩:=hown.value
  subst e5
  have HF:=hid (And.intro (And.intro l5 m5) r5)
  have HK:=hid hkp
  clear l5 m5 r5 hkp hown
  go_wp2_with fail
  go_ret
  exact⟨a5,c5,zs,rfl,by have:=E2.out;omega,by have:=Hzl.out;have:=Hke.out;omega,HF.out.1.1,HF.out.1.2,HF.out.2,HK.out⟩
 subst h0
 have HV:=hid (show val (zs++[1])=2*val xs by
  rw[val_snoc,Hzl.out,Hke.out];exact E2.out)
 go_wp2_with (at_builtin;refine wpList_append_u32 rfl _ _ rfl w.heap.size _ _ rfl (hown.alloc _) _ _ rfl (World.cell?_alloc_new _ _ _ _) 1 rfl (by decide) hzl2 (by have:=hkp.size;simp;omega) ?_;intro a2 c2 w2 hown2 hb2)
 have hx2:Kp w w2:=(hkp.alloc _).below.trans hb2
 obtain⟨a5,c5,e5,l5,m5,r5⟩:=hown2.value
 go_ret
 exact⟨a5,c5,zs++[1],by rw[← e5];rfl,HV.out,by rw[List.length_append,Hzl.out,Hke.out];exact Nat.le_refl _,l5,m5,r5,hx2⟩
theorem Own.setc {w:World} {base g n c:Nat} {xs:List Nat} (h:Own w base (.slice (some ⟨g,0,none⟩) n c) xs) {i x:Nat} (hx:x<4294967296) {e:Int} (he:e=x):Own (w.setCell ⟨g,i,none⟩ (.int .u32 e)) base (.slice (some ⟨g,0,none⟩) n c) (xs.set i x):=by
 subst he
 obtain⟨hl,h2,h3⟩:=h
 refine⟨hl.set i x hx,by rw[List.length_map,List.length_set];omega,?_⟩
 rcases h3 with ⟨h4,_⟩ | ⟨g',cap,cur,h4,hb,hg,hn,hc,hs,ht⟩
 ·cases h4
 cases h4
 refine .inr ⟨g,c,cur.setIfInBounds i (.int .u32 (x:Int)),by rw[List.length_set],hb,heap_setCell_same w g i _ _ _ hg,by rw[List.length_set];exact hn,hc,by simpa using hs,?_⟩
 rw[Array.toList_setIfInBounds,List.length_set,List.take_set,ht,List.map_set]
theorem or_one_even {x:Nat} (hx:x<4294967296) (h:x % 2=0):Go.bits BinOp.or IntKind.u32 (x:Int) 1=((x+1:Nat):Int):=by
 have h1:=u32_or_nat x 1 hx (by decide)
 have h2:=or_bit (o:=x) (r:=0) (by rw[Nat.pow_zero,Nat.div_one];exact h)
 rw[Nat.pow_zero] at h2
 rw[h2] at h1
 exact h1
theorem val_even {xs:List Nat} {n:Nat} (hl:xs.length=n+1) (h:val xs % 2=0):nth xs 0 % 2=0:=by
 cases xs with
 | nil=>simp at hl
 | cons x t =>
 rw[val_cons] at h
 rw[nth_cons_zero]
 omega
theorem r4set_any (a:Option Addr) (xs:List Nat) (c:Nat) (w:World) (h:Rd w a xs) (hl:xs.length≤1000000) (hev:val xs % 2=0) :
  Calls Tryz.prog 267 #[.slice a xs.length c] w (LimO w (val xs+1) (xs.length+1)):=by
 by_cases h0:xs.length=0
 ·have hb:((xs.length:Int)==0)=true:=by rw[h0];rfl
  have HV:=hid (show val xs=0 by rw[List.length_eq_zero_iff.1 h0];rfl)
  have kw:Kp w (w.alloc (.cells #[.int .u32 1] 213)):=(Kp.refl w).alloc _
  have hr:Rd (w.alloc (.cells #[.int .u32 1] 213)) (some ⟨w.heap.size,0,none⟩) [1]:=⟨.cons (by decide) .nil,.inr ⟨w.heap.size,0,rfl,fun i hi=>by
   have:i=0:=by simpa using hi
   subst this
   exact World.cell?_alloc_new _ _ _ _⟩⟩
  clear h0
  go_enter Tryz.func267,Tryz.ntmps267
  go_wp2_with fail
  go_ret
  exact⟨_,_,[1],rfl,by rw[HV.out];rfl,by show (1:Nat)≤_;omega,Nat.le_refl _,by decide,hr,kw⟩
 have hb:((xs.length:Int)==0)=false:=by simpa using h0
 obtain⟨n,hn⟩:∃ n,xs.length=n+1:=⟨xs.length-1,by omega⟩
 have he:=val_even hn hev
 have hx:=h.lt32.nth 0
 have hor:=or_one_even hx he
 have HX:=hid hx
 have hr:=h.kp ((Kp.refl w).alloc (.cells #[] 213))
 have Hn:=hid hn
 have HE:=hid he
 have hpos:(0:Int)<(xs.length:Int):=by omega
 clear hn h0 he hx
 go_enter Tryz.func267,Tryz.ntmps267
 go_upto_region 4 with (at_builtin;refine wpList_append_u32s rfl _ _ rfl w.heap.size _ [] rfl (Own.empty w _ (Nat.le_refl _)) a xs c rfl hr (by simp;omega) (by simp) ?_;intro a2 c2 w2 hown2 hb2)
 rw[List.nil_append] at hown2
 have hlen2:([]:List Nat).length+xs.length=xs.length:=by simp
 rw[hlen2] at hown2
 obtain⟨g,rfl,hg,hp⟩:=Pre.of hown2 (by intro e;have:=Hn.out;rw[e] at this;cases this)
 have c0:=hp.cell (i:=0) (by have:=Hn.out;omega)
 have f0:=hp.frozen 0
 have hk2:Kp w w2:=((Kp.refl w).alloc _).below.trans hb2
 have HO:=hid hown2
 have HK:=hid (And.intro hk2 hg)
 clear hown2 hb2 hg hk2 hr h hp
 go_wp2_with fail
 go_ret
 have hO2:=HO.out.setc (i:=0) (x:=nth xs 0+1) (by have:=HX.out;have:=HE.out;omega) rfl
 obtain⟨_,l5,m5,r5⟩:=hO2.rd
 have hv:=val_set (xs:=xs) (i:=0) (x:=nth xs 0+1) (by have:=Hn.out;omega)
 refine⟨_,c2,xs.set 0 (nth xs 0+1),by rw[List.length_set];rfl,?_,by rw[List.length_set];omega,l5,m5,r5,HK.out.1.set HK.out.2 _⟩
 rw[Nat.pow_zero] at hv
 omega
theorem next_aux {V X P y S1 S0:Nat} (h:V+P=X+1) (hx:y<4294967296) (h1:S1+P*y=V+(P*y+P)) (h2:S0+P*y=V):(y+1<4294967296→S1=X+1)∧(¬ y+1<4294967296→S0+P*4294967296=X+1):=by
 refine⟨fun _=>by omega,fun hn=>?_⟩
 have e:y=4294967295:=by omega
 rw[e] at h2
 rw[show P*4294967296=P*4294967295+P from Nat.mul_succ P 4294967295,← Nat.add_assoc,h2,h]
theorem next_step {ys xs:List Nat} {k:Nat} (hk:k<ys.length) (h:val ys+4294967296 ^ k=val xs+1) (hx:nth ys k<4294967296) :
  (nth ys k+1<4294967296→val (ys.set k (nth ys k+1))=val xs+1)∧(¬ nth ys k+1<4294967296→val (ys.set k 0)+4294967296 ^ (k+1)=val xs+1):=by
 have h1:=val_set (xs:=ys) (i:=k) (x:=nth ys k+1) hk
 have h2:=val_set (xs:=ys) (i:=k) (x:=0) hk
 rw[Nat.mul_add,Nat.mul_one] at h1
 rw[Nat.mul_zero,Nat.add_zero] at h2
 rw[Nat.pow_succ]
 exact next_aux h hx h1 h2
theorem r4next_any (a:Option Addr) (xs:List Nat) (c:Nat) (w:World) (h:Rd w a xs) (hl:xs.length≤1000000) :
  Calls Tryz.prog 271 #[.slice a xs.length c] w (LimO w (val xs+1) (xs.length+1)):=by
 have hr:=h.kp ((Kp.refl w).alloc (.cells #[] 213))
 have H32:=hid h.lt32
 go_enter Tryz.func271,Tryz.ntmps271
 go_upto_region 2 with (at_builtin;refine wpList_append_u32s rfl _ _ rfl w.heap.size _ [] rfl (Own.empty w _ (Nat.le_refl _)) a xs c rfl hr (by simp;omega) (by simp) ?_;intro a2 c2 w2 hown2 hb2)
 rw[List.nil_append] at hown2
 have hlen2:([]:List Nat).length+xs.length=xs.length:=by simp
 rw[hlen2] at hown2
 first | rw[hlen2] | skip
 have hk2:Kp w w2:=((Kp.refl w).alloc _).below.trans hb2
 have HO:=hid hown2
 have HK:=hid hk2
 clear hown2 hb2 hk2 hr h
 go_upto_region 3 with fail
 go_loopw [4] (fun ix wr=>∃ (k:Nat) (ys:List Nat),k≤xs.length∧ix=.int .i64 k∧ys.length=xs.length∧Own wr w.heap.size (.slice a2 xs.length c2) ys∧val ys+4294967296 ^ k=val xs+1∧Kp w wr) (fun ix _=>xs.length-(intOf ix).toNat)
 case atStart=>exact⟨0,xs,Nat.zero_le _,rfl,rfl,HO.out,by rw[Nat.pow_zero],HK.out⟩
 case round =>
 obtain⟨k,ys,hk,rfl,hyl,hown,hvy,hkp⟩:=hrel
 have Hvy:=hid hvy
 have Hyl:=hid hyl
 clear hvy
 by_cases hlt:k<xs.length
 rotate_left
 ·have hke:k=xs.length:=by omega
  have HV:=hid (show val (ys++[1])=val xs+1 by
   rw[val_snoc,Hyl.out,Nat.mul_one,← hke]
   exact Hvy.out)
  have hyl2:ys.length+1≤9000000:=by omega
  have hbs:=hkp.size
  go_wp2_with (at_builtin;refine wpList_append_u32 rfl _ _ rfl w.heap.size _ _ rfl (hown.alloc _) _ _ rfl (World.cell?_alloc_new _ _ _ _) 1 rfl (by decide) hyl2 (by simp;omega) ?_;intro a3 c3 w3 hown3 hb3)
  go_ret
  have hx2:Kp w w3:=(hkp.alloc _).below.trans hb3
  obtain⟨a5,c5,e5,l5,m5,r5⟩:=hown3.value
  exact⟨a5,c5,ys++[1],by rw[← e5,Hyl.out];rfl,HV.out,by rw[List.length_append,Hyl.out];exact Nat.le_refl _,l5,m5,r5,hx2⟩
 obtain⟨g,ha,hg,hp⟩:=Pre.of hown (by intro e;rw[e] at hyl;simp at hyl;omega)
 have hx:=hown.1.nth k
 have c0:=hp.cell (i:=k) (by omega)
 have f0:=hp.frozen k
 subst ha
 have HOw:=hid hown
 have HKg:=hid (And.intro hkp hg)
 have HNx:=hid (next_step (xs:=xs) (by rw[hyl];exact hlt) Hvy.out hx)
 have c1:∀ e:Int,(wr.setCell ⟨g,k,none⟩ (.int .u32 e)).cell? ⟨g,k,none⟩=some (.int .u32 e):=fun e=>World.cell?_setCell_same _ _ _ (by rw[c0])
 clear hown hkp hg hp hyl
 by_cases hlast:nth ys k+1<4294967296
 rotate_left
 ·have hw:((nth ys k:Int)+1) % 4294967296=0:=by omega
  have HV:=hid (HNx.out.2 hlast)
  clear hlast
  go_wp2_with fail
  have hO2:=HOw.out.setc (i:=k) (x:=0) (by decide) (e:=0) rfl
  go_roundw
  case measure=>simp[intOf];omega
  case rel=>exact⟨k+1,ys.set k 0,by omega,by go_num,by rw[List.length_set,Hyl.out],hO2,HV.out,HKg.out.1.set HKg.out.2 _⟩
 have hw:((nth ys k:Int)+1) % 4294967296=(nth ys k:Int)+1:=by omega
 have hne:(((nth ys k:Int)+1) != 0)=true:=by simp;omega
 have HV:=hid (HNx.out.1 hlast)
 have HL:=hid hlast
 clear hlast
 go_wp2_with fail
 go_ret
 have hO2:=HOw.out.setc (i:=k) (x:=nth ys k+1) HL.out (e:=(nth ys k:Int)+1) (by omega)
 obtain⟨_,l5,m5,r5⟩:=hO2.rd
 exact⟨_,c2,ys.set k (nth ys k+1),by rw[List.length_set,Hyl.out];rfl,HV.out,by rw[List.length_set,Hyl.out];omega,l5,m5,r5,HKg.out.1.set HKg.out.2 _⟩
section
open Go.RowKit Go.Sort
theorem box3_set {w W:World} {g:Nat} {v0 v1 v2:Value} (h:BoxV W g [v0,v1,v2]) (k:Kp w W) (hg:w.heap.size≤g) (n0:∀ n:Int,v0≠.int .u32 n) (n1:∀ n:Int,v1≠.int .u32 n) (n2:∀ n:Int,v2≠.int .u32 n) (x0 x1 x2:Value) {W':World} (hW:(((W.setCell ⟨g,0,none⟩ x0).setCell ⟨g,1,none⟩ x1).setCell ⟨g,2,none⟩ x2)=W') :
  BoxV W' g [x0,x1,x2]∧Kp w W'∧Upd g W W':=by
 subst hW
 have h1:=h.set (i:=0) (by simp) x0
 have h2:=h1.set (i:=1) (by simp) x1
 have h3:=h2.set (i:=2) (by simp) x2
 exact⟨h3,((k.set hg x0).set hg x1).set hg x2,(((Upd.refl g W).step (h.cell 0 rfl) n0 x0).step (h1.cell 1 rfl) n1 x1).step (h2.cell 2 rfl) n2 x2⟩
end
theorem or_shl {x b k:Nat} (hx:x<2 ^ k) (hb:b≤1) (hk:k<32):Go.bits BinOp.or IntKind.u32 (x:Int) ((b:Int)*2 ^ k % 4294967296)=((x+b*2 ^ k:Nat):Int)∧x+b*2 ^ k<2 ^ (k+1):=by
 have h32:2 ^ (k+1)≤2 ^ 32:=Nat.pow_le_pow_right (by decide) (by omega)
 have hlt:x+b*2 ^ k<2 ^ (k+1):=by
   rw[Nat.pow_succ]
   rcases (show b=0∨b=1 by omega) with h | h <;> subst h <;> omega
 refine⟨?_,hlt⟩
 have e:(b:Int)*2 ^ k % 4294967296=((b*2 ^ k:Nat):Int):=by
   rw[show (2:Int) ^ k=((2 ^ k:Nat):Int) from by push_cast;rfl,← Int.natCast_mul]
   have:b*2 ^ k<4294967296:=by
     have h2:(2:Nat) ^ 32=4294967296:=by decide
     omega
   omega
 rw [e, u32_or_nat _ _ (by have h2 : (2 : Nat) ^ 32 = 4294967296 := by decide
                           omega) (by have h2 : (2 : Nat) ^ 32 = 4294967296 := by decide
                                      omega),Nat.or_comm,nat_join k _ _ (Nat.mul_mod_left _ _) hx,Nat.add_comm]
theorem digit_step (V i k:Nat):V/2 ^ i % 2 ^ (k+1)=V/2 ^ i % 2 ^ k+V/2 ^ (i+k) % 2*2 ^ k:=by
 rw[Nat.mod_pow_succ,Nat.div_div_eq_div_mul,← Nat.pow_add,Nat.mul_comm (2 ^ k)]
theorem digits_step {zs:List Nat} {V low j:Nat} (hz:zs.length=j) (h:val zs=V/2 ^ low % 2 ^ (32*j)):val (zs++[V/2 ^ (low+32*j) % 2 ^ 32])=V/2 ^ low % 2 ^ (32*(j+1)):=by
 rw[val_snoc,hz,h,pow32,show 32*(j+1)=32*j+32 by omega,Nat.pow_add 2 (32*j) 32,Nat.mod_mul,Nat.div_div_eq_div_mul,← Nat.pow_add]
theorem digits_end {zs:List Nat} {X j:Nat} (h32:Lt32 zs) (hz:zs.length=j) (h:val zs=X % 2 ^ (32*j)) (h1:bits X≤32*j) (h2:32*j<bits X+32):zs=limbs X:=by
 have hX:X<2 ^ (32*j):=bits_le.1 h1
 rw[Nat.mod_eq_of_lt hX] at h
 have hl:(limbs X).length=j:=by
  have a1:(limbs X).length≤j:=limbs_length_le.2 (by rw[pow32];exact hX)
  have a2:¬ (limbs X).length≤j-1∨j=0:=by
   rcases Nat.eq_zero_or_pos j with h0 | h0
   ·exact .inr h0
   ·refine .inl fun hle=>?_
    have:=limbs_length_le.1 hle
    rw[pow32] at this
    have:=bits_le.2 this
    omega
  omega
 exact val_inj h32 (limbs_lt32 X) (hz.trans hl.symm) (h.trans (val_limbs X).symm)
theorem Own.setb {w:World} {base g i:Nat} {v:Value} {xs:List Nat} (h:Own w base v xs) (hg:g<base) (y:Value):Own (w.setCell ⟨g,i,none⟩ y) base v xs:=by
 exact⟨h.1,ownsRow_setCell_below h.2 (a:=⟨g,i,none⟩) hg y⟩
theorem BoxV.below {w w':World} {g B:Nat} {vs:List Value} (h:BoxV w g vs) (hb:Below B w w') (hg:g<B):BoxV w' g vs:=by
 have e:=hb.block g hg
 refine⟨fun j x hj=>?_,fun i=>?_,Nat.lt_of_lt_of_le h.2.2 hb.size⟩
 ·have:=h.1 j x hj
  unfold World.cell? at *
  rw[e];exact this
 have:=h.2.1 i
 unfold World.frozen? at *
 rw[e];exact this
theorem r4made_any (s:Bool) (a:Option Addr) (xs:List Nat) (c:Nat) (ex:Int) (w:World) (h:Rd w a xs) (hl:xs.length≤100000) (he0:-1000000≤ex) (he1:ex≤1000000) :
  Calls Tryz.prog 270 #[.bool s,.slice a xs.length c,.int .i64 ex] w (DyOut w (canon s (val xs) ex)):=by
 have k1:Kp w (w.alloc (.cells #[.bool false,.slice none 0 0,.int .i64 0] 113)):=(Kp.refl w).alloc _
 have hb6:BoxV (w.alloc (.cells #[.bool false,.slice none 0 0,.int .i64 0] 113)) w.heap.size [.bool false,.slice none 0 0,.int .i64 0]:=BoxV.new w [_,_,_] _ _ rfl
 have hbv:=bits_val_le h.lt32
 go_enter Tryz.func270,Tryz.ntmps270
 go_upto_region 1 with fail
 generalize World.alloc w _=W at *
 have HR:=hid (h.kp k1)
 have HB6:=hid hb6
 have K1:=hid k1
 have HBi:=hid (r4bits_any a xs c W HR.out (by omega))
 have H32:=hid h.lt32
 have HRw:=hid h
 clear hb6 k1 h
 generalize hV:val xs=V at *
 have HV:=hid hV
 clear hV
 by_cases h0:V=0
 ·have hz:((bits V:Int)==0)=true:=by rw[h0];rfl
  have hR:=HB6.out
  have r0:=hR.cell 0 rfl
  have r1:=hR.cell 1 rfl
  have r2:=hR.cell 2 rfl
  have f0:=hR.2.1 0
  have f1:=hR.2.1 1
  have f2:=hR.2.1 2
  have HRR:=hid hR
  have H0:=hid h0
  clear hR h0
  go_wp2_with (first | (go_at_call 268;refine HBi.out.mono ?_;rintro r w2 ⟨rfl,rfl⟩) | fail)
  generalize hW9:((World.setCell _ _ _).setCell _ _).setCell _ _=W9
  obtain⟨hF,hKw,hU⟩:=box3_set HRR.out K1.out (Nat.le_refl _) nofun nofun nofun _ _ _ hW9
  have s0:=hF.cell 0 rfl
  have s1:=hF.cell 1 rfl
  have s2:=hF.cell 2 rfl
  refine bodyPost_ret (v:=.agg #[.bool false,.slice none 0 0,.int .i64 0]) (by simp[results,Tryz.results270,go_sem,s0,s1,s2]) rfl ?_
  rw[H0.out,canon_zero]
  have hl0:limbs Dy.zero.m=[]:=limbs_zero
  exact⟨none,0,by rw[hl0];rfl,by rw[hl0];exact .nil _ _,by rw[hl0];exact Nat.le_refl _,by unfold maxLen;omega,hKw⟩
 have hz:((bits V:Int)==0)=false:=by
  have:=bits_pos h0
  simp;omega
 have H0:=hid h0
 have htz:=bits_of_nz h0
 clear h0
 go_upto_region 4 with (first | (go_at_call 268;refine HBi.out.mono ?_;rintro r w2 ⟨rfl,rfl⟩) | fail)
 have HBt:=hid fun n (hn:n≤100000000)=>r4bit_any a xs c n W HR.out (by omega) hn
 rw[HV.out] at HBt
 go_upto_region 5 with fail
 go_loop [8] (fun x=>∃ n:Nat,n≤tz V∧x=.int .i64 n∧V % 2 ^ n=0) (fun x=>tz V+1-(intOf x).toNat)
 case atStart=>exact⟨0,Nat.zero_le _,rfl,by simp[Nat.mod_one]⟩
 case round =>
 obtain⟨n,hn,rfl,hzn⟩:=hrel
 have Hz:=hid hzn
 have hle:=hid (tz_least H0.out hzn)
 have HC:=hid (HBt.out n (by omega))
 have hx:=Nat.mod_lt (V/2 ^ n) (show 0<2 by decide)
 clear hzn
 by_cases hbit:V/2 ^ n % 2=1
 rotate_left
 ·have h00:V/2 ^ n % 2=0:=by omega
  rw[h00] at HC
  have hz2:V % 2 ^ (n+1)=0:=by
   rw[Nat.add_comm,mod_pow_add]
   exact⟨Hz.out,by rw[Nat.pow_one];omega⟩
  have Hz2:=hid hz2
  have Hle2:=hid (tz_least H0.out hz2).1
  clear hbit h00 hz2 hx
  go_wp2_with (first | (go_at_call 269;refine HC.out.mono ?_;rintro r w2 ⟨rfl,rfl⟩) | fail)
  go_round
  case measure=>simp[intOf];omega
  case rel=>exact⟨n+1,Hle2.out,by go_num,Hz2.out⟩
 have Hn:=hid (hle.out.2 hbit)
 rw[hbit] at HC
 clear hbit hx
 go_upto_region 8 with (first | (go_at_call 269;refine HC.out.mono ?_;rintro r w2 ⟨rfl,rfl⟩) | fail)
 have hnz:=Hn.out
 subst hnz
 have hw1:IntKind.i64.wrap (ex+(tz V:Int))=ex+(tz V:Int):=IntWalk.i64_in _ (by omega)
 have k9:Kp W (W.alloc (.cells #[.bool s,.slice none 0 0,.int .i64 (ex+(tz V:Int))] 113)):=(Kp.refl W).alloc _
 have hb9:BoxV (W.alloc (.cells #[.bool s,.slice none 0 0,.int .i64 (ex+(tz V:Int))] 113)) W.heap.size [.bool s,.slice none 0 0,.int .i64 (ex+(tz V:Int))]:=BoxV.new W [_,_,_] _ _ rfl
 generalize hA:World.alloc W (.cells #[.bool s,.slice none 0 0,.int .i64 (ex+(tz V:Int))] 113)=A at *
 have HB9:=hid hb9
 have HA:=hid (K1.out.trans k9)
 have HB6A:=hid (HB6.out.kp k9)
 have HRA:=hid (HR.out.kp k9)
 have HWA:=hid (show w.heap.size<W.heap.size from HB6.out.2.2)
 have HBX:=hid (show bits (oddp V)+tz V=bits V from (bits_oddp H0.out).symm)
 have HOd:=hid (show V/2 ^ tz V=oddp V from rfl)
 clear hb9 k9 hA
 go_upto_region 9 with fail
 go_loopw [10] (fun z wr=>∃ (j:Nat) (v:Value) (zs:List Nat),z=.int .i64 ((tz V+32*j:Nat):Int)∧32*j<bits (oddp V)+32∧zs.length=j∧Own wr A.heap.size v zs∧val zs=V/2 ^ tz V % 2 ^ (32*j)∧BoxV wr W.heap.size [.bool s,v,.int .i64 (ex+(tz V:Int))]∧BoxV wr w.heap.size [.bool false,.slice none 0 0,.int .i64 0]∧Kp w wr∧A.heap.size≤wr.heap.size) (fun z _=>(bits V+32)-(intOf z).toNat)
 case atStart=>exact⟨0,_,[],by go_num,by omega,rfl,Own.nil _ _,by simp[val,Nat.mod_one],HB9.out,HB6A.out,HA.out,Nat.le_refl _⟩
 case round =>
 obtain⟨j,v,zs,rfl,hj,hzl,hown,hvz,h9,h6,hkp,hAs⟩:=hrel
 obtain⟨a5,c5,rfl,l5,m5,r5⟩:=hown.value
 have Hvz:=hid hvz
 have Hzl:=hid hzl
 have H9:=hid h9
 have H6:=hid h6
 have HRd:=hid (HRw.out.kp hkp)
 have HOw:=hid hown
 have HKp:=hid hkp
 have HAs:=hid hAs
 have H5:=hid (And.intro (And.intro l5 m5) r5)
 clear hvz hzl h9 h6 hown hkp hAs l5 m5 r5
 by_cases hlt:tz V+32*j<bits V
 rotate_left
 ·have HEnd:=hid (digits_end HOw.out.1 Hzl.out (X:=oddp V) (by rw[Hvz.out,HOd.out]) (by have:=HBX.out;omega) (by omega))
  have hlt2:¬ ((tz V+32*j:Nat):Int)<(bits V:Int):=by omega
  have q0:=H9.out.cell 0 rfl
  have q1:=H9.out.cell 1 rfl
  have q2:=H9.out.cell 2 rfl
  have hR:=H6.out
  have r0:=hR.cell 0 rfl
  have r1:=hR.cell 1 rfl
  have r2:=hR.cell 2 rfl
  have f0:=hR.2.1 0
  have f1:=hR.2.1 1
  have f2:=hR.2.1 2
  have HRR:=hid hR
  clear hlt hR
  go_wp2_with fail
  generalize hW9:((World.setCell _ _ _).setCell _ _).setCell _ _=W9
  obtain⟨hF,hKw,hU⟩:=box3_set HRR.out HKp.out (Nat.le_refl _) nofun nofun nofun _ _ _ hW9
  have s0:=hF.cell 0 rfl
  have s1:=hF.cell 1 rfl
  have s2:=hF.cell 2 rfl
  refine bodyPost_ret (v:=.agg #[.bool s,.slice a5 zs.length c5,.int .i64 (ex+(tz V:Int))]) (by simp[results,Tryz.results270,go_sem,s0,s1,s2]) rfl ?_
  have hc:canon s V ex=⟨s,oddp V,ex+tz V⟩:=by unfold canon;rw[if_neg H0.out]
  rw[hc]
  refine⟨a5,c5,by rw[← HEnd.out],?_,by rw[← HEnd.out];exact H5.out.1.1,H5.out.1.2,hKw⟩
  rw[← HEnd.out]
  exact hU.2.1 _ _ H5.out.2
 have hlt2:((tz V+32*j:Nat):Int)<(bits V:Int):=by omega
 have HBt2:=hid fun n (hn:n≤100000000)=>r4bit_any a xs c n wr HRd.out (by omega) hn
 rw[HV.out] at HBt2
 have hib:tz V+32*j≤4000000:=by omega
 have HLt:=hid hlt
 clear hlt
 obtain⟨i,hi⟩:∃ i,i=tz V+32*j:=⟨_,rfl⟩
 rw[← hi] at hlt2 hib HLt ⊢
 have Hi:=hid hi
 clear hi
 go_upto_region 13 with fail
 go_loop [11,12] (fun tx tk=>∃ k:Nat,k≤32∧tk=.int .i64 k∧tx=.int .u32 ((V/2 ^ i % 2 ^ k:Nat):Int)) (fun _ tk=>32-(intOf tk).toNat)
 case atStart=>exact⟨0,by omega,rfl,by rw[Nat.pow_zero,Nat.mod_one];rfl⟩
 case round =>
 obtain⟨k,hk,rfl,rfl⟩:=hrel
 have hxk:=Nat.mod_lt (V/2 ^ i) (two_pow_pos k)
 by_cases hk32:k<32
 ·have HC:=hid (HBt2.out (i+k) (by omega))
  have hb1:V/2 ^ (i+k) % 2≤1:=by have:=Nat.mod_lt (V/2 ^ (i+k)) (show 0<2 by decide);omega
  have hor:=or_shl hxk hb1 hk32
  have HDs:=hid (digit_step V i k)
  generalize hB:V/2 ^ (i+k) % 2=b at *
  generalize hX:V/2 ^ i % 2 ^ k=x at *
  have hcv:(b:Int) % 4294967296=b:=by omega
  have HOr:=hid hor
  have hor1:=hor.1
  have Hx:=hid hxk
  clear hor hxk hB hX
  go_wp2_with (first | (go_at_call 269;refine HC.out.mono ?_;rintro r w2 ⟨rfl,rfl⟩) | fail)
  go_round
  case measure=>simp[intOf];omega
  case rel=>exact⟨k+1,by omega,by go_num,by rw[HDs.out];first | rfl | simp⟩
 have hk2:k=32:=by omega
 subst hk2
 have HDg:=hid (digits_step (V:=V) (low:=tz V) Hzl.out Hvz.out)
 rw[← Hi.out] at HDg
 have hx32:V/2 ^ i % 2 ^ 32<4294967296:=hxk
 generalize hX:V/2 ^ i % 2 ^ 32=x at *
 clear hxk hX
 have q1:=H9.out.cell 1 rfl
 have hzl2:zs.length+1≤9000000:=by have:=Hzl.out;have:=Hi.out;omega
 have hbs:=HAs.out
 have Hx:=hid hx32
 go_upto_region 10 with (at_builtin;refine wpList_append_u32 rfl _ _ rfl A.heap.size _ _ rfl (HOw.out.alloc _) _ _ rfl (World.cell?_alloc_new _ _ _ _) x rfl Hx.out hzl2 (by simp;omega) ?_;intro a2 c2 w2 hown2 hb2;have hq9:=(H9.out.kp ((Kp.refl wr).alloc (.cells #[.int .u32 (x:Int)] 213))).below hb2 (by have:=HWA.out;have:=HA.out.size;have:=HB9.out.2.2;omega);have l1:=hq9.cell 1 rfl;have lf:=hq9.2.1 1;clear q1)
 have hk2:Kp w w2:=Below.trans (HKp.out.alloc _) (Below.mono hb2 HA.out.size)
 have h62:=(H6.out.kp ((Kp.refl wr).alloc (.cells #[.int .u32 (x:Int)] 213))).below hb2 (by have:=HA.out.size;have:=HWA.out;have:=HB9.out.2.2;omega)
 have hs2:A.heap.size≤w2.heap.size:=by have:=hb2.size;rw[World.size_alloc] at this;omega
 generalize hW8:World.setCell w2 _ _=W8
 have h92:BoxV W8 W.heap.size [.bool s,.slice a2 (zs.length+1) c2,.int .i64 (ex+(tz V:Int))]:=hW8▸hq9.set (by simp) _
 have h63:BoxV W8 w.heap.size [.bool false,.slice none 0 0,.int .i64 0]:=hW8▸h62.other (by have:=HWA.out;omega) _
 have ho3:Own W8 A.heap.size (.slice a2 (zs.length+1) c2) (zs++[x]):=hW8▸hown2.setb HB9.out.2.2 _
 have hk3:Kp w W8:=hW8▸hk2.set (Nat.le_of_lt HWA.out) _
 have hs3:A.heap.size≤W8.heap.size:=by rw[← hW8];simpa using hs2
 clear hW8 l1 lf hq9 hown2 hb2 h62 hk2 hs2
 go_wp2
 go_roundw
 case measure=>have:=HLt.out;simp only[intOf];omega
 case rel =>
 have hii:=Hi.out
 have hll:=HLt.out
 have hbb:=HBX.out
 exact⟨j+1,_,zs++[x],by congr 1;omega,by omega,by rw[List.length_append,Hzl.out];rfl,ho3,HDg.out,h92,h63,hk3,hs3⟩
section
def endX (n d s low:Nat):Bool:=decide (n*2 ^ s % d=0)&&decide (n*2 ^ s/d % 2 ^ low=0)
def endM (n d s low:Nat) (up:Bool):Nat:=if (up&&!endX n d s low)=true then n*2 ^ s/d/2 ^ low+1 else n*2 ^ s/d/2 ^ low
theorem mul_mod_mul (a b t:Nat) (ht:0<t):(a*t) % (b*t)=0↔a % b=0:=by
 rw[Nat.mul_mod_mul_right]
 constructor
 ·intro h
  rcases Nat.mul_eq_zero.1 h with h | h
  ·exact h
  omega
 intro h;rw[h,Nat.zero_mul]
theorem bits0_iff (x:Nat):0<bits x↔x≠0:=by
 constructor
 ·intro h h0;subst h0;rw[bits_zero] at h;omega
 exact bits_pos
theorem intD_pos {n:Nat} (hn:0<n):intD (n:Int)=⟨false,oddp n,(tz n:Int)⟩:=by
 unfold intD canon
 rw[decide_eq_false (show ¬ (n:Int)<0 by omega),Int.natAbs_natCast,if_neg (by omega)]
 congr 1
 omega
theorem bits_small {n k:Nat} (h:n<2 ^ k):bits n≤k:=bits_le.2 h
theorem bits_quo_le {a b:Nat}:bits (a/b)≤bits a:=bits_le.2 (Nat.lt_of_le_of_lt (Nat.div_le_self _ _) (lt_two_pow_bits a))
theorem end_rcut {n d s p j:Nat} {up:Bool} (hd:d≠0) (hp0:0<p) (hp:p≤bits (n*2 ^ s/d)) (hj:0<j) (hjb:s+j≤16000) (hn:n<2 ^ 31) :
  rcut (n*2 ^ (s+j)/d) (-((s+j:Nat):Int)) (decide (0<bits (n*2 ^ (s+j) % d))) p up=some (canon false (endM n d s (bits (n*2 ^ s/d)-p) up) ((bits (n*2 ^ s/d)-p:Nat)-(s:Int))):=by
 obtain⟨h1,h2⟩:=quo_more (m:=n) (K:=s) (d:=j) hd
 obtain⟨low,hlow⟩:∃ low,bits (n*2 ^ s/d)=low+p:=⟨bits (n*2 ^ s/d)-p,by omega⟩
 have hq0:n*2 ^ s/d≠0:=fun h=>by rw[h,bits_zero] at hp;omega
 have hN:bits (n*2 ^ (s+j)/d)=low+p+j:=by rw[bits_div (j:=j) (by rw[h1];exact hq0),h1,hlow]
 have hu:runit (n*2 ^ (s+j)/d) (-((s+j:Nat):Int)) p=(low:Int)-s:=by
  unfold runit;rw[hN];omega
 have hlo:rlow (n*2 ^ (s+j)/d) (-((s+j:Nat):Int)) ((low:Int)-s)=n*2 ^ s/d/2 ^ low:=by
  unfold rlow
  rw[if_neg (by omega),show ((low:Int)-s - -((s+j:Nat):Int)).toNat=j+low by omega,Nat.pow_add 2 j low,← Nat.div_div_eq_div_mul,h1]
 have hls:rlost (n*2 ^ (s+j)/d) (-((s+j:Nat):Int)) ((low:Int)-s)=!(decide (n*2 ^ (s+j)/d % 2 ^ j=0)&&decide (n*2 ^ s/d % 2 ^ low=0)):=by
  unfold rlost
  rw[decide_eq_false (show ¬ (low:Int)-s≤-((s+j:Nat):Int) by omega),show ((low:Int)-s - -((s+j:Nat):Int)).toNat=low+j by omega,Bool.not_false,Bool.true_and,← Bool.decide_and]
  congr 1
  rw[decide_eq_decide,mod_pow_add,h1]
 have hmo:(decide (0<bits (n*2 ^ (s+j) % d))||rlost (n*2 ^ (s+j)/d) (-((s+j:Nat):Int)) ((low:Int)-s))=!endX n d s low:=by
  rw[hls]
  unfold endX
  have h3:decide (n*2 ^ s % d=0)=(decide (n*2 ^ (s+j)/d % 2 ^ j=0)&&!decide (0<bits (n*2 ^ (s+j) % d))):=by
   rw[Bool.eq_iff_iff,Bool.and_eq_true,decide_eq_true_eq,decide_eq_true_eq,Bool.not_eq_true',decide_eq_false_iff_not]
   constructor
   ·intro h
    have h4:¬ 0<bits (n*2 ^ s % d):=fun h5=>(bits0_iff _).1 h5 h
    have h6:=fun x=>h4 (h2.1 x)
    exact⟨Classical.byContradiction fun h7=>h6 (.inr h7),fun h7=>h6 (.inl h7)⟩
   ·rintro ⟨h4,h5⟩
    refine Classical.byContradiction fun h6=>?_
    rcases h2.2 ((bits0_iff _).2 h6) with h7 | h7
    ·exact h5 h7
    ·exact h7 h4
  rw[h3]
  cases decide (0<bits (n*2 ^ (s+j) % d)) <;> cases decide (n*2 ^ (s+j)/d % 2 ^ j=0) <;> cases decide (n*2 ^ s/d % 2 ^ low=0) <;> rfl
 have hrq:rq (n*2 ^ (s+j)/d) (-((s+j:Nat):Int)) (decide (0<bits (n*2 ^ (s+j) % d))) p up=endM n d s low up:=by
  unfold rq endM
  rw[hu,hmo,hlo]
 have hle:endM n d s low up≤2 ^ p:=by rw[← hrq];exact rq_le
 have hb:bits (endM n d s low up)≤p+1:=bits_le.2 (Nat.lt_of_le_of_lt hle (Nat.pow_lt_pow_right (by decide) (by omega)))
 have hbn:low+p≤31+s:=by
  rw[← hlow]
  refine Nat.le_trans bits_quo_le ?_
  by_cases h0:n=0
  ·subst h0;rw[Nat.zero_mul,bits_zero];omega
  ·rw[bits_mul_pow h0];have:=bits_small hn;omega
 unfold rcut
 rw[hrq,hu,if_neg (by omega),hlow,show low+p-p=low by omega]
theorem end_dvP {n d s p:Nat} {up:Bool} (hn0:0<n) (hd0:0<d) (hn:n<2 ^ 31) (hd:d<2 ^ 31) (hp:p≤bits (n*2 ^ s/d)) (h8:8≤p) (h5:p≤512) (hs:s≤2000) :
  dvP (intD (n:Int)) (intD (d:Int)) p up=(canon false (endM n d s (bits (n*2 ^ s/d)-p) up) ((bits (n*2 ^ s/d)-p:Nat)-(s:Int)),0):=by
 have on:=oddp_spec (n:=n) (by omega)
 have od:=oddp_spec (n:=d) (by omega)
 have on0:=oddp_ne_zero (n:=n) (by omega)
 have od0:=oddp_ne_zero (n:=d) (by omega)
 have bn:=bits_oddp (n:=n) (by omega)
 have bd:=bits_oddp (n:=d) (by omega)
 have bn31:=bits_small hn
 have bd31:=bits_small hd
 rw[intD_pos hn0,intD_pos hd0]
 unfold dvP
 simp only
 rw[if_neg od0,if_neg on0]
 obtain⟨K0,hK0⟩:∃ K0,K0=((p:Int)+(2:Nat)+bits (oddp d)-bits (oddp n)).toNat:=⟨_,rfl⟩
 have hKi:p+2+bits (oddp d)≤bits (oddp n)+K0:=by omega
 have hKb:K0≤600:=by omega
 rw[← hK0,← quoR_more (d:=s+tz n+1) on0 od0 (by omega) (by omega)]
 unfold quoR rndS sgnR
 have e1:oddp n*2 ^ (K0+(s+tz n+1))*2 ^ tz d=n*2 ^ (s+(K0+tz d+1)):=by
  conv=>rhs;rw[on.2]
  rw[Nat.mul_assoc,Nat.mul_assoc,← Nat.pow_add,← Nat.pow_add]
  congr 2;omega
 have e2:oddp n*2 ^ (K0+(s+tz n+1))/oddp d=n*2 ^ (s+(K0+tz d+1))/d:=by
  rw[← e1]
  conv=>rhs;rhs;rw[od.2]
  rw[Nat.mul_div_mul_right _ _ (two_pow_pos _)]
 have e3:decide (0<bits (oddp n*2 ^ (K0+(s+tz n+1)) % oddp d))=decide (0<bits (n*2 ^ (s+(K0+tz d+1)) % d)):=by
  rw[decide_eq_decide,bits0_iff,bits0_iff]
  refine not_congr ?_
  rw[← e1]
  conv=>rhs;lhs;rhs;rw[od.2]
  rw[mul_mod_mul _ _ _ (two_pow_pos _)]
 rw[e2,e3,show (tz n:Int)-tz d-((K0+(s+tz n+1):Nat):Int)=-((s+(K0+tz d+1):Nat):Int) by omega]
 have ht:tz d≤31:=by omega
 rw[show (up != (false != false))=up by cases up <;> rfl,end_rcut (by omega) (by omega) hp (by omega) (by omega) hn]
 rfl
end
section
open Go.RowKit Go.Sort
theorem BoxV.upd {w W:World} {g g':Nat} {vs:List Value} (h:BoxV w g' vs) (hU:Upd g w W) (hn:g'≠g):BoxV W g' vs :=
 ⟨fun j v hj=>(hU.2.2.2.1 ⟨g',_,none⟩ hn).trans (h.1 j v hj),fun i=>(hU.1 _).trans (h.2.1 i),by rw[hU.2.2.2.2];exact h.2.2⟩
structure TapI {α:Type} (cells:α→List Value) (k:Nat) (W1 wr:World) (oa:Option Addr) (ops:List α) (oa':Option Addr) (zs:List α):Prop where
 row:RowV cells k wr wr.heap.size oa' zs
 fr:(oa'=oa∧zs=ops)∨∀ b o,oa'=some ⟨b,o,none⟩→W1.heap.size≤b
section
variable (nm:List ByteArray) (na:Option Addr) (nc:Nat) (ua:Option Addr) (m uc:Nat) (B:Nat)
end
end
end Go.Proofs.YteidgoldnllabaaGreatDoor
