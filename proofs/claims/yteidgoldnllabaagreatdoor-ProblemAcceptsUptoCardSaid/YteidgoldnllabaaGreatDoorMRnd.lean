/-
  Plain rounding of numbers m 2^e to p bits, no program in sight.
-/
import Derived.Test.YteidgoldnllabaaGreatDoorMNum
import Derived.Deep.RegionHeld3
namespace Go.Proofs.YteidgoldnllabaaGreatDoor
open Go.RowKit
open Lib (hid)
section
theorem two_pow_pos (n:Nat):0<2 ^ n:=Nat.pow_pos (by decide)
theorem two_pow_ne (n:Nat):2 ^ n≠0:=Nat.ne_of_gt (two_pow_pos n)
def runit (m:Nat) (e:Int) (p:Nat):Int:=max (e+bits m-p) (-16384)
def rlow (m:Nat) (e u:Int):Nat:=if u≤e then m*2 ^ (e-u).toNat else m/2 ^ (u-e).toNat
def rlost (m:Nat) (e u:Int):Bool:=!decide (u≤e)&&!decide (m % 2 ^ (u-e).toNat=0)
def rq (m:Nat) (e:Int) (more:Bool) (p:Nat) (up:Bool):Nat :=
 if up&&(more||rlost m e (runit m e p)) then rlow m e (runit m e p)+1 else rlow m e (runit m e p)
def rcut (m:Nat) (e:Int) (more:Bool) (p:Nat) (up:Bool):Option Dy :=
 if (bits (rq m e more p up):Int)+runit m e p > 16384 then
  (if up then none else some (canon false (2 ^ p-1) (16384-p)))
 else some (canon false (rq m e more p up) (runit m e p))
theorem mod_pow_add (n i j:Nat):(n % 2 ^ (i+j)=0)↔(n % 2 ^ j=0∧n/2 ^ j % 2 ^ i=0):=by
 have e:n % 2 ^ (i+j)=n % 2 ^ j+2 ^ j*(n/2 ^ j % 2 ^ i):=by
  rw[Nat.add_comm i j,Nat.pow_add,Nat.mod_mul]
 have:=two_pow_pos j
 constructor
 ·intro h
  rw[h] at e
  have h2:2 ^ j*(n/2 ^ j % 2 ^ i)=0:=by omega
  rcases Nat.mul_eq_zero.1 h2 with h3 | h3
  ·exact absurd h3 (two_pow_ne j)
  exact⟨by omega,h3⟩
 rintro ⟨h1,h2⟩;rw[e,h1,h2];simp
theorem rlow_lt {m:Nat} {e:Int} {p:Nat}:rlow m e (runit m e p)<2 ^ p:=by
 by_cases h0:m=0
 ·subst h0;unfold rlow;split <;> simp[two_pow_pos]
 have hb:=lt_two_pow_bits m
 unfold rlow
 split
 ·next h =>
  unfold runit at h ⊢
  calc m*2 ^ (e-max (e + ↑(bits m) - ↑p) (-16384)).toNat<2 ^ bits m*2 ^ (e-max (e + ↑(bits m) - ↑p) (-16384)).toNat:=Nat.mul_lt_mul_of_pos_right hb (two_pow_pos _)
   _=2 ^ (bits m+(e-max (e + ↑(bits m) - ↑p) (-16384)).toNat):=by rw[Nat.pow_add]
   _≤2 ^ p:=Nat.pow_le_pow_right (by decide) (by omega)
 next h =>
 unfold runit at h ⊢
 rw[Nat.div_lt_iff_lt_mul (two_pow_pos _),← Nat.pow_add]
 exact Nat.lt_of_lt_of_le hb (Nat.pow_le_pow_right (by decide) (by omega))
theorem rq_le {m:Nat} {e:Int} {more:Bool} {p:Nat} {up:Bool}:rq m e more p up≤2 ^ p:=by
 have:=@rlow_lt m e p
 unfold rq;split <;> omega
theorem bits_two_pow (p:Nat):bits (2 ^ p)=p+1:=by
 apply bits_unique
 ·exact Nat.pow_lt_pow_right (by decide) (by omega)
 right;simp
theorem bits_two_pow_sub_one {p:Nat} (h:0<p):bits (2 ^ p-1)=p:=by
 have:=two_pow_pos p
 apply bits_unique
 ·omega
 right
 have e:2 ^ p=2 ^ (p-1)*2:=by rw[← Nat.pow_succ];congr 1;omega
 have:=two_pow_pos (p-1)
 omega
theorem bits_oddp_le {n p:Nat} (h:n≤2 ^ p) (hp:0<p):bits (oddp n)≤p:=by
 by_cases h0:n=0
 ·subst h0;unfold oddp;simp[bits_zero]
 by_cases h1:n=2 ^ p
 ·subst h1
  have:=@oddp_mul_pow 1 (by decide) p
  rw[Nat.one_mul] at this
  rw[this];show bits 1≤p
  rw[bits_le];exact Nat.lt_of_lt_of_le (by decide:1<2 ^ 1) (Nat.pow_le_pow_right (by decide) hp)
 have:=bits_oddp h0
 have h2:bits n≤p:=bits_le.2 (by omega)
 omega
def isP (p:Nat) (d:Dy):Prop:=d.ok∧bits d.m≤p
theorem canon_isP {n:Nat} {u:Int} {p:Nat} (hp:0<p) (hp2:p≤4096) (h1:n≤2 ^ p) (h2:-16384≤u) (h3:(bits n:Int)+u≤16384):isP p (canon false n u):=by
 by_cases h0:n=0
 ·subst h0;exact⟨Dy.ok_zero,by rw[canon_zero];exact Nat.zero_le _⟩
 have hb:=bits_oddp_le h1 hp
 have hs:=bits_oddp h0
 have hm:(canon false n u).m=oddp n:=by unfold canon;rw[if_neg h0]
 have he:(canon false n u).e=u+tz n:=by unfold canon;rw[if_neg h0]
 refine⟨(canon_ok_iff _ _ _).2 (.inr ?_),by rw[hm];exact hb⟩
 have:=bits_pos (oddp_ne_zero h0)
 rw[hm,he];omega
theorem runit_ge {m:Nat} {e:Int} {p:Nat}:-16384≤runit m e p:=by unfold runit;omega
theorem rcut_isP {m:Nat} {e:Int} {more:Bool} {p:Nat} {up:Bool} {d:Dy} (hp:0<p) (hp2:p≤4096) (h:rcut m e more p up=some d):isP p d∧d.neg=false:=by
 unfold rcut at h
 have hneg:∀ n u,(canon false n u).neg=false:=fun n u=>by unfold canon;split <;> rfl
 split at h
 ·next hb =>
  split at h
  ·cases h
  cases h
  refine⟨canon_isP hp hp2 (Nat.sub_le _ _) (by omega) ?_,hneg _ _⟩
  rw[bits_two_pow_sub_one hp];omega
 next hb =>
 cases h
 exact⟨canon_isP hp hp2 rq_le runit_ge (by omega),hneg _ _⟩
end
theorem shl_or {x r c:Nat} (hx:x<4294967296) (hr:r<32) (hc:c<2 ^ r) :
  ∃ s:Nat,Go.bits BinOp.or IntKind.u64 (IntKind.u64.wrap ((x:Int)*2 ^ r)) (c:Int)=(s:Int)∧s=x*2 ^ r+c∧s/4294967296<2 ^ r∧s<9223372036854775808:=by
 have h1:2 ^ r≤2 ^ 31:=Nat.pow_le_pow_right (by decide) (by omega)
 have h2:x*2 ^ r≤4294967295*2 ^ r:=Nat.mul_le_mul_right _ (by omega)
 have h3:x*2 ^ r+c<4294967296*2 ^ r:=by omega
 have e1:IntKind.u64.wrap ((x:Int)*2 ^ r)=((x*2 ^ r:Nat):Int):=by
  rw[show (x:Int)*2 ^ r=((x*2 ^ r:Nat):Int) from by push_cast;rfl,IntKind.wrap_u64]
  omega
 refine⟨x*2 ^ r+c,?_,rfl,?_,by omega⟩
 ·rw[e1,u64_or_nat _ _ (by omega) (by omega),nat_join r _ _ (Nat.mul_mod_left _ _) hc]
 exact (Nat.div_lt_iff_lt_mul (by decide)).2 (by rw[Nat.mul_comm (2 ^ r)];exact h3)
theorem shl_step {zs:List Nat} {q k cr s V x r:Nat} (hl:zs.length=q+k) (h:val zs+4294967296 ^ (q+k)*cr=4294967296 ^ q*(2 ^ r*V)) (hs:s=x*2 ^ r+cr) :
  val (zs++[s % 4294967296])+4294967296 ^ (q+(k+1))*(s/4294967296)=4294967296 ^ q*(2 ^ r*(V+4294967296 ^ k*x)):=by
 rw[val_snoc,hl,show q+(k+1)=q+k+1 from by omega,Nat.pow_succ,Nat.mul_assoc]
 have e:4294967296 ^ (q+k)*(s % 4294967296)+4294967296 ^ (q+k)*(4294967296*(s/4294967296))=4294967296 ^ (q+k)*s:=by
  rw[← Nat.mul_add];congr 1;omega
 have e2:4294967296 ^ (q+k)*s=4294967296 ^ q*(2 ^ r*(4294967296 ^ k*x))+4294967296 ^ (q+k)*cr:=by
  rw[hs,Nat.mul_add,Nat.pow_add]
  congr 1
  rw[Nat.mul_assoc];congr 1
  rw[Nat.mul_comm x,← Nat.mul_assoc,← Nat.mul_assoc,Nat.mul_comm (2 ^ r)]
 rw[Nat.mul_add (2 ^ r),Nat.mul_add (4294967296 ^ q)]
 omega
theorem pow_split (n:Nat):4294967296 ^ (n/32)*2 ^ (n % 32)=2 ^ n:=by
 rw[pow32,← Nat.pow_add];congr 1;omega
def MadeC (w:World) (v n:Nat) (e:Ending) (w':World):Prop :=
 ∃ a c zs,e=.returned (.slice a n c)∧zs.length=n∧n≤c∧c≤maxLen∧val zs=v∧Rd w' a zs∧Kp w w'
theorem MadeV.c {w:World} {v n:Nat} {e:Ending} {w':World} (h:MadeV w v n e w') (hn:n≤maxLen):MadeC w v n e w':=by
 obtain⟨g,zs,h1,h2,h3,h4,h5⟩:=h
 exact⟨_,n,zs,h1,h2,Nat.le_refl _,hn,h3,h4,h5⟩
def MadeO (w:World) (v n:Nat) (e:Ending) (w':World):Prop :=
 ∃ a c zs,e=.returned (.slice a n c)∧zs.length=n∧val zs=v∧Own w' w.heap.size (.slice a n c) zs∧Kp w w'
theorem MadeO.c {w:World} {v n:Nat} {e:Ending} {w':World} (h:MadeO w v n e w'):MadeC w v n e w':=by
 obtain⟨a,c,zs,he,hl,hv,ho,hk⟩:=h
 obtain⟨h5,h6,h7,h8⟩:=ho.rd
 exact⟨a,c,zs,he,hl,by omega,h7,hv,h8,hk⟩
theorem Own.len {w:World} {base:Nat} {a:Option Addr} {n m c:Nat} {xs:List Nat} (h:Own w base (.slice a n c) xs) (e:n=m):Own w base (.slice a m c) xs:=e▸h
set_option maxHeartbeats 1000000 in
theorem shl_own (a:Option Addr) (xs:List Nat) (c n:Nat) (w:World) (hx:Rd w a xs) (hxc:xs.length≤c) (hc:c≤maxLen) (hxl:xs.length≤1100000) (hn:n≤65536) :
  Calls Tryz.prog 212 #[.slice a xs.length c,.int .i64 n] w (MadeO w (val xs*2 ^ n) (n/32+(limbs (val xs)).length+1)):=by
 have H1:=hid (trim_any a xs c w hx hxc hc)
 have h1:=hx.limbs
 have hl1:=limbs_len_le hx.lt32
 have Hv1:=hid (val_limbs (val xs))
 go_enter Tryz.func212,Tryz.ntmps212
 go_wp2_with fail
 refine H1.out.mono ?_
 rintro e w2 ⟨rfl,rfl⟩
 clear H1 hx
 generalize limbs (val xs)=us at *
 have hmk:=make_u32c ((n:Int)/32) ((n:Int)/32+us.length+1) (n/32) (n/32+us.length+1) (by omega) (by omega) (by omega) (by omega)
 go_wp2_with fail
 clear hmk
 have hr:n % 32<32:=Nat.mod_lt _ (by decide)
 go_loopw [5,6,23] (fun v cy ix wr=>∃ (k cr:Nat) (a':Option Addr) (c':Nat) (zs:List Nat),k≤us.length∧ix=.int .i64 k∧cy=.int .u64 cr∧v=.slice a' zs.length c'∧cr<2 ^ (n % 32) ∧
   zs.length=n/32+k∧Own wr w.heap.size (.slice a' zs.length c') zs∧val zs+4294967296 ^ (n/32+k)*cr=4294967296 ^ (n/32)*(2 ^ (n % 32)*val (us.take k))∧Kp w wr) (fun _ _ ix _=>us.length-(intOf ix).toNat)
 case atStart =>
  refine⟨0,0,_,_,List.replicate (n/32) 0,Nat.zero_le _,rfl,rfl,by rw[List.length_replicate],two_pow_pos _,by simp,?_,by simp[val,val_replicate],(Kp.refl _).alloc _⟩
  rw[List.length_replicate]
  exact Own.made _ _ _ (by omega) (by omega) _ (Nat.le_refl _)
 case round =>
 obtain⟨k,cr,a',c',zs,hk,rfl,rfl,rfl,hcr,hzl,hown,hvz,hkp⟩:=hrel
 have Hvz:=hid hvz
 have Hzl:=hid hzl
 have hzl1:zs.length≤n/32+k:=by omega
 have Hcr:=hid hcr
 clear hvz hzl hcr
 by_cases hlt:k<us.length
 rotate_left
 ·have hke:k=us.length:=by omega
  have Hke:=hid hke
  have Hcr2:=hid (Nat.lt_of_lt_of_le Hcr.out (Nat.pow_le_pow_right (by decide) (show n % 32≤31 by omega)))
  have hcr3:cr<4294967296:=by have:=Hcr2.out;omega
  clear hke
  go_wp2_with (at_builtin;refine wpList_append_u32 rfl _ _ rfl w.heap.size _ _ rfl (hown.alloc _) _ _ rfl (World.cell?_alloc_new _ _ _ _) cr (by omega) (by omega) (by omega) (by have:=hkp.size;simp;omega) ?_;intro a2 c2 w2 hown2 hb2)
  go_ret
  have e2:=Hvz.out
  rw[Hke.out,List.take_of_length_le (Nat.le_refl _),← Nat.mul_assoc,pow_split,Hv1.out] at e2
  refine⟨a2,c2,zs++[cr],ret_len (by rw[Hzl.out,Hke.out]),by simp[Hzl.out,Hke.out],?_,hown2.len (by rw[Hzl.out,Hke.out]),(hkp.alloc _).below.trans hb2⟩
  rw[val_snoc,Hzl.out,Hke.out,e2,Nat.mul_comm]
 obtain⟨b1,o1,rfl,hcx⟩:=(h1.kp hkp).some hlt
 have hx1:=hcx k hlt
 have bx:=h1.lt32.nth k
 obtain⟨s,hor,hs,hs2,hs3⟩:=shl_or bx hr Hcr.out
 have Hst:=hid (shl_step (zs:=zs) (q:=n/32) (k:=k) Hzl.out Hvz.out hs)
 have Hs2:=hid hs2
 clear hcx hs hs2
 go_wp2_with (at_builtin;refine wpList_append_u32 rfl _ _ rfl w.heap.size _ _ rfl (hown.alloc _) _ _ rfl (World.cell?_alloc_new _ _ _ _) (s % 4294967296) (by omega) (by omega) (by omega) (by have:=hkp.size;simp;omega) ?_;intro a2 c2 w2 hown2 hb2)
 go_roundw
 case measure=>simp[intOf];omega
 case rel =>
 refine⟨k+1,s/4294967296,a2,c2,zs++[s % 4294967296],by omega,by go_num,by congr 1,by simp,Hs2.out,by simp[Hzl.out];omega,by simpa using hown2,?_,((hkp.alloc _).below.trans hb2)⟩
 rw[val_take_step];exact Hst.out
theorem shl_any (a:Option Addr) (xs:List Nat) (c n:Nat) (w:World) (hx:Rd w a xs) (hxc:xs.length≤c) (hc:c≤maxLen) (hxl:xs.length≤1100000) (hn:n≤65536) :
  Calls Tryz.prog 212 #[.slice a xs.length c,.int .i64 n] w (MadeC w (val xs*2 ^ n) (n/32+(limbs (val xs)).length+1)) :=
 (shl_own a xs c n w hx hxc hc hxl hn).mono fun _ _ h=>h.c
theorem shr_or {x y:Nat} (hx:x<4294967296) (hy:y<4294967296) :
  Go.bits BinOp.or IntKind.u64 (x:Int) ((y:Int)*4294967296)=((x+4294967296*y:Nat):Int):=by
 rw[show (y:Int)*4294967296=((y*2 ^ 32:Nat):Int) from by rw[Int.natCast_mul];rfl,u64_or_nat _ _ (by omega) (by omega),Nat.or_comm,nat_join 32 _ _ (Nat.mul_mod_left _ _) hx]
 congr 1;omega
theorem cast_shr (x y p:Nat):((x:Int)+4294967296*y)/2 ^ p % 4294967296=(((x+4294967296*y)/2 ^ p % 4294967296:Nat):Int):=by
 rw[Int.natCast_emod,Int.natCast_ediv,Int.natCast_add,Int.natCast_mul,Int.natCast_pow];rfl
theorem cast_shr0 (x p:Nat):(x:Int)/2 ^ p % 4294967296=((x/2 ^ p % 4294967296:Nat):Int):=by
 rw[Int.natCast_emod,Int.natCast_ediv,Int.natCast_pow];rfl
theorem shr_limb {x y r:Nat} (hx:x<4294967296) (hr:r<32):(x+4294967296*y)/2 ^ r % 4294967296*2 ^ r+x % 2 ^ r=x+4294967296*(y % 2 ^ r):=by
 have hp:=two_pow_pos r
 obtain⟨C,hC⟩:∃ C,4294967296=C*2 ^ r:=⟨2 ^ (32-r),by rw[← Nat.pow_add,show 32-r+r=32 from by omega]⟩
 have e1:(x+4294967296*y)/2 ^ r=x/2 ^ r+C*y:=by
  rw[hC,Nat.mul_right_comm,Nat.add_mul_div_right _ _ hp]
 have hxC:x/2 ^ r<C:=by rw[Nat.div_lt_iff_lt_mul hp];omega
 have e2:C*y=C*(y % 2 ^ r)+4294967296*(y/2 ^ r):=by
  have:=Nat.div_add_mod y (2 ^ r)
  rw[hC,Nat.mul_assoc,← Nat.mul_add];congr 1;omega
 have hlt:C*(y % 2 ^ r)+C≤4294967296:=by
  have:=Nat.mul_le_mul_left C (show y % 2 ^ r+1≤2 ^ r from Nat.mod_lt y hp)
  rw[Nat.mul_add,Nat.mul_one] at this
  omega
 have e3:(x/2 ^ r+C*y) % 4294967296=x/2 ^ r+C*(y % 2 ^ r):=by
  rw[e2,← Nat.add_assoc,Nat.add_mul_mod_self_left]
  exact Nat.mod_eq_of_lt (by omega)
 rw[e1,e3,Nat.add_mul]
 have e4:=Nat.div_add_mod x (2 ^ r)
 have e5:C*(y % 2 ^ r)*2 ^ r=4294967296*(y % 2 ^ r):=by rw[Nat.mul_right_comm,← hC]
 rw[Nat.mul_comm] at e4
 omega
theorem shr_step {zs vs:List Nat} {k r z t:Nat} (hk:k<zs.length) (h:val (zs.take k)*2 ^ r+t=val (vs.take k)+4294967296 ^ k*(nth vs k % 2 ^ r))
  (hz:z*2 ^ r+nth vs k % 2 ^ r=nth vs k+4294967296*(nth vs (k+1) % 2 ^ r)) :
  val ((zs.set k z).take (k+1))*2 ^ r+t=val (vs.take (k+1))+4294967296 ^ (k+1)*(nth vs (k+1) % 2 ^ r):=by
 rw[val_take_set hk,val_take_step vs,Nat.pow_succ,Nat.mul_assoc,Nat.add_mul,Nat.mul_assoc]
 generalize 4294967296 ^ k=P at *
 have e:P*(z*2 ^ r+nth vs k % 2 ^ r)=P*(z*2 ^ r)+P*(nth vs k % 2 ^ r):=Nat.mul_add _ _ _
 rw[hz,Nat.mul_add] at e
 omega
set_option maxHeartbeats 1000000 in
set_option maxRecDepth 100000 in
theorem shr_any (a:Option Addr) (xs:List Nat) (c n:Nat) (w:World) (hx:Rd w a xs) (hxc:xs.length≤c) (hc:c≤maxLen) (hxl:xs.length≤1100000) (hn:n≤65536) :
  Calls Tryz.prog 296 #[.slice a xs.length c,.int .i64 n] w (MadeC w (val xs/2 ^ n) ((limbs (val xs)).length-n/32)):=by
 have H1:=hid (trim_any a xs c w hx hxc hc)
 have h1:=hx.limbs
 have hl1:=limbs_len_le hx.lt32
 have Hv1:=hid (val_limbs (val xs))
 go_enter Tryz.func296,Tryz.ntmps296
 go_wp2_with fail
 refine H1.out.mono ?_
 rintro e w2 ⟨rfl,rfl⟩
 clear H1 hx
 generalize limbs (val xs)=us at *
 by_cases hq:us.length≤n/32
 ·have hq2:(us.length:Int)≤(n:Int)/32:=by omega
  go_wp2_with fail
  go_ret
  have h2:=val_lt h1.lt32
  rw[Hv1.out,pow32] at h2
  refine⟨none,0,[],ret_len (by omega),by simp;omega,by omega,by unfold maxLen;omega,?_,.nil _ _,.refl _⟩
  rw[Nat.div_eq_of_lt (Nat.lt_of_lt_of_le h2 (Nat.pow_le_pow_right (by decide) (by omega)))];rfl
 have hq2:¬ (us.length:Int)≤(n:Int)/32:=by omega
 obtain⟨b1,o1,rfl,_⟩:=h1.some (i:=0) (by omega)
 have h2:=h1.drop (n/32)
 have hcap:us.length≤c:=by omega
 have hq3:(n:Int)/32<us.length:=by omega
 have hvl:(us.drop (n/32)).length=us.length-n/32:=List.length_drop
 have hval:val (us.drop (n/32))=val us/4294967296 ^ (n/32):=by
  have e:=val_take_drop us (n/32) (by omega)
  have b:=val_lt (h1.lt32.take (n/32))
  rw[List.length_take,Nat.min_eq_left (by omega)] at b
  rw[e,Nat.add_mul_div_left _ _ (Nat.pow_pos (by decide)),Nat.div_eq_of_lt b,Nat.zero_add]
 have Hval:=hid hval
 clear hq2 hval h1
 generalize us.drop (n/32)=vs at *
 have hr:n % 32<32:=Nat.mod_lt _ (by decide)
 have hvl2:us.length-n/32≤vs.length:=by omega
 have Hvl:=hid hvl
 clear hvl
 have hmk:=make_u32 ((us.length-n/32:Nat):Int) (us.length-n/32) rfl (by omega)
 go_wp2_with fail
 clear hmk
 go_loopw [25] (fun ix wr=>∃ (k:Nat) (zs:List Nat),k≤us.length-n/32∧ix=.int .i64 k∧zs.length=us.length-n/32∧Blk wr w.heap.size zs∧Lt32 zs ∧
  val (zs.take k)*2 ^ (n % 32)+nth vs 0 % 2 ^ (n % 32)=val (vs.take k)+4294967296 ^ k*(nth vs k % 2 ^ (n % 32))∧Kp w wr) (fun ix _=>(us.length-n/32)-(intOf ix).toNat)
 case atStart=>exact⟨0,_,Nat.zero_le _,rfl,by simp,Blk.made _ _,.replicate _,by simp[val],(Kp.refl _).alloc _⟩
 case round =>
 obtain⟨k,zs,hk,rfl,hzl,hb,hz32,hvz,hkp⟩:=hrel
 have Hvz:=hid hvz
 have Hzl:=hid hzl
 clear hvz
 by_cases hlt:k<us.length-n/32
 rotate_left
 ·have hke:k=us.length-n/32:=by omega
  have Hke:=hid hke
  clear hke
  go_wp2_with fail
  go_ret
  have e2:=Hvz.out
  have h0:nth vs k=0:=nth_ge (by rw[Hvl.out,Hke.out];omega)
  rw[h0,Nat.zero_mod,Nat.mul_zero,Nat.add_zero,Hke.out,List.take_of_length_le (by rw[Hzl.out];omega),List.take_of_length_le (by rw[Hvl.out];omega)] at e2
  have hlt3:=Nat.mod_lt (nth vs 0) (two_pow_pos (n % 32))
  have e3:val zs=val vs/2 ^ (n % 32):=by
   rw[← e2,Nat.mul_comm,Nat.mul_add_div (two_pow_pos _),Nat.div_eq_of_lt hlt3,Nat.add_zero]
  refine⟨_,us.length-n/32,zs,ret_len rfl,Hzl.out,Nat.le_refl _,by unfold maxLen;omega,?_,hb.rd hz32,hkp⟩
  rw[e3,Hval.out,Hv1.out,Nat.div_div_eq_div_mul,pow_split]
 obtain⟨b2,o2,e2,hcx⟩:=(h2.kp hkp).some (i:=k) (by omega)
 cases e2
 have hx1:=hcx k (by omega)
 have bx:=h2.lt32.nth k
 have bx2:=h2.lt32.nth (k+1)
 have hs1:=hb.cell (i:=k) (by omega)
 have hs2:=hb.frozen k
 have Hst:=hid (fun z=>shr_step (zs:=zs) (z:=z) (by omega) Hvz.out)
 have Hl:=hid (shr_limb (y:=nth vs (k+1)) bx hr)
 by_cases hlt2:k+1<us.length-n/32
 ·have hx2:=hcx (k+1) (by omega)
  have hor:=shr_or bx bx2
  clear hcx
  go_wp2_with fail
  go_roundw
  case measure=>simp[intOf];omega
  case rel =>
  refine⟨k+1,zs.set k ((nth vs k+4294967296*nth vs (k+1))/2 ^ (n % 32) % 4294967296),by omega,by go_num,by simp[Hzl.out],hb.put (cast_shr _ _ _),hz32.set _ _ (Nat.mod_lt _ (by decide)),Hst.out _ Hl.out,hkp.set (Nat.le_refl _) _⟩
 have h0:nth vs (k+1)=0:=nth_ge (by rw[Hvl.out];omega)
 have H0:=hid h0
 clear hcx h0
 go_wp2_with fail
 go_roundw
 case measure=>simp[intOf];omega
 case rel =>
 have h3:=Hl.out
 rw[H0.out,Nat.mul_zero,Nat.add_zero] at h3
 refine⟨k+1,zs.set k (nth vs k/2 ^ (n % 32) % 4294967296),by omega,by go_num,by simp[Hzl.out],hb.put (cast_shr0 _ _),hz32.set _ _ (Nat.mod_lt _ (by decide)),Hst.out _ (by rw[H0.out];exact h3),hkp.set (Nat.le_refl _) _⟩
set_option maxHeartbeats 400000 in
theorem Add_any (a b:Option Addr) (xs ys:List Nat) (c d:Nat) (w:World) (hx:Rd w a xs) (hy:Rd w b ys) (hxl:xs.length≤256) (hyl:ys.length≤256) (hv:(limbs (val xs+val ys)).length≤256) :
  Calls Tryz.prog 303 #[.slice a xs.length c,.slice b ys.length d] w (Nat2 w (val xs+val ys) 0):=by
 have Hv:=hid hv
 clear hv
 go_enter Tryz.func303,Tryz.ntmps303
 go_wp2_with fail
 refine (long_two a b xs.length c ys.length d _ _ hxl hyl (by simp) (by simp)).mono ?_
 rintro e w1 ⟨rfl,hk1⟩
 have hk:Kp w w1:=((Kp.refl w).alloc _).trans hk1
 clear hk1
 go_wp2_with fail
 refine (add_any a b xs ys c d _ (hx.kp hk) (hy.kp hk) (by omega) (by omega)).mono ?_
 rintro e w2 ⟨g,zs,rfl,hzl,hzv,hrd,hk2⟩
 have hm:zs.length≤maxLen:=by rw[hzl];unfold maxLen;omega
 rw[← hzl]
 have Hzv:=hid hzv
 clear hzv hzl
 go_wp2_with fail
 refine (done_ok _ zs _ _ hrd (Nat.le_refl _) hm (by rw[Hzv.out];exact Hv.out)).mono ?_
 rintro e w3 ⟨a3,c3,rfl,h1,h2,h3,h4⟩
 go_wp2_with fail
 go_ret2
 rw[Hzv.out] at h1 h3 ⊢
 exact⟨a3,c3,rfl,h1,h2,h3,(hk.trans hk2).trans h4⟩
set_option maxHeartbeats 400000 in
theorem Sub_any (a b:Option Addr) (xs ys:List Nat) (c d:Nat) (w:World) (hx:Rd w a xs) (hy:Rd w b ys) (hxl:xs.length≤256) (hyl:ys.length≤256) (hxc:xs.length≤c) (hyc:ys.length≤d) (hc:c≤maxLen) (hd:d≤maxLen) (hle:val ys≤val xs) :
  Calls Tryz.prog 304 #[.slice a xs.length c,.slice b ys.length d] w (Nat2 w (val xs-val ys) 0):=by
 have hl1:=limbs_len_le hx.lt32
 have Hv:=hid (Nat.le_trans (limbs_length_mono (Nat.sub_le (val xs) (val ys))) (Nat.le_trans hl1 hxl))
 have Hcmp:=hid hle
 have hcm:¬ cmpN (val xs) (val ys)<0:=by unfold cmpN;rw[if_neg (by omega)];split <;> omega
 go_enter Tryz.func304,Tryz.ntmps304
 go_wp2_with fail
 refine (long_two a b xs.length c ys.length d _ _ hxl hyl (by simp) (by simp)).mono ?_
 rintro e w1 ⟨rfl,hk1⟩
 have hk:Kp w w1:=((Kp.refl w).alloc _).trans hk1
 clear hk1
 go_wp2_with fail
 refine (cmp_any a b xs ys c d _ (hx.kp hk) (hy.kp hk) hxc hyc hc hd).mono ?_
 rintro e w2 ⟨rfl,hk2⟩
 have hk':=hk.trans hk2
 clear hk hk2
 go_wp2_with fail
 refine (sub_any a b xs ys c d _ (hx.kp hk') (hy.kp hk') (by omega) hxc hyc hc hd Hcmp.out).mono ?_
 rintro e w3 ⟨g,zs,rfl,hzl,hzv,hrd,hk3⟩
 have hm:zs.length≤maxLen:=by rw[hzl];unfold maxLen;omega
 rw[← hzl]
 have Hzv:=hid hzv
 clear hzv hzl
 go_wp2_with fail
 refine (done_ok _ zs _ _ hrd (Nat.le_refl _) hm (by rw[Hzv.out];exact Hv.out)).mono ?_
 rintro e w4 ⟨a3,c3,rfl,h1,h2,h3,h4⟩
 go_wp2_with fail
 go_ret2
 rw[Hzv.out] at h1 h3 ⊢
 exact⟨a3,c3,rfl,h1,h2,h3,(hk'.trans hk3).trans h4⟩
set_option maxHeartbeats 400000 in
theorem Shl_any (a:Option Addr) (xs:List Nat) (c:Nat) (n:Int) (w:World) (hx:Rd w a xs) (hxl:xs.length≤256) (hxc:xs.length≤c) (hc:c≤maxLen) (h0:0≤n) (hn:n≤65536) (hv:(limbs (val xs*2 ^ n.toNat)).length≤256) :
  Calls Tryz.prog 172 #[.slice a xs.length c,.int .i64 n] w (Nat2 w (val xs*2 ^ n.toNat) 0):=by
 obtain⟨n,rfl⟩:=Int.eq_ofNat_of_zero_le h0
 rw[Int.toNat_natCast] at hv ⊢
 have Hv:=hid hv
 clear hv
 have hl1:=limbs_len_le hx.lt32
 go_enter Tryz.func172,Tryz.ntmps172
 go_wp2_with fail
 refine (long_one a xs.length c _ _ hxl (by simp)).mono ?_
 rintro e w1 ⟨rfl,hk1⟩
 have hk:Kp w w1:=((Kp.refl w).alloc _).trans hk1
 clear hk1
 go_wp2_with fail
 refine (shl_any a xs c n _ (hx.kp hk) hxc hc (by omega) (by omega)).mono ?_
 rintro e w3 ⟨a2,c2,zs,rfl,hzl,hzc,hcm,hzv,hrd,hk3⟩
 rw[← hzl] at hzc ⊢
 have Hzv:=hid hzv
 clear hzv hzl
 go_wp2_with fail
 refine (done_ok _ zs _ _ hrd hzc hcm (by rw[Hzv.out];exact Hv.out)).mono ?_
 rintro e w4 ⟨a3,c3,rfl,h1,h2,h3,h4⟩
 go_wp2_with fail
 go_ret2
 rw[Hzv.out] at h1 h3 ⊢
 exact⟨a3,c3,rfl,h1,h2,h3,(hk.trans hk3).trans h4⟩
set_option maxHeartbeats 400000 in
theorem Shr_any (a:Option Addr) (xs:List Nat) (c:Nat) (n:Int) (w:World) (hx:Rd w a xs) (hxl:xs.length≤256) (hxc:xs.length≤c) (hc:c≤maxLen) (h0:0≤n) (hn:n≤65536) :
  Calls Tryz.prog 287 #[.slice a xs.length c,.int .i64 n] w (Nat2 w (val xs/2 ^ n.toNat) 0):=by
 obtain⟨n,rfl⟩:=Int.eq_ofNat_of_zero_le h0
 rw[Int.toNat_natCast]
 have hl1:=limbs_len_le hx.lt32
 have Hv:=hid (Nat.le_trans (limbs_length_mono (Nat.div_le_self (val xs) (2 ^ n))) (Nat.le_trans hl1 hxl))
 go_enter Tryz.func287,Tryz.ntmps287
 go_wp2_with fail
 refine (long_one a xs.length c _ _ hxl (by simp)).mono ?_
 rintro e w1 ⟨rfl,hk1⟩
 have hk:Kp w w1:=((Kp.refl w).alloc _).trans hk1
 clear hk1
 go_wp2_with fail
 refine (shr_any a xs c n _ (hx.kp hk) hxc hc (by omega) (by omega)).mono ?_
 rintro e w3 ⟨a2,c2,zs,rfl,hzl,hzc,hcm,hzv,hrd,hk3⟩
 rw[← hzl] at hzc ⊢
 have Hzv:=hid hzv
 clear hzv hzl
 go_wp2_with fail
 refine (done_ok _ zs _ _ hrd hzc hcm (by rw[Hzv.out];exact Hv.out)).mono ?_
 rintro e w4 ⟨a3,c3,rfl,h1,h2,h3,h4⟩
 go_wp2_with fail
 go_ret2
 rw[Hzv.out] at h1 h3 ⊢
 exact⟨a3,c3,rfl,h1,h2,h3,(hk.trans hk3).trans h4⟩
def Shows (w:World) (xs:List Nat) (e:Ending) (w':World):Prop :=
 ∃ a c,e=.returned (.slice a xs.length c)∧Rd w' a xs∧xs.length≤c∧c≤maxLen∧Kp w w'
set_option maxHeartbeats 400000 in
theorem clone_any (a:Option Addr) (xs:List Nat) (c:Nat) (w:World) (h:Rd w a xs) (hl:xs.length≤1100000) :
  Calls Tryz.prog 288 #[.slice a xs.length c] w (Shows w xs):=by
 have hn:=nil_u32
 cases a with
 | some ad =>
  go_enter Tryz.func288,Tryz.ntmps288
  go_wp2_with (at_builtin;refine wpList_append_u32s rfl _ _ rfl w.heap.size _ [] rfl (Own.empty w _ (Nat.le_refl _)) (some ad) xs c rfl (h.kp ((Kp.refl w).alloc _)) (by simp;omega) (by simp) ?_;intro a2 c2 w2 hown2 hb2)
  go_ret
  obtain⟨h5,h6,h7,h8⟩:=hown2.rd
  exact⟨a2,c2,by simp,h8,h6,h7,((Kp.refl w).alloc _).below.trans hb2⟩
 | none =>
 have hys:xs=[]:=by
  rcases h.2 with h | ⟨b,o,h,_⟩
  ·exact h
  ·cases h
 subst hys
 go_enter Tryz.func288,Tryz.ntmps288
 go_wp2_with fail
 go_ret
 exact⟨none,0,rfl,.nil _ _,Nat.le_refl _,by unfold maxLen;omega,.refl _⟩
set_option maxHeartbeats 400000 in
theorem size_any (a:Option Addr) (xs:List Nat) (c:Nat) (w:World) (h:Rd w a xs) (hc:xs.length≤c) (hm:c≤maxLen) (hl:xs.length≤1100000) :
  Calls Tryz.prog 201 #[.slice a xs.length c] w fun e w'=>e=.returned (.int .i64 (bits (val xs)))∧w=w':=by
 have H:=hid (bits_any a xs c w h hc hm hl)
 go_enter Tryz.func201,Tryz.ntmps201
 go_wp2_with (refine H.out.mono ?_;rintro e w2 ⟨rfl,rfl⟩)
 go_ret
 exact⟨rfl,rfl⟩
set_option maxHeartbeats 400000 in
theorem trimmed_any (a:Option Addr) (xs:List Nat) (c:Nat) (w:World) (h:Rd w a xs) (hc:xs.length≤c) (hm:c≤maxLen) :
  Calls Tryz.prog 285 #[.slice a xs.length c] w fun e w'=>e=.returned (.slice a (limbs (val xs)).length c)∧w=w':=by
 unfold maxLen at hm
 go_enter Tryz.func285,Tryz.ntmps285
 go_wp2
 go_loop [3] (fun x=>∃ n:Nat,n≤xs.length∧x=.int .i64 n∧∀ i,n≤i→i<xs.length→nth xs i=0) (fun x=>(intOf x).toNat)
 case atStart=>exact⟨xs.length,Nat.le_refl _,rfl,fun i h1 h2=>by omega⟩
 case round =>
 obtain⟨n,hn,rfl,hz⟩:=hrel
 have Hz:=hid hz;clear hz
 by_cases h0:n=0
 ·subst h0
  go_wp2
  go_ret
  have:=trim_top h.lt32 hn Hz.out (by omega)
  rw[← this]
  exact⟨rfl,rfl⟩
 obtain⟨b,o,rfl,hcell⟩:=h.some (i:=n-1) (by omega)
 have hk:=hcell (n-1) (by omega)
 clear hcell
 by_cases hx:nth xs (n-1)=0
 rotate_left
 ·have hx2:((nth xs (n-1):Int)==0)=false:=by simp;omega
  go_wp2
  go_ret
  have:=trim_top h.lt32 hn Hz.out (fun _=>hx)
  rw[← this,List.length_take,Nat.min_eq_left hn]
  exact⟨rfl,rfl⟩
 have hx2:((nth xs (n-1):Int)==0)=true:=by simp[hx]
 have Hx:=hid hx;clear hx
 go_wp2
 go_round
 case measure=>simp[intOf];omega
 case rel =>
 refine⟨n-1,by omega,by congr 1;omega,fun i h1 h2=>?_⟩
 by_cases hi:i=n-1
 ·rw[hi];exact Hx.out
 exact Hz.out i (by omega) h2
theorem tz_add {x r:Nat} (h0:x≠0) (hx:x<4294967296):tz (x+4294967296*r)=tz x:=by
 obtain⟨h1,h2⟩:=oddp_spec h0
 have ht:tz x<32:=by
  apply Classical.byContradiction;intro hn
  have h3:2 ^ 32≤2 ^ tz x:=Nat.pow_le_pow_right (by decide) (by omega)
  have h4:1*2 ^ tz x≤oddp x*2 ^ tz x:=Nat.mul_le_mul_right _ (by omega)
  omega
 have e:x+4294967296*r=(oddp x+2 ^ (32-tz x)*r)*2 ^ tz x:=by
  rw[Nat.add_mul,← h2,Nat.mul_right_comm,← Nat.pow_add,show 32-tz x+tz x=32 from by omega]
 rw[e]
 refine tz_mul_pow ?_ _
 rw[show 32-tz x=(31-tz x)+1 from by omega,Nat.pow_succ,Nat.mul_assoc,Nat.mul_left_comm,Nat.add_mul_mod_self_left]
 exact h1
theorem tz_limbs {xs:List Nat} {k:Nat} (h:Lt32 xs) (hk:k<xs.length) (hz:∀ i,i<k→nth xs i=0) (hx:nth xs k≠0):tz (val xs)=32*k+tz (nth xs k):=by
 have e:=val_take_drop xs k (by omega)
 have e0:val (xs.take k)=0:=val_zeros fun i hi=>by
  rw[List.length_take] at hi
  rw[nth_take (by omega)];exact hz i (by omega)
 rw[e0,drop_eq_nth hk,val_cons,Nat.zero_add,pow32,Nat.mul_comm] at e
 rw[e,tz_shift (by omega),tz_add hx (h.nth k)];omega
set_option maxHeartbeats 400000 in
theorem low_any (a:Option Addr) (xs:List Nat) (c:Nat) (w:World) (h:Rd w a xs) (hl:xs.length≤1100000) (h0:val xs≠0) (hT:Tab w) :
  Calls Tryz.prog 286 #[.slice a xs.length c] w fun e w'=>e=.returned (.int .i64 (tz (val xs)))∧w=w':=by
 have H0:=hid h0
 clear h0
 go_enter Tryz.func286,Tryz.ntmps286
 go_wp2_with fail
 go_loop [3,8] (fun n x=>∃ k:Nat,k≤xs.length∧x=.int .i64 k∧n=.int .i64 (32*k:Nat)∧∀ i,i<k→nth xs i=0) (fun _ x=>xs.length-(intOf x).toNat)
 case atStart=>exact⟨0,Nat.zero_le _,rfl,rfl,fun i h1=>by omega⟩
 case round =>
 obtain⟨k,hk,rfl,rfl,hz⟩:=hrel
 have Hz:=hid hz;clear hz
 by_cases hlt:k<xs.length
 rotate_left
 ·exfalso
  exact H0.out (val_zeros fun i hi=>Hz.out i (by omega))
 obtain⟨b,o,rfl,hcell⟩:=h.some hlt
 have hc1:=hcell k hlt
 have bx:=h.lt32.nth k
 clear hcell
 by_cases hx:nth xs k=0
 ·have hx2:((nth xs k:Int) != 0)=false:=by simp[hx]
  have Hx:=hid hx;clear hx
  go_wp2_with fail
  go_round
  case measure=>simp[intOf];omega
  case rel =>
  refine⟨k+1,by omega,by go_num,by congr 1,fun i h1=>?_⟩
  by_cases hi:i=k
  ·rw[hi];exact Hx.out
  exact Hz.out i (by omega)
 have hx2:((nth xs k:Int) != 0)=true:=by simp;omega
 have Hr:=hid (tz_limbs h.lt32 hlt Hz.out hx)
 have ht:tz (nth xs k)≤32:=by
  have:=bits_oddp hx
  have h2:=bits_le.2 (show nth xs k<2 ^ 32 from bx)
  omega
 go_wp2_with fail
 refine (tz32_any _ _ hx bx hT).mono ?_
 rintro e w2 ⟨rfl,rfl⟩
 go_wp2_with fail
 go_ret
 exact⟨ret_int (by rw[Hr.out];omega),rfl⟩
def DyOut (w:World) (d:Dy) (e:Ending) (w':World):Prop :=
 ∃ a c,e=.returned (.agg #[.bool d.neg,.slice a (limbs d.m).length c,.int .i64 d.e])∧Rd w' a (limbs d.m)∧(limbs d.m).length≤c∧c≤maxLen∧Kp w w'
theorem Rd.other {w:World} {a:Option Addr} {xs:List Nat} (h:Rd w a xs) {p:Addr} {v u:Value} (hp:w.cell? p=.some v) (hv:∀ n:Int,v≠.int .u32 n):Rd (w.setCell p u) a xs:=by
 obtain⟨h1,h2⟩:=h
 refine⟨h1,?_⟩
 rcases h2 with h2 | ⟨b,o,rfl,h2⟩
 ·exact .inl h2
 refine .inr ⟨b,o,rfl,fun i hi=>?_⟩
 rw[World.cell?_setCell_other]
 ·exact h2 i hi
 intro e
 rw[e,h2 i hi] at hp
 exact hv _ (Option.some.inj hp).symm
theorem dyOut_intro {w w':World} {d:Dy} {e:Ending} (a:Option Addr) (n c:Nat) (s:Bool) (k:Int) (he:e=.returned (.agg #[.bool s,.slice a n c,.int .i64 k])) (hs:s=d.neg) (hn:n=(limbs d.m).length) (hk:k=d.e)
  (hr:Rd w' a (limbs d.m)) (hc:n≤c) (hm:c≤maxLen) (hkp:Kp w w'):DyOut w d e w':=by
 subst hs hn hk;exact⟨a,c,he,hr,hc,hm,hkp⟩
theorem dybox {w w1:World} (hk:Kp (w.alloc (.cells #[.bool false,.slice none 0 0,.int .i64 0] 113)) w1) :
  w1.cell? ⟨w.heap.size,0,none⟩=some (.bool false)∧w1.cell? ⟨w.heap.size,1,none⟩=some (.slice none 0 0)∧w1.cell? ⟨w.heap.size,2,none⟩=some (.int .i64 0) ∧
  w1.frozen? ⟨w.heap.size,0,none⟩=false∧w1.frozen? ⟨w.heap.size,1,none⟩=false∧w1.frozen? ⟨w.heap.size,2,none⟩=false:=by
 have c0:(w.alloc (.cells #[.bool false,.slice none 0 0,.int .i64 0] 113)).cell? ⟨w.heap.size,0,none⟩=some (.bool false):=by simp
 have c1:(w.alloc (.cells #[.bool false,.slice none 0 0,.int .i64 0] 113)).cell? ⟨w.heap.size,1,none⟩=some (.slice none 0 0):=by simp
 have c2:(w.alloc (.cells #[.bool false,.slice none 0 0,.int .i64 0] 113)).cell? ⟨w.heap.size,2,none⟩=some (.int .i64 0):=by simp
 exact⟨hk.cell c0,hk.cell c1,hk.cell c2,hk.frozen c0 (by simp),hk.frozen c1 (by simp),hk.frozen c2 (by simp)⟩
def Box3 (w:World) (g:Nat) (x0 x1 x2:Value):Prop :=
 w.cell? ⟨g,0,none⟩=some x0∧w.cell? ⟨g,1,none⟩=some x1∧w.cell? ⟨g,2,none⟩=some x2 ∧
 w.frozen? ⟨g,0,none⟩=false∧w.frozen? ⟨g,1,none⟩=false∧w.frozen? ⟨g,2,none⟩=false
theorem Box3.new (w:World) (x0 x1 x2:Value) (t:TypeId):Box3 (w.alloc (.cells #[x0,x1,x2] t)) w.heap.size x0 x1 x2:=by
 refine⟨?_,?_,?_,?_,?_,?_⟩ <;> simp
theorem Box3.kp {w w':World} {g:Nat} {x0 x1 x2:Value} (h:Box3 w g x0 x1 x2) (k:Kp w w'):Box3 w' g x0 x1 x2 :=
 ⟨k.cell h.1,k.cell h.2.1,k.cell h.2.2.1,k.frozen h.1 h.2.2.2.1,k.frozen h.2.1 h.2.2.2.2.1,k.frozen h.2.2.1 h.2.2.2.2.2⟩
theorem Box3.alloc {w:World} {g:Nat} {x0 x1 x2:Value} (h:Box3 w g x0 x1 x2) (o:Obj):Box3 (w.alloc o) g x0 x1 x2:=h.kp ((Kp.refl w).alloc o)
theorem Box3.new1 (w:World) (x0 x1 x2:Value) (t:TypeId) (o:Obj):Box3 ((w.alloc (.cells #[x0,x1,x2] t)).alloc o) w.heap.size x0 x1 x2:=(Box3.new w x0 x1 x2 t).alloc o
theorem Box3.new2 (w:World) (x0 x1 x2:Value) (t:TypeId) (o:Obj):Box3 ((w.alloc o).alloc (.cells #[x0,x1,x2] t)) (w.heap.size+1) x0 x1 x2:=by
 have:=Box3.new (w.alloc o) x0 x1 x2 t
 rwa [World.size_alloc] at this
def Stored (g:Nat) (x0 x1 x2:Value) (w W:World):Prop :=
 W.cell? ⟨g,0,none⟩=some x0∧W.cell? ⟨g,1,none⟩=some x1∧W.cell? ⟨g,2,none⟩=some x2∧(∀ j,W.frozen? ⟨g,j,none⟩=w.frozen? ⟨g,j,none⟩) ∧
 (∀ a xs,Rd w a xs→Rd W a xs)∧(∀ a:World,Kp a w→a.heap.size≤g→Kp a W)∧(∀ p:Addr,p.block≠g→W.cell? p=w.cell? p)∧W.heap.size=w.heap.size
theorem cell_set_ne {w:World} {g i:Nat} {p:Addr} {v:Value} (h:(⟨g,i,none⟩:Addr)≠p):(w.setCell ⟨g,i,none⟩ v).cell? p=w.cell? p:=by
 rw[World.cell?_setCell_other];exact h
theorem cell_set_eq {w:World} {g i:Nat} {v u:Value} (h:w.cell? ⟨g,i,none⟩=some u):(w.setCell ⟨g,i,none⟩ v).cell? ⟨g,i,none⟩=some v:=by
 apply World.cell?_setCell_same;exact h
theorem stored {w:World} {g:Nat} {y0 y1 y2:Value} (q0:w.cell? ⟨g,0,none⟩=some y0) (q1:w.cell? ⟨g,1,none⟩=some y1) (q2:w.cell? ⟨g,2,none⟩=some y2)
  (n0:∀ n:Int,y0≠.int .u32 n) (n1:∀ n:Int,y1≠.int .u32 n) (n2:∀ n:Int,y2≠.int .u32 n) (x0 x1 x2:Value) :
  Stored g x0 x1 x2 w (((w.setCell ⟨g,0,none⟩ x0).setCell ⟨g,1,none⟩ x1).setCell ⟨g,2,none⟩ x2):=by
 have ne (i j:Nat) (h:i≠j):(⟨g,i,none⟩:Addr)≠⟨g,j,none⟩:=fun e=>h (by injection e)
 have a1:(w.setCell ⟨g,0,none⟩ x0).cell? ⟨g,1,none⟩=some y1:=by rw[cell_set_ne (ne 0 1 (by decide))];exact q1
 have a2:((w.setCell ⟨g,0,none⟩ x0).setCell ⟨g,1,none⟩ x1).cell? ⟨g,2,none⟩=some y2:=by
  rw[cell_set_ne (ne 1 2 (by decide)),cell_set_ne (ne 0 2 (by decide))];exact q2
 refine⟨?_,?_,cell_set_eq a2,fun j=>by simp,fun a xs h=>((h.other q0 n0).other a1 n1).other a2 n2,fun a h hg=>((h.set hg _).set hg _).set hg _,fun p hp=>?_,by simp⟩
 ·rw[cell_set_ne (ne 2 0 (by decide)),cell_set_ne (ne 1 0 (by decide))];exact cell_set_eq q0
 ·rw[cell_set_ne (ne 2 1 (by decide))];exact cell_set_eq a1
 have hne (i:Nat):(⟨g,i,none⟩:Addr)≠p:=fun e=>hp (by rw[← e])
 rw[cell_set_ne (hne 2),cell_set_ne (hne 1),cell_set_ne (hne 0)]
set_option maxHeartbeats 1000000 in
theorem canonical_any (s:Bool) (a:Option Addr) (xs:List Nat) (c:Nat) (ex:Int) (w:World) (h:Rd w a xs) (hc:xs.length≤c) (hm:c≤maxLen) (hl:xs.length≤256) (he0:-1000000000≤ex) (he1:ex≤1000000000) (hT:Tab w) :
  Calls Tryz.prog 258 #[.bool s,.slice a xs.length c,.int .i64 ex] w (DyOut w (canon s (val xs) ex)):=by
 have hll:=limbs_len_le h.lt32
 go_enter Tryz.func258,Tryz.ntmps258
 go_wp2_with fail
 refine (trimmed_any a xs c _ (h.kp ((Kp.refl w).alloc _)) hc hm).mono ?_
 rintro e w2 ⟨rfl,rfl⟩
 by_cases h0:val xs=0
 ·have hn:(limbs (val xs)).length=0:=by rw[h0,limbs_zero];rfl
  rw[hn]
  clear hn
  have H0:=hid h0
  clear h0
  go_wp2_with fail
  refine bodyPost_ret (v:=.agg #[.bool false,.slice none 0 0,.int .i64 0]) (by simp[results,Tryz.results258,go_sem]) rfl ?_
  rw[H0.out,canon_zero]
  exact dyOut_intro none 0 0 false 0 rfl rfl (by show 0=(limbs 0).length;rw[limbs_zero];rfl) rfl (by show Rd _ none (limbs 0);rw[limbs_zero];exact .nil _ _) (Nat.le_refl _) (by unfold maxLen;omega) ((Kp.refl w).alloc _)
 have hpos:0<(limbs (val xs)).length:=by
  rcases Nat.eq_zero_or_pos (limbs (val xs)).length with h1 | h1
  ·exact absurd (limbs_eq_nil.1 (List.length_eq_zero_iff.1 h1)) h0
  ·exact h1
 have hne:(((limbs (val xs)).length:Int)==0)=false:=beq_eq_false_iff_ne.2 (by omega)
 have hr:=h.limbs.kp ((Kp.refl w).alloc (.cells #[.bool false,.slice none 0 0,.int .i64 0] 113))
 have Hc:=hid (show canon s (val xs) ex=⟨s,oddp (val xs),ex+tz (val xs)⟩ by unfold canon;rw[if_neg h0])
 have htz:tz (val xs)≤10000:=by
  have e1:=bits_oddp h0
  have e2:=bits_le.2 (show val xs<2 ^ (32*xs.length) by rw[← pow32];exact val_lt h.lt32)
  omega
 have hv1:=val_limbs (val xs)
 have Hodd:=hid (show val xs/2 ^ tz (val xs)=oddp (val xs) from rfl)
 have holen:(limbs (oddp (val xs))).length≤256:=by
  have:=limbs_length_mono (show oddp (val xs)≤val xs from Nat.div_le_self _ _)
  omega
 have hm2:(limbs (val xs)).length≤c:=by omega
 have hl2:(limbs (val xs)).length≤256:=by omega
 clear h hc hl hll
 generalize hX:limbs (val xs)=us at *
 rw[← hv1] at Hc Hodd htz h0 holen
 clear hX
 generalize val xs=V at *
 subst hv1
 go_wp2_with fail
 refine (low_any a us c _ hr (by omega) h0 (hT.kp ((Kp.refl w).alloc _))).mono ?_
 rintro e w2 ⟨rfl,rfl⟩
 go_wp2_with fail
 refine (Shr_any a us c _ _ hr hl2 hm2 hm (by omega) (by omega)).mono ?_
 rintro e w2 ⟨a2,c2,rfl,h3,h4,h5,h6⟩
 rw[Int.toNat_natCast,Hodd.out] at h3 h5 ⊢
 go_wp2_with fail
 refine (clone_any a2 _ c2 _ h5 (by omega)).mono ?_
 rintro e w3 ⟨a3,c3,rfl,h7,h8,h9,h10⟩
 go_wp2_with fail
 refine (clip_any a3 _ c3 _ h8 h9).mono ?_
 rintro e w4 ⟨rfl,rfl⟩
 have hk:=h6.trans h10
 obtain⟨q0,q1,q2,f0,f1,f2⟩:=dybox hk
 clear hm hT hne hpos h5 h6 h3 h4 hr
 go_wp2_with fail
 have hst:=stored q0 q1 q2 nofun nofun nofun (.bool s) (.slice a3 (limbs (oddp (val us))).length (limbs (oddp (val us))).length) (.int .i64 (ex+tz (val us)))
 generalize (((w3.setCell _ _).setCell _ _).setCell _ _)=W at hst ⊢
 obtain⟨s0,s1,s2,_,s4,s5,_,_⟩:=hst
 refine bodyPost_ret (v:=.agg #[.bool s,.slice a3 (limbs (oddp (val us))).length (limbs (oddp (val us))).length,.int .i64 (ex+tz (val us))]) (by simp[results,Tryz.results258,go_sem,s0,s1,s2]) rfl ?_
 rw[Hc.out]
 exact dyOut_intro a3 _ _ s _ rfl rfl rfl rfl (s4 _ _ h7) (Nat.le_refl _) (by omega) (s5 _ (((Kp.refl w).alloc _).trans hk) (Nat.le_refl _))
def I64 (e:Int):Prop:=-9223372036854775808≤e∧e≤9223372036854775807
def inrB (m:Nat) (e:Int):Bool:=decide (bits m=0∨(bits m≤4096∧-16384≤e∧e≤16384∧(bits m:Int)+e≤16384))
theorem bits_val_le {xs:List Nat} (h:Lt32 xs):bits (val xs)≤32*xs.length:=bits_le.2 (by rw[← pow32];exact val_lt h)
set_option maxHeartbeats 2000000 in
theorem inRange_any (s:Bool) (a:Option Addr) (xs:List Nat) (c:Nat) (ex:Int) (w:World) (h:Rd w a xs) (hc:xs.length≤c) (hm:c≤maxLen) (hl:xs.length≤1100000) (he:I64 ex) :
  Calls Tryz.prog 162 #[.agg #[.bool s,.slice a xs.length c,.int .i64 ex]] w fun e w'=>e=.returned (.bool (inrB (val xs) ex))∧Kp w w':=by
 obtain⟨he0,he1⟩:=he
 have hb:bits (val xs)≤35200000:=by have:=bits_val_le h.lt32;omega
 by_cases h0:bits (val xs)=0
 ·have hz:((bits (val xs):Int)==0)=true:=by rw[h0];rfl
  have H:=hid (show inrB (val xs) ex=true from decide_eq_true (.inl h0))
  clear h0
  go_enter Tryz.func162,Tryz.ntmps162
  go_wp2_with fail
  refine (size_any a xs c _ (h.kp ((Kp.refl w).alloc _)) hc hm hl).mono ?_
  rintro e w2 ⟨rfl,rfl⟩
  go_wp2_with fail
  go_ret
  exact⟨ret_bool (by first | exact H.out.symm | (rw[H.out];simp;omega)),(Kp.refl w).alloc _⟩
 have hz:((bits (val xs):Int)==0)=false:=beq_eq_false_iff_ne.2 (by omega)
 by_cases h1:bits (val xs)≤4096
 rotate_left
 ·have H:=hid (show inrB (val xs) ex=false from decide_eq_false (by omega))
  clear h0
  go_enter Tryz.func162,Tryz.ntmps162
  go_wp2_with fail
  refine (size_any a xs c _ (h.kp ((Kp.refl w).alloc _)) hc hm hl).mono ?_
  rintro e w2 ⟨rfl,rfl⟩
  go_wp2_with fail
  go_ret
  exact⟨ret_bool (by first | exact H.out.symm | (rw[H.out];simp;omega)),(Kp.refl w).alloc _⟩
 by_cases h2:-16384≤ex
 rotate_left
 ·have H:=hid (show inrB (val xs) ex=false from decide_eq_false (by omega))
  clear h0
  go_enter Tryz.func162,Tryz.ntmps162
  go_wp2_with fail
  refine (size_any a xs c _ (h.kp ((Kp.refl w).alloc _)) hc hm hl).mono ?_
  rintro e w2 ⟨rfl,rfl⟩
  go_wp2_with fail
  go_ret
  exact⟨ret_bool (by first | exact H.out.symm | (rw[H.out];simp;omega)),(Kp.refl w).alloc _⟩
 by_cases h3:ex≤16384
 rotate_left
 ·have H:=hid (show inrB (val xs) ex=false from decide_eq_false (by omega))
  clear h0
  go_enter Tryz.func162,Tryz.ntmps162
  go_wp2_with fail
  refine (size_any a xs c _ (h.kp ((Kp.refl w).alloc _)) hc hm hl).mono ?_
  rintro e w2 ⟨rfl,rfl⟩
  go_wp2_with fail
  go_ret
  exact⟨ret_bool (by first | exact H.out.symm | (rw[H.out];simp;omega)),(Kp.refl w).alloc _⟩
 by_cases h4:(bits (val xs):Int)+ex≤16384
 ·have H:=hid (show inrB (val xs) ex=true from decide_eq_true (.inr ⟨h1,h2,h3,h4⟩))
  clear h0
  go_enter Tryz.func162,Tryz.ntmps162
  go_wp2_with fail
  refine (size_any a xs c _ (h.kp ((Kp.refl w).alloc _)) hc hm hl).mono ?_
  rintro e w2 ⟨rfl,rfl⟩
  go_wp2_with fail
  go_ret
  exact⟨ret_bool (by first | exact H.out.symm | (rw[H.out];simp;omega)),(Kp.refl w).alloc _⟩
 have H:=hid (show inrB (val xs) ex=false from decide_eq_false (by omega))
 clear h0
 go_enter Tryz.func162,Tryz.ntmps162
 go_wp2_with fail
 refine (size_any a xs c _ (h.kp ((Kp.refl w).alloc _)) hc hm hl).mono ?_
 rintro e w2 ⟨rfl,rfl⟩
 go_wp2_with fail
 go_ret
 exact⟨ret_bool (by first | exact H.out.symm | (rw[H.out];simp;omega)),(Kp.refl w).alloc _⟩
def expB (e:Int):Bool:=decide (-32768≤e∧e≤32768)
theorem exponent_any (ex:Int) (w:World) (he:I64 ex) :
  Calls Tryz.prog 310 #[.int .i64 ex] w fun e w'=>e=.returned (.bool (expB ex))∧w=w':=by
 obtain⟨he0,he1⟩:=he
 by_cases h1:-32768≤ex
 rotate_left
 ·have H:=hid (show expB ex=false from decide_eq_false (by omega))
  go_enter Tryz.func310,Tryz.ntmps310
  go_wp2_with fail
  go_ret
  exact⟨ret_bool (by first | exact H.out.symm | (rw[H.out];simp;omega)),rfl⟩
 by_cases h2:ex≤32768
 ·have H:=hid (show expB ex=true from decide_eq_true ⟨h1,h2⟩)
  go_enter Tryz.func310,Tryz.ntmps310
  go_wp2_with fail
  go_ret
  exact⟨ret_bool (by first | exact H.out.symm | (rw[H.out];simp;omega)),rfl⟩
 have H:=hid (show expB ex=false from decide_eq_false (by omega))
 go_enter Tryz.func310,Tryz.ntmps310
 go_wp2_with fail
 go_ret
 exact⟨ret_bool (by first | exact H.out.symm | (rw[H.out];simp;omega)),rfl⟩
def vld (s:Bool) (xs:List Nat) (e:Int):Bool :=
 if xs=[] then !s&&decide (e=0)
 else decide (xs.length≤256)&&(decide (nth xs 0 % 2=1)&&(decide (nth xs (xs.length-1)≠0)&&inrB (val xs) e))
def dyOf (s:Bool) (xs:List Nat) (e:Int):Dy:=⟨s,val xs,e⟩
theorem val_mod_two {xs:List Nat}:val xs % 2=nth xs 0 % 2:=by
 cases xs with
 | cons x xs=>rw[nth_cons_zero,val_cons];omega
 | nil=>rfl
theorem vld_ok {s:Bool} {xs:List Nat} {e:Int} (h:Lt32 xs) (hv:vld s xs e=true):(dyOf s xs e).ok∧limbs (val xs)=xs∧xs.length≤256:=by
 unfold vld at hv
 split at hv
 ·next h0 =>
  subst h0
  simp at hv
  exact⟨.inl ⟨rfl,hv.1,hv.2⟩,limbs_zero,by simp⟩
 next h0 =>
 simp only[Bool.and_eq_true,decide_eq_true_eq] at hv
 obtain⟨h1,h2,h3,h4⟩:=hv
 have ht:=top_of_nth (fun _=>h3)
 have hl:=limbs_val h ht
 refine⟨.inr ?_,hl,h1⟩
 unfold inrB at h4
 have h5:=of_decide_eq_true h4
 have hne:val xs≠0:=fun h0'=>h0 (val_eq_zero_top ht h0')
 have:=bits_pos hne
 refine⟨by show val xs % 2=1;rw[val_mod_two];exact h2,?_⟩
 show bits (val xs)≤4096∧-16384≤e∧e≤16384∧(bits (val xs):Int)+e≤16384
 omega
theorem limbs_len_bits {n k:Nat} (h:bits n≤32*k):(limbs n).length≤k:=limbs_length_le.2 (by rw[pow32];exact bits_le.1 h)
theorem ok_vld {d:Dy} (h:d.ok):vld d.neg (limbs d.m) d.e=true:=by
 unfold vld
 rcases h with ⟨h1,h2,h3⟩ | ⟨h1,h2,h3,h4,h5⟩
 ·rw[h1,limbs_zero,if_pos rfl,h2,h3];rfl
 have h0:d.m≠0:=by omega
 have hne:limbs d.m≠[]:=by rw[Ne,limbs_eq_nil];exact h0
 rw[if_neg hne,val_limbs]
 have hl:(limbs d.m).length≤256:=limbs_len_bits (by omega)
 have hp:0<(limbs d.m).length:=List.length_pos_iff.2 hne
 have e1:nth (limbs d.m) 0 % 2=1:=by rw[← val_mod_two,val_limbs];exact h1
 have e2:=top_nth (limbs_top d.m) hp
 have e3:inrB d.m d.e=true:=decide_eq_true (.inr ⟨h2,h3,h4,h5⟩)
 rw[e3]
 simp[hl,e1,e2]
theorem ok_len {d:Dy} (h:d.ok):(limbs d.m).length≤128:=by
 rcases h with ⟨h1,h2,h3⟩ | ⟨h1,h2,h3,h4,h5⟩
 ·rw[h1,limbs_zero];simp
 exact limbs_len_bits (by omega)
set_option maxHeartbeats 4000000 in
set_option maxRecDepth 100000 in
theorem Valid_any (s:Bool) (a:Option Addr) (xs:List Nat) (c:Nat) (ex:Int) (w:World) (h:Rd w a xs) (hc:xs.length≤c) (hm:c≤maxLen) (hl:xs.length≤1100000) (he:I64 ex) :
  Calls Tryz.prog 114 #[.agg #[.bool s,.slice a xs.length c,.int .i64 ex]] w fun e w'=>e=.returned (.bool (vld s xs ex))∧Kp w w':=by
 have Hr:=hid (inRange_any s a xs c ex (w.alloc (.cells #[.bool s,.slice a xs.length c,.int .i64 ex] 113)) (h.kp ((Kp.refl w).alloc _)) hc hm hl he)
 by_cases h0:xs=[]
 ·have H:=hid (show vld s xs ex=(!s&&decide (ex=0)) by unfold vld;rw[if_pos h0])
  have hz:xs.length=0:=by rw[h0];rfl
  clear h0
  rw[hz]
  cases s with
  | true =>
   go_enter Tryz.func114,Tryz.ntmps114
   go_wp2_with fail
   go_ret
   exact⟨ret_bool (by rw[H.out];rfl),(Kp.refl w).alloc _⟩
  | false =>
  by_cases hx:ex=0
  ·have hx2:(ex==0)=true:=beq_iff_eq.2 hx
   have Hx:=hid hx
   clear hx
   go_enter Tryz.func114,Tryz.ntmps114
   go_wp2_with fail
   go_ret
   exact⟨ret_bool (by rw[H.out,Hx.out];rfl),(Kp.refl w).alloc _⟩
  have hx2:(ex==0)=false:=beq_eq_false_iff_ne.2 hx
  go_enter Tryz.func114,Tryz.ntmps114
  go_wp2_with fail
  go_ret
  exact⟨ret_bool (by rw[H.out];simp[hx]),(Kp.refl w).alloc _⟩
 have H:=hid (show vld s xs ex=(decide (xs.length≤256)&&(decide (nth xs 0 % 2=1)&&(decide (nth xs (xs.length-1)≠0)&&inrB (val xs) ex))) by unfold vld;rw[if_neg h0])
 have hpos:0<xs.length:=List.length_pos_iff.2 h0
 clear h0
 have hz:((xs.length:Int)==0)=false:=beq_eq_false_iff_ne.2 (by omega)
 obtain⟨b,o,rfl,hcell⟩:=(h.kp ((Kp.refl w).alloc (.cells #[.bool s,.slice a xs.length c,.int .i64 ex] 113))).some hpos
 have x0:=hcell 0 hpos
 have x1:=hcell (xs.length-1) (by omega)
 rw[Nat.add_zero] at x0
 clear hcell
 by_cases h1:xs.length≤256
 rotate_left
 ·have h1':decide ((xs.length:Int)≤256)=false:=decide_eq_false (by omega)
  go_enter Tryz.func114,Tryz.ntmps114
  go_wp2_with fail
  go_ret
  exact⟨ret_bool (by rw[H.out];simp;omega),(Kp.refl w).alloc _⟩
 by_cases h2:nth xs 0 % 2=1
 rotate_left
 ·have h2':((nth xs 0:Int) % 2==1)=false:=beq_eq_false_iff_ne.2 (by omega)
  have H2:=hid h2
  clear h2
  go_enter Tryz.func114,Tryz.ntmps114
  go_wp2_with fail
  go_ret
  exact⟨ret_bool (by rw[H.out];simp[H2.out]),(Kp.refl w).alloc _⟩
 have h2':((nth xs 0:Int) % 2==1)=true:=beq_iff_eq.2 (by omega)
 by_cases h3:nth xs (xs.length-1)=0
 ·have h3':((nth xs (xs.length-1):Int) != 0)=false:=by rw[h3];rfl
  have H3:=hid h3
  have H2:=hid h2
  clear h3 h2
  go_enter Tryz.func114,Tryz.ntmps114
  go_wp2_with fail
  go_ret
  exact⟨ret_bool (by rw[H.out,H3.out];simp),(Kp.refl w).alloc _⟩
 have h3':((nth xs (xs.length-1):Int) != 0)=true:=by rw[bne_iff_ne];omega
 have H3:=hid h3
 have H2:=hid h2
 clear h3 h2
 go_enter Tryz.func114,Tryz.ntmps114
 go_wp2_with fail
 refine Hr.out.mono ?_
 rintro e w1 ⟨rfl,hk⟩
 go_wp2_with fail
 go_ret
 exact⟨ret_bool (by rw[H.out];simp[H3.out,H2.out,h1]),((Kp.refl w).alloc _).trans hk⟩
section
def Dy.av (d:Dy):Nat:=d.m*2 ^ (d.e+16384).toNat
theorem Dy.iv_av (d:Dy):d.iv=sg d.neg d.av:=rfl
section
variable {n K p:Nat}
end
end
section
def Dy.opp (d:Dy):Dy:=if d.m=0 then .zero else ⟨!d.neg,d.m,d.e⟩
theorem Dy.opp_iv (d:Dy):d.opp.iv=-d.iv:=by
 unfold Dy.opp
 split
 ·next h=>rw[Dy.iv_zero,Dy.iv_eq_zero.2 h];rfl
 unfold Dy.iv sg;cases d.neg <;> simp
theorem Dy.opp_ok {d:Dy} (h:d.ok):d.opp.ok:=by
 unfold Dy.opp
 split
 ·exact Dy.ok_zero
 next h0 =>
 rcases h with ⟨h1,_⟩ | h1
 ·exact absurd h1 h0
 exact .inr h1
theorem Dy.opp_m (d:Dy):d.opp.m=d.m:=by unfold Dy.opp;split <;> simp_all [Dy.zero]
theorem isP.opp {p:Nat} {d:Dy} (h:isP p d):isP p d.opp:=⟨Dy.opp_ok h.1,by rw[Dy.opp_m];exact h.2⟩
theorem isP.zero (p:Nat):isP p .zero:=⟨Dy.ok_zero,Nat.zero_le _⟩
theorem Dy.av_zero {d:Dy}:d.av=0↔d.m=0:=by
 unfold Dy.av
 constructor
 ·intro h
  rcases Nat.mul_eq_zero.1 h with h | h
  ·exact h
  exact absurd h (two_pow_ne _)
 intro h;rw[h,Nat.zero_mul]
theorem Dy.iv_pos {d:Dy} (h:d.neg=false):d.iv=d.av:=by rw[Dy.iv_av,h];rfl
theorem Dy.iv_neg {d:Dy} (h:d.neg=true):d.iv=-(d.av:Int):=by rw[Dy.iv_av,h];rfl
end
def DyAt (w:World) (d:Dy) (a:Option Addr) (c:Nat):Prop:=d.ok∧Rd w a (limbs d.m)∧(limbs d.m).length≤c∧c≤maxLen
theorem DyAt.kp {w w':World} {d:Dy} {a:Option Addr} {c:Nat} (h:DyAt w d a c) (k:Kp w w'):DyAt w' d a c:=⟨h.1,h.2.1.kp k,h.2.2⟩
theorem ok_e {d:Dy} (h:d.ok):-16384≤d.e∧d.e≤16384:=by
 rcases h with ⟨_,_,h⟩ | ⟨_,_,h,h',_⟩ <;> omega
theorem ok_I64 {d:Dy} (h:d.ok):I64 d.e:=by have:=ok_e h;exact⟨by omega,by omega⟩
theorem Valid_ok (d:Dy) (a:Option Addr) (c:Nat) (w:World) (h:DyAt w d a c) :
  Calls Tryz.prog 114 #[.agg #[.bool d.neg,.slice a (limbs d.m).length c,.int .i64 d.e]] w fun e w'=>e=.returned (.bool true)∧Kp w w':=by
 have:=Valid_any d.neg a (limbs d.m) c d.e w h.2.1 h.2.2.1 h.2.2.2 (by have:=ok_len h.1;omega) (ok_I64 h.1)
 rwa [ok_vld h.1] at this
theorem DyAt.drew {w:World} {d:Dy} {a:Option Addr} {c:Nat} (h:DyAt w d a c):DyAt w.drew d a c:=h.kp (Kp.refl w).drew
theorem size_ok (d:Dy) (a:Option Addr) (c:Nat) (w:World) (h:DyAt w d a c) :
  Calls Tryz.prog 201 #[.slice a (limbs d.m).length c] w fun e w'=>e=.returned (.int .i64 (bits d.m))∧w=w':=by
 have hs:=size_any a (limbs d.m) c w h.2.1 h.2.2.1 h.2.2.2 (by have:=ok_len h.1;omega)
 rwa [val_limbs] at hs
def topI (d:Dy):Int:=if d.m=0 then 0 else (bits d.m:Int)+d.e
theorem len_ne {n:Nat} (h:n≠0):(((limbs n).length:Int)==0)=false :=
 beq_eq_false_iff_ne.2 (by
  have:limbs n≠[]:=by rw[Ne,limbs_eq_nil];exact h
  have:=List.length_pos_iff.2 this
  omega)
set_option maxHeartbeats 2000000 in
theorem Top_ok (d:Dy) (a:Option Addr) (c:Nat) (w:World) (h:DyAt w d a c) :
  Calls Tryz.prog 169 #[.agg #[.bool d.neg,.slice a (limbs d.m).length c,.int .i64 d.e]] w fun e w'=>e=.returned (.int .i64 (topI d))∧Kp w w':=by
 have hb:=bits_val_le (limbs_lt32 d.m)
 rw[val_limbs] at hb
 have hl:=ok_len h.1
 have he:=ok_e h.1
 by_cases h0:d.m=0
 ·have H:=hid (show topI d=0 by unfold topI;rw[if_pos h0])
  have H2:=hid (Valid_ok d a c _ (h.kp ((Kp.refl w).alloc (.cells #[.bool d.neg,.slice a (limbs d.m).length c,.int .i64 d.e] 113))))
  have hz:(limbs d.m).length=0:=by rw[h0,limbs_zero];rfl
  clear h0
  rw[hz] at H2 ⊢
  clear hz hl hb
  go_enter Tryz.func169,Tryz.ntmps169
  go_wp2_with fail
  refine H2.out.mono ?_
  rintro e w1 ⟨rfl,hk⟩
  obtain⟨c0,c1,c2,_⟩:=(Box3.new w (.bool d.neg) (.slice a 0 c) (.int .i64 d.e) 113).kp hk
  go_wp2_with fail
  go_ret
  exact⟨ret_int H.out.symm,((Kp.refl w).alloc _).trans hk⟩
 have H:=hid (show topI d=(bits d.m:Int)+d.e by unfold topI;rw[if_neg h0])
 have hz:=len_ne h0
 clear h0
 go_enter Tryz.func169,Tryz.ntmps169
 go_wp2_with fail
 refine (Valid_ok d a c _ (h.kp ((Kp.refl w).alloc _))).mono ?_
 rintro e w1 ⟨rfl,hk⟩
 obtain⟨c0,c1,c2,_⟩:=(Box3.new w (.bool d.neg) (.slice a (limbs d.m).length c) (.int .i64 d.e) 113).kp hk
 have hk2:=((Kp.refl w).alloc _).trans hk
 have hd:=(h.kp hk2).drew
 go_wp2_with fail
 go_region_held3 (fun w'=>w'.cell? ⟨w.heap.size,1,none⟩=some (.slice a (limbs d.m).length c)∧w'.cell? ⟨w.heap.size,2,none⟩=some (.int .i64 d.e)) (go_keep)
  (first | (go_at_call 201;refine (size_ok d a c _ hd).mono ?_;rintro e w2 ⟨rfl,rfl⟩))
 go_wp2_with fail
 go_ret
 exact⟨ret_int ((IntWalk.i64_in _ (by omega)).trans H.out.symm),hk2.drew⟩
def sgn (d:Dy):Int:=if d.m=0 then 0 else if d.neg then -1 else 1
theorem sgn_iv (d:Dy):(sgn d=0↔d.iv=0)∧(sgn d=-1↔d.iv<0)∧(sgn d=1↔0<d.iv):=by
 have hav:d.m≠0→0<(d.av:Int):=fun h=>by
  have:d.av≠0:=fun h2=>h (Dy.av_zero.1 h2)
  omega
 unfold sgn
 by_cases h0:d.m=0
 ·have:=Dy.iv_eq_zero.2 h0
  rw[if_pos h0,this];simp
 rw[if_neg h0]
 have h1:=hav h0
 cases hn:d.neg with
 | true=>rw[Dy.iv_neg hn];simp;omega
 | false=>rw[Dy.iv_pos hn];simp;omega
set_option maxHeartbeats 2000000 in
theorem Bits_ok (d:Dy) (a:Option Addr) (c:Nat) (w:World) (h:DyAt w d a c) :
  Calls Tryz.prog 281 #[.agg #[.bool d.neg,.slice a (limbs d.m).length c,.int .i64 d.e]] w fun e w'=>e=.returned (.int .i64 (bits d.m))∧Kp w w':=by
 go_enter Tryz.func281,Tryz.ntmps281
 go_wp2_with fail
 refine (Valid_ok d a c _ (h.kp ((Kp.refl w).alloc _))).mono ?_
 rintro e w1 ⟨rfl,hk⟩
 obtain⟨c0,c1,c2,_⟩:=(Box3.new w (.bool d.neg) (.slice a (limbs d.m).length c) (.int .i64 d.e) 113).kp hk
 have hk2:=((Kp.refl w).alloc _).trans hk
 go_wp2_with fail
 refine (size_ok d a c _ (h.kp hk2)).mono ?_
 rintro e w2 ⟨rfl,rfl⟩
 go_wp2_with fail
 go_ret
 exact⟨rfl,hk2⟩
set_option maxHeartbeats 2000000 in
theorem Sign_ok (d:Dy) (a:Option Addr) (c:Nat) (w:World) (h:DyAt w d a c) :
  Calls Tryz.prog 120 #[.agg #[.bool d.neg,.slice a (limbs d.m).length c,.int .i64 d.e]] w fun e w'=>e=.returned (.int .i64 (sgn d))∧Kp w w':=by
 by_cases h0:d.m=0
 ·have H:=hid (show sgn d=0 by unfold sgn;rw[if_pos h0])
  have H2:=hid (Valid_ok d a c _ (h.kp ((Kp.refl w).alloc (.cells #[.bool d.neg,.slice a (limbs d.m).length c,.int .i64 d.e] 113))))
  have hz:(limbs d.m).length=0:=by rw[h0,limbs_zero];rfl
  clear h0
  rw[hz] at H2 ⊢
  clear hz
  go_enter Tryz.func120,Tryz.ntmps120
  go_wp2_with fail
  refine H2.out.mono ?_
  rintro e w1 ⟨rfl,hk⟩
  obtain⟨c0,c1,c2,_⟩:=(Box3.new w (.bool d.neg) (.slice a 0 c) (.int .i64 d.e) 113).kp hk
  go_wp2_with fail
  go_ret
  exact⟨ret_int H.out.symm,((Kp.refl w).alloc _).trans hk⟩
 have H:=hid (show sgn d=if d.neg then -1 else 1 by unfold sgn;rw[if_neg h0])
 have hz:=len_ne h0
 clear h0
 have H2:=hid (Valid_ok d a c _ (h.kp ((Kp.refl w).alloc (.cells #[.bool d.neg,.slice a (limbs d.m).length c,.int .i64 d.e] 113))))
 cases hn:d.neg with
 | true =>
  rw[hn] at H2 H
  clear hn
  go_enter Tryz.func120,Tryz.ntmps120
  go_wp2_with fail
  refine H2.out.mono ?_
  rintro e w1 ⟨rfl,hk⟩
  obtain⟨c0,c1,c2,_⟩:=(Box3.new w (.bool true) (.slice a (limbs d.m).length c) (.int .i64 d.e) 113).kp hk
  go_wp2_with fail
  go_ret
  exact⟨ret_int H.out.symm,((Kp.refl w).alloc _).trans hk⟩
 | false =>
 rw[hn] at H2 H
 clear hn
 go_enter Tryz.func120,Tryz.ntmps120
 go_wp2_with fail
 refine H2.out.mono ?_
 rintro e w1 ⟨rfl,hk⟩
 obtain⟨c0,c1,c2,_⟩:=(Box3.new w (.bool false) (.slice a (limbs d.m).length c) (.int .i64 d.e) 113).kp hk
 go_wp2_with fail
 go_ret
 exact⟨ret_int H.out.symm,((Kp.refl w).alloc _).trans hk⟩
end Go.Proofs.YteidgoldnllabaaGreatDoor
