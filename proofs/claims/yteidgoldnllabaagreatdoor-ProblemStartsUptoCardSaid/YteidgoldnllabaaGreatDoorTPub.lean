/-
  Walks: natural.Add, Sub, Mul, Shl, Shr.
-/
import Derived.Test.YteidgoldnllabaaGreatDoorTTpoN
import Derived.Deep.RegionHeld3
set_option maxHeartbeats 4000000
set_option maxRecDepth 100000
namespace Go.Proofs.YteidgoldnllabaaGreatDoor
open Go.RowKit
open Lib (hid)
theorem Add_any (a b:Option Addr) (xs ys:List Nat) (c d:Nat) (w:World) (hx:Rd w a xs) (hy:Rd w b ys) (hxl:xs.length≤256) (hyl:ys.length≤256) (hv:(limbs (val xs+val ys)).length≤256) :
  Calls Tryz.prog 303 #[.slice a xs.length c,.slice b ys.length d] w (Nat2 w (val xs+val ys) 0):=by
 have Hv:=hid hv
 clear hv
 go_enter Tryz.func303,Tryz.ntmps303
 go_wp2_with fail
 refine (long_two a b xs.length c ys.length d _ _ hxl hyl (by simp) (by simp)).mono ?_
 rintro e w1 ⟨rfl,hk1⟩
 have hk:Kp w w1:=((Kp.refl w).alloc _).trans hk1
 clear hk1
 go_wp2_with fail
 refine (add_any a b xs ys c d _ (hx.kp hk) (hy.kp hk) (by omega) (by omega)).mono ?_
 rintro e w2 ⟨g,zs,rfl,hzl,hzv,hrd,hk2⟩
 have hm:zs.length≤maxLen:=by rw[hzl];unfold maxLen;omega
 rw[← hzl]
 have Hzv:=hid hzv
 clear hzv hzl
 go_wp2_with fail
 refine (done_ok _ zs _ _ hrd (Nat.le_refl _) hm (by rw[Hzv.out];exact Hv.out)).mono ?_
 rintro e w3 ⟨a3,c3,rfl,h1,h2,h3,h4⟩
 go_wp2_with fail
 go_ret2
 rw[Hzv.out] at h1 h3 ⊢
 exact⟨a3,c3,rfl,h1,h2,h3,(hk.trans hk2).trans h4⟩
theorem Mul_any (a b:Option Addr) (xs ys:List Nat) (c d:Nat) (w:World) (hx:Rd w a xs) (hy:Rd w b ys) (hxl:xs.length≤256) (hyl:ys.length≤256) (hxc:xs.length≤c) (hyc:ys.length≤d) (hc:c≤maxLen) (hd:d≤maxLen) (hv:(limbs (val xs*val ys)).length≤256) :
  Calls Tryz.prog 171 #[.slice a xs.length c,.slice b ys.length d] w (Nat2 w (val xs*val ys) 0):=by
 have Hv:=hid hv
 clear hv
 have hl1:=limbs_len_le hx.lt32
 have hl2:=limbs_len_le hy.lt32
 go_enter Tryz.func171,Tryz.ntmps171
 go_wp2_with fail
 refine (long_two a b xs.length c ys.length d _ _ hxl hyl (by simp) (by simp)).mono ?_
 rintro e w1 ⟨rfl,hk1⟩
 have hk:Kp w w1:=((Kp.refl w).alloc _).trans hk1
 clear hk1
 go_wp2_with fail
 refine (trim_any a xs c w1 (hx.kp hk) hxc hc).mono ?_
 rintro e w2 ⟨rfl,rfl⟩
 go_wp2_with fail
 refine (trim_any b ys d w1 (hy.kp hk) hyc hd).mono ?_
 rintro e w2 ⟨rfl,rfl⟩
 go_wp2_with fail
 refine (mul_any a b (limbs (val xs)) (limbs (val ys)) c d _ (hx.kp hk).limbs (hy.kp hk).limbs (by omega) (by omega)).mono ?_
 rintro e w2 ⟨g,zs,rfl,hzl,hzv,hrd,hk2⟩
 rw[val_limbs,val_limbs] at hzv
 have hm:zs.length≤maxLen:=by rw[hzl];unfold maxLen;omega
 rw[← hzl]
 have Hzv:=hid hzv
 clear hzv hzl
 go_wp2_with fail
 refine (done_ok _ zs _ _ hrd (Nat.le_refl _) hm (by rw[Hzv.out];exact Hv.out)).mono ?_
 rintro e w3 ⟨a3,c3,rfl,h1,h2,h3,h4⟩
 go_wp2_with fail
 go_ret2
 rw[Hzv.out] at h1 h3 ⊢
 exact⟨a3,c3,rfl,h1,h2,h3,(hk.trans hk2).trans h4⟩
theorem Sub_any (a b:Option Addr) (xs ys:List Nat) (c d:Nat) (w:World) (hx:Rd w a xs) (hy:Rd w b ys) (hxl:xs.length≤256) (hyl:ys.length≤256) (hxc:xs.length≤c) (hyc:ys.length≤d) (hc:c≤maxLen) (hd:d≤maxLen) (hle:val ys≤val xs) :
  Calls Tryz.prog 304 #[.slice a xs.length c,.slice b ys.length d] w (Nat2 w (val xs-val ys) 0):=by
 have hl1:=limbs_len_le hx.lt32
 have Hv:=hid (Nat.le_trans (limbs_length_mono (Nat.sub_le (val xs) (val ys))) (Nat.le_trans hl1 hxl))
 have Hcmp:=hid hle
 have hcm:¬ cmpN (val xs) (val ys)<0:=by unfold cmpN;rw[if_neg (by omega)];split <;> omega
 go_enter Tryz.func304,Tryz.ntmps304
 go_wp2_with fail
 refine (long_two a b xs.length c ys.length d _ _ hxl hyl (by simp) (by simp)).mono ?_
 rintro e w1 ⟨rfl,hk1⟩
 have hk:Kp w w1:=((Kp.refl w).alloc _).trans hk1
 clear hk1
 go_wp2_with fail
 refine (cmp_any a b xs ys c d _ (hx.kp hk) (hy.kp hk) hxc hyc hc hd).mono ?_
 rintro e w2 ⟨rfl,hk2⟩
 have hk':=hk.trans hk2
 clear hk hk2
 go_wp2_with fail
 refine (sub_any a b xs ys c d _ (hx.kp hk') (hy.kp hk') (by omega) hxc hyc hc hd Hcmp.out).mono ?_
 rintro e w3 ⟨g,zs,rfl,hzl,hzv,hrd,hk3⟩
 have hm:zs.length≤maxLen:=by rw[hzl];unfold maxLen;omega
 rw[← hzl]
 have Hzv:=hid hzv
 clear hzv hzl
 go_wp2_with fail
 refine (done_ok _ zs _ _ hrd (Nat.le_refl _) hm (by rw[Hzv.out];exact Hv.out)).mono ?_
 rintro e w4 ⟨a3,c3,rfl,h1,h2,h3,h4⟩
 go_wp2_with fail
 go_ret2
 rw[Hzv.out] at h1 h3 ⊢
 exact⟨a3,c3,rfl,h1,h2,h3,(hk'.trans hk3).trans h4⟩
theorem Shl_any (a:Option Addr) (xs:List Nat) (c:Nat) (n:Int) (w:World) (hx:Rd w a xs) (hxl:xs.length≤256) (hxc:xs.length≤c) (hc:c≤maxLen) (h0:0≤n) (hn:n≤65536) (hv:(limbs (val xs*2 ^ n.toNat)).length≤256) :
  Calls Tryz.prog 172 #[.slice a xs.length c,.int .i64 n] w (Nat2 w (val xs*2 ^ n.toNat) 0):=by
 obtain⟨n,rfl⟩:=Int.eq_ofNat_of_zero_le h0
 rw[Int.toNat_natCast] at hv ⊢
 have Hv:=hid hv
 clear hv
 have hl1:=limbs_len_le hx.lt32
 go_enter Tryz.func172,Tryz.ntmps172
 go_wp2_with fail
 refine (long_one a xs.length c _ _ hxl (by simp)).mono ?_
 rintro e w1 ⟨rfl,hk1⟩
 have hk:Kp w w1:=((Kp.refl w).alloc _).trans hk1
 clear hk1
 go_wp2_with fail
 refine (shl_any a xs c n _ (hx.kp hk) hxc hc (by omega) (by omega)).mono ?_
 rintro e w3 ⟨a2,c2,zs,rfl,hzl,hzc,hcm,hzv,hrd,hk3⟩
 rw[← hzl] at hzc ⊢
 have Hzv:=hid hzv
 clear hzv hzl
 go_wp2_with fail
 refine (done_ok _ zs _ _ hrd hzc hcm (by rw[Hzv.out];exact Hv.out)).mono ?_
 rintro e w4 ⟨a3,c3,rfl,h1,h2,h3,h4⟩
 go_wp2_with fail
 go_ret2
 rw[Hzv.out] at h1 h3 ⊢
 exact⟨a3,c3,rfl,h1,h2,h3,(hk.trans hk3).trans h4⟩
theorem Shr_any (a:Option Addr) (xs:List Nat) (c:Nat) (n:Int) (w:World) (hx:Rd w a xs) (hxl:xs.length≤256) (hxc:xs.length≤c) (hc:c≤maxLen) (h0:0≤n) (hn:n≤65536) :
  Calls Tryz.prog 287 #[.slice a xs.length c,.int .i64 n] w (Nat2 w (val xs/2 ^ n.toNat) 0):=by
 obtain⟨n,rfl⟩:=Int.eq_ofNat_of_zero_le h0
 rw[Int.toNat_natCast]
 have hl1:=limbs_len_le hx.lt32
 have Hv:=hid (Nat.le_trans (limbs_length_mono (Nat.div_le_self (val xs) (2 ^ n))) (Nat.le_trans hl1 hxl))
 go_enter Tryz.func287,Tryz.ntmps287
 go_wp2_with fail
 refine (long_one a xs.length c _ _ hxl (by simp)).mono ?_
 rintro e w1 ⟨rfl,hk1⟩
 have hk:Kp w w1:=((Kp.refl w).alloc _).trans hk1
 clear hk1
 go_wp2_with fail
 refine (shr_any a xs c n _ (hx.kp hk) hxc hc (by omega) (by omega)).mono ?_
 rintro e w3 ⟨a2,c2,zs,rfl,hzl,hzc,hcm,hzv,hrd,hk3⟩
 rw[← hzl] at hzc ⊢
 have Hzv:=hid hzv
 clear hzv hzl
 go_wp2_with fail
 refine (done_ok _ zs _ _ hrd hzc hcm (by rw[Hzv.out];exact Hv.out)).mono ?_
 rintro e w4 ⟨a3,c3,rfl,h1,h2,h3,h4⟩
 go_wp2_with fail
 go_ret2
 rw[Hzv.out] at h1 h3 ⊢
 exact⟨a3,c3,rfl,h1,h2,h3,(hk.trans hk3).trans h4⟩
def Shows (w:World) (xs:List Nat) (e:Ending) (w':World):Prop :=
 ∃ a c,e=.returned (.slice a xs.length c)∧Rd w' a xs∧xs.length≤c∧c≤maxLen∧Kp w w'
theorem clone_any (a:Option Addr) (xs:List Nat) (c:Nat) (w:World) (h:Rd w a xs) (hl:xs.length≤1100000) :
  Calls Tryz.prog 288 #[.slice a xs.length c] w (Shows w xs):=by
 have hn:=nil_u32
 cases a with
 | some ad =>
  go_enter Tryz.func288,Tryz.ntmps288
  go_wp2_with (at_builtin;refine wpList_append_u32s rfl _ _ rfl w.heap.size _ [] rfl (Own.empty w _ (Nat.le_refl _)) (some ad) xs c rfl (h.kp ((Kp.refl w).alloc _)) (by simp;omega) (by simp) ?_;intro a2 c2 w2 hown2 hb2)
  go_ret
  obtain⟨h5,h6,h7,h8⟩:=hown2.rd
  exact⟨a2,c2,by simp,h8,h6,h7,((Kp.refl w).alloc _).below.trans hb2⟩
 | none =>
 have hys:xs=[]:=by
  rcases h.2 with h | ⟨b,o,h,_⟩
  ·exact h
  ·cases h
 subst hys
 go_enter Tryz.func288,Tryz.ntmps288
 go_wp2_with fail
 go_ret
 exact⟨none,0,rfl,.nil _ _,Nat.le_refl _,by unfold maxLen;omega,.refl _⟩
theorem size_any (a:Option Addr) (xs:List Nat) (c:Nat) (w:World) (h:Rd w a xs) (hc:xs.length≤c) (hm:c≤maxLen) (hl:xs.length≤1100000) :
  Calls Tryz.prog 201 #[.slice a xs.length c] w fun e w'=>e=.returned (.int .i64 (bits (val xs)))∧w=w':=by
 have H:=hid (bits_any a xs c w h hc hm hl)
 go_enter Tryz.func201,Tryz.ntmps201
 go_wp2_with (refine H.out.mono ?_;rintro e w2 ⟨rfl,rfl⟩)
 go_ret
 exact⟨rfl,rfl⟩
theorem trimmed_any (a:Option Addr) (xs:List Nat) (c:Nat) (w:World) (h:Rd w a xs) (hc:xs.length≤c) (hm:c≤maxLen) :
  Calls Tryz.prog 285 #[.slice a xs.length c] w fun e w'=>e=.returned (.slice a (limbs (val xs)).length c)∧w=w':=by
 unfold maxLen at hm
 go_enter Tryz.func285,Tryz.ntmps285
 go_wp2
 go_loop [3] (fun x=>∃ n:Nat,n≤xs.length∧x=.int .i64 n∧∀ i,n≤i→i<xs.length→nth xs i=0) (fun x=>(intOf x).toNat)
 case atStart=>exact⟨xs.length,Nat.le_refl _,rfl,fun i h1 h2=>by omega⟩
 case round =>
 obtain⟨n,hn,rfl,hz⟩:=hrel
 have Hz:=hid hz;clear hz
 by_cases h0:n=0
 ·subst h0
  go_wp2
  go_ret
  have:=trim_top h.lt32 hn Hz.out (by omega)
  rw[← this]
  exact⟨rfl,rfl⟩
 obtain⟨b,o,rfl,hcell⟩:=h.some (i:=n-1) (by omega)
 have hk:=hcell (n-1) (by omega)
 clear hcell
 by_cases hx:nth xs (n-1)=0
 rotate_left
 ·have hx2:((nth xs (n-1):Int)==0)=false:=by simp;omega
  go_wp2
  go_ret
  have:=trim_top h.lt32 hn Hz.out (fun _=>hx)
  rw[← this,List.length_take,Nat.min_eq_left hn]
  exact⟨rfl,rfl⟩
 have hx2:((nth xs (n-1):Int)==0)=true:=by simp[hx]
 have Hx:=hid hx;clear hx
 go_wp2
 go_round
 case measure=>simp[intOf];omega
 case rel =>
 refine⟨n-1,by omega,by congr 1;omega,fun i h1 h2=>?_⟩
 by_cases hi:i=n-1
 ·rw[hi];exact Hx.out
 exact Hz.out i (by omega) h2
theorem tz_add {x r:Nat} (h0:x≠0) (hx:x<4294967296):tz (x+4294967296*r)=tz x:=by
 obtain⟨h1,h2⟩:=oddp_spec h0
 have ht:tz x<32:=by
  apply Classical.byContradiction;intro hn
  have h3:2 ^ 32≤2 ^ tz x:=Nat.pow_le_pow_right (by decide) (by omega)
  have h4:1*2 ^ tz x≤oddp x*2 ^ tz x:=Nat.mul_le_mul_right _ (by omega)
  omega
 have e:x+4294967296*r=(oddp x+2 ^ (32-tz x)*r)*2 ^ tz x:=by
  rw[Nat.add_mul,← h2,Nat.mul_right_comm,← Nat.pow_add,show 32-tz x+tz x=32 from by omega]
 rw[e]
 refine tz_mul_pow ?_ _
 rw[show 32-tz x=(31-tz x)+1 from by omega,Nat.pow_succ,Nat.mul_assoc,Nat.mul_left_comm,Nat.add_mul_mod_self_left]
 exact h1
theorem tz_limbs {xs:List Nat} {k:Nat} (h:Lt32 xs) (hk:k<xs.length) (hz:∀ i,i<k→nth xs i=0) (hx:nth xs k≠0):tz (val xs)=32*k+tz (nth xs k):=by
 have e:=val_take_drop xs k (by omega)
 have e0:val (xs.take k)=0:=val_zeros fun i hi=>by
  rw[List.length_take] at hi
  rw[nth_take (by omega)];exact hz i (by omega)
 rw[e0,drop_eq_nth hk,val_cons,Nat.zero_add,pow32,Nat.mul_comm] at e
 rw[e,tz_shift (by omega),tz_add hx (h.nth k)];omega
theorem low_any (a:Option Addr) (xs:List Nat) (c:Nat) (w:World) (h:Rd w a xs) (hl:xs.length≤1100000) (h0:val xs≠0) (hT:Tab w) :
  Calls Tryz.prog 286 #[.slice a xs.length c] w fun e w'=>e=.returned (.int .i64 (tz (val xs)))∧w=w':=by
 have H0:=hid h0
 clear h0
 go_enter Tryz.func286,Tryz.ntmps286
 go_wp2_with fail
 go_loop [3,8] (fun n x=>∃ k:Nat,k≤xs.length∧x=.int .i64 k∧n=.int .i64 (32*k:Nat)∧∀ i,i<k→nth xs i=0) (fun _ x=>xs.length-(intOf x).toNat)
 case atStart=>exact⟨0,Nat.zero_le _,rfl,rfl,fun i h1=>by omega⟩
 case round =>
 obtain⟨k,hk,rfl,rfl,hz⟩:=hrel
 have Hz:=hid hz;clear hz
 by_cases hlt:k<xs.length
 rotate_left
 ·exfalso
  exact H0.out (val_zeros fun i hi=>Hz.out i (by omega))
 obtain⟨b,o,rfl,hcell⟩:=h.some hlt
 have hc1:=hcell k hlt
 have bx:=h.lt32.nth k
 clear hcell
 by_cases hx:nth xs k=0
 ·have hx2:((nth xs k:Int) != 0)=false:=by simp[hx]
  have Hx:=hid hx;clear hx
  go_wp2_with fail
  go_round
  case measure=>simp[intOf];omega
  case rel =>
  refine⟨k+1,by omega,by go_num,by congr 1,fun i h1=>?_⟩
  by_cases hi:i=k
  ·rw[hi];exact Hx.out
  exact Hz.out i (by omega)
 have hx2:((nth xs k:Int) != 0)=true:=by simp;omega
 have Hr:=hid (tz_limbs h.lt32 hlt Hz.out hx)
 have ht:tz (nth xs k)≤32:=by
  have:=bits_oddp hx
  have h2:=bits_le.2 (show nth xs k<2 ^ 32 from bx)
  omega
 go_wp2_with fail
 refine (tz32_any _ _ hx bx hT).mono ?_
 rintro e w2 ⟨rfl,rfl⟩
 go_wp2_with fail
 go_ret
 exact⟨ret_int (by rw[Hr.out];omega),rfl⟩
def DyOut (w:World) (d:Dy) (e:Ending) (w':World):Prop :=
 ∃ a c,e=.returned (.agg #[.bool d.neg,.slice a (limbs d.m).length c,.int .i64 d.e])∧Rd w' a (limbs d.m)∧(limbs d.m).length≤c∧c≤maxLen∧Kp w w'
theorem Rd.other {w:World} {a:Option Addr} {xs:List Nat} (h:Rd w a xs) {p:Addr} {v u:Value} (hp:w.cell? p=.some v) (hv:∀ n:Int,v≠.int .u32 n):Rd (w.setCell p u) a xs:=by
 obtain⟨h1,h2⟩:=h
 refine⟨h1,?_⟩
 rcases h2 with h2 | ⟨b,o,rfl,h2⟩
 ·exact .inl h2
 refine .inr ⟨b,o,rfl,fun i hi=>?_⟩
 rw[World.cell?_setCell_other]
 ·exact h2 i hi
 intro e
 rw[e,h2 i hi] at hp
 exact hv _ (Option.some.inj hp).symm
theorem dyOut_intro {w w':World} {d:Dy} {e:Ending} (a:Option Addr) (n c:Nat) (s:Bool) (k:Int) (he:e=.returned (.agg #[.bool s,.slice a n c,.int .i64 k])) (hs:s=d.neg) (hn:n=(limbs d.m).length) (hk:k=d.e)
  (hr:Rd w' a (limbs d.m)) (hc:n≤c) (hm:c≤maxLen) (hkp:Kp w w'):DyOut w d e w':=by
 subst hs hn hk;exact⟨a,c,he,hr,hc,hm,hkp⟩
theorem dybox {w w1:World} (hk:Kp (w.alloc (.cells #[.bool false,.slice none 0 0,.int .i64 0] 113)) w1) :
  w1.cell? ⟨w.heap.size,0,none⟩=some (.bool false)∧w1.cell? ⟨w.heap.size,1,none⟩=some (.slice none 0 0)∧w1.cell? ⟨w.heap.size,2,none⟩=some (.int .i64 0) ∧
  w1.frozen? ⟨w.heap.size,0,none⟩=false∧w1.frozen? ⟨w.heap.size,1,none⟩=false∧w1.frozen? ⟨w.heap.size,2,none⟩=false:=by
 have c0:(w.alloc (.cells #[.bool false,.slice none 0 0,.int .i64 0] 113)).cell? ⟨w.heap.size,0,none⟩=some (.bool false):=by simp
 have c1:(w.alloc (.cells #[.bool false,.slice none 0 0,.int .i64 0] 113)).cell? ⟨w.heap.size,1,none⟩=some (.slice none 0 0):=by simp
 have c2:(w.alloc (.cells #[.bool false,.slice none 0 0,.int .i64 0] 113)).cell? ⟨w.heap.size,2,none⟩=some (.int .i64 0):=by simp
 exact⟨hk.cell c0,hk.cell c1,hk.cell c2,hk.frozen c0 (by simp),hk.frozen c1 (by simp),hk.frozen c2 (by simp)⟩
def Box3 (w:World) (g:Nat) (x0 x1 x2:Value):Prop :=
 w.cell? ⟨g,0,none⟩=some x0∧w.cell? ⟨g,1,none⟩=some x1∧w.cell? ⟨g,2,none⟩=some x2 ∧
 w.frozen? ⟨g,0,none⟩=false∧w.frozen? ⟨g,1,none⟩=false∧w.frozen? ⟨g,2,none⟩=false
theorem Box3.new (w:World) (x0 x1 x2:Value) (t:TypeId):Box3 (w.alloc (.cells #[x0,x1,x2] t)) w.heap.size x0 x1 x2:=by
 refine⟨?_,?_,?_,?_,?_,?_⟩ <;> simp
theorem Box3.kp {w w':World} {g:Nat} {x0 x1 x2:Value} (h:Box3 w g x0 x1 x2) (k:Kp w w'):Box3 w' g x0 x1 x2 :=
 ⟨k.cell h.1,k.cell h.2.1,k.cell h.2.2.1,k.frozen h.1 h.2.2.2.1,k.frozen h.2.1 h.2.2.2.2.1,k.frozen h.2.2.1 h.2.2.2.2.2⟩
theorem Box3.alloc {w:World} {g:Nat} {x0 x1 x2:Value} (h:Box3 w g x0 x1 x2) (o:Obj):Box3 (w.alloc o) g x0 x1 x2:=h.kp ((Kp.refl w).alloc o)
theorem Box3.new1 (w:World) (x0 x1 x2:Value) (t:TypeId) (o:Obj):Box3 ((w.alloc (.cells #[x0,x1,x2] t)).alloc o) w.heap.size x0 x1 x2:=(Box3.new w x0 x1 x2 t).alloc o
theorem Box3.new2 (w:World) (x0 x1 x2:Value) (t:TypeId) (o:Obj):Box3 ((w.alloc o).alloc (.cells #[x0,x1,x2] t)) (w.heap.size+1) x0 x1 x2:=by
 have:=Box3.new (w.alloc o) x0 x1 x2 t
 rwa [World.size_alloc] at this
def Stored (g:Nat) (x0 x1 x2:Value) (w W:World):Prop :=
 W.cell? ⟨g,0,none⟩=some x0∧W.cell? ⟨g,1,none⟩=some x1∧W.cell? ⟨g,2,none⟩=some x2∧(∀ j,W.frozen? ⟨g,j,none⟩=w.frozen? ⟨g,j,none⟩) ∧
 (∀ a xs,Rd w a xs→Rd W a xs)∧(∀ a:World,Kp a w→a.heap.size≤g→Kp a W)∧(∀ p:Addr,p.block≠g→W.cell? p=w.cell? p)∧W.heap.size=w.heap.size
theorem cell_set_ne {w:World} {g i:Nat} {p:Addr} {v:Value} (h:(⟨g,i,none⟩:Addr)≠p):(w.setCell ⟨g,i,none⟩ v).cell? p=w.cell? p:=by
 rw[World.cell?_setCell_other];exact h
theorem cell_set_eq {w:World} {g i:Nat} {v u:Value} (h:w.cell? ⟨g,i,none⟩=some u):(w.setCell ⟨g,i,none⟩ v).cell? ⟨g,i,none⟩=some v:=by
 apply World.cell?_setCell_same;exact h
theorem stored {w:World} {g:Nat} {y0 y1 y2:Value} (q0:w.cell? ⟨g,0,none⟩=some y0) (q1:w.cell? ⟨g,1,none⟩=some y1) (q2:w.cell? ⟨g,2,none⟩=some y2)
  (n0:∀ n:Int,y0≠.int .u32 n) (n1:∀ n:Int,y1≠.int .u32 n) (n2:∀ n:Int,y2≠.int .u32 n) (x0 x1 x2:Value) :
  Stored g x0 x1 x2 w (((w.setCell ⟨g,0,none⟩ x0).setCell ⟨g,1,none⟩ x1).setCell ⟨g,2,none⟩ x2):=by
 have ne (i j:Nat) (h:i≠j):(⟨g,i,none⟩:Addr)≠⟨g,j,none⟩:=fun e=>h (by injection e)
 have a1:(w.setCell ⟨g,0,none⟩ x0).cell? ⟨g,1,none⟩=some y1:=by rw[cell_set_ne (ne 0 1 (by decide))];exact q1
 have a2:((w.setCell ⟨g,0,none⟩ x0).setCell ⟨g,1,none⟩ x1).cell? ⟨g,2,none⟩=some y2:=by
  rw[cell_set_ne (ne 1 2 (by decide)),cell_set_ne (ne 0 2 (by decide))];exact q2
 refine⟨?_,?_,cell_set_eq a2,fun j=>by simp,fun a xs h=>((h.other q0 n0).other a1 n1).other a2 n2,fun a h hg=>((h.set hg _).set hg _).set hg _,fun p hp=>?_,by simp⟩
 ·rw[cell_set_ne (ne 2 0 (by decide)),cell_set_ne (ne 1 0 (by decide))];exact cell_set_eq q0
 ·rw[cell_set_ne (ne 2 1 (by decide))];exact cell_set_eq a1
 have hne (i:Nat):(⟨g,i,none⟩:Addr)≠p:=fun e=>hp (by rw[← e])
 rw[cell_set_ne (hne 2),cell_set_ne (hne 1),cell_set_ne (hne 0)]
theorem canonical_any (s:Bool) (a:Option Addr) (xs:List Nat) (c:Nat) (ex:Int) (w:World) (h:Rd w a xs) (hc:xs.length≤c) (hm:c≤maxLen) (hl:xs.length≤256) (he0:-1000000000≤ex) (he1:ex≤1000000000) (hT:Tab w) :
  Calls Tryz.prog 258 #[.bool s,.slice a xs.length c,.int .i64 ex] w (DyOut w (canon s (val xs) ex)):=by
 have hll:=limbs_len_le h.lt32
 go_enter Tryz.func258,Tryz.ntmps258
 go_wp2_with fail
 refine (trimmed_any a xs c _ (h.kp ((Kp.refl w).alloc _)) hc hm).mono ?_
 rintro e w2 ⟨rfl,rfl⟩
 by_cases h0:val xs=0
 ·have hn:(limbs (val xs)).length=0:=by rw[h0,limbs_zero];rfl
  rw[hn]
  clear hn
  have H0:=hid h0
  clear h0
  go_wp2_with fail
  refine bodyPost_ret (v:=.agg #[.bool false,.slice none 0 0,.int .i64 0]) (by simp[results,Tryz.results258,go_sem]) rfl ?_
  rw[H0.out,canon_zero]
  exact dyOut_intro none 0 0 false 0 rfl rfl (by show 0=(limbs 0).length;rw[limbs_zero];rfl) rfl (by show Rd _ none (limbs 0);rw[limbs_zero];exact .nil _ _) (Nat.le_refl _) (by unfold maxLen;omega) ((Kp.refl w).alloc _)
 have hpos:0<(limbs (val xs)).length:=by
  rcases Nat.eq_zero_or_pos (limbs (val xs)).length with h1 | h1
  ·exact absurd (limbs_eq_nil.1 (List.length_eq_zero_iff.1 h1)) h0
  ·exact h1
 have hne:(((limbs (val xs)).length:Int)==0)=false:=beq_eq_false_iff_ne.2 (by omega)
 have hr:=h.limbs.kp ((Kp.refl w).alloc (.cells #[.bool false,.slice none 0 0,.int .i64 0] 113))
 have Hc:=hid (show canon s (val xs) ex=⟨s,oddp (val xs),ex+tz (val xs)⟩ by unfold canon;rw[if_neg h0])
 have htz:tz (val xs)≤10000:=by
  have e1:=bits_oddp h0
  have e2:=bits_le.2 (show val xs<2 ^ (32*xs.length) by rw[← pow32];exact val_lt h.lt32)
  omega
 have hv1:=val_limbs (val xs)
 have Hodd:=hid (show val xs/2 ^ tz (val xs)=oddp (val xs) from rfl)
 have holen:(limbs (oddp (val xs))).length≤256:=by
  have:=limbs_length_mono (show oddp (val xs)≤val xs from Nat.div_le_self _ _)
  omega
 have hm2:(limbs (val xs)).length≤c:=by omega
 have hl2:(limbs (val xs)).length≤256:=by omega
 clear h hc hl hll
 generalize hX:limbs (val xs)=us at *
 rw[← hv1] at Hc Hodd htz h0 holen
 clear hX
 generalize val xs=V at *
 subst hv1
 go_wp2_with fail
 refine (low_any a us c _ hr (by omega) h0 (hT.kp ((Kp.refl w).alloc _))).mono ?_
 rintro e w2 ⟨rfl,rfl⟩
 go_wp2_with fail
 refine (Shr_any a us c _ _ hr hl2 hm2 hm (by omega) (by omega)).mono ?_
 rintro e w2 ⟨a2,c2,rfl,h3,h4,h5,h6⟩
 rw[Int.toNat_natCast,Hodd.out] at h3 h5 ⊢
 go_wp2_with fail
 refine (clone_any a2 _ c2 _ h5 (by omega)).mono ?_
 rintro e w3 ⟨a3,c3,rfl,h7,h8,h9,h10⟩
 go_wp2_with fail
 refine (clip_any a3 _ c3 _ h8 h9).mono ?_
 rintro e w4 ⟨rfl,rfl⟩
 have hk:=h6.trans h10
 obtain⟨q0,q1,q2,f0,f1,f2⟩:=dybox hk
 clear hm hT hne hpos h5 h6 h3 h4 hr
 go_wp2_with fail
 have hst:=stored q0 q1 q2 nofun nofun nofun (.bool s) (.slice a3 (limbs (oddp (val us))).length (limbs (oddp (val us))).length) (.int .i64 (ex+tz (val us)))
 generalize (((w3.setCell _ _).setCell _ _).setCell _ _)=W at hst ⊢
 obtain⟨s0,s1,s2,_,s4,s5,_,_⟩:=hst
 refine bodyPost_ret (v:=.agg #[.bool s,.slice a3 (limbs (oddp (val us))).length (limbs (oddp (val us))).length,.int .i64 (ex+tz (val us))]) (by simp[results,Tryz.results258,go_sem,s0,s1,s2]) rfl ?_
 rw[Hc.out]
 exact dyOut_intro a3 _ _ s _ rfl rfl rfl rfl (s4 _ _ h7) (Nat.le_refl _) (by omega) (s5 _ (((Kp.refl w).alloc _).trans hk) (Nat.le_refl _))
def I64 (e:Int):Prop:=-9223372036854775808≤e∧e≤9223372036854775807
def inrB (m:Nat) (e:Int):Bool:=decide (bits m=0∨(bits m≤4096∧-16384≤e∧e≤16384∧(bits m:Int)+e≤16384))
theorem bits_val_le {xs:List Nat} (h:Lt32 xs):bits (val xs)≤32*xs.length:=bits_le.2 (by rw[← pow32];exact val_lt h)
theorem inRange_any (s:Bool) (a:Option Addr) (xs:List Nat) (c:Nat) (ex:Int) (w:World) (h:Rd w a xs) (hc:xs.length≤c) (hm:c≤maxLen) (hl:xs.length≤1100000) (he:I64 ex) :
  Calls Tryz.prog 162 #[.agg #[.bool s,.slice a xs.length c,.int .i64 ex]] w fun e w'=>e=.returned (.bool (inrB (val xs) ex))∧Kp w w':=by
 obtain⟨he0,he1⟩:=he
 have hb:bits (val xs)≤35200000:=by have:=bits_val_le h.lt32;omega
 by_cases h0:bits (val xs)=0
 ·have hz:((bits (val xs):Int)==0)=true:=by rw[h0];rfl
  have H:=hid (show inrB (val xs) ex=true from decide_eq_true (.inl h0))
  clear h0
  go_enter Tryz.func162,Tryz.ntmps162
  go_wp2_with fail
  refine (size_any a xs c _ (h.kp ((Kp.refl w).alloc _)) hc hm hl).mono ?_
  rintro e w2 ⟨rfl,rfl⟩
  go_wp2_with fail
  go_ret
  exact⟨ret_bool (by first | exact H.out.symm | (rw[H.out];simp;omega)),(Kp.refl w).alloc _⟩
 have hz:((bits (val xs):Int)==0)=false:=beq_eq_false_iff_ne.2 (by omega)
 by_cases h1:bits (val xs)≤4096
 rotate_left
 ·have H:=hid (show inrB (val xs) ex=false from decide_eq_false (by omega))
  clear h0
  go_enter Tryz.func162,Tryz.ntmps162
  go_wp2_with fail
  refine (size_any a xs c _ (h.kp ((Kp.refl w).alloc _)) hc hm hl).mono ?_
  rintro e w2 ⟨rfl,rfl⟩
  go_wp2_with fail
  go_ret
  exact⟨ret_bool (by first | exact H.out.symm | (rw[H.out];simp;omega)),(Kp.refl w).alloc _⟩
 by_cases h2:-16384≤ex
 rotate_left
 ·have H:=hid (show inrB (val xs) ex=false from decide_eq_false (by omega))
  clear h0
  go_enter Tryz.func162,Tryz.ntmps162
  go_wp2_with fail
  refine (size_any a xs c _ (h.kp ((Kp.refl w).alloc _)) hc hm hl).mono ?_
  rintro e w2 ⟨rfl,rfl⟩
  go_wp2_with fail
  go_ret
  exact⟨ret_bool (by first | exact H.out.symm | (rw[H.out];simp;omega)),(Kp.refl w).alloc _⟩
 by_cases h3:ex≤16384
 rotate_left
 ·have H:=hid (show inrB (val xs) ex=false from decide_eq_false (by omega))
  clear h0
  go_enter Tryz.func162,Tryz.ntmps162
  go_wp2_with fail
  refine (size_any a xs c _ (h.kp ((Kp.refl w).alloc _)) hc hm hl).mono ?_
  rintro e w2 ⟨rfl,rfl⟩
  go_wp2_with fail
  go_ret
  exact⟨ret_bool (by first | exact H.out.symm | (rw[H.out];simp;omega)),(Kp.refl w).alloc _⟩
 by_cases h4:(bits (val xs):Int)+ex≤16384
 ·have H:=hid (show inrB (val xs) ex=true from decide_eq_true (.inr ⟨h1,h2,h3,h4⟩))
  clear h0
  go_enter Tryz.func162,Tryz.ntmps162
  go_wp2_with fail
  refine (size_any a xs c _ (h.kp ((Kp.refl w).alloc _)) hc hm hl).mono ?_
  rintro e w2 ⟨rfl,rfl⟩
  go_wp2_with fail
  go_ret
  exact⟨ret_bool (by first | exact H.out.symm | (rw[H.out];simp;omega)),(Kp.refl w).alloc _⟩
 have H:=hid (show inrB (val xs) ex=false from decide_eq_false (by omega))
 clear h0
 go_enter Tryz.func162,Tryz.ntmps162
 go_wp2_with fail
 refine (size_any a xs c _ (h.kp ((Kp.refl w).alloc _)) hc hm hl).mono ?_
 rintro e w2 ⟨rfl,rfl⟩
 go_wp2_with fail
 go_ret
 exact⟨ret_bool (by first | exact H.out.symm | (rw[H.out];simp;omega)),(Kp.refl w).alloc _⟩
def expB (e:Int):Bool:=decide (-32768≤e∧e≤32768)
theorem exponent_any (ex:Int) (w:World) (he:I64 ex) :
  Calls Tryz.prog 310 #[.int .i64 ex] w fun e w'=>e=.returned (.bool (expB ex))∧w=w':=by
 obtain⟨he0,he1⟩:=he
 by_cases h1:-32768≤ex
 rotate_left
 ·have H:=hid (show expB ex=false from decide_eq_false (by omega))
  go_enter Tryz.func310,Tryz.ntmps310
  go_wp2_with fail
  go_ret
  exact⟨ret_bool (by first | exact H.out.symm | (rw[H.out];simp;omega)),rfl⟩
 by_cases h2:ex≤32768
 ·have H:=hid (show expB ex=true from decide_eq_true ⟨h1,h2⟩)
  go_enter Tryz.func310,Tryz.ntmps310
  go_wp2_with fail
  go_ret
  exact⟨ret_bool (by first | exact H.out.symm | (rw[H.out];simp;omega)),rfl⟩
 have H:=hid (show expB ex=false from decide_eq_false (by omega))
 go_enter Tryz.func310,Tryz.ntmps310
 go_wp2_with fail
 go_ret
 exact⟨ret_bool (by first | exact H.out.symm | (rw[H.out];simp;omega)),rfl⟩
def vld (s:Bool) (xs:List Nat) (e:Int):Bool :=
 if xs=[] then !s&&decide (e=0)
 else decide (xs.length≤256)&&(decide (nth xs 0 % 2=1)&&(decide (nth xs (xs.length-1)≠0)&&inrB (val xs) e))
def dyOf (s:Bool) (xs:List Nat) (e:Int):Dy:=⟨s,val xs,e⟩
theorem val_mod_two {xs:List Nat}:val xs % 2=nth xs 0 % 2:=by
 cases xs with
 | cons x xs=>rw[nth_cons_zero,val_cons];omega
 | nil=>rfl
theorem vld_ok {s:Bool} {xs:List Nat} {e:Int} (h:Lt32 xs) (hv:vld s xs e=true):(dyOf s xs e).ok∧limbs (val xs)=xs∧xs.length≤256:=by
 unfold vld at hv
 split at hv
 ·next h0 =>
  subst h0
  simp at hv
  exact⟨.inl ⟨rfl,hv.1,hv.2⟩,limbs_zero,by simp⟩
 next h0 =>
 simp only[Bool.and_eq_true,decide_eq_true_eq] at hv
 obtain⟨h1,h2,h3,h4⟩:=hv
 have ht:=top_of_nth (fun _=>h3)
 have hl:=limbs_val h ht
 refine⟨.inr ?_,hl,h1⟩
 unfold inrB at h4
 have h5:=of_decide_eq_true h4
 have hne:val xs≠0:=fun h0'=>h0 (val_eq_zero_top ht h0')
 have:=bits_pos hne
 refine⟨by show val xs % 2=1;rw[val_mod_two];exact h2,?_⟩
 show bits (val xs)≤4096∧-16384≤e∧e≤16384∧(bits (val xs):Int)+e≤16384
 omega
theorem limbs_len_bits {n k:Nat} (h:bits n≤32*k):(limbs n).length≤k:=limbs_length_le.2 (by rw[pow32];exact bits_le.1 h)
theorem ok_vld {d:Dy} (h:d.ok):vld d.neg (limbs d.m) d.e=true:=by
 unfold vld
 rcases h with ⟨h1,h2,h3⟩ | ⟨h1,h2,h3,h4,h5⟩
 ·rw[h1,limbs_zero,if_pos rfl,h2,h3];rfl
 have h0:d.m≠0:=by omega
 have hne:limbs d.m≠[]:=by rw[Ne,limbs_eq_nil];exact h0
 rw[if_neg hne,val_limbs]
 have hl:(limbs d.m).length≤256:=limbs_len_bits (by omega)
 have hp:0<(limbs d.m).length:=List.length_pos_iff.2 hne
 have e1:nth (limbs d.m) 0 % 2=1:=by rw[← val_mod_two,val_limbs];exact h1
 have e2:=top_nth (limbs_top d.m) hp
 have e3:inrB d.m d.e=true:=decide_eq_true (.inr ⟨h2,h3,h4,h5⟩)
 rw[e3]
 simp[hl,e1,e2]
theorem ok_len {d:Dy} (h:d.ok):(limbs d.m).length≤128:=by
 rcases h with ⟨h1,h2,h3⟩ | ⟨h1,h2,h3,h4,h5⟩
 ·rw[h1,limbs_zero];simp
 exact limbs_len_bits (by omega)
theorem Valid_any (s:Bool) (a:Option Addr) (xs:List Nat) (c:Nat) (ex:Int) (w:World) (h:Rd w a xs) (hc:xs.length≤c) (hm:c≤maxLen) (hl:xs.length≤1100000) (he:I64 ex) :
  Calls Tryz.prog 114 #[.agg #[.bool s,.slice a xs.length c,.int .i64 ex]] w fun e w'=>e=.returned (.bool (vld s xs ex))∧Kp w w':=by
 have Hr:=hid (inRange_any s a xs c ex (w.alloc (.cells #[.bool s,.slice a xs.length c,.int .i64 ex] 113)) (h.kp ((Kp.refl w).alloc _)) hc hm hl he)
 by_cases h0:xs=[]
 ·have H:=hid (show vld s xs ex=(!s&&decide (ex=0)) by unfold vld;rw[if_pos h0])
  have hz:xs.length=0:=by rw[h0];rfl
  clear h0
  rw[hz]
  cases s with
  | true =>
   go_enter Tryz.func114,Tryz.ntmps114
   go_wp2_with fail
   go_ret
   exact⟨ret_bool (by rw[H.out];rfl),(Kp.refl w).alloc _⟩
  | false =>
  by_cases hx:ex=0
  ·have hx2:(ex==0)=true:=beq_iff_eq.2 hx
   have Hx:=hid hx
   clear hx
   go_enter Tryz.func114,Tryz.ntmps114
   go_wp2_with fail
   go_ret
   exact⟨ret_bool (by rw[H.out,Hx.out];rfl),(Kp.refl w).alloc _⟩
  have hx2:(ex==0)=false:=beq_eq_false_iff_ne.2 hx
  go_enter Tryz.func114,Tryz.ntmps114
  go_wp2_with fail
  go_ret
  exact⟨ret_bool (by rw[H.out];simp[hx]),(Kp.refl w).alloc _⟩
 have H:=hid (show vld s xs ex=(decide (xs.length≤256)&&(decide (nth xs 0 % 2=1)&&(decide (nth xs (xs.length-1)≠0)&&inrB (val xs) ex))) by unfold vld;rw[if_neg h0])
 have hpos:0<xs.length:=List.length_pos_iff.2 h0
 clear h0
 have hz:((xs.length:Int)==0)=false:=beq_eq_false_iff_ne.2 (by omega)
 obtain⟨b,o,rfl,hcell⟩:=(h.kp ((Kp.refl w).alloc (.cells #[.bool s,.slice a xs.length c,.int .i64 ex] 113))).some hpos
 have x0:=hcell 0 hpos
 have x1:=hcell (xs.length-1) (by omega)
 rw[Nat.add_zero] at x0
 clear hcell
 by_cases h1:xs.length≤256
 rotate_left
 ·have h1':decide ((xs.length:Int)≤256)=false:=decide_eq_false (by omega)
  go_enter Tryz.func114,Tryz.ntmps114
  go_wp2_with fail
  go_ret
  exact⟨ret_bool (by rw[H.out];simp;omega),(Kp.refl w).alloc _⟩
 by_cases h2:nth xs 0 % 2=1
 rotate_left
 ·have h2':((nth xs 0:Int) % 2==1)=false:=beq_eq_false_iff_ne.2 (by omega)
  have H2:=hid h2
  clear h2
  go_enter Tryz.func114,Tryz.ntmps114
  go_wp2_with fail
  go_ret
  exact⟨ret_bool (by rw[H.out];simp[H2.out]),(Kp.refl w).alloc _⟩
 have h2':((nth xs 0:Int) % 2==1)=true:=beq_iff_eq.2 (by omega)
 by_cases h3:nth xs (xs.length-1)=0
 ·have h3':((nth xs (xs.length-1):Int) != 0)=false:=by rw[h3];rfl
  have H3:=hid h3
  have H2:=hid h2
  clear h3 h2
  go_enter Tryz.func114,Tryz.ntmps114
  go_wp2_with fail
  go_ret
  exact⟨ret_bool (by rw[H.out,H3.out];simp),(Kp.refl w).alloc _⟩
 have h3':((nth xs (xs.length-1):Int) != 0)=true:=by rw[bne_iff_ne];omega
 have H3:=hid h3
 have H2:=hid h2
 clear h3 h2
 go_enter Tryz.func114,Tryz.ntmps114
 go_wp2_with fail
 refine Hr.out.mono ?_
 rintro e w1 ⟨rfl,hk⟩
 go_wp2_with fail
 go_ret
 exact⟨ret_bool (by rw[H.out];simp[H3.out,H2.out,h1]),((Kp.refl w).alloc _).trans hk⟩
section
def Dy.av (d:Dy):Nat:=d.m*2 ^ (d.e+16384).toNat
theorem Dy.iv_av (d:Dy):d.iv=sg d.neg d.av:=rfl
section
variable {n K p:Nat}
end
end
section
def Dy.opp (d:Dy):Dy:=if d.m=0 then .zero else ⟨!d.neg,d.m,d.e⟩
theorem Dy.opp_iv (d:Dy):d.opp.iv=-d.iv:=by
 unfold Dy.opp
 split
 ·next h=>rw[Dy.iv_zero,Dy.iv_eq_zero.2 h];rfl
 unfold Dy.iv sg;cases d.neg <;> simp
theorem Dy.opp_ok {d:Dy} (h:d.ok):d.opp.ok:=by
 unfold Dy.opp
 split
 ·exact Dy.ok_zero
 next h0 =>
 rcases h with ⟨h1,_⟩ | h1
 ·exact absurd h1 h0
 exact .inr h1
theorem isP.zero (p:Nat):isP p .zero:=⟨Dy.ok_zero,Nat.zero_le _⟩
theorem Dy.av_zero {d:Dy}:d.av=0↔d.m=0:=by
 unfold Dy.av
 constructor
 ·intro h
  rcases Nat.mul_eq_zero.1 h with h | h
  ·exact h
  exact absurd h (two_pow_ne _)
 intro h;rw[h,Nat.zero_mul]
theorem Dy.iv_pos {d:Dy} (h:d.neg=false):d.iv=d.av:=by rw[Dy.iv_av,h];rfl
theorem Dy.iv_neg {d:Dy} (h:d.neg=true):d.iv=-(d.av:Int):=by rw[Dy.iv_av,h];rfl
end
def DyAt (w:World) (d:Dy) (a:Option Addr) (c:Nat):Prop:=d.ok∧Rd w a (limbs d.m)∧(limbs d.m).length≤c∧c≤maxLen
theorem DyAt.kp {w w':World} {d:Dy} {a:Option Addr} {c:Nat} (h:DyAt w d a c) (k:Kp w w'):DyAt w' d a c:=⟨h.1,h.2.1.kp k,h.2.2⟩
theorem ok_e {d:Dy} (h:d.ok):-16384≤d.e∧d.e≤16384:=by
 rcases h with ⟨_,_,h⟩ | ⟨_,_,h,h',_⟩ <;> omega
theorem ok_I64 {d:Dy} (h:d.ok):I64 d.e:=by have:=ok_e h;exact⟨by omega,by omega⟩
theorem Valid_ok (d:Dy) (a:Option Addr) (c:Nat) (w:World) (h:DyAt w d a c) :
  Calls Tryz.prog 114 #[.agg #[.bool d.neg,.slice a (limbs d.m).length c,.int .i64 d.e]] w fun e w'=>e=.returned (.bool true)∧Kp w w':=by
 have:=Valid_any d.neg a (limbs d.m) c d.e w h.2.1 h.2.2.1 h.2.2.2 (by have:=ok_len h.1;omega) (ok_I64 h.1)
 rwa [ok_vld h.1] at this
theorem DyAt.drew {w:World} {d:Dy} {a:Option Addr} {c:Nat} (h:DyAt w d a c):DyAt w.drew d a c:=h.kp (Kp.refl w).drew
theorem size_ok (d:Dy) (a:Option Addr) (c:Nat) (w:World) (h:DyAt w d a c) :
  Calls Tryz.prog 201 #[.slice a (limbs d.m).length c] w fun e w'=>e=.returned (.int .i64 (bits d.m))∧w=w':=by
 have hs:=size_any a (limbs d.m) c w h.2.1 h.2.2.1 h.2.2.2 (by have:=ok_len h.1;omega)
 rwa [val_limbs] at hs
def topI (d:Dy):Int:=if d.m=0 then 0 else (bits d.m:Int)+d.e
theorem len_ne {n:Nat} (h:n≠0):(((limbs n).length:Int)==0)=false :=
 beq_eq_false_iff_ne.2 (by
  have:limbs n≠[]:=by rw[Ne,limbs_eq_nil];exact h
  have:=List.length_pos_iff.2 this
  omega)
theorem Top_ok (d:Dy) (a:Option Addr) (c:Nat) (w:World) (h:DyAt w d a c) :
  Calls Tryz.prog 169 #[.agg #[.bool d.neg,.slice a (limbs d.m).length c,.int .i64 d.e]] w fun e w'=>e=.returned (.int .i64 (topI d))∧Kp w w':=by
 have hb:=bits_val_le (limbs_lt32 d.m)
 rw[val_limbs] at hb
 have hl:=ok_len h.1
 have he:=ok_e h.1
 by_cases h0:d.m=0
 ·have H:=hid (show topI d=0 by unfold topI;rw[if_pos h0])
  have H2:=hid (Valid_ok d a c _ (h.kp ((Kp.refl w).alloc (.cells #[.bool d.neg,.slice a (limbs d.m).length c,.int .i64 d.e] 113))))
  have hz:(limbs d.m).length=0:=by rw[h0,limbs_zero];rfl
  clear h0
  rw[hz] at H2 ⊢
  clear hz hl hb
  go_enter Tryz.func169,Tryz.ntmps169
  go_wp2_with fail
  refine H2.out.mono ?_
  rintro e w1 ⟨rfl,hk⟩
  obtain⟨c0,c1,c2,_⟩:=(Box3.new w (.bool d.neg) (.slice a 0 c) (.int .i64 d.e) 113).kp hk
  go_wp2_with fail
  go_ret
  exact⟨ret_int H.out.symm,((Kp.refl w).alloc _).trans hk⟩
 have H:=hid (show topI d=(bits d.m:Int)+d.e by unfold topI;rw[if_neg h0])
 have hz:=len_ne h0
 clear h0
 go_enter Tryz.func169,Tryz.ntmps169
 go_wp2_with fail
 refine (Valid_ok d a c _ (h.kp ((Kp.refl w).alloc _))).mono ?_
 rintro e w1 ⟨rfl,hk⟩
 obtain⟨c0,c1,c2,_⟩:=(Box3.new w (.bool d.neg) (.slice a (limbs d.m).length c) (.int .i64 d.e) 113).kp hk
 have hk2:=((Kp.refl w).alloc _).trans hk
 have hd:=(h.kp hk2).drew
 go_wp2_with fail
 go_region_held3 (fun w'=>w'.cell? ⟨w.heap.size,1,none⟩=some (.slice a (limbs d.m).length c)∧w'.cell? ⟨w.heap.size,2,none⟩=some (.int .i64 d.e)) (go_keep)
  (first | (go_at_call 201;refine (size_ok d a c _ hd).mono ?_;rintro e w2 ⟨rfl,rfl⟩))
 go_wp2_with fail
 go_ret
 exact⟨ret_int ((IntWalk.i64_in _ (by omega)).trans H.out.symm),hk2.drew⟩
def sgn (d:Dy):Int:=if d.m=0 then 0 else if d.neg then -1 else 1
theorem sgn_iv (d:Dy):(sgn d=0↔d.iv=0)∧(sgn d=-1↔d.iv<0)∧(sgn d=1↔0<d.iv):=by
 have hav:d.m≠0→0<(d.av:Int):=fun h=>by
  have:d.av≠0:=fun h2=>h (Dy.av_zero.1 h2)
  omega
 unfold sgn
 by_cases h0:d.m=0
 ·have:=Dy.iv_eq_zero.2 h0
  rw[if_pos h0,this];simp
 rw[if_neg h0]
 have h1:=hav h0
 cases hn:d.neg with
 | true=>rw[Dy.iv_neg hn];simp;omega
 | false=>rw[Dy.iv_pos hn];simp;omega
theorem Bits_ok (d:Dy) (a:Option Addr) (c:Nat) (w:World) (h:DyAt w d a c) :
  Calls Tryz.prog 281 #[.agg #[.bool d.neg,.slice a (limbs d.m).length c,.int .i64 d.e]] w fun e w'=>e=.returned (.int .i64 (bits d.m))∧Kp w w':=by
 go_enter Tryz.func281,Tryz.ntmps281
 go_wp2_with fail
 refine (Valid_ok d a c _ (h.kp ((Kp.refl w).alloc _))).mono ?_
 rintro e w1 ⟨rfl,hk⟩
 obtain⟨c0,c1,c2,_⟩:=(Box3.new w (.bool d.neg) (.slice a (limbs d.m).length c) (.int .i64 d.e) 113).kp hk
 have hk2:=((Kp.refl w).alloc _).trans hk
 go_wp2_with fail
 refine (size_ok d a c _ (h.kp hk2)).mono ?_
 rintro e w2 ⟨rfl,rfl⟩
 go_wp2_with fail
 go_ret
 exact⟨rfl,hk2⟩
theorem Sign_ok (d:Dy) (a:Option Addr) (c:Nat) (w:World) (h:DyAt w d a c) :
  Calls Tryz.prog 120 #[.agg #[.bool d.neg,.slice a (limbs d.m).length c,.int .i64 d.e]] w fun e w'=>e=.returned (.int .i64 (sgn d))∧Kp w w':=by
 by_cases h0:d.m=0
 ·have H:=hid (show sgn d=0 by unfold sgn;rw[if_pos h0])
  have H2:=hid (Valid_ok d a c _ (h.kp ((Kp.refl w).alloc (.cells #[.bool d.neg,.slice a (limbs d.m).length c,.int .i64 d.e] 113))))
  have hz:(limbs d.m).length=0:=by rw[h0,limbs_zero];rfl
  clear h0
  rw[hz] at H2 ⊢
  clear hz
  go_enter Tryz.func120,Tryz.ntmps120
  go_wp2_with fail
  refine H2.out.mono ?_
  rintro e w1 ⟨rfl,hk⟩
  obtain⟨c0,c1,c2,_⟩:=(Box3.new w (.bool d.neg) (.slice a 0 c) (.int .i64 d.e) 113).kp hk
  go_wp2_with fail
  go_ret
  exact⟨ret_int H.out.symm,((Kp.refl w).alloc _).trans hk⟩
 have H:=hid (show sgn d=if d.neg then -1 else 1 by unfold sgn;rw[if_neg h0])
 have hz:=len_ne h0
 clear h0
 have H2:=hid (Valid_ok d a c _ (h.kp ((Kp.refl w).alloc (.cells #[.bool d.neg,.slice a (limbs d.m).length c,.int .i64 d.e] 113))))
 cases hn:d.neg with
 | true =>
  rw[hn] at H2 H
  clear hn
  go_enter Tryz.func120,Tryz.ntmps120
  go_wp2_with fail
  refine H2.out.mono ?_
  rintro e w1 ⟨rfl,hk⟩
  obtain⟨c0,c1,c2,_⟩:=(Box3.new w (.bool true) (.slice a (limbs d.m).length c) (.int .i64 d.e) 113).kp hk
  go_wp2_with fail
  go_ret
  exact⟨ret_int H.out.symm,((Kp.refl w).alloc _).trans hk⟩
 | false =>
 rw[hn] at H2 H
 clear hn
 go_enter Tryz.func120,Tryz.ntmps120
 go_wp2_with fail
 refine H2.out.mono ?_
 rintro e w1 ⟨rfl,hk⟩
 obtain⟨c0,c1,c2,_⟩:=(Box3.new w (.bool false) (.slice a (limbs d.m).length c) (.int .i64 d.e) 113).kp hk
 go_wp2_with fail
 go_ret
 exact⟨ret_int H.out.symm,((Kp.refl w).alloc _).trans hk⟩
theorem keep2 {w w':World} (k:Kp w w') {p0 p1:Addr} {v0 v1:Value} (h:w.cell? p0=some v0∧w.cell? p1=some v1):w'.cell? p0=some v0∧w'.cell? p1=some v1 :=
 let ⟨h0,h1⟩:=h
 ⟨k.cell h0,k.cell h1⟩
theorem keep3 {w w':World} (k:Kp w w') {p0 p1 p2:Addr} {v0 v1 v2:Value} (h:w.cell? p0=some v0∧w.cell? p1=some v1∧w.cell? p2=some v2):w'.cell? p0=some v0∧w'.cell? p1=some v1∧w'.cell? p2=some v2 :=
 let ⟨h0,h1,h2⟩:=h
 ⟨k.cell h0,k.cell h1,k.cell h2⟩
theorem keep6 {w w':World} (k:Kp w w') {p0 p1 p2 p3 p4 p5:Addr} {v0 v1 v2 v3 v4 v5:Value} (h:w.cell? p0=some v0∧w.cell? p1=some v1∧w.cell? p2=some v2∧w.cell? p3=some v3∧w.cell? p4=some v4∧w.cell? p5=some v5):w'.cell? p0=some v0∧w'.cell? p1=some v1∧w'.cell? p2=some v2∧w'.cell? p3=some v3∧w'.cell? p4=some v4∧w'.cell? p5=some v5 :=
 let ⟨h0,h1,h2,h3,h4,h5⟩:=h
 ⟨k.cell h0,k.cell h1,k.cell h2,k.cell h3,k.cell h4,k.cell h5⟩
theorem shifted_ok (d:Dy) (a:Option Addr) (c:Nat) (n:Int) (w:World) (h:DyAt w d a c) (h0:0≤n) (hn:n≤65536) (hv:(limbs (d.m*2 ^ n.toNat)).length≤256) :
  Calls Tryz.prog 202 #[.slice a (limbs d.m).length c,.int .i64 n] w (Shows w (limbs (d.m*2 ^ n.toNat))):=by
 have H:=Shl_any a (limbs d.m) c n w h.2.1 (by have:=ok_len h.1;omega) h.2.2.1 h.2.2.2 h0 hn (by rw[val_limbs];exact hv)
 rw[val_limbs] at H
 have Hs:=hid H
 clear H
 go_enter Tryz.func202,Tryz.ntmps202
 go_wp2_with fail
 refine Hs.out.mono ?_
 rintro e w2 ⟨a2,c2,rfl,h1,h2,h3,h4⟩
 go_wp2_with fail
 go_ret
 exact⟨a2,c2,rfl,h3,h1,h2,h4⟩
theorem av_bits {d:Dy} (h:d.ok) (h0:d.m≠0):(bits d.av:Int)=topI d+16384:=by
 have he:=ok_e h
 unfold Dy.av topI
 rw[bits_mul_pow h0,if_neg h0];omega
theorem av_lt {d f:Dy} (hd:d.ok) (hf:f.ok) (hd0:d.m≠0) (hf0:f.m≠0) (h:topI d<topI f):d.av<f.av:=by
 have h1:=av_bits hd hd0
 have h2:=av_bits hf hf0
 have h3:bits d.av<bits f.av:=by omega
 apply Classical.byContradiction;intro hn
 have:=bits_mono (show f.av≤d.av by omega)
 omega
theorem av_shift {d:Dy} (k:Int) (h0:-16384≤k) (hk:k≤d.e):d.av=d.m*2 ^ (d.e-k).toNat*2 ^ (k+16384).toNat:=by
 unfold Dy.av
 rw[Nat.mul_assoc,← Nat.pow_add];congr 2;omega
theorem cmpN_mul {m n p:Nat} (hp:0<p):cmpN (m*p) (n*p)=cmpN m n:=by
 unfold cmpN
 simp only[Nat.mul_lt_mul_right hp,Nat.mul_left_inj (Nat.ne_of_gt hp)]
theorem compare_ok (d f:Dy) (a b:Option Addr) (c k:Nat) (w:World) (hd:DyAt w d a c) (hf:DyAt w f b k) (hd0:d.m≠0) (hf0:f.m≠0) :
  Calls Tryz.prog 163 #[.agg #[.bool d.neg,.slice a (limbs d.m).length c,.int .i64 d.e],.agg #[.bool f.neg,.slice b (limbs f.m).length k,.int .i64 f.e]] w fun e w'=>e=.returned (.int .i64 (cmpN d.av f.av))∧Kp w w':=by
 go_enter Tryz.func163,Tryz.ntmps163
 go_wp2_with fail
 generalize hW:((w.alloc _).alloc _)=W at *
 have hk:Kp w W:=hW▸((Kp.refl w).alloc _).alloc _
 have hd1:=(hd.kp hk).drew
 have hf1:=(hf.kp hk).drew
 have hS:W.cell? ⟨w.heap.size,0,none⟩=some (.bool d.neg)∧W.cell? ⟨w.heap.size,1,none⟩=some (.slice a (limbs d.m).length c)∧W.cell? ⟨w.heap.size,2,none⟩=some (.int .i64 d.e)∧W.cell? ⟨w.heap.size+1,0,none⟩=some (.bool f.neg)∧W.cell? ⟨w.heap.size+1,1,none⟩=some (.slice b (limbs f.m).length k)∧W.cell? ⟨w.heap.size+1,2,none⟩=some (.int .i64 f.e):=by rw[← hW];simp
 clear hW
 go_region_held3 (fun w'=>w'.cell? ⟨w.heap.size,0,none⟩=some (.bool d.neg)∧w'.cell? ⟨w.heap.size,1,none⟩=some (.slice a (limbs d.m).length c)∧w'.cell? ⟨w.heap.size,2,none⟩=some (.int .i64 d.e)∧w'.cell? ⟨w.heap.size+1,0,none⟩=some (.bool f.neg)∧w'.cell? ⟨w.heap.size+1,1,none⟩=some (.slice b (limbs f.m).length k)∧w'.cell? ⟨w.heap.size+1,2,none⟩=some (.int .i64 f.e)) (first | assumption | exact keep6 (by assumption) (by assumption))
  (first
   | (go_at_call_of 169 (Value.agg #[.bool d.neg,.slice a (limbs d.m).length c,.int .i64 d.e]);refine (Top_ok d a c _ hd1).mono ?_;rintro e w2 ⟨rfl,hk2⟩)
   | (go_at_call_of 169 (Value.agg #[.bool f.neg,.slice b (limbs f.m).length k,.int .i64 f.e]);refine (Top_ok f b k _ (hf1.kp (by assumption))).mono ?_;rintro e w3 ⟨rfl,hk3⟩))
 rcases Int.lt_trichotomy (topI d) (topI f) with ht | ht | ht
 ·have H:=hid (cmpN_lt (av_lt hd.1 hf.1 hd0 hf0 ht)).symm
  go_wp2_with fail
  go_ret
  exact⟨ret_int H.out,(hk.drew.trans hk2).trans hk3⟩
 ·have hE1:min d.e f.e≤d.e:=Int.min_le_left _ _
  have hE2:min d.e f.e≤f.e:=Int.min_le_right _ _
  have hE3:min d.e f.e=d.e∨min d.e f.e=f.e:=by omega
  have hed:=ok_e hd.1
  have hef:=ok_e hf.1
  have bd:=av_bits hd.1 hd0
  have bf:=av_bits hf.1 hf0
  have hfin:cmpN (d.m*2 ^ (d.e-min d.e f.e).toNat) (f.m*2 ^ (f.e-min d.e f.e).toNat)=cmpN d.av f.av:=by
   rw[av_shift (d:=d) (min d.e f.e) (by omega) hE1,av_shift (d:=f) (min d.e f.e) (by omega) hE2,cmpN_mul (two_pow_pos _)]
  have hl1:(limbs (d.m*2 ^ (d.e-min d.e f.e).toNat)).length≤256:=by
   apply limbs_len_bits
   rw[bits_mul_pow hd0]
   have hd4:bits d.m≤4096:=by rcases hd.1 with ⟨h,_⟩ | h <;> omega
   have hf4:bits f.m≤4096:=by rcases hf.1 with ⟨h,_⟩ | h <;> omega
   unfold topI at ht
   rw[if_neg hd0,if_neg hf0] at ht
   omega
  have hl2:(limbs (f.m*2 ^ (f.e-min d.e f.e).toNat)).length≤256:=by
   apply limbs_len_bits
   rw[bits_mul_pow hf0]
   have hd4:bits d.m≤4096:=by rcases hd.1 with ⟨h,_⟩ | h <;> omega
   have hf4:bits f.m≤4096:=by rcases hf.1 with ⟨h,_⟩ | h <;> omega
   unfold topI at ht
   rw[if_neg hd0,if_neg hf0] at ht
   omega
  have Hfin:=hid hfin
  have h1:¬ topI d<topI f:=by omega
  have h2:¬ topI f<topI d:=by omega
  clear ht hfin bd bf
  have hk4:=(hk.drew.trans hk2).trans hk3
  have hS3:=keep6 hk3 (keep6 hk2 hS)
  clear hS
  go_wp2_with fail
  generalize min d.e f.e=E at *
  have Hl1:=hid hl1
  have Hl2:=hid hl2
  have e1:IntKind.i64.wrap (d.e-E)=d.e-E:=IntWalk.i64_in _ (by omega)
  have e2:IntKind.i64.wrap (f.e-E)=f.e-E:=IntWalk.i64_in _ (by omega)
  have hd3:=(hd.kp hk4).drew
  have hf3:=(hf.kp hk4).drew
  have z1:0≤d.e-E:=by omega
  have z2:0≤f.e-E:=by omega
  have z3:d.e-E≤65536:=by omega
  have z4:f.e-E≤65536:=by omega
  clear hl1 hl2 hE3
  go_region_held3 (fun w'=>w'.cell? ⟨w.heap.size,0,none⟩=some (.bool d.neg)∧w'.cell? ⟨w.heap.size,1,none⟩=some (.slice a (limbs d.m).length c)∧w'.cell? ⟨w.heap.size,2,none⟩=some (.int .i64 d.e)∧w'.cell? ⟨w.heap.size+1,0,none⟩=some (.bool f.neg)∧w'.cell? ⟨w.heap.size+1,1,none⟩=some (.slice b (limbs f.m).length k)∧w'.cell? ⟨w.heap.size+1,2,none⟩=some (.int .i64 f.e)) (first | assumption | exact keep6 (by assumption) (by assumption))
   (first
    | (go_at_call_of 202 (Value.slice a (limbs d.m).length c);refine (shifted_ok d a c _ _ hd3 z1 z3 Hl1.out).mono ?_;rintro e w5 ⟨a5,c5,rfl,r5,l5,m5,hk5⟩)
    | (go_at_call_of 202 (Value.slice b (limbs f.m).length k);refine (shifted_ok f b k _ _ (hf3.kp (by assumption)) z2 z4 Hl2.out).mono ?_;rintro e w6 ⟨a6,c6,rfl,r6,l6,m6,hk6⟩)
    | (go_at_call 173;refine (cmp_any _ _ _ _ _ _ _ (r5.kp (by assumption)) r6 l5 l6 m5 m6).mono ?_;rintro e w7 ⟨rfl,hk7⟩))
  go_wp2_with fail
  go_ret
  refine⟨ret_int ?_,(((hk4.drew).trans hk5).trans hk6).trans hk7⟩
  rw[← Hfin.out,val_limbs,val_limbs]
 have H:=hid (cmpN_gt (av_lt hf.1 hd.1 hf0 hd0 ht)).symm
 have h1:¬ topI d<topI f:=by omega
 go_wp2_with fail
 go_ret
 exact⟨ret_int H.out,(hk.drew.trans hk2).trans hk3⟩
def cmpZ (x y:Int):Int:=if x<y then -1 else if x=y then 0 else 1
theorem cmpZ_gt {x y:Int}:0<cmpZ x y↔y<x:=by unfold cmpZ;split <;> (try split) <;> omega
theorem cmpZ_eq {x y:Int}:cmpZ x y=0↔x=y:=by unfold cmpZ;split <;> (try split) <;> omega
theorem cmpZ_bound (x y:Int):-1≤cmpZ x y∧cmpZ x y≤1:=by unfold cmpZ;split <;> (try split) <;> omega
theorem cmpN_Z (m n:Nat):cmpN m n=cmpZ m n:=by
 unfold cmpZ
 rcases Nat.lt_trichotomy m n with h | h | h
 ·rw[cmpN_lt h,if_pos (by omega)]
 ·rw[cmpN_eq h,if_neg (by omega),if_pos (by omega)]
 rw[cmpN_gt h,if_neg (by omega),if_neg (by omega)]
theorem sgn_range (d:Dy):sgn d=-1∨sgn d=0∨sgn d=1:=by
 unfold sgn;split
 ·exact .inr (.inl rfl)
 split
 ·exact .inl rfl
 exact .inr (.inr rfl)
theorem cmp_sgn_lt {d f:Dy} (h:sgn d<sgn f):cmpZ d.iv f.iv=-1:=by
 have h1:=sgn_iv d
 have h2:=sgn_iv f
 have h3:=sgn_range d
 have h4:=sgn_range f
 unfold cmpZ
 rw[if_pos]
 omega
theorem cmp_sgn_gt {d f:Dy} (h:sgn f<sgn d):cmpZ d.iv f.iv=1:=by
 have h1:=sgn_iv d
 have h2:=sgn_iv f
 have h3:=sgn_range d
 have h4:=sgn_range f
 unfold cmpZ
 rw[if_neg (by omega),if_neg (by omega)]
theorem cmp_sgn_zero {d f:Dy} (h:sgn d=sgn f) (h0:sgn d=0):cmpZ d.iv f.iv=0:=by
 have h1:=sgn_iv d
 have h2:=sgn_iv f
 rw[cmpZ_eq];omega
theorem cmp_sgn_eq {d f:Dy} (h:sgn d=sgn f) (h0:sgn d≠0):cmpZ d.iv f.iv=sgn d*cmpN d.av f.av:=by
 have hm:d.m≠0:=fun h1=>h0 (by unfold sgn;rw[if_pos h1])
 have hf:f.m≠0:=fun h1=>h0 (by rw[h];unfold sgn;rw[if_pos h1])
 rw[cmpN_Z]
 unfold sgn at h ⊢
 rw[if_neg hm,if_neg hf] at h
 rw[if_neg hm]
 cases hd:d.neg with
 | false =>
  rw[hd] at h
  cases hg:f.neg with
  | false=>rw[Dy.iv_pos hd,Dy.iv_pos hg];simp
  | true=>rw[hg] at h;simp at h
 | true =>
 rw[hd] at h
 cases hg:f.neg with
 | false=>rw[hg] at h;simp at h
 | true =>
 rw[Dy.iv_neg hd,Dy.iv_neg hg]
 unfold cmpZ
 simp only[if_true]
 split <;> (try split) <;> (try split) <;> (try split) <;> omega
theorem Cmp_ok (d f:Dy) (a b:Option Addr) (c k:Nat) (w:World) (hd:DyAt w d a c) (hf:DyAt w f b k) :
  Calls Tryz.prog 115 #[.agg #[.bool d.neg,.slice a (limbs d.m).length c,.int .i64 d.e],.agg #[.bool f.neg,.slice b (limbs f.m).length k,.int .i64 f.e]] w fun e w'=>e=.returned (.int .i64 (cmpZ d.iv f.iv))∧Kp w w':=by
 have hs1:=sgn_range d
 have hs2:=sgn_range f
 go_enter Tryz.func115,Tryz.ntmps115
 go_wp2_with fail
 generalize hW:((w.alloc _).alloc _)=W at *
 have hk:Kp w W:=hW▸((Kp.refl w).alloc _).alloc _
 have hS:W.cell? ⟨w.heap.size,0,none⟩=some (.bool d.neg)∧W.cell? ⟨w.heap.size,1,none⟩=some (.slice a (limbs d.m).length c)∧W.cell? ⟨w.heap.size,2,none⟩=some (.int .i64 d.e)∧W.cell? ⟨w.heap.size+1,0,none⟩=some (.bool f.neg)∧W.cell? ⟨w.heap.size+1,1,none⟩=some (.slice b (limbs f.m).length k)∧W.cell? ⟨w.heap.size+1,2,none⟩=some (.int .i64 f.e):=by rw[← hW];simp
 clear hW
 refine (Valid_ok d a c _ (hd.kp hk)).mono ?_
 rintro e w1 ⟨rfl,hk1⟩
 have hS1:=keep6 hk1 hS
 clear hS
 go_wp2_with fail
 refine (Valid_ok f b k _ (hf.kp (hk.trans hk1))).mono ?_
 rintro e w2 ⟨rfl,hk2⟩
 have hS2:=keep6 hk2 hS1
 clear hS1
 have hk3:=(hk.trans hk1).trans hk2
 clear hk hk1 hk2
 go_wp2_with fail
 have hd1:=(hd.kp hk3).drew
 have hf1:=(hf.kp hk3).drew
 go_region_held3 (fun w'=>w'.cell? ⟨w.heap.size,0,none⟩=some (.bool d.neg)∧w'.cell? ⟨w.heap.size,1,none⟩=some (.slice a (limbs d.m).length c)∧w'.cell? ⟨w.heap.size,2,none⟩=some (.int .i64 d.e)∧w'.cell? ⟨w.heap.size+1,0,none⟩=some (.bool f.neg)∧w'.cell? ⟨w.heap.size+1,1,none⟩=some (.slice b (limbs f.m).length k)∧w'.cell? ⟨w.heap.size+1,2,none⟩=some (.int .i64 f.e)) (first | assumption | exact keep6 (by assumption) (by assumption))
  (first
   | (go_at_call_of 120 (Value.agg #[.bool d.neg,.slice a (limbs d.m).length c,.int .i64 d.e]);refine (Sign_ok d a c _ hd1).mono ?_;rintro e w4 ⟨rfl,hk4⟩)
   | (go_at_call_of 120 (Value.agg #[.bool f.neg,.slice b (limbs f.m).length k,.int .i64 f.e]);refine (Sign_ok f b k _ (hf1.kp (by assumption))).mono ?_;rintro e w5 ⟨rfl,hk5⟩))
 have hk6:=(hk3.drew.trans hk4).trans hk5
 have hS6:=keep6 hk5 (keep6 hk4 hS2)
 clear hS2
 rcases Int.lt_trichotomy (sgn d) (sgn f) with ht | ht | ht
 ·have H:=hid (cmp_sgn_lt ht).symm
  go_wp2_with fail
  go_ret
  exact⟨ret_int H.out,hk6⟩
 ·have h1:¬ sgn d<sgn f:=by omega
  have h2:¬ sgn f<sgn d:=by omega
  by_cases h0:sgn d=0
  ·have H:=hid (cmp_sgn_zero ht h0).symm
   have hz:(sgn d==0)=true:=beq_iff_eq.2 h0
   clear ht h0
   go_wp2_with fail
   go_ret
   exact⟨ret_int H.out,hk6⟩
  have H:=hid (cmp_sgn_eq ht h0).symm
  have hz:(sgn d==0)=false:=beq_eq_false_iff_ne.2 h0
  have hm:d.m≠0:=fun h1=>h0 (by unfold sgn;rw[if_pos h1])
  have hg:f.m≠0:=fun h1=>h0 (by rw[ht];unfold sgn;rw[if_pos h1])
  have hcb:-1≤cmpN d.av f.av∧cmpN d.av f.av≤1:=by rw[cmpN_Z];exact cmpZ_bound _ _
  clear ht h0
  go_wp2_with fail
  refine (compare_ok d f a b c k _ (hd.kp hk6) (hf.kp hk6) hm hg).mono ?_
  rintro e w7 ⟨rfl,hk7⟩
  go_wp2_with fail
  go_ret
  refine⟨ret_int (.trans ?_ H.out),hk6.trans hk7⟩
  have hp:-1≤sgn d*cmpN d.av f.av∧sgn d*cmpN d.av f.av≤1:=by rcases hs1 with h | h | h <;> rw[h] <;> omega
  unfold wrap64;omega
 have H:=hid (cmp_sgn_gt ht).symm
 have h1:¬ sgn d<sgn f:=by omega
 go_wp2_with fail
 go_ret
 exact⟨ret_int H.out,hk6⟩
structure RD where
 neg:Bool
 a:Option Addr
 xs:List Nat
 c:Nat
 e:Int
def RD.rd (w:World) (x:RD):Prop:=Rd w x.a x.xs∧x.xs.length≤x.c∧x.c≤maxLen∧x.xs.length≤1100000∧I64 x.e
theorem RD.rd.kp {w w':World} {x:RD} (h:x.rd w) (k:Kp w w'):x.rd w':=⟨h.1.kp k,h.2⟩
def RD.vl (x:RD):Bool:=vld x.neg x.xs x.e
def RD.dy (x:RD):Dy:=⟨x.neg,val x.xs,x.e⟩
def RD.iv (x:RD):Int:=x.dy.iv
theorem RD.limbs {w:World} {x:RD} (h:x.rd w) (hv:x.vl=true):limbs x.dy.m=x.xs:=(vld_ok h.1.lt32 hv).2.1
theorem RD.at {w:World} {x:RD} (h:x.rd w) (hv:x.vl=true):DyAt w x.dy x.a x.c:=by
 have h1:=vld_ok h.1.lt32 hv
 have h2:=RD.limbs h hv
 exact⟨h1.1,by rw[h2];exact h.1,by rw[h2];exact h.2.1,h.2.2.1⟩
theorem Valid_raw (x:RD) (w:World) (h:x.rd w) :
  Calls Tryz.prog 114 #[.agg #[.bool x.neg,.slice x.a x.xs.length x.c,.int .i64 x.e]] w fun e w'=>e=.returned (.bool x.vl)∧Kp w w' :=
 Valid_any x.neg x.a x.xs x.c x.e w h.1 h.2.1 h.2.2.1 h.2.2.2.1 h.2.2.2.2
theorem Cmp_raw (x y:RD) (w:World) (hx:x.rd w) (hy:y.rd w) (vx:x.vl=true) (vy:y.vl=true) :
  Calls Tryz.prog 115 #[.agg #[.bool x.neg,.slice x.a x.xs.length x.c,.int .i64 x.e],.agg #[.bool y.neg,.slice y.a y.xs.length y.c,.int .i64 y.e]] w fun e w'=>e=.returned (.int .i64 (cmpZ x.iv y.iv))∧Kp w w':=by
 have H:=Cmp_ok x.dy y.dy x.a y.a x.c y.c w (RD.at hx vx) (RD.at hy vy)
 rw[RD.limbs hx vx,RD.limbs hy vy] at H
 exact H
structure RI where
 lo:RD
 hi:RD
 all:Bool
def RI.rd (w:World) (x:RI):Prop:=x.lo.rd w∧x.hi.rd w
theorem RI.rd.kp {w w':World} {x:RI} (h:x.rd w) (k:Kp w w'):x.rd w':=⟨h.1.kp k,h.2.kp k⟩
def RD.zr (x:RD):Bool:=!x.neg&&(decide (x.xs.length=0)&&decide (x.e=0))
def RI.vl (x:RI):Bool:=if x.all then x.lo.zr&&x.hi.zr else x.lo.vl&&(x.hi.vl&&decide (cmpZ x.lo.iv x.hi.iv≤0))
theorem zero_raw (x:RD) (w:World) :
  Calls Tryz.prog 122 #[.agg #[.bool x.neg,.slice x.a x.xs.length x.c,.int .i64 x.e]] w fun e w'=>e=.returned (.bool x.zr)∧Kp w w':=by
 have H:=hid (show x.zr=(!x.neg&&(decide (x.xs.length=0)&&decide (x.e=0))) from rfl)
 go_enter Tryz.func122,Tryz.ntmps122
 cases hn:x.neg with
 | true =>
  rw[hn] at H
  clear hn
  go_wp2_with fail
  go_ret
  exact⟨ret_bool H.out.symm,((Kp.refl w).alloc _)⟩
 | false =>
 rw[hn] at H
 clear hn
 by_cases h0:x.xs.length=0
 ·have hz:((x.xs.length:Int)==0)=true:=beq_iff_eq.2 (by omega)
  rw[decide_eq_true h0] at H
  clear h0
  go_wp2_with fail
  go_ret
  exact⟨ret_bool (by rw[H.out];exact Bool.eq_iff_iff.2 (by simp)),((Kp.refl w).alloc _)⟩
 have hz:((x.xs.length:Int)==0)=false:=beq_eq_false_iff_ne.2 (by omega)
 rw[decide_eq_false h0] at H
 clear h0
 go_wp2_with fail
 go_ret
 exact⟨ret_bool (by rw[H.out];simp),((Kp.refl w).alloc _)⟩
end Go.Proofs.YteidgoldnllabaaGreatDoor
