/-
  Plain rounding of signed numbers S 2^(-16384-K) to p bits, no program in sight.
-/
import Derived.Test.YtbhmhfnfceakoaaGreatDoorMCmp
import Derived.Deep.RegionHeld3
import Derived.Test.YtbhmhfnfceakoaaGreatDoorMNum
import Derived.Deep.AppendLies
namespace Go.Proofs.YtbhmhfnfceakoaaGreatDoor
open Go.RowKit
open Lib (hid)
section
def Dy.opp (d:Dy):Dy:=if d.m=0 then .zero else ⟨!d.neg,d.m,d.e⟩
theorem Dy.opp_iv (d:Dy):d.opp.iv=-d.iv:=by
 unfold Dy.opp
 split
 ·next h=>rw[Dy.iv_zero,Dy.iv_eq_zero.2 h];rfl
 unfold Dy.iv sg;cases d.neg <;> simp
theorem Dy.opp_ok {d:Dy} (h:d.ok):d.opp.ok:=by
 unfold Dy.opp
 split
 ·exact Dy.ok_zero
 next h0 =>
 rcases h with ⟨h1,_⟩ | h1
 ·exact absurd h1 h0
 exact .inr h1
theorem Dy.opp_m (d:Dy):d.opp.m=d.m:=by unfold Dy.opp;split <;> simp_all [Dy.zero]
theorem isP.opp {p:Nat} {d:Dy} (h:isP p d):isP p d.opp:=⟨Dy.opp_ok h.1,by rw[Dy.opp_m];exact h.2⟩
theorem isP.zero (p:Nat):isP p .zero:=⟨Dy.ok_zero,Nat.zero_le _⟩
theorem Dy.opp_opp {d:Dy} (h:d.ok):d.opp.opp=d:=Dy.iv_inj (Dy.opp_ok (Dy.opp_ok h)) h (by rw[Dy.opp_iv,Dy.opp_iv];omega)
theorem Dy.av_zero {d:Dy}:d.av=0↔d.m=0:=by
 unfold Dy.av
 constructor
 ·intro h
  rcases Nat.mul_eq_zero.1 h with h | h
  ·exact h
  exact absurd h (two_pow_ne _)
 intro h;rw[h,Nat.zero_mul]
theorem Dy.iv_pos {d:Dy} (h:d.neg=false):d.iv=d.av:=by rw[Dy.iv_av,h];rfl
theorem Dy.iv_neg {d:Dy} (h:d.neg=true):d.iv=-(d.av:Int):=by rw[Dy.iv_av,h];rfl
def rnd (K:Nat) (S:Int) (p:Nat) (up:Bool):Option Dy :=
 if S=0 then some .zero
 else if S<0 then (rcut S.natAbs (-16384-K) false p (!up)).map Dy.opp
 else rcut S.natAbs (-16384-K) false p up
theorem rnd_zero (K p:Nat) (up:Bool):rnd K 0 p up=some .zero:=by unfold rnd;rw[if_pos rfl]
theorem rnd_isP {K p:Nat} {S:Int} {up:Bool} {d:Dy} (hp:0<p) (hp2:p≤4096) (h:rnd K S p up=some d):isP p d:=by
 unfold rnd at h
 split at h
 ·cases h;exact .zero p
 split at h
 ·cases hc:rcut S.natAbs (-16384-K) false p (!up) with
  | some x=>rw[hc] at h;cases h;exact (rcut_isP hp hp2 hc).1.opp
  | none=>rw[hc] at h;cases h
 exact (rcut_isP hp hp2 h).1
theorem rnd_opp {K p:Nat} {S:Int} {up:Bool} (hp:0<p) (hp2:p≤4096):rnd K (-S) p up=(rnd K S p (!up)).map Dy.opp:=by
 unfold rnd
 by_cases h0:S=0
 ·subst h0;simp[Dy.opp,Dy.zero]
 rw[if_neg (by omega),if_neg h0,Int.natAbs_neg]
 by_cases h1:S<0
 ·rw[if_neg (by omega),if_pos h1]
  simp only[Bool.not_not]
  cases hc:rcut S.natAbs (-16384-K) false p up with
  | some x=>simp only[Option.map_some];rw[Dy.opp_opp (rcut_isP hp hp2 hc).1.1]
  | none=>rfl
 rw[if_pos (by omega),if_neg h1]
theorem rnd_down {K p:Nat} {S:Int} (hp:0<p) (hp2:p≤4096) :
  (rnd K S p false=none∧∀ d',isP p d'→¬ d'.iv*2 ^ K≤S) ∨
  ∃ d,rnd K S p false=some d∧isP p d∧d.iv*2 ^ K≤S∧∀ d',isP p d'→d'.iv*2 ^ K≤S→d'.iv≤d.iv:=by
 have hK:(0:Int)<2 ^ K:=by exact_mod_cast two_pow_pos K
 have cast (x:Nat):((x*2 ^ K:Nat):Int)=(x:Int)*2 ^ K:=by push_cast;rfl
 by_cases h0:S=0
 ·subst h0
  refine .inr ⟨.zero,rnd_zero _ _ _,.zero p,by rw[Dy.iv_zero];simp,fun d' _ h=>?_⟩
  rw[Dy.iv_zero]
  exact Int.le_of_mul_le_mul_right (by simpa using h) hK
 by_cases h1:S<0
 rotate_left
 ·have e:rnd K S p false=rcut S.natAbs (-16384-K) false p false:=by unfold rnd;rw[if_neg h0,if_neg h1]
  obtain⟨d,hc,h2,hm⟩:=rcut_down (n:=S.natAbs) (K:=K) (p:=p) (by omega) hp hp2
  have hp':=rcut_isP hp hp2 hc
  refine .inr ⟨d,by rw[e,hc],hp'.1,?_,fun d' hd' h=>?_⟩
  ·rw[Dy.iv_pos hp'.2,← cast];omega
  rw[Dy.iv_pos hp'.2]
  cases hn:d'.neg with
  | true=>rw[Dy.iv_neg hn];omega
  | false =>
  rw[Dy.iv_pos hn,← cast] at h
  have:=hm d' hd' (by omega)
  rw[Dy.iv_pos hn];omega
 have e:rnd K S p false=(rcut S.natAbs (-16384-K) false p true).map Dy.opp:=by unfold rnd;rw[if_neg h0,if_pos h1];rfl
 have conv (d':Dy) (h:d'.iv*2 ^ K≤S):d'.neg=true∧S.natAbs≤d'.av*2 ^ K:=by
  cases hn:d'.neg with
  | false =>
   rw[Dy.iv_pos hn,← cast] at h;omega
  | true =>
   rw[Dy.iv_neg hn,Int.neg_mul,← cast] at h
   exact⟨rfl,by omega⟩
 rcases rcut_up (n:=S.natAbs) (K:=K) (p:=p) (by omega) hp with ⟨hc,hm⟩ | ⟨d,hc,h2,hm⟩
 ·exact .inl ⟨by rw[e,hc];rfl,fun d' hd' h=>hm d' hd' (conv d' h).2⟩
 have hp':=rcut_isP hp hp2 hc
 refine .inr ⟨d.opp,by rw[e,hc];rfl,hp'.1.opp,?_,fun d' hd' h=>?_⟩
 ·rw[Dy.opp_iv,Dy.iv_pos hp'.2,Int.neg_mul,← cast];omega
 have:=hm d' hd' (conv d' h).2
 rw[Dy.opp_iv,Dy.iv_pos hp'.2,Dy.iv_neg (conv d' h).1];omega
theorem rnd_up {K p:Nat} {S:Int} (hp:0<p) (hp2:p≤4096) :
  (rnd K S p true=none∧∀ d',isP p d'→¬ S≤d'.iv*2 ^ K) ∨
  ∃ d,rnd K S p true=some d∧isP p d∧S≤d.iv*2 ^ K∧∀ d',isP p d'→S≤d'.iv*2 ^ K→d.iv≤d'.iv:=by
 have e:rnd K S p true=(rnd K (-S) p false).map Dy.opp:=by
  have:=rnd_opp (K:=K) (S:=-S) (up:=true) hp hp2
  rwa [Int.neg_neg] at this
 rcases rnd_down (K:=K) (S:=-S) hp hp2 with ⟨h1,h2⟩ | ⟨d,h1,h2,h3,h4⟩
 ·refine .inl ⟨by rw[e,h1];rfl,fun d' hd' h=>h2 d'.opp hd'.opp ?_⟩
  rw[Dy.opp_iv,Int.neg_mul];omega
 refine .inr ⟨d.opp,by rw[e,h1];rfl,h2.opp,?_,fun d' hd' h=>?_⟩
 ·rw[Dy.opp_iv,Int.neg_mul];omega
 have:=h4 d'.opp hd'.opp (by rw[Dy.opp_iv,Int.neg_mul];omega)
 rw[Dy.opp_iv] at this ⊢;omega
def rnde (S:Int) (e:Int) (p:Nat) (up:Bool):Option Dy :=
 if S=0 then some .zero
 else if S<0 then (rcut S.natAbs e false p (!up)).map Dy.opp
 else rcut S.natAbs e false p up
theorem rnde_rnd (K:Nat) (S:Int) (p:Nat) (up:Bool):rnde S (-16384-K) p up=rnd K S p up:=rfl
theorem rnde_shift (S:Int) (k:Nat) (e:Int) (p:Nat) (up:Bool):rnde (S*2 ^ k) (e-k) p up=rnde S e p up:=by
 have hk:(0:Int)<2 ^ k:=by exact_mod_cast two_pow_pos k
 have ha:(S*2 ^ k).natAbs=S.natAbs*2 ^ k:=by
  rw[Int.natAbs_mul,Int.natAbs_pow];rfl
 unfold rnde
 by_cases h0:S=0
 ·subst h0;simp
 have h0':S*2 ^ k≠0:=Int.mul_ne_zero h0 (by omega)
 rw[if_neg h0,if_neg h0',ha,rcut_shift (by omega),rcut_shift (by omega)]
 by_cases h1:S<0
 ·rw[if_pos h1,if_pos (Int.mul_neg_of_neg_of_pos h1 hk)]
 rw[if_neg h1,if_neg (by have:=Int.mul_pos (show 0<S by omega) hk;omega)]
theorem rnde_grid (S e:Int) (K k:Nat) (h:e=k-16384-K) (p:Nat) (up:Bool):rnde S e p up=rnd K (S*2 ^ k) p up:=by
 rw[← rnde_rnd,show (-16384-(K:Int))=e-k from by omega,rnde_shift]
end
def DyAt (w:World) (d:Dy) (a:Option Addr) (c:Nat):Prop:=d.ok∧Rd w a (limbs d.m)∧(limbs d.m).length≤c∧c≤maxLen
theorem DyAt.kp {w w':World} {d:Dy} {a:Option Addr} {c:Nat} (h:DyAt w d a c) (k:Kp w w'):DyAt w' d a c:=⟨h.1,h.2.1.kp k,h.2.2⟩
theorem ok_e {d:Dy} (h:d.ok):-16384≤d.e∧d.e≤16384:=by
 rcases h with ⟨_,_,h⟩ | ⟨_,_,h,h',_⟩ <;> omega
theorem ok_I64 {d:Dy} (h:d.ok):I64 d.e:=by have:=ok_e h;exact⟨by omega,by omega⟩
theorem Valid_ok (d:Dy) (a:Option Addr) (c:Nat) (w:World) (h:DyAt w d a c) :
  Calls Tryz.prog 56 #[.agg #[.bool d.neg,.slice a (limbs d.m).length c,.int .i64 d.e]] w fun e w'=>e=.returned (.bool true)∧Kp w w':=by
 have:=Valid_any d.neg a (limbs d.m) c d.e w h.2.1 h.2.2.1 h.2.2.2 (by have:=ok_len h.1;omega) (ok_I64 h.1)
 rwa [ok_vld h.1] at this
theorem DyAt.drew {w:World} {d:Dy} {a:Option Addr} {c:Nat} (h:DyAt w d a c):DyAt w.drew d a c:=h.kp (Kp.refl w).drew
theorem size_ok (d:Dy) (a:Option Addr) (c:Nat) (w:World) (h:DyAt w d a c) :
  Calls Tryz.prog 58 #[.slice a (limbs d.m).length c] w fun e w'=>e=.returned (.int .i64 (bits d.m))∧w=w':=by
 have hs:=size_any a (limbs d.m) c w h.2.1 h.2.2.1 h.2.2.2 (by have:=ok_len h.1;omega)
 rwa [val_limbs] at hs
def topI (d:Dy):Int:=if d.m=0 then 0 else (bits d.m:Int)+d.e
theorem len_ne {n:Nat} (h:n≠0):(((limbs n).length:Int)==0)=false :=
 beq_eq_false_iff_ne.2 (by
  have:limbs n≠[]:=by rw[Ne,limbs_eq_nil];exact h
  have:=List.length_pos_iff.2 this
  omega)
set_option maxHeartbeats 2000000 in
theorem Top_ok (d:Dy) (a:Option Addr) (c:Nat) (w:World) (h:DyAt w d a c) :
  Calls Tryz.prog 120 #[.agg #[.bool d.neg,.slice a (limbs d.m).length c,.int .i64 d.e]] w fun e w'=>e=.returned (.int .i64 (topI d))∧Kp w w':=by
 have hb:=bits_val_le (limbs_lt32 d.m)
 rw[val_limbs] at hb
 have hl:=ok_len h.1
 have he:=ok_e h.1
 by_cases h0:d.m=0
 ·have H:=hid (show topI d=0 by unfold topI;rw[if_pos h0])
  have H2:=hid (Valid_ok d a c _ (h.kp ((Kp.refl w).alloc (.cells #[.bool d.neg,.slice a (limbs d.m).length c,.int .i64 d.e] 38))))
  have hz:(limbs d.m).length=0:=by rw[h0,limbs_zero];rfl
  clear h0
  rw[hz] at H2 ⊢
  clear hz hl hb
  go_enter Tryz.func120,Tryz.ntmps120
  go_wp2_with fail
  refine H2.out.mono ?_
  rintro e w1 ⟨rfl,hk⟩
  obtain⟨c0,c1,c2,_⟩:=(Box3.new w (.bool d.neg) (.slice a 0 c) (.int .i64 d.e) 38).kp hk
  go_wp2_with fail
  go_ret
  exact⟨ret_int H.out.symm,((Kp.refl w).alloc _).trans hk⟩
 have H:=hid (show topI d=(bits d.m:Int)+d.e by unfold topI;rw[if_neg h0])
 have hz:=len_ne h0
 clear h0
 go_enter Tryz.func120,Tryz.ntmps120
 go_wp2_with fail
 refine (Valid_ok d a c _ (h.kp ((Kp.refl w).alloc _))).mono ?_
 rintro e w1 ⟨rfl,hk⟩
 obtain⟨c0,c1,c2,_⟩:=(Box3.new w (.bool d.neg) (.slice a (limbs d.m).length c) (.int .i64 d.e) 38).kp hk
 have hk2:=((Kp.refl w).alloc _).trans hk
 have hd:=(h.kp hk2).drew
 go_wp2_with fail
 go_region_held3 (fun w'=>w'.cell? ⟨w.heap.size,1,none⟩=some (.slice a (limbs d.m).length c)∧w'.cell? ⟨w.heap.size,2,none⟩=some (.int .i64 d.e)) (go_keep)
  (first | (go_at_call 58;refine (size_ok d a c _ hd).mono ?_;rintro e w2 ⟨rfl,rfl⟩))
 go_wp2_with fail
 go_ret
 exact⟨ret_int ((IntWalk.i64_in _ (by omega)).trans H.out.symm),hk2.drew⟩
def sgn (d:Dy):Int:=if d.m=0 then 0 else if d.neg then -1 else 1
theorem sgn_iv (d:Dy):(sgn d=0↔d.iv=0)∧(sgn d=-1↔d.iv<0)∧(sgn d=1↔0<d.iv):=by
 have hav:d.m≠0→0<(d.av:Int):=fun h=>by
  have:d.av≠0:=fun h2=>h (Dy.av_zero.1 h2)
  omega
 unfold sgn
 by_cases h0:d.m=0
 ·have:=Dy.iv_eq_zero.2 h0
  rw[if_pos h0,this];simp
 rw[if_neg h0]
 have h1:=hav h0
 cases hn:d.neg with
 | true=>rw[Dy.iv_neg hn];simp;omega
 | false=>rw[Dy.iv_pos hn];simp;omega
set_option maxHeartbeats 2000000 in
theorem Bits_ok (d:Dy) (a:Option Addr) (c:Nat) (w:World) (h:DyAt w d a c) :
  Calls Tryz.prog 231 #[.agg #[.bool d.neg,.slice a (limbs d.m).length c,.int .i64 d.e]] w fun e w'=>e=.returned (.int .i64 (bits d.m))∧Kp w w':=by
 go_enter Tryz.func231,Tryz.ntmps231
 go_wp2_with fail
 refine (Valid_ok d a c _ (h.kp ((Kp.refl w).alloc _))).mono ?_
 rintro e w1 ⟨rfl,hk⟩
 obtain⟨c0,c1,c2,_⟩:=(Box3.new w (.bool d.neg) (.slice a (limbs d.m).length c) (.int .i64 d.e) 38).kp hk
 have hk2:=((Kp.refl w).alloc _).trans hk
 go_wp2_with fail
 refine (size_ok d a c _ (h.kp hk2)).mono ?_
 rintro e w2 ⟨rfl,rfl⟩
 go_wp2_with fail
 go_ret
 exact⟨rfl,hk2⟩
set_option maxHeartbeats 2000000 in
theorem Sign_ok (d:Dy) (a:Option Addr) (c:Nat) (w:World) (h:DyAt w d a c) :
  Calls Tryz.prog 66 #[.agg #[.bool d.neg,.slice a (limbs d.m).length c,.int .i64 d.e]] w fun e w'=>e=.returned (.int .i64 (sgn d))∧Kp w w':=by
 by_cases h0:d.m=0
 ·have H:=hid (show sgn d=0 by unfold sgn;rw[if_pos h0])
  have H2:=hid (Valid_ok d a c _ (h.kp ((Kp.refl w).alloc (.cells #[.bool d.neg,.slice a (limbs d.m).length c,.int .i64 d.e] 38))))
  have hz:(limbs d.m).length=0:=by rw[h0,limbs_zero];rfl
  clear h0
  rw[hz] at H2 ⊢
  clear hz
  go_enter Tryz.func66,Tryz.ntmps66
  go_wp2_with fail
  refine H2.out.mono ?_
  rintro e w1 ⟨rfl,hk⟩
  obtain⟨c0,c1,c2,_⟩:=(Box3.new w (.bool d.neg) (.slice a 0 c) (.int .i64 d.e) 38).kp hk
  go_wp2_with fail
  go_ret
  exact⟨ret_int H.out.symm,((Kp.refl w).alloc _).trans hk⟩
 have H:=hid (show sgn d=if d.neg then -1 else 1 by unfold sgn;rw[if_neg h0])
 have hz:=len_ne h0
 clear h0
 have H2:=hid (Valid_ok d a c _ (h.kp ((Kp.refl w).alloc (.cells #[.bool d.neg,.slice a (limbs d.m).length c,.int .i64 d.e] 38))))
 cases hn:d.neg with
 | true =>
  rw[hn] at H2 H
  clear hn
  go_enter Tryz.func66,Tryz.ntmps66
  go_wp2_with fail
  refine H2.out.mono ?_
  rintro e w1 ⟨rfl,hk⟩
  obtain⟨c0,c1,c2,_⟩:=(Box3.new w (.bool true) (.slice a (limbs d.m).length c) (.int .i64 d.e) 38).kp hk
  go_wp2_with fail
  go_ret
  exact⟨ret_int H.out.symm,((Kp.refl w).alloc _).trans hk⟩
 | false =>
 rw[hn] at H2 H
 clear hn
 go_enter Tryz.func66,Tryz.ntmps66
 go_wp2_with fail
 refine H2.out.mono ?_
 rintro e w1 ⟨rfl,hk⟩
 obtain⟨c0,c1,c2,_⟩:=(Box3.new w (.bool false) (.slice a (limbs d.m).length c) (.int .i64 d.e) 38).kp hk
 go_wp2_with fail
 go_ret
 exact⟨ret_int H.out.symm,((Kp.refl w).alloc _).trans hk⟩
theorem keep3 {w w':World} (k:Kp w w') {p0 p1 p2:Addr} {v0 v1 v2:Value} (h:w.cell? p0=some v0∧w.cell? p1=some v1∧w.cell? p2=some v2):w'.cell? p0=some v0∧w'.cell? p1=some v1∧w'.cell? p2=some v2 :=
 let ⟨h0,h1,h2⟩:=h
 ⟨k.cell h0,k.cell h1,k.cell h2⟩
theorem keep6 {w w':World} (k:Kp w w') {p0 p1 p2 p3 p4 p5:Addr} {v0 v1 v2 v3 v4 v5:Value} (h:w.cell? p0=some v0∧w.cell? p1=some v1∧w.cell? p2=some v2∧w.cell? p3=some v3∧w.cell? p4=some v4∧w.cell? p5=some v5):w'.cell? p0=some v0∧w'.cell? p1=some v1∧w'.cell? p2=some v2∧w'.cell? p3=some v3∧w'.cell? p4=some v4∧w'.cell? p5=some v5 :=
 let ⟨h0,h1,h2,h3,h4,h5⟩:=h
 ⟨k.cell h0,k.cell h1,k.cell h2,k.cell h3,k.cell h4,k.cell h5⟩
set_option maxHeartbeats 2000000 in
theorem shifted_ok (d:Dy) (a:Option Addr) (c:Nat) (n:Int) (w:World) (h:DyAt w d a c) (h0:0≤n) (hn:n≤65536) (hv:(limbs (d.m*2 ^ n.toNat)).length≤256) :
  Calls Tryz.prog 121 #[.slice a (limbs d.m).length c,.int .i64 n] w (Shows w (limbs (d.m*2 ^ n.toNat))):=by
 have H:=Shl_any a (limbs d.m) c n w h.2.1 (by have:=ok_len h.1;omega) h.2.2.1 h.2.2.2 h0 hn (by rw[val_limbs];exact hv)
 rw[val_limbs] at H
 have Hs:=hid H
 clear H
 go_enter Tryz.func121,Tryz.ntmps121
 go_wp2_with fail
 refine Hs.out.mono ?_
 rintro e w2 ⟨a2,c2,rfl,h1,h2,h3,h4⟩
 go_wp2_with fail
 go_ret
 exact⟨a2,c2,rfl,h3,h1,h2,h4⟩
theorem av_bits {d:Dy} (h:d.ok) (h0:d.m≠0):(bits d.av:Int)=topI d+16384:=by
 have he:=ok_e h
 unfold Dy.av topI
 rw[bits_mul_pow h0,if_neg h0];omega
theorem av_lt {d f:Dy} (hd:d.ok) (hf:f.ok) (hd0:d.m≠0) (hf0:f.m≠0) (h:topI d<topI f):d.av<f.av:=by
 have h1:=av_bits hd hd0
 have h2:=av_bits hf hf0
 have h3:bits d.av<bits f.av:=by omega
 apply Classical.byContradiction;intro hn
 have:=bits_mono (show f.av≤d.av by omega)
 omega
theorem av_shift {d:Dy} (k:Int) (h0:-16384≤k) (hk:k≤d.e):d.av=d.m*2 ^ (d.e-k).toNat*2 ^ (k+16384).toNat:=by
 unfold Dy.av
 rw[Nat.mul_assoc,← Nat.pow_add];congr 2;omega
theorem cmpN_mul {m n p:Nat} (hp:0<p):cmpN (m*p) (n*p)=cmpN m n:=by
 unfold cmpN
 simp only[Nat.mul_lt_mul_right hp,Nat.mul_left_inj (Nat.ne_of_gt hp)]
set_option maxHeartbeats 2000000 in
theorem compare_ok (d f:Dy) (a b:Option Addr) (c k:Nat) (w:World) (hd:DyAt w d a c) (hf:DyAt w f b k) (hd0:d.m≠0) (hf0:f.m≠0) :
  Calls Tryz.prog 135 #[.agg #[.bool d.neg,.slice a (limbs d.m).length c,.int .i64 d.e],.agg #[.bool f.neg,.slice b (limbs f.m).length k,.int .i64 f.e]] w fun e w'=>e=.returned (.int .i64 (cmpN d.av f.av))∧Kp w w':=by
 go_enter Tryz.func135,Tryz.ntmps135
 go_wp2_with fail
 generalize hW:((w.alloc _).alloc _)=W at *
 have hk:Kp w W:=hW▸((Kp.refl w).alloc _).alloc _
 have hd1:=(hd.kp hk).drew
 have hf1:=(hf.kp hk).drew
 have hS:W.cell? ⟨w.heap.size,0,none⟩=some (.bool d.neg)∧W.cell? ⟨w.heap.size,1,none⟩=some (.slice a (limbs d.m).length c)∧W.cell? ⟨w.heap.size,2,none⟩=some (.int .i64 d.e)∧W.cell? ⟨w.heap.size+1,0,none⟩=some (.bool f.neg)∧W.cell? ⟨w.heap.size+1,1,none⟩=some (.slice b (limbs f.m).length k)∧W.cell? ⟨w.heap.size+1,2,none⟩=some (.int .i64 f.e):=by rw[← hW];simp
 clear hW
 go_region_held3 (fun w'=>w'.cell? ⟨w.heap.size,0,none⟩=some (.bool d.neg)∧w'.cell? ⟨w.heap.size,1,none⟩=some (.slice a (limbs d.m).length c)∧w'.cell? ⟨w.heap.size,2,none⟩=some (.int .i64 d.e)∧w'.cell? ⟨w.heap.size+1,0,none⟩=some (.bool f.neg)∧w'.cell? ⟨w.heap.size+1,1,none⟩=some (.slice b (limbs f.m).length k)∧w'.cell? ⟨w.heap.size+1,2,none⟩=some (.int .i64 f.e)) (first | assumption | exact keep6 (by assumption) (by assumption))
  (first
   | (go_at_call_of 120 (Value.agg #[.bool d.neg,.slice a (limbs d.m).length c,.int .i64 d.e]);refine (Top_ok d a c _ hd1).mono ?_;rintro e w2 ⟨rfl,hk2⟩)
   | (go_at_call_of 120 (Value.agg #[.bool f.neg,.slice b (limbs f.m).length k,.int .i64 f.e]);refine (Top_ok f b k _ (hf1.kp (by assumption))).mono ?_;rintro e w3 ⟨rfl,hk3⟩))
 rcases Int.lt_trichotomy (topI d) (topI f) with ht | ht | ht
 ·have H:=hid (cmpN_lt (av_lt hd.1 hf.1 hd0 hf0 ht)).symm
  go_wp2_with fail
  go_ret
  exact⟨ret_int H.out,(hk.drew.trans hk2).trans hk3⟩
 ·have hE1:min d.e f.e≤d.e:=Int.min_le_left _ _
  have hE2:min d.e f.e≤f.e:=Int.min_le_right _ _
  have hE3:min d.e f.e=d.e∨min d.e f.e=f.e:=by omega
  have hed:=ok_e hd.1
  have hef:=ok_e hf.1
  have bd:=av_bits hd.1 hd0
  have bf:=av_bits hf.1 hf0
  have hfin:cmpN (d.m*2 ^ (d.e-min d.e f.e).toNat) (f.m*2 ^ (f.e-min d.e f.e).toNat)=cmpN d.av f.av:=by
   rw[av_shift (d:=d) (min d.e f.e) (by omega) hE1,av_shift (d:=f) (min d.e f.e) (by omega) hE2,cmpN_mul (two_pow_pos _)]
  have hl1:(limbs (d.m*2 ^ (d.e-min d.e f.e).toNat)).length≤256:=by
   apply limbs_len_bits
   rw[bits_mul_pow hd0]
   have hd4:bits d.m≤4096:=by rcases hd.1 with ⟨h,_⟩ | h <;> omega
   have hf4:bits f.m≤4096:=by rcases hf.1 with ⟨h,_⟩ | h <;> omega
   unfold topI at ht
   rw[if_neg hd0,if_neg hf0] at ht
   omega
  have hl2:(limbs (f.m*2 ^ (f.e-min d.e f.e).toNat)).length≤256:=by
   apply limbs_len_bits
   rw[bits_mul_pow hf0]
   have hd4:bits d.m≤4096:=by rcases hd.1 with ⟨h,_⟩ | h <;> omega
   have hf4:bits f.m≤4096:=by rcases hf.1 with ⟨h,_⟩ | h <;> omega
   unfold topI at ht
   rw[if_neg hd0,if_neg hf0] at ht
   omega
  have Hfin:=hid hfin
  have h1:¬ topI d<topI f:=by omega
  have h2:¬ topI f<topI d:=by omega
  clear ht hfin bd bf
  have hk4:=(hk.drew.trans hk2).trans hk3
  have hS3:=keep6 hk3 (keep6 hk2 hS)
  clear hS
  go_wp2_with fail
  generalize min d.e f.e=E at *
  have Hl1:=hid hl1
  have Hl2:=hid hl2
  have e1:IntKind.i64.wrap (d.e-E)=d.e-E:=IntWalk.i64_in _ (by omega)
  have e2:IntKind.i64.wrap (f.e-E)=f.e-E:=IntWalk.i64_in _ (by omega)
  have hd3:=(hd.kp hk4).drew
  have hf3:=(hf.kp hk4).drew
  have z1:0≤d.e-E:=by omega
  have z2:0≤f.e-E:=by omega
  have z3:d.e-E≤65536:=by omega
  have z4:f.e-E≤65536:=by omega
  clear hl1 hl2 hE3
  go_region_held3 (fun w'=>w'.cell? ⟨w.heap.size,0,none⟩=some (.bool d.neg)∧w'.cell? ⟨w.heap.size,1,none⟩=some (.slice a (limbs d.m).length c)∧w'.cell? ⟨w.heap.size,2,none⟩=some (.int .i64 d.e)∧w'.cell? ⟨w.heap.size+1,0,none⟩=some (.bool f.neg)∧w'.cell? ⟨w.heap.size+1,1,none⟩=some (.slice b (limbs f.m).length k)∧w'.cell? ⟨w.heap.size+1,2,none⟩=some (.int .i64 f.e)) (first | assumption | exact keep6 (by assumption) (by assumption))
   (first
    | (go_at_call_of 121 (Value.slice a (limbs d.m).length c);refine (shifted_ok d a c _ _ hd3 z1 z3 Hl1.out).mono ?_;rintro e w5 ⟨a5,c5,rfl,r5,l5,m5,hk5⟩)
    | (go_at_call_of 121 (Value.slice b (limbs f.m).length k);refine (shifted_ok f b k _ _ (hf3.kp (by assumption)) z2 z4 Hl2.out).mono ?_;rintro e w6 ⟨a6,c6,rfl,r6,l6,m6,hk6⟩)
    | (go_at_call 123;refine (cmp_any _ _ _ _ _ _ _ (r5.kp (by assumption)) r6 l5 l6 m5 m6).mono ?_;rintro e w7 ⟨rfl,hk7⟩))
  go_wp2_with fail
  go_ret
  refine⟨ret_int ?_,(((hk4.drew).trans hk5).trans hk6).trans hk7⟩
  rw[← Hfin.out,val_limbs,val_limbs]
 have H:=hid (cmpN_gt (av_lt hf.1 hd.1 hf0 hd0 ht)).symm
 have h1:¬ topI d<topI f:=by omega
 go_wp2_with fail
 go_ret
 exact⟨ret_int H.out,(hk.drew.trans hk2).trans hk3⟩
def cmpZ (x y:Int):Int:=if x<y then -1 else if x=y then 0 else 1
theorem cmpZ_lt {x y:Int}:cmpZ x y<0↔x<y:=by unfold cmpZ;split <;> (try split) <;> omega
theorem cmpZ_gt {x y:Int}:0<cmpZ x y↔y<x:=by unfold cmpZ;split <;> (try split) <;> omega
theorem cmpZ_eq {x y:Int}:cmpZ x y=0↔x=y:=by unfold cmpZ;split <;> (try split) <;> omega
theorem cmpZ_bound (x y:Int):-1≤cmpZ x y∧cmpZ x y≤1:=by unfold cmpZ;split <;> (try split) <;> omega
theorem cmpN_Z (m n:Nat):cmpN m n=cmpZ m n:=by
 unfold cmpZ
 rcases Nat.lt_trichotomy m n with h | h | h
 ·rw[cmpN_lt h,if_pos (by omega)]
 ·rw[cmpN_eq h,if_neg (by omega),if_pos (by omega)]
 rw[cmpN_gt h,if_neg (by omega),if_neg (by omega)]
theorem sgn_range (d:Dy):sgn d=-1∨sgn d=0∨sgn d=1:=by
 unfold sgn;split
 ·exact .inr (.inl rfl)
 split
 ·exact .inl rfl
 exact .inr (.inr rfl)
theorem cmp_sgn_lt {d f:Dy} (h:sgn d<sgn f):cmpZ d.iv f.iv=-1:=by
 have h1:=sgn_iv d
 have h2:=sgn_iv f
 have h3:=sgn_range d
 have h4:=sgn_range f
 unfold cmpZ
 rw[if_pos]
 omega
theorem cmp_sgn_gt {d f:Dy} (h:sgn f<sgn d):cmpZ d.iv f.iv=1:=by
 have h1:=sgn_iv d
 have h2:=sgn_iv f
 have h3:=sgn_range d
 have h4:=sgn_range f
 unfold cmpZ
 rw[if_neg (by omega),if_neg (by omega)]
theorem cmp_sgn_zero {d f:Dy} (h:sgn d=sgn f) (h0:sgn d=0):cmpZ d.iv f.iv=0:=by
 have h1:=sgn_iv d
 have h2:=sgn_iv f
 rw[cmpZ_eq];omega
theorem cmp_sgn_eq {d f:Dy} (h:sgn d=sgn f) (h0:sgn d≠0):cmpZ d.iv f.iv=sgn d*cmpN d.av f.av:=by
 have hm:d.m≠0:=fun h1=>h0 (by unfold sgn;rw[if_pos h1])
 have hf:f.m≠0:=fun h1=>h0 (by rw[h];unfold sgn;rw[if_pos h1])
 rw[cmpN_Z]
 unfold sgn at h ⊢
 rw[if_neg hm,if_neg hf] at h
 rw[if_neg hm]
 cases hd:d.neg with
 | false =>
  rw[hd] at h
  cases hg:f.neg with
  | false=>rw[Dy.iv_pos hd,Dy.iv_pos hg];simp
  | true=>rw[hg] at h;simp at h
 | true =>
 rw[hd] at h
 cases hg:f.neg with
 | false=>rw[hg] at h;simp at h
 | true =>
 rw[Dy.iv_neg hd,Dy.iv_neg hg]
 unfold cmpZ
 simp only[if_true]
 split <;> (try split) <;> (try split) <;> (try split) <;> omega
set_option maxHeartbeats 4000000 in
theorem Cmp_ok (d f:Dy) (a b:Option Addr) (c k:Nat) (w:World) (hd:DyAt w d a c) (hf:DyAt w f b k) :
  Calls Tryz.prog 68 #[.agg #[.bool d.neg,.slice a (limbs d.m).length c,.int .i64 d.e],.agg #[.bool f.neg,.slice b (limbs f.m).length k,.int .i64 f.e]] w fun e w'=>e=.returned (.int .i64 (cmpZ d.iv f.iv))∧Kp w w':=by
 have hs1:=sgn_range d
 have hs2:=sgn_range f
 go_enter Tryz.func68,Tryz.ntmps68
 go_wp2_with fail
 generalize hW:((w.alloc _).alloc _)=W at *
 have hk:Kp w W:=hW▸((Kp.refl w).alloc _).alloc _
 have hS:W.cell? ⟨w.heap.size,0,none⟩=some (.bool d.neg)∧W.cell? ⟨w.heap.size,1,none⟩=some (.slice a (limbs d.m).length c)∧W.cell? ⟨w.heap.size,2,none⟩=some (.int .i64 d.e)∧W.cell? ⟨w.heap.size+1,0,none⟩=some (.bool f.neg)∧W.cell? ⟨w.heap.size+1,1,none⟩=some (.slice b (limbs f.m).length k)∧W.cell? ⟨w.heap.size+1,2,none⟩=some (.int .i64 f.e):=by rw[← hW];simp
 clear hW
 refine (Valid_ok d a c _ (hd.kp hk)).mono ?_
 rintro e w1 ⟨rfl,hk1⟩
 have hS1:=keep6 hk1 hS
 clear hS
 go_wp2_with fail
 refine (Valid_ok f b k _ (hf.kp (hk.trans hk1))).mono ?_
 rintro e w2 ⟨rfl,hk2⟩
 have hS2:=keep6 hk2 hS1
 clear hS1
 have hk3:=(hk.trans hk1).trans hk2
 clear hk hk1 hk2
 go_wp2_with fail
 have hd1:=(hd.kp hk3).drew
 have hf1:=(hf.kp hk3).drew
 go_region_held3 (fun w'=>w'.cell? ⟨w.heap.size,0,none⟩=some (.bool d.neg)∧w'.cell? ⟨w.heap.size,1,none⟩=some (.slice a (limbs d.m).length c)∧w'.cell? ⟨w.heap.size,2,none⟩=some (.int .i64 d.e)∧w'.cell? ⟨w.heap.size+1,0,none⟩=some (.bool f.neg)∧w'.cell? ⟨w.heap.size+1,1,none⟩=some (.slice b (limbs f.m).length k)∧w'.cell? ⟨w.heap.size+1,2,none⟩=some (.int .i64 f.e)) (first | assumption | exact keep6 (by assumption) (by assumption))
  (first
   | (go_at_call_of 66 (Value.agg #[.bool d.neg,.slice a (limbs d.m).length c,.int .i64 d.e]);refine (Sign_ok d a c _ hd1).mono ?_;rintro e w4 ⟨rfl,hk4⟩)
   | (go_at_call_of 66 (Value.agg #[.bool f.neg,.slice b (limbs f.m).length k,.int .i64 f.e]);refine (Sign_ok f b k _ (hf1.kp (by assumption))).mono ?_;rintro e w5 ⟨rfl,hk5⟩))
 have hk6:=(hk3.drew.trans hk4).trans hk5
 have hS6:=keep6 hk5 (keep6 hk4 hS2)
 clear hS2
 rcases Int.lt_trichotomy (sgn d) (sgn f) with ht | ht | ht
 ·have H:=hid (cmp_sgn_lt ht).symm
  go_wp2_with fail
  go_ret
  exact⟨ret_int H.out,hk6⟩
 ·have h1:¬ sgn d<sgn f:=by omega
  have h2:¬ sgn f<sgn d:=by omega
  by_cases h0:sgn d=0
  ·have H:=hid (cmp_sgn_zero ht h0).symm
   have hz:(sgn d==0)=true:=beq_iff_eq.2 h0
   clear ht h0
   go_wp2_with fail
   go_ret
   exact⟨ret_int H.out,hk6⟩
  have H:=hid (cmp_sgn_eq ht h0).symm
  have hz:(sgn d==0)=false:=beq_eq_false_iff_ne.2 h0
  have hm:d.m≠0:=fun h1=>h0 (by unfold sgn;rw[if_pos h1])
  have hg:f.m≠0:=fun h1=>h0 (by rw[ht];unfold sgn;rw[if_pos h1])
  have hcb:-1≤cmpN d.av f.av∧cmpN d.av f.av≤1:=by rw[cmpN_Z];exact cmpZ_bound _ _
  clear ht h0
  go_wp2_with fail
  refine (compare_ok d f a b c k _ (hd.kp hk6) (hf.kp hk6) hm hg).mono ?_
  rintro e w7 ⟨rfl,hk7⟩
  go_wp2_with fail
  go_ret
  refine⟨ret_int (.trans ?_ H.out),hk6.trans hk7⟩
  have hp:-1≤sgn d*cmpN d.av f.av∧sgn d*cmpN d.av f.av≤1:=by rcases hs1 with h | h | h <;> rw[h] <;> omega
  unfold wrap64;omega
 have H:=hid (cmp_sgn_gt ht).symm
 have h1:¬ sgn d<sgn f:=by omega
 go_wp2_with fail
 go_ret
 exact⟨ret_int H.out,hk6⟩
structure RD where
 neg:Bool
 a:Option Addr
 xs:List Nat
 c:Nat
 e:Int
def RD.rd (w:World) (x:RD):Prop:=Rd w x.a x.xs∧x.xs.length≤x.c∧x.c≤maxLen∧x.xs.length≤1100000∧I64 x.e
theorem RD.rd.kp {w w':World} {x:RD} (h:x.rd w) (k:Kp w w'):x.rd w':=⟨h.1.kp k,h.2⟩
theorem RD.rd.drew {w:World} {x:RD} (h:x.rd w):x.rd w.drew:=h.kp (Kp.refl w).drew
def RD.vl (x:RD):Bool:=vld x.neg x.xs x.e
def RD.dy (x:RD):Dy:=⟨x.neg,val x.xs,x.e⟩
def RD.iv (x:RD):Int:=x.dy.iv
theorem RD.limbs {w:World} {x:RD} (h:x.rd w) (hv:x.vl=true):limbs x.dy.m=x.xs:=(vld_ok h.1.lt32 hv).2.1
theorem RD.at {w:World} {x:RD} (h:x.rd w) (hv:x.vl=true):DyAt w x.dy x.a x.c:=by
 have h1:=vld_ok h.1.lt32 hv
 have h2:=RD.limbs h hv
 exact⟨h1.1,by rw[h2];exact h.1,by rw[h2];exact h.2.1,h.2.2.1⟩
theorem Valid_raw (x:RD) (w:World) (h:x.rd w) :
  Calls Tryz.prog 56 #[.agg #[.bool x.neg,.slice x.a x.xs.length x.c,.int .i64 x.e]] w fun e w'=>e=.returned (.bool x.vl)∧Kp w w' :=
 Valid_any x.neg x.a x.xs x.c x.e w h.1 h.2.1 h.2.2.1 h.2.2.2.1 h.2.2.2.2
theorem Cmp_raw (x y:RD) (w:World) (hx:x.rd w) (hy:y.rd w) (vx:x.vl=true) (vy:y.vl=true) :
  Calls Tryz.prog 68 #[.agg #[.bool x.neg,.slice x.a x.xs.length x.c,.int .i64 x.e],.agg #[.bool y.neg,.slice y.a y.xs.length y.c,.int .i64 y.e]] w fun e w'=>e=.returned (.int .i64 (cmpZ x.iv y.iv))∧Kp w w':=by
 have H:=Cmp_ok x.dy y.dy x.a y.a x.c y.c w (RD.at hx vx) (RD.at hy vy)
 rw[RD.limbs hx vx,RD.limbs hy vy] at H
 exact H
structure RI where
 lo:RD
 hi:RD
 all:Bool
def RI.rd (w:World) (x:RI):Prop:=x.lo.rd w∧x.hi.rd w
theorem RI.rd.kp {w w':World} {x:RI} (h:x.rd w) (k:Kp w w'):x.rd w':=⟨h.1.kp k,h.2.kp k⟩
theorem RI.rd.drew {w:World} {x:RI} (h:x.rd w):x.rd w.drew:=h.kp (Kp.refl w).drew
def RD.zr (x:RD):Bool:=!x.neg&&(decide (x.xs.length=0)&&decide (x.e=0))
def RI.vl (x:RI):Bool:=if x.all then x.lo.zr&&x.hi.zr else x.lo.vl&&(x.hi.vl&&decide (cmpZ x.lo.iv x.hi.iv≤0))
set_option maxHeartbeats 2000000 in
theorem zero_raw (x:RD) (w:World) :
  Calls Tryz.prog 71 #[.agg #[.bool x.neg,.slice x.a x.xs.length x.c,.int .i64 x.e]] w fun e w'=>e=.returned (.bool x.zr)∧Kp w w':=by
 have H:=hid (show x.zr=(!x.neg&&(decide (x.xs.length=0)&&decide (x.e=0))) from rfl)
 go_enter Tryz.func71,Tryz.ntmps71
 cases hn:x.neg with
 | true =>
  rw[hn] at H
  clear hn
  go_wp2_with fail
  go_ret
  exact⟨ret_bool H.out.symm,((Kp.refl w).alloc _)⟩
 | false =>
 rw[hn] at H
 clear hn
 by_cases h0:x.xs.length=0
 ·have hz:((x.xs.length:Int)==0)=true:=beq_iff_eq.2 (by omega)
  rw[decide_eq_true h0] at H
  clear h0
  go_wp2_with fail
  go_ret
  exact⟨ret_bool (by rw[H.out];exact Bool.eq_iff_iff.2 (by simp)),((Kp.refl w).alloc _)⟩
 have hz:((x.xs.length:Int)==0)=false:=beq_eq_false_iff_ne.2 (by omega)
 rw[decide_eq_false h0] at H
 clear h0
 go_wp2_with fail
 go_ret
 exact⟨ret_bool (by rw[H.out];simp),((Kp.refl w).alloc _)⟩
theorem keep7 {w w':World} (k:Kp w w') {p0 p1 p2 p3 p4 p5 p6:Addr} {v0 v1 v2 v3 v4 v5 v6:Value} (h:w.cell? p0=some v0∧w.cell? p1=some v1∧w.cell? p2=some v2∧w.cell? p3=some v3∧w.cell? p4=some v4∧w.cell? p5=some v5∧w.cell? p6=some v6):w'.cell? p0=some v0∧w'.cell? p1=some v1∧w'.cell? p2=some v2∧w'.cell? p3=some v3∧w'.cell? p4=some v4∧w'.cell? p5=some v5∧w'.cell? p6=some v6 :=
 let ⟨h0,h1,h2,h3,h4,h5,h6⟩:=h
 ⟨k.cell h0,k.cell h1,k.cell h2,k.cell h3,k.cell h4,k.cell h5,k.cell h6⟩
set_option maxHeartbeats 4000000 in
theorem IValid_raw (x:RI) (w:World) (h:x.rd w) :
  Calls Tryz.prog 20 #[.agg #[.bool x.lo.neg,.slice x.lo.a x.lo.xs.length x.lo.c,.int .i64 x.lo.e,.bool x.hi.neg,.slice x.hi.a x.hi.xs.length x.hi.c,.int .i64 x.hi.e,.bool x.all]] w fun e w'=>e=.returned (.bool x.vl)∧Kp w w':=by
 have H:=hid (show x.vl=if x.all then x.lo.zr&&x.hi.zr else x.lo.vl&&(x.hi.vl&&decide (cmpZ x.lo.iv x.hi.iv≤0)) from rfl)
 go_enter Tryz.func20,Tryz.ntmps20
 cases ha:x.all with
 | true =>
  rw[ha] at H
  clear ha
  go_wp2_with fail
  refine (zero_raw x.lo _).mono ?_
  rintro e w1 ⟨rfl,hk1⟩
  have hS:=keep7 hk1 (show (w.alloc (.cells #[.bool x.lo.neg,.slice x.lo.a x.lo.xs.length x.lo.c,.int .i64 x.lo.e,.bool x.hi.neg,.slice x.hi.a x.hi.xs.length x.hi.c,.int .i64 x.hi.e,.bool true] 44)).cell? ⟨w.heap.size,0,none⟩=some (.bool x.lo.neg)∧(w.alloc (.cells #[.bool x.lo.neg,.slice x.lo.a x.lo.xs.length x.lo.c,.int .i64 x.lo.e,.bool x.hi.neg,.slice x.hi.a x.hi.xs.length x.hi.c,.int .i64 x.hi.e,.bool true] 44)).cell? ⟨w.heap.size,1,none⟩=some (.slice x.lo.a x.lo.xs.length x.lo.c)∧(w.alloc (.cells #[.bool x.lo.neg,.slice x.lo.a x.lo.xs.length x.lo.c,.int .i64 x.lo.e,.bool x.hi.neg,.slice x.hi.a x.hi.xs.length x.hi.c,.int .i64 x.hi.e,.bool true] 44)).cell? ⟨w.heap.size,2,none⟩=some (.int .i64 x.lo.e)∧(w.alloc (.cells #[.bool x.lo.neg,.slice x.lo.a x.lo.xs.length x.lo.c,.int .i64 x.lo.e,.bool x.hi.neg,.slice x.hi.a x.hi.xs.length x.hi.c,.int .i64 x.hi.e,.bool true] 44)).cell? ⟨w.heap.size,3,none⟩=some (.bool x.hi.neg)∧(w.alloc (.cells #[.bool x.lo.neg,.slice x.lo.a x.lo.xs.length x.lo.c,.int .i64 x.lo.e,.bool x.hi.neg,.slice x.hi.a x.hi.xs.length x.hi.c,.int .i64 x.hi.e,.bool true] 44)).cell? ⟨w.heap.size,4,none⟩=some (.slice x.hi.a x.hi.xs.length x.hi.c)∧(w.alloc (.cells #[.bool x.lo.neg,.slice x.lo.a x.lo.xs.length x.lo.c,.int .i64 x.lo.e,.bool x.hi.neg,.slice x.hi.a x.hi.xs.length x.hi.c,.int .i64 x.hi.e,.bool true] 44)).cell? ⟨w.heap.size,5,none⟩=some (.int .i64 x.hi.e)∧(w.alloc (.cells #[.bool x.lo.neg,.slice x.lo.a x.lo.xs.length x.lo.c,.int .i64 x.lo.e,.bool x.hi.neg,.slice x.hi.a x.hi.xs.length x.hi.c,.int .i64 x.hi.e,.bool true] 44)).cell? ⟨w.heap.size,6,none⟩=some (.bool true) by simp)
  have hk2:=((Kp.refl w).alloc _).trans hk1
  clear hk1
  cases hz:x.lo.zr with
  | false =>
   rw[hz] at H
   clear hz
   go_wp2_with fail
   go_ret
   exact⟨ret_bool H.out.symm,hk2⟩
  | true =>
  rw[hz] at H
  clear hz
  go_wp2_with fail
  refine (zero_raw x.hi _).mono ?_
  rintro e w3 ⟨rfl,hk3⟩
  go_wp2_with fail
  go_ret
  exact⟨ret_bool (by rw[H.out];simp),hk2.trans hk3⟩
 | false =>
 rw[ha] at H
 clear ha
 go_wp2_with fail
 have hk0:=((Kp.refl w).alloc (.cells #[.bool x.lo.neg,.slice x.lo.a x.lo.xs.length x.lo.c,.int .i64 x.lo.e,.bool x.hi.neg,.slice x.hi.a x.hi.xs.length x.hi.c,.int .i64 x.hi.e,.bool false] 44))
 refine (Valid_raw x.lo _ (h.1.kp hk0)).mono ?_
 rintro e w1 ⟨rfl,hk1⟩
 have hS:=keep7 hk1 (show (w.alloc (.cells #[.bool x.lo.neg,.slice x.lo.a x.lo.xs.length x.lo.c,.int .i64 x.lo.e,.bool x.hi.neg,.slice x.hi.a x.hi.xs.length x.hi.c,.int .i64 x.hi.e,.bool false] 44)).cell? ⟨w.heap.size,0,none⟩=some (.bool x.lo.neg)∧(w.alloc (.cells #[.bool x.lo.neg,.slice x.lo.a x.lo.xs.length x.lo.c,.int .i64 x.lo.e,.bool x.hi.neg,.slice x.hi.a x.hi.xs.length x.hi.c,.int .i64 x.hi.e,.bool false] 44)).cell? ⟨w.heap.size,1,none⟩=some (.slice x.lo.a x.lo.xs.length x.lo.c)∧(w.alloc (.cells #[.bool x.lo.neg,.slice x.lo.a x.lo.xs.length x.lo.c,.int .i64 x.lo.e,.bool x.hi.neg,.slice x.hi.a x.hi.xs.length x.hi.c,.int .i64 x.hi.e,.bool false] 44)).cell? ⟨w.heap.size,2,none⟩=some (.int .i64 x.lo.e)∧(w.alloc (.cells #[.bool x.lo.neg,.slice x.lo.a x.lo.xs.length x.lo.c,.int .i64 x.lo.e,.bool x.hi.neg,.slice x.hi.a x.hi.xs.length x.hi.c,.int .i64 x.hi.e,.bool false] 44)).cell? ⟨w.heap.size,3,none⟩=some (.bool x.hi.neg)∧(w.alloc (.cells #[.bool x.lo.neg,.slice x.lo.a x.lo.xs.length x.lo.c,.int .i64 x.lo.e,.bool x.hi.neg,.slice x.hi.a x.hi.xs.length x.hi.c,.int .i64 x.hi.e,.bool false] 44)).cell? ⟨w.heap.size,4,none⟩=some (.slice x.hi.a x.hi.xs.length x.hi.c)∧(w.alloc (.cells #[.bool x.lo.neg,.slice x.lo.a x.lo.xs.length x.lo.c,.int .i64 x.lo.e,.bool x.hi.neg,.slice x.hi.a x.hi.xs.length x.hi.c,.int .i64 x.hi.e,.bool false] 44)).cell? ⟨w.heap.size,5,none⟩=some (.int .i64 x.hi.e)∧(w.alloc (.cells #[.bool x.lo.neg,.slice x.lo.a x.lo.xs.length x.lo.c,.int .i64 x.lo.e,.bool x.hi.neg,.slice x.hi.a x.hi.xs.length x.hi.c,.int .i64 x.hi.e,.bool false] 44)).cell? ⟨w.heap.size,6,none⟩=some (.bool false) by simp)
 have hk2:=hk0.trans hk1
 clear hk0 hk1
 cases hz:x.lo.vl with
 | false =>
  rw[hz] at H
  clear hz
  go_wp2_with fail
  go_ret
  exact⟨ret_bool H.out.symm,hk2⟩
 | true =>
 rw[hz] at H
 have Hz:=hid hz
 clear hz
 go_wp2_with fail
 refine (Valid_raw x.hi _ (h.2.kp hk2)).mono ?_
 rintro e w3 ⟨rfl,hk3⟩
 have hS2:=keep7 hk3 hS
 have hk4:=hk2.trans hk3
 clear hk2 hk3 hS
 cases hy:x.hi.vl with
 | false =>
  rw[hy] at H
  clear hy
  go_wp2_with fail
  go_ret
  exact⟨ret_bool H.out.symm,hk4⟩
 | true =>
 rw[hy] at H
 have Hy:=hid hy
 clear hy
 go_wp2_with fail
 refine (Cmp_raw x.lo x.hi _ (h.1.kp hk4) (h.2.kp hk4) Hz.out Hy.out).mono ?_
 rintro e w5 ⟨rfl,hk5⟩
 go_wp2_with fail
 go_ret
 exact⟨ret_bool H.out.symm,hk4.trans hk5⟩
def RI.ok (w:World) (x:RI):Prop:=x.rd w∧x.all=false∧x.vl=true
theorem RI.ok.kp {w w':World} {x:RI} (h:x.ok w) (k:Kp w w'):x.ok w':=⟨h.1.kp k,h.2⟩
theorem RI.ok.drew {w:World} {x:RI} (h:x.ok w):x.ok w.drew:=h.kp (Kp.refl w).drew
theorem RI.ok.parts {w:World} {x:RI} (h:x.ok w):x.lo.vl=true∧x.hi.vl=true∧x.lo.iv≤x.hi.iv:=by
 obtain⟨_,h1,h2⟩:=h
 unfold RI.vl at h2
 rw[h1] at h2
 simp only[Bool.false_eq_true,if_false,Bool.and_eq_true,decide_eq_true_eq] at h2
 refine⟨h2.1,h2.2.1,?_⟩
 have:=h2.2.2
 have h3:=@cmpZ_gt x.lo.iv x.hi.iv
 omega
def RD.ok (w:World) (x:RD):Prop:=x.rd w∧x.vl=true
theorem RD.ok.kp {w w':World} {x:RD} (h:x.ok w) (k:Kp w w'):x.ok w':=⟨h.1.kp k,h.2⟩
theorem RI.ok.lo {w:World} {x:RI} (h:x.ok w):x.lo.ok w:=⟨h.1.1,h.parts.1⟩
theorem RI.ok.hi {w:World} {x:RI} (h:x.ok w):x.hi.ok w:=⟨h.1.2,h.parts.2.1⟩
theorem Cmp_rok (x y:RD) (w:World) (hx:x.ok w) (hy:y.ok w) :
  Calls Tryz.prog 68 #[.agg #[.bool x.neg,.slice x.a x.xs.length x.c,.int .i64 x.e],.agg #[.bool y.neg,.slice y.a y.xs.length y.c,.int .i64 y.e]] w fun e w'=>e=.returned (.int .i64 (cmpZ x.iv y.iv))∧Kp w w':=Cmp_raw x y w hx.1 hy.1 hx.2 hy.2
theorem IValid_ok (x:RI) (w:World) (h:x.ok w) :
  Calls Tryz.prog 20 #[.agg #[.bool x.lo.neg,.slice x.lo.a x.lo.xs.length x.lo.c,.int .i64 x.lo.e,.bool x.hi.neg,.slice x.hi.a x.hi.xs.length x.hi.c,.int .i64 x.hi.e,.bool false]] w fun e w'=>e=.returned (.bool true)∧Kp w w':=by
 have H:=IValid_raw x w h.1
 rwa [h.2.1,h.2.2] at H
theorem keep77 {w w':World} (k:Kp w w') {p0 p1 p2 p3 p4 p5 p6 q0 q1 q2 q3 q4 q5 q6:Addr} {v0 v1 v2 v3 v4 v5 v6 u0 u1 u2 u3 u4 u5 u6:Value}
  (h:(w.cell? p0=some v0∧w.cell? p1=some v1∧w.cell? p2=some v2∧w.cell? p3=some v3∧w.cell? p4=some v4∧w.cell? p5=some v5∧w.cell? p6=some v6)∧w.cell? q0=some u0∧w.cell? q1=some u1∧w.cell? q2=some u2∧w.cell? q3=some u3∧w.cell? q4=some u4∧w.cell? q5=some u5∧w.cell? q6=some u6) :
  (w'.cell? p0=some v0∧w'.cell? p1=some v1∧w'.cell? p2=some v2∧w'.cell? p3=some v3∧w'.cell? p4=some v4∧w'.cell? p5=some v5∧w'.cell? p6=some v6)∧w'.cell? q0=some u0∧w'.cell? q1=some u1∧w'.cell? q2=some u2∧w'.cell? q3=some u3∧w'.cell? q4=some u4∧w'.cell? q5=some u5∧w'.cell? q6=some u6 :=
 ⟨keep7 k h.1,keep7 k h.2⟩
theorem leZ (x y:Int):decide (cmpZ x y≤0)=decide (x≤y):=by
 have:=@cmpZ_gt x y
 by_cases h:x≤y
 ·rw[decide_eq_true h,decide_eq_true (by omega)]
 rw[decide_eq_false h,decide_eq_false (by omega)]
def insI (x y:RI):Bool:=decide (y.lo.iv≤x.lo.iv)&&decide (x.hi.iv≤y.hi.iv)
set_option maxHeartbeats 4000000 in
theorem Inside_ok (x y:RI) (w:World) (hx:x.ok w) (hy:y.ok w) :
  Calls Tryz.prog 29 #[.agg #[.bool x.lo.neg,.slice x.lo.a x.lo.xs.length x.lo.c,.int .i64 x.lo.e,.bool x.hi.neg,.slice x.hi.a x.hi.xs.length x.hi.c,.int .i64 x.hi.e,.bool false],.agg #[.bool y.lo.neg,.slice y.lo.a y.lo.xs.length y.lo.c,.int .i64 y.lo.e,.bool y.hi.neg,.slice y.hi.a y.hi.xs.length y.hi.c,.int .i64 y.hi.e,.bool false]] w fun e w'=>e=.returned (.bool (insI x y))∧Kp w w':=by
 have H:=hid (show insI x y=(decide (cmpZ y.lo.iv x.lo.iv≤0)&&decide (cmpZ x.hi.iv y.hi.iv≤0)) by rw[leZ,leZ];rfl)
 go_enter Tryz.func29,Tryz.ntmps29
 go_wp2_with fail
 generalize hW:((w.alloc _).alloc _)=W at *
 have hk:Kp w W:=hW▸((Kp.refl w).alloc _).alloc _
 have hS:(W.cell? ⟨w.heap.size,0,none⟩=some (.bool x.lo.neg)∧W.cell? ⟨w.heap.size,1,none⟩=some (.slice x.lo.a x.lo.xs.length x.lo.c)∧W.cell? ⟨w.heap.size,2,none⟩=some (.int .i64 x.lo.e)∧W.cell? ⟨w.heap.size,3,none⟩=some (.bool x.hi.neg)∧W.cell? ⟨w.heap.size,4,none⟩=some (.slice x.hi.a x.hi.xs.length x.hi.c)∧W.cell? ⟨w.heap.size,5,none⟩=some (.int .i64 x.hi.e)∧W.cell? ⟨w.heap.size,6,none⟩=some (.bool false))∧W.cell? ⟨w.heap.size+1,0,none⟩=some (.bool y.lo.neg)∧W.cell? ⟨w.heap.size+1,1,none⟩=some (.slice y.lo.a y.lo.xs.length y.lo.c)∧W.cell? ⟨w.heap.size+1,2,none⟩=some (.int .i64 y.lo.e)∧W.cell? ⟨w.heap.size+1,3,none⟩=some (.bool y.hi.neg)∧W.cell? ⟨w.heap.size+1,4,none⟩=some (.slice y.hi.a y.hi.xs.length y.hi.c)∧W.cell? ⟨w.heap.size+1,5,none⟩=some (.int .i64 y.hi.e)∧W.cell? ⟨w.heap.size+1,6,none⟩=some (.bool false):=by rw[← hW];simp
 clear hW
 refine (IValid_ok x _ (hx.kp hk)).mono ?_
 rintro e w1 ⟨rfl,hk1⟩
 have hS1:=keep77 hk1 hS
 have hk2:=hk.trans hk1
 clear hS hk hk1
 go_wp2_with fail
 refine (IValid_ok y _ (hy.kp hk2)).mono ?_
 rintro e w3 ⟨rfl,hk3⟩
 have hS2:=keep77 hk3 hS1
 have hk4:=hk2.trans hk3
 clear hS1 hk2 hk3
 go_wp2_with fail
 refine (Cmp_rok y.lo x.lo _ (hy.lo.kp hk4) (hx.lo.kp hk4)).mono ?_
 rintro e w5 ⟨rfl,hk5⟩
 have hS3:=keep77 hk5 hS2
 have hk6:=hk4.trans hk5
 clear hS2 hk4 hk5
 by_cases hc:cmpZ y.lo.iv x.lo.iv≤0
 ·have hd:=decide_eq_true hc
  rw[hd] at H
  clear hc
  go_wp2_with fail
  refine (Cmp_rok x.hi y.hi _ (hx.hi.kp hk6) (hy.hi.kp hk6)).mono ?_
  rintro e w7 ⟨rfl,hk7⟩
  go_wp2_with fail
  go_ret
  exact⟨ret_bool (by rw[H.out];simp),hk6.trans hk7⟩
 have hd:=decide_eq_false hc
 rw[hd] at H
 clear hc
 go_wp2_with fail
 go_ret
 exact⟨ret_bool (by rw[H.out];simp),hk6⟩
def hasI (x:RI) (d:RD):Bool:=decide (x.lo.iv≤d.iv)&&decide (d.iv≤x.hi.iv)
theorem keep73 {w w':World} (k:Kp w w') {p0 p1 p2 p3 p4 p5 p6 q0 q1 q2:Addr} {v0 v1 v2 v3 v4 v5 v6 u0 u1 u2:Value}
  (h:(w.cell? p0=some v0∧w.cell? p1=some v1∧w.cell? p2=some v2∧w.cell? p3=some v3∧w.cell? p4=some v4∧w.cell? p5=some v5∧w.cell? p6=some v6)∧w.cell? q0=some u0∧w.cell? q1=some u1∧w.cell? q2=some u2) :
  (w'.cell? p0=some v0∧w'.cell? p1=some v1∧w'.cell? p2=some v2∧w'.cell? p3=some v3∧w'.cell? p4=some v4∧w'.cell? p5=some v5∧w'.cell? p6=some v6)∧w'.cell? q0=some u0∧w'.cell? q1=some u1∧w'.cell? q2=some u2 :=
 ⟨keep7 k h.1,keep3 k h.2⟩
theorem Valid_rok (x:RD) (w:World) (h:x.ok w) :
  Calls Tryz.prog 56 #[.agg #[.bool x.neg,.slice x.a x.xs.length x.c,.int .i64 x.e]] w fun e w'=>e=.returned (.bool true)∧Kp w w':=by
 have H:=Valid_raw x w h.1
 rwa [h.2] at H
set_option maxHeartbeats 4000000 in
theorem Has_ok (x:RI) (d:RD) (w:World) (hx:x.ok w) (hd:d.ok w) :
  Calls Tryz.prog 88 #[.agg #[.bool x.lo.neg,.slice x.lo.a x.lo.xs.length x.lo.c,.int .i64 x.lo.e,.bool x.hi.neg,.slice x.hi.a x.hi.xs.length x.hi.c,.int .i64 x.hi.e,.bool false],.agg #[.bool d.neg,.slice d.a d.xs.length d.c,.int .i64 d.e]] w fun e w'=>e=.returned (.bool (hasI x d))∧Kp w w':=by
 have H:=hid (show hasI x d=(decide (cmpZ x.lo.iv d.iv≤0)&&decide (cmpZ d.iv x.hi.iv≤0)) by rw[leZ,leZ];rfl)
 go_enter Tryz.func88,Tryz.ntmps88
 go_wp2_with fail
 generalize hW:((w.alloc _).alloc _)=W at *
 have hk:Kp w W:=hW▸((Kp.refl w).alloc _).alloc _
 have hS:(W.cell? ⟨w.heap.size,0,none⟩=some (.bool x.lo.neg)∧W.cell? ⟨w.heap.size,1,none⟩=some (.slice x.lo.a x.lo.xs.length x.lo.c)∧W.cell? ⟨w.heap.size,2,none⟩=some (.int .i64 x.lo.e)∧W.cell? ⟨w.heap.size,3,none⟩=some (.bool x.hi.neg)∧W.cell? ⟨w.heap.size,4,none⟩=some (.slice x.hi.a x.hi.xs.length x.hi.c)∧W.cell? ⟨w.heap.size,5,none⟩=some (.int .i64 x.hi.e)∧W.cell? ⟨w.heap.size,6,none⟩=some (.bool false))∧W.cell? ⟨w.heap.size+1,0,none⟩=some (.bool d.neg)∧W.cell? ⟨w.heap.size+1,1,none⟩=some (.slice d.a d.xs.length d.c)∧W.cell? ⟨w.heap.size+1,2,none⟩=some (.int .i64 d.e):=by rw[← hW];simp
 clear hW
 refine (IValid_ok x _ (hx.kp hk)).mono ?_
 rintro e w1 ⟨rfl,hk1⟩
 have hS1:=keep73 hk1 hS
 have hk2:=hk.trans hk1
 clear hS hk hk1
 go_wp2_with fail
 refine (Valid_rok d _ (hd.kp hk2)).mono ?_
 rintro e w3 ⟨rfl,hk3⟩
 have hS2:=keep73 hk3 hS1
 have hk4:=hk2.trans hk3
 clear hS1 hk2 hk3
 go_wp2_with fail
 refine (Cmp_rok x.lo d _ (hx.lo.kp hk4) (hd.kp hk4)).mono ?_
 rintro e w5 ⟨rfl,hk5⟩
 have hS3:=keep73 hk5 hS2
 have hk6:=hk4.trans hk5
 clear hS2 hk4 hk5
 by_cases hc:cmpZ x.lo.iv d.iv≤0
 ·have hd2:=decide_eq_true hc
  rw[hd2] at H
  clear hc
  go_wp2_with fail
  refine (Cmp_rok d x.hi _ (hd.kp hk6) (hx.hi.kp hk6)).mono ?_
  rintro e w7 ⟨rfl,hk7⟩
  go_wp2_with fail
  go_ret
  exact⟨ret_bool (by rw[H.out];simp),hk6.trans hk7⟩
 have hd2:=decide_eq_false hc
 rw[hd2] at H
 clear hc
 go_wp2_with fail
 go_ret
 exact⟨ret_bool (by rw[H.out];simp),hk6⟩
def RowD (w:World) (a:Option Addr) (zs:List RD):Prop :=
 ∀ i x,zs[i]? = some x→∃ b o,a=some ⟨b,o,none⟩∧x.rd w∧w.cell? ⟨b,o+i*3,none⟩=some (.bool x.neg)∧w.cell? ⟨b,o+i*3+1,none⟩=some (.slice x.a x.xs.length x.c)∧w.cell? ⟨b,o+i*3+2,none⟩=some (.int .i64 x.e)
theorem RowD.kp {w w':World} {a:Option Addr} {zs:List RD} (h:RowD w a zs) (k:Kp w w'):RowD w' a zs:=by
 intro i x hi
 obtain⟨b,o,rfl,hr,h0,h1,h2⟩:=h i x hi
 exact⟨b,o,rfl,hr.kp k,k.cell h0,k.cell h1,k.cell h2⟩
def firstD (p:RD→Bool) (zs:List RD):Int:=match zs.findIdx? p with | some i=>(i:Int) | none=>-1
theorem firstD_some {p:RD→Bool} {zs:List RD} {k:Nat} {x:RD} (hk:zs[k]? = some x) (hp:p x=true) (h:∀ i y,zs[i]? = some y→i<k→p y=false):firstD p zs=k:=by
 unfold firstD
 have:zs.findIdx? p=some k:=by
  rw[List.findIdx?_eq_some_iff_getElem]
  obtain⟨h1,h2⟩:=List.getElem?_eq_some_iff.1 hk
  refine⟨h1,by rw[h2];exact hp,fun j hj=>?_⟩
  rw[h j _ (List.getElem?_eq_getElem (by omega)) hj];decide
 rw[this]
theorem firstD_none {p:RD→Bool} {zs:List RD} (h:∀ (i:Nat) (y:RD),zs[i]? = some y→p y=false):firstD p zs=-1:=by
 unfold firstD
 have:zs.findIdx? p=none:=by
  rw[List.findIdx?_eq_none_iff]
  intro y hy
  obtain⟨i,hi⟩:=List.getElem?_of_mem hy
  exact h i y hi
 rw[this]
theorem firstD_any (p:RD→Bool) (zs:List RD):decide (0≤firstD p zs)=zs.any p:=by
 unfold firstD
 cases h:zs.findIdx? p with
 | none =>
  have hm:=List.findIdx?_eq_none_iff.1 h
  have:zs.any p=false:=by rw[List.any_eq_false];intro y hy;rw[hm y hy];decide
  rw[this];decide
 | some i =>
 have hm:=List.findIdx?_eq_some_iff_getElem.1 h
 obtain⟨h1,h2,_⟩:=hm
 have:zs.any p=true:=List.any_eq_true.2 ⟨_,List.getElem_mem h1,h2⟩
 rw[this];simp
def AnsD (P:Program) (g:FuncId) (cap:Array Value) (w:World) (zs:List RD) (p:RD→Bool):Prop :=
 Enters P g∧∀ x,x∈zs→∀ w1,Kp w w1→Calls P g (#[.agg #[.bool x.neg,.slice x.a x.xs.length x.c,.int .i64 x.e]]++cap) w1 fun e w2=>e=.returned (.bool (p x))∧Kp w1 w2
set_option maxHeartbeats 4000000 in
theorem idxD (a:Option Addr) (zs:List RD) (c:Nat) (g:FuncId) (cap:Array Value) (w:World) (p:RD→Bool) (hm:zs.length≤1100000) (h:RowD w a zs) (hp:AnsD Tryz.prog g cap w zs p) :
  Calls Tryz.prog 156 #[.slice a zs.length c,.func (.func g) #[] cap] w fun e w'=>e=.returned (.int .i64 (firstD p zs))∧Kp w w':=by
 go_enter Tryz.func156,Tryz.ntmps156
 go_wp2
 go_loopw [8] (fun x wr=>∃ k:Nat,k≤zs.length∧x=.int .i64 k∧(∀ i y,zs[i]? = some y→i<k→p y=false)∧Kp w wr) (fun x _=>zs.length-(intOf x).toNat)
 case atStart=>exact⟨0,by omega,rfl,fun i y _ h1=>by omega,.refl _⟩
 case round =>
 obtain⟨k,hk,rfl,hz,hkp⟩:=hrel
 have Hz:=hid hz;clear hz
 by_cases hlt:k<zs.length
 rotate_left
 ·have Hthis:=hid (firstD_none (p:=p) (zs:=zs) (fun i y hy=>Hz.out i y hy (by have:=(List.getElem?_eq_some_iff.1 hy).1;omega)))
  go_wp2
  go_ret
  exact⟨ret_int Hthis.out.symm,hkp⟩
 obtain⟨b,o,rfl,hr,h0,h1,h2⟩:=(h.kp hkp) k (zs[k]) (List.getElem?_eq_getElem hlt)
 have Hg:=hid (List.getElem?_eq_getElem hlt)
 have hgo:∀ args w,(callFunc g args).run Tryz.prog w=.ok (.enter g args) w:=hp.1
 have hcall:=hp.2 _ (List.getElem_mem hlt) wr hkp
 clear hp h
 generalize zs[k]=x at *
 cases hq:p x with
 | true =>
  rw[hq] at hcall
  have Hc:=hid hcall
  have Hq:=hid (firstD_some Hg.out hq Hz.out)
  clear hcall hq
  go_wp2_with (refine Hc.out.mono ?_;rintro e w2 ⟨rfl,hk2⟩)
  go_ret
  exact⟨ret_int Hq.out.symm,hkp.trans hk2⟩
 | false =>
 rw[hq] at hcall
 have Hc:=hid hcall
 have Hq:=hid hq
 clear hcall hq
 go_wp2_with (refine Hc.out.mono ?_;rintro e w2 ⟨rfl,hk2⟩)
 go_roundw
 case measure=>simp[intOf];omega
 case rel =>
 refine⟨k+1,by omega,by go_num,fun i y hy hi=>?_,hkp.trans hk2⟩
 by_cases h:i=k
 ·subst h;rw[Hg.out] at hy;cases hy;exact Hq.out
 exact Hz.out i y hy (by omega)
set_option maxHeartbeats 400000 in
theorem containsD (a:Option Addr) (zs:List RD) (c:Nat) (g:FuncId) (cap:Array Value) (w:World) (p:RD→Bool) (hm:zs.length≤1100000) (h:RowD w a zs) (hp:AnsD Tryz.prog g cap w zs p) :
  Calls Tryz.prog 84 #[.slice a zs.length c,.func (.func g) #[] cap] w fun e w'=>e=.returned (.bool (zs.any p))∧Kp w w':=by
 have Hc:=hid (idxD a zs c g cap w p hm h hp)
 have Ha:=hid (firstD_any p zs)
 clear hp h
 go_enter Tryz.func84,Tryz.ntmps84
 go_wp2_with (refine Hc.out.mono ?_;rintro e w2 ⟨rfl,hk2⟩)
 go_ret
 exact⟨by rw[← Ha.out];rfl,hk2⟩
def RowI (w:World) (a:Option Addr) (zs:List RI):Prop :=
 ∀ i x,zs[i]? = some x→∃ b o,a=some ⟨b,o,none⟩∧x.rd w∧w.cell? ⟨b,o+i*7,none⟩=some (.bool x.lo.neg)∧w.cell? ⟨b,o+i*7+1,none⟩=some (.slice x.lo.a x.lo.xs.length x.lo.c)∧w.cell? ⟨b,o+i*7+2,none⟩=some (.int .i64 x.lo.e) ∧
  w.cell? ⟨b,o+i*7+3,none⟩=some (.bool x.hi.neg)∧w.cell? ⟨b,o+i*7+4,none⟩=some (.slice x.hi.a x.hi.xs.length x.hi.c)∧w.cell? ⟨b,o+i*7+5,none⟩=some (.int .i64 x.hi.e)∧w.cell? ⟨b,o+i*7+6,none⟩=some (.bool x.all)
theorem RowI.kp {w w':World} {a:Option Addr} {zs:List RI} (h:RowI w a zs) (k:Kp w w'):RowI w' a zs:=by
 intro i x hi
 obtain⟨b,o,rfl,hr,h0,h1,h2,h3,h4,h5,h6⟩:=h i x hi
 exact⟨b,o,rfl,hr.kp k,k.cell h0,k.cell h1,k.cell h2,k.cell h3,k.cell h4,k.cell h5,k.cell h6⟩
def goodI (x:RI):Bool:=!x.all&&x.vl
theorem goodI_ok {w:World} {x:RI} (h:x.rd w):goodI x=true↔x.ok w:=by
 unfold goodI RI.ok
 cases x.all <;> simp[h]
set_option maxHeartbeats 4000000 in
theorem known_any (a:Option Addr) (zs:List RI) (c:Nat) (w:World) (h:RowI w a zs) (hl:zs.length≤1100000) :
  Calls Tryz.prog 138 #[.slice a zs.length c] w fun e w'=>e=.returned (.bool (zs.all goodI))∧Kp w w':=by
 go_enter Tryz.func138,Tryz.ntmps138
 go_wp2
 go_loopw [7] (fun x wr=>∃ k:Nat,k≤zs.length∧x=.int .i64 k∧(∀ i y,zs[i]? = some y→i<k→goodI y=true)∧Kp w wr) (fun x _=>zs.length-(intOf x).toNat)
 case atStart=>exact⟨0,by omega,rfl,fun i y _ h1=>by omega,.refl _⟩
 case round =>
 obtain⟨k,hk,rfl,hz,hkp⟩:=hrel
 have Hz:=hid hz;clear hz
 by_cases hlt:k<zs.length
 rotate_left
 ·have hall:zs.all goodI=true:=by
   rw[List.all_eq_true]
   intro y hy
   obtain⟨i,hi⟩:=List.getElem?_of_mem hy
   have:i<zs.length:=(List.getElem?_eq_some_iff.1 hi).1
   exact Hz.out i y hi (by omega)
  have H:=hid hall.symm
  clear hall
  go_wp2
  go_ret
  exact⟨ret_bool H.out,hkp⟩
 obtain⟨b,o,rfl,hr,h0,h1,h2,h3,h4,h5,h6⟩:=(h.kp hkp) k (zs[k]) (List.getElem?_eq_getElem hlt)
 have Hg:=hid (List.getElem?_eq_getElem hlt)
 generalize zs[k]=x at *
 have H:=hid (show goodI x=(!x.all&&x.vl) from rfl)
 have step:goodI x=true→∀ i y,zs[i]? = some y→i<k+1→goodI y=true:=fun hq i y hy hi=>by
  by_cases e:i=k
  ·subst e;rw[Hg.out] at hy;cases hy;exact hq
  ·exact Hz.out i y hy (by omega)
 have fall:goodI x=false→zs.all goodI=false:=fun hq=>by
  rw[List.all_eq_false]
  exact⟨x,List.mem_of_getElem? Hg.out,by rw[hq];decide⟩
 have Hs:=hid step
 have Hf:=hid fall
 clear step fall
 have hmv:=IValid_raw x
 cases ha:x.all with
 | true =>
  rw[ha] at H h6
  clear ha hmv
  go_wp2_with fail
  go_ret
  exact⟨ret_bool (Hf.out H.out).symm,by first | exact hkp.alloc _ | exact ((hkp.alloc _).alloc _)⟩
 | false =>
 rw[ha] at H h6
 have hm:=hmv (wr.alloc (.cells #[.bool x.lo.neg,.slice x.lo.a x.lo.xs.length x.lo.c,.int .i64 x.lo.e,.bool x.hi.neg,.slice x.hi.a x.hi.xs.length x.hi.c,.int .i64 x.hi.e,.bool false] 44)) (hr.kp ((Kp.refl _).alloc _))
 rw[ha] at hm
 clear ha hmv
 go_wp2_with fail
 cases hv:x.vl with
 | false =>
  rw[hv] at H hm
  clear hv
  refine hm.mono ?_
  rintro e w2 ⟨rfl,hk2⟩
  go_wp2_with fail
  go_ret
  exact⟨ret_bool (Hf.out H.out).symm,(hkp.alloc _).trans hk2⟩
 | true =>
 rw[hv] at H hm
 clear hv
 refine hm.mono ?_
 rintro e w2 ⟨rfl,hk2⟩
 go_wp2_with fail
 go_roundw
 case measure=>simp[intOf];omega
 case rel=>exact⟨k+1,by omega,by go_num,Hs.out H.out,(hkp.alloc _).trans hk2⟩
def moreR (x y:RD):RD:=if y.iv≤x.iv then x else y
theorem keep33 {w w':World} (k:Kp w w') {p0 p1 p2 q0 q1 q2:Addr} {v0 v1 v2 u0 u1 u2:Value}
  (h:(w.cell? p0=some v0∧w.cell? p1=some v1∧w.cell? p2=some v2)∧w.cell? q0=some u0∧w.cell? q1=some u1∧w.cell? q2=some u2) :
  (w'.cell? p0=some v0∧w'.cell? p1=some v1∧w'.cell? p2=some v2)∧w'.cell? q0=some u0∧w'.cell? q1=some u1∧w'.cell? q2=some u2 :=
 ⟨keep3 k h.1,keep3 k h.2⟩
theorem Box3.new3 (w:World) (x0 x1 x2:Value) (t:TypeId) (o1 o2:Obj):Box3 (((w.alloc o1).alloc o2).alloc (.cells #[x0,x1,x2] t)) (w.heap.size+2) x0 x1 x2:=by
 have:=Box3.new ((w.alloc o1).alloc o2) x0 x1 x2 t
 rwa [World.size_alloc,World.size_alloc] at this
set_option maxHeartbeats 4000000 in
theorem more_ok (x y:RD) (w:World) (hx:x.ok w) (hy:y.ok w) :
  Calls Tryz.prog 177 #[.agg #[.bool x.neg,.slice x.a x.xs.length x.c,.int .i64 x.e],.agg #[.bool y.neg,.slice y.a y.xs.length y.c,.int .i64 y.e]] w fun e w'=>e=.returned (.agg #[.bool (moreR x y).neg,.slice (moreR x y).a (moreR x y).xs.length (moreR x y).c,.int .i64 (moreR x y).e])∧Kp w w':=by
 go_enter Tryz.func177,Tryz.ntmps177
 go_wp2_with fail
 generalize hW:(((w.alloc _).alloc _).alloc _)=W at *
 have hk:Kp w W:=hW▸(((Kp.refl w).alloc _).alloc _).alloc _
 have hS:(W.cell? ⟨w.heap.size,0,none⟩=some (.bool x.neg)∧W.cell? ⟨w.heap.size,1,none⟩=some (.slice x.a x.xs.length x.c)∧W.cell? ⟨w.heap.size,2,none⟩=some (.int .i64 x.e))∧W.cell? ⟨w.heap.size+1,0,none⟩=some (.bool y.neg)∧W.cell? ⟨w.heap.size+1,1,none⟩=some (.slice y.a y.xs.length y.c)∧W.cell? ⟨w.heap.size+1,2,none⟩=some (.int .i64 y.e):=by rw[← hW];exact keep33 ((Kp.refl _).alloc _) (by simp)
 have hB:Box3 W (w.heap.size+2) (.bool false) (.slice none 0 0) (.int .i64 0):=hW▸Box3.new3 _ _ _ _ _ _ _
 clear hW
 refine (Cmp_rok x y _ (hx.kp hk) (hy.kp hk)).mono ?_
 rintro e w1 ⟨rfl,hk1⟩
 have hS1:=keep33 hk1 hS
 obtain⟨q0,q1,q2,f0,f1,f2⟩:=hB.kp hk1
 have hk2:=hk.trans hk1
 clear hS hk hk1 hB
 by_cases hc:0≤cmpZ x.iv y.iv
 ·have hd:=decide_eq_true hc
  have H:=hid (show moreR x y=x by unfold moreR;rw[if_pos];have:=@cmpZ_lt x.iv y.iv;omega)
  clear hc
  go_wp2_with fail
  have hst:=stored q0 q1 q2 nofun nofun nofun (.bool x.neg) (.slice x.a x.xs.length x.c) (.int .i64 x.e)
  generalize (((w1.setCell _ _).setCell _ _).setCell _ _)=W2 at hst ⊢
  obtain⟨s0,s1,s2,_,s4,s5,_,_⟩:=hst
  refine bodyPost_ret (v:=.agg #[.bool x.neg,.slice x.a x.xs.length x.c,.int .i64 x.e]) (by simp[results,Tryz.results177,go_sem,s0,s1,s2]) rfl ?_
  rw[H.out]
  exact⟨rfl,s5 _ hk2 (by omega)⟩
 have hd:=decide_eq_false hc
 have H:=hid (show moreR x y=y by unfold moreR;rw[if_neg];have:=@cmpZ_lt x.iv y.iv;omega)
 clear hc
 go_wp2_with fail
 have hst:=stored q0 q1 q2 nofun nofun nofun (.bool y.neg) (.slice y.a y.xs.length y.c) (.int .i64 y.e)
 generalize (((w1.setCell _ _).setCell _ _).setCell _ _)=W2 at hst ⊢
 obtain⟨s0,s1,s2,_,s4,s5,_,_⟩:=hst
 refine bodyPost_ret (v:=.agg #[.bool y.neg,.slice y.a y.xs.length y.c,.int .i64 y.e]) (by simp[results,Tryz.results177,go_sem,s0,s1,s2]) rfl ?_
 rw[H.out]
 exact⟨rfl,s5 _ hk2 (by omega)⟩
def Upd (g:Nat) (w W:World):Prop :=
 (∀ p:Addr,W.frozen? p=w.frozen? p)∧(∀ a xs,Rd w a xs→Rd W a xs)∧(∀ a:World,Kp a w→a.heap.size≤g→Kp a W)∧(∀ p:Addr,p.block≠g→W.cell? p=w.cell? p)∧W.heap.size=w.heap.size
theorem Upd.refl (g:Nat) (w:World):Upd g w w:=⟨fun _=>rfl,fun _ _ h=>h,fun _ h _=>h,fun _ _=>rfl,rfl⟩
theorem Upd.step {g:Nat} {w W:World} (h:Upd g w W) {i:Nat} {y:Value} (hc:W.cell? ⟨g,i,none⟩=some y) (hy:∀ n:Int,y≠.int .u32 n) (v:Value):Upd g w (W.setCell ⟨g,i,none⟩ v):=by
 obtain⟨h1,h2,h3,h4,h5⟩:=h
 refine⟨fun p=>by rw[← h1 p];simp,fun a xs hr=>(h2 a xs hr).other hc hy,fun a hk hg=>(h3 a hk hg).set hg _,fun p hp=>?_,by rw[← h5];simp⟩
 rw[cell_set_ne,h4 p hp]
 intro e;exact hp (by rw[← e])
theorem set_at {w:World} {g i j:Nat} {v u:Value} (hij:i≠j) (h:w.cell? ⟨g,j,none⟩=some u):(w.setCell ⟨g,i,none⟩ v).cell? ⟨g,j,none⟩=some u:=by
 rw[cell_set_ne (fun e=>hij (by injection e))];exact h
def Box7 (w:World) (g:Nat) (x0 x1 x2 x3 x4 x5 x6:Value):Prop :=
 w.cell? ⟨g,0,none⟩=some x0∧w.cell? ⟨g,1,none⟩=some x1∧w.cell? ⟨g,2,none⟩=some x2∧w.cell? ⟨g,3,none⟩=some x3∧w.cell? ⟨g,4,none⟩=some x4∧w.cell? ⟨g,5,none⟩=some x5∧w.cell? ⟨g,6,none⟩=some x6
theorem Box7.kp {w w':World} {g:Nat} {x0 x1 x2 x3 x4 x5 x6:Value} (h:Box7 w g x0 x1 x2 x3 x4 x5 x6) (k:Kp w w'):Box7 w' g x0 x1 x2 x3 x4 x5 x6:=keep7 k h
theorem Box7.new (w:World) (x0 x1 x2 x3 x4 x5 x6:Value) (t:TypeId):Box7 (w.alloc (.cells #[x0,x1,x2,x3,x4,x5,x6] t)) w.heap.size x0 x1 x2 x3 x4 x5 x6:=by
 refine⟨?_,?_,?_,?_,?_,?_,?_⟩ <;> simp
theorem stored7 {w:World} {g:Nat} {y0 y1 y2 y3 y4 y5 y6:Value} (h:Box7 w g y0 y1 y2 y3 y4 y5 y6)
  (n0:∀ n:Int,y0≠.int .u32 n) (n1:∀ n:Int,y1≠.int .u32 n) (n2:∀ n:Int,y2≠.int .u32 n) (n3:∀ n:Int,y3≠.int .u32 n) (n4:∀ n:Int,y4≠.int .u32 n) (n5:∀ n:Int,y5≠.int .u32 n) (n6:∀ n:Int,y6≠.int .u32 n)
  (x0 x1 x2 x3 x4 x5 x6:Value) {W:World}
  (hW:(((((((w.setCell ⟨g,0,none⟩ x0).setCell ⟨g,1,none⟩ x1).setCell ⟨g,2,none⟩ x2).setCell ⟨g,3,none⟩ x3).setCell ⟨g,4,none⟩ x4).setCell ⟨g,5,none⟩ x5).setCell ⟨g,6,none⟩ x6)=W) :
  Box7 W g x0 x1 x2 x3 x4 x5 x6∧Upd g w W:=by
 subst hW
 obtain⟨h0,h1,h2,h3,h4,h5,h6⟩:=h
 have d (i j:Nat) (h:i≠j):i≠j:=h
 have u0:=(Upd.refl g w).step h0 n0 x0
 have u1:=u0.step (set_at (by decide) h1) n1 x1
 have u2:=u1.step (set_at (by decide) (set_at (by decide) h2)) n2 x2
 have u3:=u2.step (set_at (by decide) (set_at (by decide) (set_at (by decide) h3))) n3 x3
 have u4:=u3.step (set_at (by decide) (set_at (by decide) (set_at (by decide) (set_at (by decide) h4)))) n4 x4
 have u5:=u4.step (set_at (by decide) (set_at (by decide) (set_at (by decide) (set_at (by decide) (set_at (by decide) h5))))) n5 x5
 have u6:=u5.step (set_at (by decide) (set_at (by decide) (set_at (by decide) (set_at (by decide) (set_at (by decide) (set_at (by decide) h6)))))) n6 x6
 refine⟨⟨?_,?_,?_,?_,?_,?_,?_⟩,u6⟩
 ·exact set_at (by decide) (set_at (by decide) (set_at (by decide) (set_at (by decide) (set_at (by decide) (set_at (by decide) (cell_set_eq h0))))))
 ·exact set_at (by decide) (set_at (by decide) (set_at (by decide) (set_at (by decide) (set_at (by decide) (cell_set_eq (set_at (by decide) h1))))))
 ·exact set_at (by decide) (set_at (by decide) (set_at (by decide) (set_at (by decide) (cell_set_eq (set_at (by decide) (set_at (by decide) h2))))))
 ·exact set_at (by decide) (set_at (by decide) (set_at (by decide) (cell_set_eq (set_at (by decide) (set_at (by decide) (set_at (by decide) h3))))))
 ·exact set_at (by decide) (set_at (by decide) (cell_set_eq (set_at (by decide) (set_at (by decide) (set_at (by decide) (set_at (by decide) h4))))))
 ·exact set_at (by decide) (cell_set_eq (set_at (by decide) (set_at (by decide) (set_at (by decide) (set_at (by decide) (set_at (by decide) h5))))))
 exact cell_set_eq (set_at (by decide) (set_at (by decide) (set_at (by decide) (set_at (by decide) (set_at (by decide) (set_at (by decide) h6))))))
def Frz (w:World) (g:Nat):Prop :=
 w.frozen? ⟨g,0,none⟩=false∧w.frozen? ⟨g,1,none⟩=false∧w.frozen? ⟨g,2,none⟩=false∧w.frozen? ⟨g,3,none⟩=false∧w.frozen? ⟨g,4,none⟩=false∧w.frozen? ⟨g,5,none⟩=false∧w.frozen? ⟨g,6,none⟩=false
theorem Frz.kp {w w':World} {g:Nat} {x0 x1 x2 x3 x4 x5 x6:Value} (h:Frz w g) (b:Box7 w g x0 x1 x2 x3 x4 x5 x6) (k:Kp w w'):Frz w' g :=
 ⟨k.frozen b.1 h.1,k.frozen b.2.1 h.2.1,k.frozen b.2.2.1 h.2.2.1,k.frozen b.2.2.2.1 h.2.2.2.1,k.frozen b.2.2.2.2.1 h.2.2.2.2.1,k.frozen b.2.2.2.2.2.1 h.2.2.2.2.2.1,k.frozen b.2.2.2.2.2.2 h.2.2.2.2.2.2⟩
theorem Frz.new (w:World) (x0 x1 x2 x3 x4 x5 x6:Value) (t:TypeId):Frz (w.alloc (.cells #[x0,x1,x2,x3,x4,x5,x6] t)) w.heap.size:=by
 refine⟨?_,?_,?_,?_,?_,?_,?_⟩ <;> simp
def Var7 (w:World) (g:Nat):Prop:=Box7 w g (.bool false) (.slice none 0 0) (.int .i64 0) (.bool false) (.slice none 0 0) (.int .i64 0) (.bool false)∧Frz w g
theorem Var7.kp {w w':World} {g:Nat} (h:Var7 w g) (k:Kp w w'):Var7 w' g:=⟨h.1.kp k,h.2.kp h.1 k⟩
theorem Var7.alloc {w:World} {g:Nat} (h:Var7 w g) (o:Obj):Var7 (w.alloc o) g:=h.kp ((Kp.refl w).alloc o)
theorem Var7.new (w:World) (t:TypeId):Var7 (w.alloc (.cells #[.bool false,.slice none 0 0,.int .i64 0,.bool false,.slice none 0 0,.int .i64 0,.bool false] t)) w.heap.size:=⟨Box7.new _ _ _ _ _ _ _ _ _,Frz.new _ _ _ _ _ _ _ _ _⟩
theorem Var7.new2 (w:World) (t:TypeId) (o1 o2:Obj):Var7 (((w.alloc o1).alloc o2).alloc (.cells #[.bool false,.slice none 0 0,.int .i64 0,.bool false,.slice none 0 0,.int .i64 0,.bool false] t)) (w.heap.size+1+1):=by
 have:=Var7.new ((w.alloc o1).alloc o2) t
 rwa [World.size_alloc,World.size_alloc] at this
theorem moreR_ok {w:World} {x y:RD} (hx:x.ok w) (hy:y.ok w):(moreR x y).ok w:=by unfold moreR;split <;> assumption
theorem RI.ok_mk {w:World} {x y:RD} (hx:x.ok w) (hy:y.ok w) (h:x.iv≤y.iv):RI.ok w ⟨x,y,false⟩:=by
 refine⟨⟨hx.1,hy.1⟩,rfl,?_⟩
 show (if false=true then _ else _)=true
 have:=@cmpZ_gt x.iv y.iv
 simp[hx.2,hy.2];omega
theorem set77 {w:World} {g g1 g2:Nat} (n1:g1≠g) (n2:g2≠g) {v0 v1 v2 v3 v4 v5 v6 u0 u1 u2 u3 u4 u5 u6 x0 x1 x2 x3 x4 x5 x6:Value}
  (h:(w.cell? ⟨g1,0,none⟩=some v0∧w.cell? ⟨g1,1,none⟩=some v1∧w.cell? ⟨g1,2,none⟩=some v2∧w.cell? ⟨g1,3,none⟩=some v3∧w.cell? ⟨g1,4,none⟩=some v4∧w.cell? ⟨g1,5,none⟩=some v5∧w.cell? ⟨g1,6,none⟩=some v6)∧w.cell? ⟨g2,0,none⟩=some u0∧w.cell? ⟨g2,1,none⟩=some u1∧w.cell? ⟨g2,2,none⟩=some u2∧w.cell? ⟨g2,3,none⟩=some u3∧w.cell? ⟨g2,4,none⟩=some u4∧w.cell? ⟨g2,5,none⟩=some u5∧w.cell? ⟨g2,6,none⟩=some u6) :
  ((((((((w.setCell ⟨g,0,none⟩ x0).setCell ⟨g,1,none⟩ x1).setCell ⟨g,2,none⟩ x2).setCell ⟨g,3,none⟩ x3).setCell ⟨g,4,none⟩ x4).setCell ⟨g,5,none⟩ x5).setCell ⟨g,6,none⟩ x6).cell? ⟨g1,0,none⟩=some v0∧(((((((w.setCell ⟨g,0,none⟩ x0).setCell ⟨g,1,none⟩ x1).setCell ⟨g,2,none⟩ x2).setCell ⟨g,3,none⟩ x3).setCell ⟨g,4,none⟩ x4).setCell ⟨g,5,none⟩ x5).setCell ⟨g,6,none⟩ x6).cell? ⟨g1,1,none⟩=some v1∧(((((((w.setCell ⟨g,0,none⟩ x0).setCell ⟨g,1,none⟩ x1).setCell ⟨g,2,none⟩ x2).setCell ⟨g,3,none⟩ x3).setCell ⟨g,4,none⟩ x4).setCell ⟨g,5,none⟩ x5).setCell ⟨g,6,none⟩ x6).cell? ⟨g1,2,none⟩=some v2∧(((((((w.setCell ⟨g,0,none⟩ x0).setCell ⟨g,1,none⟩ x1).setCell ⟨g,2,none⟩ x2).setCell ⟨g,3,none⟩ x3).setCell ⟨g,4,none⟩ x4).setCell ⟨g,5,none⟩ x5).setCell ⟨g,6,none⟩ x6).cell? ⟨g1,3,none⟩=some v3∧(((((((w.setCell ⟨g,0,none⟩ x0).setCell ⟨g,1,none⟩ x1).setCell ⟨g,2,none⟩ x2).setCell ⟨g,3,none⟩ x3).setCell ⟨g,4,none⟩ x4).setCell ⟨g,5,none⟩ x5).setCell ⟨g,6,none⟩ x6).cell? ⟨g1,4,none⟩=some v4∧(((((((w.setCell ⟨g,0,none⟩ x0).setCell ⟨g,1,none⟩ x1).setCell ⟨g,2,none⟩ x2).setCell ⟨g,3,none⟩ x3).setCell ⟨g,4,none⟩ x4).setCell ⟨g,5,none⟩ x5).setCell ⟨g,6,none⟩ x6).cell? ⟨g1,5,none⟩=some v5∧(((((((w.setCell ⟨g,0,none⟩ x0).setCell ⟨g,1,none⟩ x1).setCell ⟨g,2,none⟩ x2).setCell ⟨g,3,none⟩ x3).setCell ⟨g,4,none⟩ x4).setCell ⟨g,5,none⟩ x5).setCell ⟨g,6,none⟩ x6).cell? ⟨g1,6,none⟩=some v6)∧(((((((w.setCell ⟨g,0,none⟩ x0).setCell ⟨g,1,none⟩ x1).setCell ⟨g,2,none⟩ x2).setCell ⟨g,3,none⟩ x3).setCell ⟨g,4,none⟩ x4).setCell ⟨g,5,none⟩ x5).setCell ⟨g,6,none⟩ x6).cell? ⟨g2,0,none⟩=some u0∧(((((((w.setCell ⟨g,0,none⟩ x0).setCell ⟨g,1,none⟩ x1).setCell ⟨g,2,none⟩ x2).setCell ⟨g,3,none⟩ x3).setCell ⟨g,4,none⟩ x4).setCell ⟨g,5,none⟩ x5).setCell ⟨g,6,none⟩ x6).cell? ⟨g2,1,none⟩=some u1∧(((((((w.setCell ⟨g,0,none⟩ x0).setCell ⟨g,1,none⟩ x1).setCell ⟨g,2,none⟩ x2).setCell ⟨g,3,none⟩ x3).setCell ⟨g,4,none⟩ x4).setCell ⟨g,5,none⟩ x5).setCell ⟨g,6,none⟩ x6).cell? ⟨g2,2,none⟩=some u2∧(((((((w.setCell ⟨g,0,none⟩ x0).setCell ⟨g,1,none⟩ x1).setCell ⟨g,2,none⟩ x2).setCell ⟨g,3,none⟩ x3).setCell ⟨g,4,none⟩ x4).setCell ⟨g,5,none⟩ x5).setCell ⟨g,6,none⟩ x6).cell? ⟨g2,3,none⟩=some u3∧(((((((w.setCell ⟨g,0,none⟩ x0).setCell ⟨g,1,none⟩ x1).setCell ⟨g,2,none⟩ x2).setCell ⟨g,3,none⟩ x3).setCell ⟨g,4,none⟩ x4).setCell ⟨g,5,none⟩ x5).setCell ⟨g,6,none⟩ x6).cell? ⟨g2,4,none⟩=some u4∧(((((((w.setCell ⟨g,0,none⟩ x0).setCell ⟨g,1,none⟩ x1).setCell ⟨g,2,none⟩ x2).setCell ⟨g,3,none⟩ x3).setCell ⟨g,4,none⟩ x4).setCell ⟨g,5,none⟩ x5).setCell ⟨g,6,none⟩ x6).cell? ⟨g2,5,none⟩=some u5∧(((((((w.setCell ⟨g,0,none⟩ x0).setCell ⟨g,1,none⟩ x1).setCell ⟨g,2,none⟩ x2).setCell ⟨g,3,none⟩ x3).setCell ⟨g,4,none⟩ x4).setCell ⟨g,5,none⟩ x5).setCell ⟨g,6,none⟩ x6).cell? ⟨g2,6,none⟩=some u6:=by
 have ne (a i j:Nat) (n:a≠g):(⟨g,i,none⟩:Addr)≠⟨a,j,none⟩:=fun e=>n (by injection e with e1;exact e1.symm)
 have key (a j:Nat) (n:a≠g):(((((((w.setCell ⟨g,0,none⟩ x0).setCell ⟨g,1,none⟩ x1).setCell ⟨g,2,none⟩ x2).setCell ⟨g,3,none⟩ x3).setCell ⟨g,4,none⟩ x4).setCell ⟨g,5,none⟩ x5).setCell ⟨g,6,none⟩ x6).cell? ⟨a,j,none⟩=w.cell? ⟨a,j,none⟩:=by
  rw[cell_set_ne (ne a 6 j n),cell_set_ne (ne a 5 j n),cell_set_ne (ne a 4 j n),cell_set_ne (ne a 3 j n),cell_set_ne (ne a 2 j n),cell_set_ne (ne a 1 j n),cell_set_ne (ne a 0 j n)]
 simp only[key _ _ n1,key _ _ n2]
 exact h
theorem Var7.upd {w W:World} {g g':Nat} (h:Var7 w g') (n:g'≠g) (u:Upd g w W):Var7 W g':=by
 obtain⟨⟨h0,h1,h2,h3,h4,h5,h6⟩,f0,f1,f2,f3,f4,f5,f6⟩:=h
 have e (j:Nat):W.cell? ⟨g',j,none⟩=w.cell? ⟨g',j,none⟩:=u.2.2.2.1 _ n
 have f (j:Nat):W.frozen? ⟨g',j,none⟩=w.frozen? ⟨g',j,none⟩:=u.1 _
 exact⟨⟨(e 0).trans h0,(e 1).trans h1,(e 2).trans h2,(e 3).trans h3,(e 4).trans h4,(e 5).trans h5,(e 6).trans h6⟩,
  (f 0).trans f0,(f 1).trans f1,(f 2).trans f2,(f 3).trans f3,(f 4).trans f4,(f 5).trans f5,(f 6).trans f6⟩
def RI.cells (x:RI):List Value:=[.bool x.lo.neg,.slice x.lo.a x.lo.xs.length x.lo.c,.int .i64 x.lo.e,.bool x.hi.neg,.slice x.hi.a x.hi.xs.length x.hi.c,.int .i64 x.hi.e,.bool x.all]
theorem RI.cells_len (x:RI):x.cells.length=7:=rfl
def OwnI (wb w:World) (v:Value) (zs:List RI):Prop :=
 ((∀ x,x∈zs→x.rd wb)∧Kp wb w)∧w.ownsRow wb.heap.size 44 7 v zs.length (zs.flatMap RI.cells)
theorem flat_get {zs:List RI} {i:Nat} {x:RI} (h:zs[i]? = some x) {j:Nat} (hj:j<7):(zs.flatMap RI.cells)[i*7+j]? = x.cells[j]?:=by
 induction zs generalizing i with
 | nil=>simp at h
 | cons z zs ih =>
  rw[List.flatMap_cons]
  cases i with
  | zero =>
   simp only[List.getElem?_cons_zero,Option.some.injEq] at h
   subst h
   rw[List.getElem?_append_left (by rw[RI.cells_len];omega),Nat.zero_mul,Nat.zero_add]
  | succ i =>
   rw[List.getElem?_cons_succ] at h
   rw[List.getElem?_append_right (by rw[RI.cells_len];omega),RI.cells_len,← ih h]
   congr 1;omega
theorem OwnI.nil {wb w:World} (k:Kp wb w):OwnI wb w (.slice none 0 0) []:=⟨⟨fun _ h=>by simp at h,k⟩,World.ownsRow_nil _ _ _ _⟩
theorem OwnI.value {wb w:World} {v:Value} {zs:List RI} (h:OwnI wb w v zs):∃ a c,v=.slice a zs.length c∧zs.length≤c∧c≤maxLen∧RowI w a zs:=by
 obtain⟨h1,h2,h3⟩:=h
 rcases h3 with ⟨rfl,h3⟩ | ⟨g,cap,cur,rfl,hb,hg,hn,hc,hs,ht⟩
 ·have h0:zs=[]:=List.length_eq_zero_iff.1 h3
  subst h0
  exact⟨none,0,rfl,Nat.le_refl _,by decide,fun i x hi=>by simp at hi⟩
 refine⟨_,_,rfl,hn,hc,fun i x hi=>⟨g,0,rfl,(h1.1 x (List.mem_of_getElem? hi)).kp h1.2,?_⟩⟩
 have hil:i<zs.length:=(List.getElem?_eq_some_iff.1 hi).1
 have key (j:Nat) (hj:j<7) (u:Value) (hu:x.cells[j]? = some u):w.cell? ⟨g,i*7+j,none⟩=some u:=by
  rw[cell_of_row w g _ cur _ _ hg]
  have h5:(cur.toList.take (zs.length*7))[i*7+j]? = some u:=by rw[ht,flat_get hi hj,hu]
  rw[List.getElem?_take,if_pos (by omega)] at h5
  simpa using h5
 simp only[Nat.zero_add]
 exact⟨key 0 (by decide) _ rfl,key 1 (by decide) _ rfl,key 2 (by decide) _ rfl,key 3 (by decide) _ rfl,key 4 (by decide) _ rfl,key 5 (by decide) _ rfl,key 6 (by decide) _ rfl⟩
theorem OwnI.kp {wb w w':World} {v:Value} {zs:List RI} (h:OwnI wb w v zs) (k:Kp w w'):OwnI wb w' v zs:=by
 refine⟨⟨h.1.1,h.1.2.trans k⟩,?_⟩
 obtain⟨_,h2,h3⟩:=h
 refine⟨h2,?_⟩
 rcases h3 with h3 | ⟨g,cap,cur,h4,hb,hg,hr⟩
 ·exact .inl h3
 exact .inr ⟨g,cap,cur,h4,hb,k.heap hg,hr⟩
theorem infoIvl:(Tryz.prog.info? 44).map (fun i=>(i.zero,i.size,i.bytes))=some (some (.agg #[.bool false,.slice none 0 0,.int .i64 0,.bool false,.slice none 0 0,.int .i64 0,.bool false]),7,88):=by kernel_rfl
end Go.Proofs.YtbhmhfnfceakoaaGreatDoor
