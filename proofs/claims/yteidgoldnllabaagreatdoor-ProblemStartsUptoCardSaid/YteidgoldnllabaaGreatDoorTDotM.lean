/-
  Walks: matrix.dot.
-/
import Derived.Deep.CutRange
import Derived.Deep.LoopGhost
import Derived.Deep.RegionWith
import Derived.Test.YteidgoldnllabaaGreatDoorTIncP
import Derived.Test.YteidgoldnllabaaGreatDoorTBoxB
import Derived.Test.YteidgoldnllabaaGreatDoorTAwk4
import Derived.Test.YteidgoldnllabaaGreatDoorTEqU
import Derived.Test.YteidgoldnllabaaGreatDoorTRoE
import Derived.Test.YteidgoldnllabaaGreatDoorTTpoN
import Derived.Test.YteidgoldnllabaaGreatDoorTPub
set_option maxHeartbeats 4000000
set_option maxRecDepth 100000
namespace Go.Proofs.YteidgoldnllabaaGreatDoor
open Go.RowKit
open Lib (hid)
section
theorem bits_quo {a b:Nat} (hb:b≠0) (k:Nat) (h:bits b+k≤bits a) (hk:0<k):k≤bits (a/b):=by
 have ha:a≠0:=fun e=>by subst e;rw[bits_zero] at h;omega
 have h1:=two_pow_le_of_bits ha
 have h2:=lt_two_pow_bits b
 have h3:2 ^ (k-1)*b≤a:=by
  refine Nat.le_trans ?_ h1
  calc 2 ^ (k-1)*b≤2 ^ (k-1)*2 ^ bits b:=Nat.mul_le_mul_left _ (Nat.le_of_lt h2)
   _=2 ^ (k-1+bits b):=by rw[Nat.pow_add]
   _≤2 ^ (bits a-1):=Nat.pow_le_pow_right (by decide) (by omega)
 have h4:=(Nat.le_div_iff_mul_le (by omega:0<b)).2 h3
 have h5:=lt_bits.2 h4
 omega
def quoR (s:Bool) (m n:Nat) (e:Int) (p:Nat) (up:Bool) (K:Nat):Option Dy:=rndS s (m*2 ^ K/n) (e-K) (decide (0<bits (m*2 ^ K % n))) p up
theorem quo_more {m n K d:Nat} (hn:n≠0):m*2 ^ (K+d)/n/2 ^ d=m*2 ^ K/n∧((0<bits (m*2 ^ (K+d) % n)∨m*2 ^ (K+d)/n % 2 ^ d≠0)↔0<bits (m*2 ^ K % n)):=by
 have hp:=two_pow_pos d
 have e1:m*2 ^ (K+d)/n/2 ^ d=m*2 ^ K/n:=by
  rw[Nat.div_div_eq_div_mul,Nat.pow_add,← Nat.mul_assoc,Nat.mul_div_mul_right _ _ hp]
 refine⟨e1,?_⟩
 have b0 (x:Nat):0<bits x↔x≠0:=by
  constructor
  ·intro h h0;subst h0;rw[bits_zero] at h;omega
  ·exact bits_pos
 rw[b0,b0]
 have h1:=Nat.div_add_mod (m*2 ^ (K+d)) n
 have h2:=Nat.div_add_mod (m*2 ^ (K+d)/n) (2 ^ d)
 rw[e1] at h2
 have h3:=Nat.div_add_mod (m*2 ^ K) n
 have h4:m*2 ^ (K+d)=m*2 ^ K*2 ^ d:=by rw[Nat.pow_add,Nat.mul_assoc]
 have h5:=Nat.mod_lt (m*2 ^ K) (Nat.pos_of_ne_zero hn)
 generalize m*2 ^ (K+d)/n % 2 ^ d=f at *
 generalize m*2 ^ (K+d) % n=r at *
 generalize m*2 ^ (K+d)/n=Q at *
 generalize m*2 ^ K % n=r0 at *
 generalize m*2 ^ K/n=q at *
 have e2:n*f+r=r0*2 ^ d:=by
  have e3:n*Q=n*(2 ^ d*q)+n*f:=by rw[← Nat.mul_add,h2]
  have e4:m*2 ^ K*2 ^ d=n*q*2 ^ d+r0*2 ^ d:=by rw[← Nat.add_mul,h3]
  have e5:n*(2 ^ d*q)=n*q*2 ^ d:=by rw[Nat.mul_comm (2 ^ d),Nat.mul_assoc]
  omega
 constructor
 ·intro h h0
  rw[h0,Nat.zero_mul] at e2
  have h6:n*f=0:=by omega
  rcases Nat.mul_eq_zero.1 h6 with h7 | h7
  ·exact hn h7
  rcases h with h | h
  ·omega
  exact h h7
 intro h
 rcases Nat.eq_zero_or_pos r with h6 | h6
 ·refine .inr fun h7=>?_
  rw[h6,h7,Nat.mul_zero] at e2
  rcases Nat.mul_eq_zero.1 e2.symm with h8 | h8
  ·exact h h8
  omega
 exact .inl (by omega)
theorem quoR_more {s:Bool} {m n p K d:Nat} {e:Int} {up:Bool} (hm:m≠0) (hn:n≠0) (hp:0<p) (hK:p+1+bits n≤bits m+K):quoR s m n e p up (K+d)=quoR s m n e p up K:=by
 have hpd:=two_pow_pos d
 obtain⟨h1,h2⟩:=quo_more (m:=m) (K:=K) (d:=d) hn
 have hb:p<bits (m*2 ^ K/n):=by
  have:=bits_quo hn (p+1) (a:=m*2 ^ K) (by rw[bits_mul_pow hm];omega) (by omega)
  omega
 have hq0:m*2 ^ K/n≠0:=fun h=>by rw[h,bits_zero] at hb;omega
 have h3:=Nat.div_add_mod (m*2 ^ (K+d)/n) (2 ^ d)
 rw[h1] at h3
 have hf:=Nat.mod_lt (m*2 ^ (K+d)/n) hpd
 have hmore:(decide (0<bits (m*2 ^ (K+d) % n))||decide (m*2 ^ (K+d)/n % 2 ^ d≠0))=decide (0<bits (m*2 ^ K % n)):=by
  rw[← Bool.decide_or]
  exact decide_eq_decide.2 h2
 unfold quoR rndS sgnR
 have key (u:Bool):rcut (m*2 ^ (K+d)/n) (e-(K+d:Nat)) (decide (0<bits (m*2 ^ (K+d) % n))) p u=rcut (m*2 ^ K/n) (e-K) (decide (0<bits (m*2 ^ K % n))) p u:=by
  have:=rcut_more (m:=m*2 ^ K/n) (k:=d) (f:=m*2 ^ (K+d)/n % 2 ^ d) (p:=p) (e:=e-K) (more:=decide (0<bits (m*2 ^ (K+d) % n))) (up:=u) hq0 hf (fun _=>hb)
  rw[hmore,Nat.mul_comm (m*2 ^ K/n),h3] at this
  rw[this]
  congr 1
  omega
 rw[key]
end
section
section
variable {U V T x3 up P v1 w vp q r:Nat}
theorem knu_init (hU:U=(T*4294967296+x3)*P+up) (h3:x3<4294967296) (hup:up<P) (hV:V=(v1*4294967296+w)*P+vp) (hv:0<v1):U/V≤T/v1:=by
 have hP:0<P:=by omega
 have h1:v1*(4294967296*P)≤V:=by
  rw[hV,Nat.add_mul,← Nat.mul_assoc]
  have:=Nat.zero_le (w*P)
  omega
 have hpos:0<v1*(4294967296*P):=Nat.mul_pos hv (by omega)
 have h2:U<(T+1)*(4294967296*P):=by
  rw[hU]
  have h4:(T*4294967296+x3)*P+P≤(T*4294967296+4294967296)*P:=by
   have:=Nat.mul_le_mul_right P (show T*4294967296+x3+1≤T*4294967296+4294967296 by omega)
   rw[Nat.add_mul _ 1 P] at this
   omega
  have h5:(T+1)*(4294967296*P)=(T*4294967296+4294967296)*P:=by
   rw[← Nat.mul_assoc,Nat.add_mul,Nat.one_mul]
  rw[h5]
  omega
 have h6:U/(4294967296*P)≤T:=Nat.le_of_lt_succ ((Nat.div_lt_iff_lt_mul (by omega)).2 h2)
 calc U/V≤U/(v1*(4294967296*P)):=Nat.div_le_div_left h1 hpos
  _=U/(4294967296*P)/v1:=by rw[Nat.mul_comm v1,Nat.div_div_eq_div_mul]
  _≤T/v1:=Nat.div_le_div_right h6
theorem knu_mul (q T r v1 w:Nat) (h:q*v1+r=T):q*(v1*4294967296+w)+r*4294967296=T*4294967296+q*w:=by
 rw[← h,Nat.mul_add,Nat.add_mul,Nat.mul_assoc];omega
theorem knu_step (hU:U=(T*4294967296+x3)*P+up) (hup:up<P) (hV:V=(v1*4294967296+w)*P+vp) (hv:0<v1) (h:q*v1+r=T) (hgt:r*4294967296+x3<q*w):U/V<q:=by
 have hP:0<P:=by omega
 have hm:=knu_mul q T r v1 w h
 have h1:T*4294967296+x3+1≤q*(v1*4294967296+w):=by omega
 have h2:=Nat.mul_le_mul_right P h1
 rw[Nat.add_mul _ 1 P,Nat.one_mul] at h2
 have h3:q*(v1*4294967296+w)*P≤q*V:=by
  rw[hV,Nat.mul_assoc];exact Nat.mul_le_mul_left q (by omega)
 have hVp:0<V:=by
  rw[hV]
  have:0<(v1*4294967296+w)*P:=Nat.mul_pos (by omega) hP
  omega
 exact (Nat.div_lt_iff_lt_mul hVp).2 (by omega)
theorem knu_end (hU:U=(T*4294967296+x3)*P+up) (hV:V=(v1*4294967296+w)*P+vp) (hvp:vp<P) (hv:0<v1) (hq:q≤4294967296) (h:q*v1+r=T) (hle:q*w≤r*4294967296+x3):q≤U/V+1:=by
 have hP:0<P:=by omega
 have hm:=knu_mul q T r v1 w h
 have h1:q*(v1*4294967296+w)≤T*4294967296+x3:=by omega
 have h2:=Nat.mul_le_mul_right P h1
 have hVp:4294967296*P≤V:=by
  rw[hV]
  have:=Nat.mul_le_mul_right P (show 4294967296≤v1*4294967296+w by omega)
  omega
 have h3:q*vp≤4294967296*P:=Nat.mul_le_mul hq (Nat.le_of_lt hvp)
 have h4:q*V=q*(v1*4294967296+w)*P+q*vp:=by rw[hV,Nat.mul_add,Nat.mul_assoc]
 have h5:q*V≤U+V:=by omega
 have h6:(q-1)*V≤U:=by rw[Nat.sub_mul,Nat.one_mul];omega
 have:=(Nat.le_div_iff_mul_le (by omega:0<V)).2 h6
 omega
theorem knu_over (hU:U=(T*4294967296+x3)*P+up) (hV:V=(v1*4294967296+w)*P+vp) (hw:w<4294967296) (hvp:vp<P) (hv:0<v1) (hq:q≤4294967296) (h:q*v1+r=T) (hr:4294967296≤r):q≤U/V:=by
 have hP:0<P:=by omega
 have hVu:V≤(v1+1)*(4294967296*P):=by
  rw[hV,← Nat.mul_assoc,Nat.add_mul v1,Nat.one_mul]
  have:=Nat.mul_le_mul_right P (show v1*4294967296+w+1≤v1*4294967296+4294967296 by omega)
  rw[Nat.add_mul _ 1 P,Nat.one_mul] at this
  omega
 have hVp:0<V:=by
  rw[hV]
  have:0<(v1*4294967296+w)*P:=Nat.mul_pos (by omega) hP
  omega
 refine (Nat.le_div_iff_mul_le hVp).2 ?_
 have h1:q*V≤q*(v1+1)*(4294967296*P):=by rw[Nat.mul_assoc];exact Nat.mul_le_mul_left q hVu
 have h2:q*(v1+1)≤T:=by rw[Nat.mul_add,Nat.mul_one];omega
 have h3:=Nat.mul_le_mul_right (4294967296*P) h2
 have h4:T*(4294967296*P)≤U:=by
  rw[hU,← Nat.mul_assoc,Nat.add_mul]
  have:=Nat.zero_le (x3*P)
  omega
 omega
end
end
def digF (x3 v1 w1:Nat):Nat→Nat→Nat→Nat
 | 0,q,_=>q
 | n+1,q,r=>if r<4294967296∧r*4294967296+x3<q*w1 then digF x3 v1 w1 n (q-1) (r+v1) else q
theorem digF_end {x3 v1 w1 n q r:Nat} (h:¬ (r<4294967296∧r*4294967296+x3<q*w1)):digF x3 v1 w1 n q r=q:=by
 cases n with
 | succ n=>rw[digF,if_neg h]
 | zero=>rfl
theorem digF_spec {x3 v1 w1 L T:Nat} (hst:∀ q r,q*v1+r=T→r*4294967296+x3<q*w1→L<q) (n:Nat):∀ q r,q≤n→q*v1+r=T→L≤q →
  L≤digF x3 v1 w1 n q r∧digF x3 v1 w1 n q r≤q∧∃ s,digF x3 v1 w1 n q r*v1+s=T∧(4294967296≤s∨digF x3 v1 w1 n q r*w1≤s*4294967296+x3):=by
 induction n with
 | zero =>
  intro q r h1 h2 h3
  have h0:q=0:=by omega
  subst h0
  exact⟨h3,Nat.le_refl _,r,h2,.inr (by rw[digF,Nat.zero_mul];omega)⟩
 | succ n ih =>
  intro q r h1 h2 h3
  by_cases h:r<4294967296∧r*4294967296+x3<q*w1
  ·rw[digF,if_pos h]
   have h4:=hst q r h2 h.2
   have h5:(q-1)*v1+(r+v1)=T:=by
    rw[Nat.sub_mul,Nat.one_mul]
    have:v1≤q*v1:=Nat.le_mul_of_pos_left v1 (by omega)
    omega
   obtain⟨a,b,s,c,d⟩:=ih (q-1) (r+v1) (by omega) h5 (by omega)
   exact⟨a,by omega,s,c,d⟩
  ·rw[digF_end h]
   exact⟨h3,Nat.le_refl _,r,h2,by omega⟩
theorem digit_any (q0 r0 x3 v1 w1:Nat) (w:World) (hq:q0≤4294967295) (hr:r0<8589934592) (h3:x3<4294967296) (hv:v1<4294967296) (hw:w1<4294967296) :
  Calls Tryz.prog 307 #[.int .u64 (q0:Nat),.int .u64 (r0:Nat),.int .u32 (x3:Nat),.int .u32 (v1:Nat),.int .u32 (w1:Nat)] w fun e w'=>e=.returned (.int .u64 (digF x3 v1 w1 q0 q0 r0:Nat))∧w=w':=by
 obtain⟨D,hD⟩:∃ D,D=digF x3 v1 w1 q0 q0 r0:=⟨_,rfl⟩
 rw[← hD]
 have HD:=hid hD
 clear hD
 go_enter Tryz.func307,Tryz.ntmps307
 go_wp2_with fail
 go_loopw [0,1] (fun qv rv wr=>∃ n q r:Nat,qv=.int .u64 (q:Nat)∧rv=.int .u64 (r:Nat)∧q≤4294967295∧r<8589934592∧q≤n∧D=digF x3 v1 w1 n q r∧w=wr) (fun qv _ _=>(intOf qv).toNat)
 case atStart=>exact⟨q0,q0,r0,rfl,rfl,hq,hr,Nat.le_refl _,HD.out,rfl⟩
 case round =>
 obtain⟨n,q,r,rfl,rfl,hq1,hr1,hqn,hT,rfl⟩:=hrel
 have HT2:=hid hT
 clear hT HD
 by_cases hrb:r<4294967296
 rotate_left
 ·have hri:¬ (r:Int)<4294967296:=by omega
  have HG:=hid (show D=q by rw[HT2.out];exact digF_end fun h=>hrb h.1)
  clear hrb hr1
  go_wp2_with fail
  go_ret
  exact⟨ret_int (by rw[HG.out]),rfl⟩
 have hri:(r:Int)<4294967296:=by omega
 obtain⟨sm,hsm⟩:∃ sm,sm=x3+4294967296*r:=⟨_,rfl⟩
 have hor:=join64 h3 hrb
 rw[← hsm] at hor
 have HSM:=hid hsm
 clear hsm
 have hp1:(q:Int)*w1≤18446744065119617025:=by
  have:q*w1≤4294967295*4294967295:=Nat.mul_le_mul hq1 (by omega)
  have:((q*w1:Nat):Int)≤((4294967295*4294967295:Nat):Int):=by exact_mod_cast this
  simpa using this
 have hp0:0≤(q:Int)*w1:=Int.mul_nonneg (by omega) (by omega)
 by_cases hg:sm<q*w1
 rotate_left
 ·have hgi:¬ (sm:Int)<(q:Int)*w1:=by
   intro h
   have:(sm:Int)<((q*w1:Nat):Int):=by rwa [Int.natCast_mul]
   exact hg (by exact_mod_cast this)
  have HG:=hid (show D=q by
   rw[HT2.out];exact digF_end fun h=>hg (by have:=HSM.out;omega))
  clear hg hrb
  go_wp2_with fail
  go_ret
  exact⟨ret_int (by rw[HG.out]),rfl⟩
 have hgi:(sm:Int)<(q:Int)*w1:=by
  have:(sm:Int)<((q*w1:Nat):Int):=by exact_mod_cast hg
  rwa [Int.natCast_mul] at this
 have hq0:1≤q:=by
  rcases Nat.eq_zero_or_pos q with h | h
  ·subst h;simp at hg
  ·exact h
 obtain⟨k,rfl⟩:∃ k,n=k+1:=⟨n-1,by omega⟩
 have HG:=hid (show D=digF x3 v1 w1 k (q-1) (r+v1) by
  have e:=HT2.out
  rw[digF,if_pos ⟨hrb,by have:=HSM.out;omega⟩] at e
  exact e)
 clear hg hrb
 go_wp2_with fail
 go_roundw
 case measure=>simp[intOf];omega
 case rel=>exact⟨k,q-1,r+v1,by go_num,by go_num,by omega,by omega,by omega,HG.out,by first | rfl | trivial⟩
def guessF (top next x3 v1 w1:Nat):Nat :=
 if v1≤top then digF x3 v1 w1 4294967295 4294967295 ((top-v1)*4294967296+next+v1)
 else digF x3 v1 w1 ((top*4294967296+next)/v1) ((top*4294967296+next)/v1) ((top*4294967296+next) % v1)
theorem guess_any (top next x3 v1 w1:Nat) (w:World) (ht:top≤v1) (hn:next<4294967296) (h3:x3<4294967296) (hv:v1<4294967296) (hv0:0<v1) (hw:w1<4294967296) :
  Calls Tryz.prog 299 #[.int .u32 (top:Nat),.int .u32 (next:Nat),.int .u32 (x3:Nat),.int .u32 (v1:Nat),.int .u32 (w1:Nat)] w fun e w'=>e=.returned (.int .u64 (guessF top next x3 v1 w1:Nat))∧∃ n,w'=w.drewN n:=by
 by_cases he:top=v1
 ·have HD:=hid (digit_any 4294967295 (next+v1) x3 v1 w1 w (by decide) (by omega) h3 hv hw)
  have HG:=hid (show guessF top next x3 v1 w1=digF x3 v1 w1 4294967295 4294967295 (next+v1) by
   unfold guessF;rw[if_pos (by omega),show (top-v1)*4294967296+next+v1=next+v1 by omega])
  have hge:(v1:Int)≤(top:Int):=by omega
  have hsub:(top:Int)-v1=0:=by omega
  go_enter Tryz.func299,Tryz.ntmps299
  go_wp2_with fail
  have hD:=HD.out
  rw[show (((4294967295:Nat):Nat):Int)=4294967295 from rfl,Int.natCast_add] at hD
  refine hD.mono ?_
  rintro e w' ⟨rfl,rfl⟩
  go_wp2_with fail
  go_ret
  exact⟨ret_int (by rw[HG.out]),0,rfl⟩
 have hlt:top<v1:=by omega
 have hq:(top*4294967296+next)/v1<4294967296:=by
  rw[Nat.div_lt_iff_lt_mul hv0]
  have:(top+1)*4294967296≤v1*4294967296:=Nat.mul_le_mul_right _ hlt
  rw[Nat.mul_comm 4294967296]
  omega
 have hm:=Nat.mod_lt (top*4294967296+next) hv0
 have HD:=hid (fun W=>digit_any ((top*4294967296+next)/v1) ((top*4294967296+next) % v1) x3 v1 w1 W (by omega) (by omega) h3 hv hw)
 have HG:=hid (show guessF top next x3 v1 w1=digF x3 v1 w1 ((top*4294967296+next)/v1) ((top*4294967296+next)/v1) ((top*4294967296+next) % v1) by
  unfold guessF;rw[if_neg (by omega)])
 have hor:=join64 hn (show top<4294967296 by omega)
 have hge:¬ (v1:Int)≤(top:Int):=by omega
 have hwr:((top:Int)*4294967296) % 18446744073709551616=(top:Int)*4294967296:=by omega
 have hsum:next+4294967296*top=top*4294967296+next:=by omega
 rw[hsum] at hor
 have hTl:top*4294967296+next<18446744073709551616:=by omega
 generalize guessF top next x3 v1 w1=G at *
 generalize top*4294967296+next=T at *
 clear hq hm he hsum
 have HDI:=hid (fun W=>show Calls Tryz.prog 307 #[.int .u64 (IntKind.u64.wrap ((T:Int)/v1)),.int .u64 ((T:Int) % v1),.int .u32 (x3:Nat),.int .u32 (v1:Nat),.int .u32 (w1:Nat)] W (fun e w'=>e=.returned (.int .u64 (G:Nat))∧w'=W) by
  have h1:T/v1≤T:=Nat.div_le_self _ _
  have h2:((T/v1:Nat):Int)≤(T:Int):=by exact_mod_cast h1
  have hwq:IntKind.u64.wrap ((T:Int)/v1)=(T:Int)/v1:=by
   rw[IntKind.wrap_u64,← Int.natCast_ediv]
   generalize T/v1=z at *
   exact Int.emod_eq_of_lt (by omega) (by omega)
  rw[hwq]
  have:=HD.out W
  rw[Int.natCast_ediv,Int.natCast_emod,← HG.out] at this
  exact this.mono fun e w' ⟨h1,h2⟩=>⟨h1,h2.symm⟩)
 clear HD HG
 have hy0:(v1:Int)≠0:=by omega
 have hy1:((v1:Int)==0)=false:=beq_eq_false_iff_ne.2 hy0
 have hy2:((v1:Int) != 0)=true:=by rw[bne,hy1];rfl
 go_enter Tryz.func299,Tryz.ntmps299
 go_wp2_with fail
 go_quiet ((go_at_call 307;exact Calls.quiet_of_same (HDI.out _)))
 go_wp2_with fail
 go_ret
 exact⟨rfl,_,rfl⟩
def Pre (w:World) (g:Nat) (xs:List Nat):Prop :=
 ∃ cur:Array Value,w.heap[g]? = some (.cells cur 213 (0,0))∧cur.toList.take xs.length=xs.map u32v∧xs.length≤cur.size
theorem Pre.cell {w:World} {g:Nat} {xs:List Nat} (h:Pre w g xs) {i:Nat} (hi:i<xs.length):w.cell? ⟨g,i,none⟩=some (.int .u32 (nth xs i)):=by
 obtain⟨cur,h1,h2,_⟩:=h
 rw[cell_of_row w g _ cur _ _ h1]
 have h3:(cur.toList.take xs.length)[i]? = some (u32v (nth xs i)):=by rw[h2,List.getElem?_map,nth_get? hi];rfl
 rw[List.getElem?_take,if_pos hi] at h3
 simpa [u32v] using h3
theorem Pre.frozen {w:World} {g:Nat} {xs:List Nat} (h:Pre w g xs) (i:Nat):w.frozen? ⟨g,i,none⟩=false:=by
 obtain⟨cur,h1,_⟩:=h
 exact frozen_of_row w g _ _ _ h1
theorem Pre.rd {w:World} {g:Nat} {xs:List Nat} (h:Pre w g xs) (hl:Lt32 xs):Rd w (some ⟨g,0,none⟩) xs :=
 ⟨hl,.inr ⟨g,0,rfl,fun i hi=>by rw[Nat.zero_add];exact h.cell hi⟩⟩
theorem Pre.lt {w:World} {g:Nat} {xs:List Nat} (h:Pre w g xs):g<w.heap.size:=by
 obtain⟨cur,h1,_⟩:=h
 exact (Array.getElem?_eq_some_iff.1 h1).1
theorem Pre.kp {w w':World} {g:Nat} {xs:List Nat} (h:Pre w g xs) (k:Kp w w'):Pre w' g xs:=by
 obtain⟨cur,h1,h2⟩:=h
 exact⟨cur,k.heap h1,h2⟩
theorem Pre.set {w:World} {g:Nat} {xs:List Nat} (h:Pre w g xs) {i x:Nat} {e:Int} (he:e=x):Pre (w.setCell ⟨g,i,none⟩ (.int .u32 e)) g (xs.set i x):=by
 obtain⟨cur,h1,h2,h3⟩:=h
 subst he
 refine⟨cur.setIfInBounds i (.int .u32 (x:Int)),heap_setCell_same w g i _ _ _ h1,?_,by simpa using h3⟩
 rw[Array.toList_setIfInBounds,List.length_set,List.take_set,h2,List.map_set]
 rfl
theorem Pre.of {w:World} {base:Nat} {a:Option Addr} {n c:Nat} {xs:List Nat} (h:Own w base (.slice a n c) xs) (h0:xs≠[]):∃ g,a=some ⟨g,0,none⟩∧base≤g∧Pre w g xs:=by
 obtain⟨_,_,h3⟩:=h
 rcases h3 with ⟨_,h3⟩ | ⟨g,cap,cur,h4,hb,hg,hn,hc,hs,ht⟩
 ·exact absurd (List.length_eq_zero_iff.1 h3) h0
 injection h4 with e1 e2 e3
 exact⟨g,e1,hb,cur,hg,by rw[Nat.mul_one] at ht;exact ht,by omega⟩
theorem Pre.at {w:World} {g:Nat} {pre ws post:List Nat} (h:Pre w g (pre++ws++post)) {i:Nat} (hi:i<ws.length):w.cell? ⟨g,pre.length+i,none⟩=some (.int .u32 (nth ws i)):=by
 have:=h.cell (i:=pre.length+i) (by simp;omega)
 rwa [nth_append_left (by simp;omega),nth_append_right (by omega),Nat.add_sub_cancel_left] at this
theorem Pre.put {w:World} {g:Nat} {pre ws post:List Nat} (h:Pre w g (pre++ws++post)) {i x:Nat} (hi:i<ws.length) {e:Int} (he:e=x):Pre (w.setCell ⟨g,pre.length+i,none⟩ (.int .u32 e)) g (pre++ws.set i x++post):=by
 have:=h.set (i:=pre.length+i) he
 rwa [List.set_append_left _ _ (by simp;omega),List.set_append_right _ _ (by omega),Nat.add_sub_cancel_left] at this
def Mod (g:Nat) (w w':World):Prop:=w'.os=w.os∧w'.tape=w.tape∧w'.output=w.output∧w.heap.size≤w'.heap.size∧∀ k,k<w.heap.size→k≠g→w'.heap[k]? = w.heap[k]?
theorem Mod.refl (g:Nat) (w:World):Mod g w w:=⟨rfl,rfl,rfl,Nat.le_refl _,fun _ _ _=>rfl⟩
theorem Mod.trans {g:Nat} {a b c:World} (h:Mod g a b) (k:Mod g b c):Mod g a c :=
 ⟨k.1.trans h.1,k.2.1.trans h.2.1,k.2.2.1.trans h.2.2.1,Nat.le_trans h.2.2.2.1 k.2.2.2.1,fun i hi hn=>(k.2.2.2.2 i (by have:=h.2.2.2.1;omega) hn).trans (h.2.2.2.2 i hi hn)⟩
theorem Mod.set {g:Nat} {a w:World} (h:Mod g a w) (i:Nat) (v:Value):Mod g a (w.setCell ⟨g,i,none⟩ v):=by
 have:=Below.setCell (Below.refl 0 w) (p:=⟨g,i,none⟩) (Nat.zero_le _) v
 exact h.trans ⟨this.os,this.tape,this.output,this.size,fun k _ hn=>heap_setCell_other w _ k v hn⟩
theorem Mod.cell {g:Nat} {w w':World} (h:Mod g w w') {p:Addr} {v:Value} (hp:p.block≠g) (hc:w.cell? p=some v):w'.cell? p=some v :=
 (World.cell?_of_block (w:=w) (h.2.2.2.2 p.block (World.block_lt_of_cell? w p hc) hp)).trans hc
theorem Mod.rd {g b o:Nat} {w w':World} (h:Mod g w w') (hb:b≠g) {xs:List Nat} (hr:Rd w (some ⟨b,o,none⟩) xs):Rd w' (some ⟨b,o,none⟩) xs:=by
 refine⟨hr.1,?_⟩
 rcases hr.2 with h2 | ⟨b',o',e,h2⟩
 ·exact .inl h2
 cases e
 exact .inr ⟨b,o,rfl,fun i hi=>h.cell (p:=⟨b,o+i,none⟩) hb (h2 i hi)⟩
theorem Mod.blk {g b:Nat} {w w':World} (h:Mod g w w') (hb:b≠g) {xs:List Nat} (hr:Blk w b xs):Blk w' b xs:=(h.2.2.2.2 b hr.lt hb).trans hr
theorem Mod.pre {g b:Nat} {w w':World} (h:Mod g w w') (hb:b≠g) {xs:List Nat} (hr:Pre w b xs):Pre w' b xs:=by
 obtain⟨cur,h1,h2⟩:=hr
 exact⟨cur,(h.2.2.2.2 b (Array.getElem?_eq_some_iff.1 h1).1 hb).trans h1,h2⟩
theorem Mod.below {g:Nat} {a w w':World} (h:Mod g w w') (k:Kp a w) (hg:a.heap.size≤g):Kp a w' :=
 ⟨h.1.trans k.os,h.2.1.trans k.tape,h.2.2.1.trans k.output,Nat.le_trans k.size h.2.2.2.1,fun i hi=>(h.2.2.2.2 i (by have:=k.size;omega) (by omega)).trans (k.block i hi)⟩
theorem take_step {zs ws vs:List Nat} {k q c o s z o':Nat} (hk:k<zs.length) (h:val (zs.take k)+q*val (vs.take k)=val (ws.take k)+4294967296 ^ k*(c+o))
  (hs:s=q*nth vs k+c) (hz:z+s % 4294967296+o=nth ws k+4294967296*o') :
  val ((zs.set k z).take (k+1))+q*val (vs.take (k+1))=val (ws.take (k+1))+4294967296 ^ (k+1)*(s/4294967296+o'):=by
 rw[val_take_set hk,val_take_step,val_take_step,Nat.pow_succ,Nat.mul_add q]
 have h1:=Nat.div_add_mod s 4294967296
 have e1:q*(4294967296 ^ k*nth vs k)=4294967296 ^ k*(q*nth vs k):=by rw[← Nat.mul_assoc,Nat.mul_comm q,Nat.mul_assoc]
 have e2:4294967296 ^ k*(c+o)+4294967296 ^ k*z+4294967296 ^ k*(q*nth vs k)=4294967296 ^ k*nth ws k+4294967296 ^ k*4294967296*(s/4294967296+o'):=by
  rw[Nat.mul_assoc (4294967296 ^ k) 4294967296,← Nat.mul_add,← Nat.mul_add,← Nat.mul_add]
  congr 1
  omega
 omega
theorem take_last {zs ws vs:List Nat} {q c o z b:Nat} (hl:ws.length=vs.length+1) (hzl:zs.length=ws.length) (h:val (zs.take vs.length)+q*val (vs.take vs.length)=val (ws.take vs.length)+4294967296 ^ vs.length*(c+o))
  (hz:z+c+o=nth ws vs.length+4294967296*b):val (zs.set vs.length z)+q*val vs=val ws+4294967296 ^ ws.length*b:=by
 rw[List.take_of_length_le (Nat.le_refl _)] at h
 have h1:=val_take_step ws vs.length
 rw[List.take_of_length_le (by omega:ws.length≤vs.length+1)] at h1
 rw[val_set_last (by omega),h1,hl,Nat.pow_succ]
 generalize 4294967296 ^ vs.length=P at *
 have e:P*z+P*(c+o)=P*nth ws vs.length+P*4294967296*b:=by
  rw[Nat.mul_assoc,← Nat.mul_add,← Nat.mul_add]
  congr 1
  omega
 omega
theorem take_limb {u d o:Nat} (hu:u<4294967296) (hd:d≤4294967295) (ho:o≤1) :
  ∃ z b:Nat,IntKind.u64.wrap (IntKind.u64.wrap ((u:Int)-d)-o) % 4294967296=(z:Int)∧IntKind.u64.wrap (IntKind.u64.wrap ((u:Int)-d)-o)/9223372036854775808=(b:Int)∧z<4294967296∧b≤1∧z+d+o=u+4294967296*b:=by
 rw[IntKind.wrap_u64,IntKind.wrap_u64]
 by_cases h:u<d+o
 ·exact⟨u+4294967296-d-o,1,by omega,by omega,by omega,by omega,by omega⟩
 exact⟨u-d-o,0,by omega,by omega,by omega,by omega,by omega⟩
theorem low32 {x:Int} {s:Nat} (e:x=s) (hs:s<18446744073709551616):Go.bits BinOp.and IntKind.u64 x 4294967295=((s % 4294967296:Nat):Int):=by
 subst e
 have h:=bits_and_u64_nat s 4294967295 hs (by omega)
 rw[show s &&& 4294967295=s % 4294967296 from Nat.and_two_pow_sub_one_eq_mod s 32] at h
 exact h
def TakeOut (w:World) (g:Nat) (pre ws post:List Nat) (q V:Nat) (e:Ending) (w':World):Prop :=
 ∃ (b:Nat) (zs:List Nat),e=.returned (.bool (decide (b=1)))∧b≤1∧zs.length=ws.length∧Lt32 zs∧val zs+q*V=val ws+4294967296 ^ ws.length*b∧Pre w' g (pre++zs++post)∧Mod g w w'
theorem take_any (g c b o d:Nat) (pre ws post vs:List Nat) (q:Nat) (w:World) (hu:Pre w g (pre++ws++post)) (hw:Lt32 ws) (hl:ws.length=vs.length+1) (hv:Rd w (some ⟨b,o,none⟩) vs) (hb:b≠g) (hq:q≤4294967295)
  (hll:pre.length+ws.length≤1000) :
  Calls Tryz.prog 300 #[.slice (some ⟨g,pre.length,none⟩) (vs.length+1) c,.slice (some ⟨b,o,none⟩) vs.length d,.int .u64 (q:Nat)] w (TakeOut w g pre ws post q (val vs)):=by
 have Hl:=hid hl
 have Hb:=hid hb
 have hwl:ws.length≤1000:=by omega
 have hvl:vs.length≤1000:=by omega
 have hpl:pre.length≤1000:=by omega
 clear hl hb hll
 go_enter Tryz.func300,Tryz.ntmps300
 go_wp2_with fail
 go_loopw [7,8,16] (fun cy bo ix wr=>∃ (k cv ov:Nat) (zs:List Nat),k≤vs.length∧ix=.int .i64 k∧cy=.int .u64 (cv:Nat)∧bo=.int .u64 (ov:Nat)∧cv≤4294967295∧ov≤1∧zs.length=ws.length∧Lt32 zs ∧
   (∀ i,k≤i→nth zs i=nth ws i)∧val (zs.take k)+q*val (vs.take k)=val (ws.take k)+4294967296 ^ k*(cv+ov)∧Pre wr g (pre++zs++post)∧Mod g w wr) (fun _ _ ix _=>vs.length-(intOf ix).toNat)
 case atStart=>exact⟨0,0,0,ws,Nat.zero_le _,rfl,rfl,rfl,by decide,by decide,rfl,hw,fun _ _=>rfl,by simp[val],hu,.refl _ _⟩
 case round =>
 obtain⟨k,cv,ov,zs,hk,rfl,rfl,rfl,hcv,hov,hzl,hz32,hsame,hvz,hpre,hmod⟩:=hrel
 have Hvz:=hid hvz
 have Hzl:=hid hzl
 have Hsm:=hid hsame
 have hzl1:zs.length≤1000:=by omega
 clear hvz hsame
 by_cases hlt:k<vs.length
 rotate_left
 ·have hke:k=vs.length:=by omega
  have hs1:=hpre.at (i:=vs.length) (by have:=Hl.out;have:=Hzl.out;omega)
  have hs2:=hpre.frozen (pre.length+vs.length)
  have bz:=hz32.nth vs.length
  obtain⟨z,b',e1,e2,hz,hb',hzs⟩:=take_limb bz hcv hov
  have Hke:=hid hke
  have HE:=hid (And.intro e1 e2)
  have Hzs:=hid hzs
  clear e1 e2 hzs hke hzl1
  go_wp2_with fail
  obtain⟨e1,e2⟩:=HE.out
  rw[e1,e2]
  go_ret
  have hv2:=Hvz.out
  have h4:=Hsm.out vs.length (by have:=Hke.out;omega)
  rw[Hke.out] at hv2
  exact⟨b',zs.set vs.length z,ret_bool (by rcases (show b'=0∨b'=1 by omega) with h | h <;> subst h <;> rfl),hb',by simp[Hzl.out],hz32.set _ _ hz,take_last Hl.out Hzl.out hv2 (by rw[← h4];exact Hzs.out),hpre.put (by have:=Hl.out;have:=Hzl.out;omega) rfl,hmod.set _ _⟩
 obtain⟨b1,o1,e,hcx⟩:=(hmod.rd Hb.out hv).some hlt
 cases e
 have hx1:=hcx k hlt
 have bx:=hv.lt32.nth k
 have hs1:=hpre.at (i:=k) (by have:=Hl.out;omega)
 have hs2:=hpre.frozen (pre.length+k)
 have bz:=hz32.nth k
 have hp1:(q:Int)*nth vs k≤18446744065119617025:=by
  have:q*nth vs k≤4294967295*4294967295:=Nat.mul_le_mul hq (by omega)
  have:((q*nth vs k:Nat):Int)≤((4294967295*4294967295:Nat):Int):=by exact_mod_cast this
  simpa using this
 have hp0:0≤(q:Int)*nth vs k:=Int.mul_nonneg (by omega) (by omega)
 obtain⟨sm,hsm⟩:∃ sm,sm=q*nth vs k+cv:=⟨_,rfl⟩
 have hse:(q:Int)*nth vs k+cv=(sm:Int):=by rw[hsm,Int.natCast_add,Int.natCast_mul]
 have hsl:sm<18446744073709551616:=by omega
 have hand:=low32 hse hsl
 obtain⟨z,b',e1,e2,hz,hb',hzs⟩:=take_limb bz (show sm % 4294967296≤4294967295 by omega) hov
 have Hst:=hid (take_step (zs:=zs) (ws:=ws) (vs:=vs) (k:=k) (by have:=Hl.out;have:=Hzl.out;omega) Hvz.out hsm (by rw[← Hsm.out k (Nat.le_refl _)];exact hzs))
 have HE:=hid (And.intro e1 (And.intro e2 (And.intro hand hse)))
 have Hbs:=hid hb'
 clear hcx hzl e1 e2 hand hse hsm hzs hb'
 go_wp2_with fail
 obtain⟨e1,e2,hand,hse⟩:=HE.out
 rw[hand,e1,e2,hse]
 go_roundw
 case measure=>simp[intOf];omega
 case rel =>
 refine⟨k+1,sm/4294967296,b',zs.set k z,by omega,by go_num,by congr 1,rfl,by omega,Hbs.out,by simp[Hzl.out],hz32.set _ _ hz,fun i hi=>?_,Hst.out,hpre.put (by have:=Hl.out;have:=Hzl.out;omega) rfl,hmod.set _ _⟩
 rw[nth_set_ne (by omega)]
 exact Hsm.out i (by omega)
section
theorem val_three (ws:List Nat) (m:Nat) (h:ws.length=m+3):val ws=((nth ws (m+2)*4294967296+nth ws (m+1))*4294967296+nth ws m)*4294967296 ^ m+val (ws.take m):=by
 have h1:=val_take_step ws m
 have h2:=val_take_step ws (m+1)
 have h3:=val_take_step ws (m+2)
 rw[List.take_of_length_le (by omega:ws.length≤m+2+1)] at h3
 rw[h3,h2,h1]
 simp only[Nat.pow_succ,Nat.add_mul]
 have e1:4294967296 ^ m*4294967296*nth ws (m+1)=nth ws (m+1)*4294967296*4294967296 ^ m:=by
  rw[Nat.mul_comm,Nat.mul_comm (4294967296 ^ m),Nat.mul_assoc]
 have e2:4294967296 ^ m*4294967296*4294967296*nth ws (m+2)=nth ws (m+2)*4294967296*4294967296*4294967296 ^ m:=by
  rw[Nat.mul_comm,Nat.mul_assoc (4294967296 ^ m),Nat.mul_comm (4294967296 ^ m),← Nat.mul_assoc,← Nat.mul_assoc]
 rw[e1,e2,Nat.mul_comm (4294967296 ^ m) (nth ws m)]
 omega
theorem val_two (vs:List Nat) (m:Nat) (h:vs.length=m+2):val vs=(nth vs (m+1)*4294967296+nth vs m)*4294967296 ^ m+val (vs.take m):=by
 have h1:=val_take_step vs m
 have h2:=val_take_step vs (m+1)
 rw[List.take_of_length_le (by omega:vs.length≤m+1+1)] at h2
 rw[h2,h1]
 simp only[Nat.pow_succ,Nat.add_mul]
 have e1:4294967296 ^ m*4294967296*nth vs (m+1)=nth vs (m+1)*4294967296*4294967296 ^ m:=by
  rw[Nat.mul_comm,Nat.mul_comm (4294967296 ^ m),Nat.mul_assoc]
 rw[e1,Nat.mul_comm (4294967296 ^ m) (nth vs m)]
 omega
theorem val_take_lt {xs:List Nat} (h:Lt32 xs) (m:Nat):val (xs.take m)<4294967296 ^ m:=by
 have h1:=val_lt (h.take m)
 exact Nat.lt_of_lt_of_le h1 (Nat.pow_le_pow_right (by decide) (by simp;omega))
theorem guess_right {ws vs:List Nat} {m:Nat} (hw:Lt32 ws) (hv:Lt32 vs) (hwl:ws.length=m+3) (hvl:vs.length=m+2) (hv0:0<nth vs (m+1)) (hlt:val ws<4294967296*val vs) :
  nth ws (m+2)≤nth vs (m+1)∧val ws/val vs≤guessF (nth ws (m+2)) (nth ws (m+1)) (nth ws m) (nth vs (m+1)) (nth vs m) ∧
  guessF (nth ws (m+2)) (nth ws (m+1)) (nth ws m) (nth vs (m+1)) (nth vs m)≤val ws/val vs+1 ∧
  guessF (nth ws (m+2)) (nth ws (m+1)) (nth ws m) (nth vs (m+1)) (nth vs m)≤4294967295:=by
 have hU:=val_three ws m hwl
 have hV:=val_two vs m hvl
 have hup:=val_take_lt hw m
 have hvp:=val_take_lt hv m
 have b1:=hw.nth (m+1)
 have b0:=hw.nth m
 have c1:=hv.nth (m+1)
 have c0:=hv.nth m
 generalize 4294967296 ^ m=P at *
 generalize val ws=U at *
 generalize val vs=V at *
 generalize val (ws.take m)=up at *
 generalize val (vs.take m)=vp at *
 generalize nth ws (m+2)=top at *
 generalize nth ws (m+1)=next at *
 generalize nth ws m=x3 at *
 generalize nth vs (m+1)=v1 at *
 generalize nth vs m=w1 at *
 have hP:0<P:=by omega
 have ht:top≤v1:=by
  rcases Nat.lt_or_ge v1 top with h | h
  ·exfalso
   have h1:(v1+1)*(4294967296*(4294967296*P))≤U:=by
    rw[hU]
    have:=Nat.mul_le_mul_right (4294967296*(4294967296*P)) (show v1+1≤top from h)
    have e:((top*4294967296+next)*4294967296+x3)*P=top*(4294967296*(4294967296*P))+next*4294967296*P+x3*P:=by
     simp only[Nat.add_mul,Nat.mul_assoc]
    omega
   have h2:4294967296*V≤(v1+1)*(4294967296*(4294967296*P)):=by
    rw[Nat.mul_left_comm (v1+1)]
    refine Nat.mul_le_mul_left _ ?_
    rw[hV]
    have e:(v1*4294967296+w1)*P+P≤(v1+1)*4294967296*P:=by
     rw[← Nat.succ_mul]
     exact Nat.mul_le_mul_right P (by omega)
    rw[Nat.mul_assoc] at e
    omega
   omega
  ·exact h
 have hst:∀ q r,q*v1+r=top*4294967296+next→r*4294967296+x3<q*w1→U/V<q:=fun q r h1 h2=>knu_step hU hup hV hv0 h1 h2
 have hVp:0<V:=by
  rw[hV]
  have:0<(v1*4294967296+w1)*P:=Nat.mul_pos (by omega) hP
  omega
 have hL:U/V<4294967296:=by rw[Nat.div_lt_iff_lt_mul hVp];exact hlt
 have fin:∀ n q r,q≤n→q≤4294967295→q*v1+r=top*4294967296+next→U/V≤q→U/V≤digF x3 v1 w1 n q r∧digF x3 v1 w1 n q r≤U/V+1∧digF x3 v1 w1 n q r≤4294967295:=by
  intro n q r h1 h2 h3 h4
  obtain⟨a,b,s,c,d⟩:=digF_spec hst n q r h1 h3 h4
  refine⟨a,?_,by omega⟩
  rcases d with d | d
  ·have:=knu_over hU hV c0 hvp hv0 (by omega) c d
   omega
  ·exact knu_end hU hV hvp hv0 (by omega) c d
 refine⟨ht,?_⟩
 unfold guessF
 split
 ·next h =>
  have e:top=v1:=by omega
  refine fin _ _ _ (Nat.le_refl _) (by decide) ?_ (by omega)
  rw[e];omega
 next h =>
 have hq:(top*4294967296+next)/v1<4294967296:=by
  rw[Nat.div_lt_iff_lt_mul hv0]
  have:(top+1)*4294967296≤v1*4294967296:=Nat.mul_le_mul_right _ (by omega)
  rw[Nat.mul_comm 4294967296]
  omega
 refine fin _ _ _ (Nat.le_refl _) (by omega) (by rw[Nat.mul_comm];exact Nat.div_add_mod _ _) ?_
 exact knu_init hU b0 hup hV hv0
theorem guess_len {ws vs:List Nat} {n:Nat} (hw:Lt32 ws) (hv:Lt32 vs) (hwl:ws.length=n+1) (hvl:vs.length=n) (hn:2≤n) (hv0:0<nth vs (n-1)) (hlt:val ws<4294967296*val vs) :
  nth ws n≤nth vs (n-1)∧val ws/val vs≤guessF (nth ws n) (nth ws (n-1)) (nth ws (n-2)) (nth vs (n-1)) (nth vs (n-2)) ∧
  guessF (nth ws n) (nth ws (n-1)) (nth ws (n-2)) (nth vs (n-1)) (nth vs (n-2))≤val ws/val vs+1 ∧
  guessF (nth ws n) (nth ws (n-1)) (nth ws (n-2)) (nth vs (n-1)) (nth vs (n-2))≤4294967295:=by
 obtain⟨m,rfl⟩:∃ m,n=m+2:=⟨n-2,by omega⟩
 exact guess_right hw hv hwl hvl hv0 hlt
theorem took {U V x b z M:Nat} (hV:0<V) (hz:z<M) (_hVM:V≤M) (h1:U/V≤x) (h2:x≤U/V+1) (h:z+x*V=U+M*b) (hb:b≤1) :
  (b=0∧x=U/V∧z=U % V)∨(b=1∧x=U/V+1∧z+V=U % V+M):=by
 have e1:=Nat.div_add_mod U V
 have e2:=Nat.mod_lt U hV
 generalize U/V=q at *
 generalize U % V=r at *
 have e3:V*q=q*V:=Nat.mul_comm _ _
 rcases (show x=q∨x=q+1 by omega) with rfl | rfl
 ·rcases (show b=0∨b=1 by omega) with rfl | rfl
  ·exact .inl ⟨rfl,rfl,by omega⟩
  exfalso;omega
 rw[Nat.add_mul,Nat.one_mul] at h
 rcases (show b=0∨b=1 by omega) with rfl | rfl
 ·exfalso;omega
 exact .inr ⟨rfl,rfl,by omega⟩
theorem back {r V z M y c:Nat} (hz:z+V=r+M) (hr:r<V) (hVM:V≤M) (hy:y<M) (h:y+M*c=z+V):y=r:=by
 rcases (show c=0∨c=1∨2≤c by omega) with rfl | rfl | h2
 ·omega
 ·omega
 have:=Nat.mul_le_mul_left M h2
 omega
theorem drop_step (us:List Nat) {j:Nat} (hj:j<us.length):val (us.drop j)=nth us j+4294967296*val (us.drop (j+1)):=by rw[drop_eq_nth hj,val_cons]
theorem drop_parts (us:List Nat) {j n:Nat} (hj:j+n≤us.length):val (us.drop j)=val ((us.drop j).take n)+4294967296 ^ n*val (us.drop (j+n)):=by
 have:=val_take_drop (us.drop j) n (by rw[List.length_drop];omega)
 rwa [List.drop_drop] at this
theorem window0 {R x B R1 V M W P:Nat} (h1:R=x+B*R1) (h2:x<B) (h3:B*V≤M) (hR:R1<V) (h4:R=W+M*P):R=W∧P=0∧W<B*V:=by
 have h5:B*R1+B≤B*V:=by rw[← Nat.mul_succ];exact Nat.mul_le_mul_left B hR
 have h7:P=0:=by
  rcases Nat.eq_zero_or_pos P with h | h
  ·exact h
  ·have:=Nat.le_mul_of_pos_right M h
   omega
 subst h7
 omega
theorem base_mul {V n:Nat} (h:V<4294967296 ^ n):4294967296*V≤4294967296 ^ (n+1):=by
 rw[Nat.pow_succ,Nat.mul_comm]
 exact Nat.mul_le_mul_right _ (Nat.le_of_lt h)
theorem window {us vs:List Nat} {j:Nat} (hu:Lt32 us) (hv:Lt32 vs) (hj:j+(vs.length+1)≤us.length) (hR:val (us.drop (j+1))<val vs) :
  val (us.drop j)=val ((us.drop j).take (vs.length+1))∧val (us.drop (j+(vs.length+1)))=0∧val ((us.drop j).take (vs.length+1))<4294967296*val vs :=
 window0 (drop_step us (by omega)) (hu.nth j) (base_mul (val_lt hv)) hR (drop_parts us hj)
theorem cut_window (us:List Nat) (j n:Nat):us=us.take j++(us.drop j).take n++us.drop (j+n):=by
 conv=>lhs;rw[← List.take_append_drop j us,← List.take_append_drop n (us.drop j),List.drop_drop,← List.append_assoc]
theorem quot_step {us u0 qs ys:List Nat} {V j n x:Nat} (hj:j+n≤us.length) (hn:0<n) (hl:us.length=u0.length) (hq:j<qs.length) (ht:us.take (j+1)=u0.take (j+1)) (hz:val (us.drop (j+n))=0)
  (h:val (u0.drop (j+1))=val (qs.drop (j+1))*V+val (us.drop (j+1))) (hx:val (us.drop j)=x*V+val ys) :
  (us.take j++ys++us.drop (j+n)).take j=u0.take j∧val ((us.take j++ys++us.drop (j+n)).drop j)=val ys ∧
  val (u0.drop j)=val ((qs.set j x).drop j)*V+val ((us.take j++ys++us.drop (j+n)).drop j):=by
 have hlen:(us.take j).length=j:=by simp;omega
 have e1:(us.take j++ys++us.drop (j+n)).drop j=ys++us.drop (j+n):=by
  rw[List.append_assoc,List.drop_append,List.drop_of_length_le (by omega),hlen,Nat.sub_self];rfl
 have e2:val (ys++us.drop (j+n))=val ys:=by rw[val_append,hz];omega
 refine⟨?_,by rw[e1,e2],?_⟩
 ·rw[List.append_assoc,List.take_append_of_le_length (by omega),List.take_take,Nat.min_self]
  have:=congrArg (List.take j) ht
  rwa [List.take_take,List.take_take,Nat.min_eq_left (by omega)] at this
 have h1:val (us.drop j)=nth us j+4294967296*val (us.drop (j+1)):=by rw[drop_eq_nth (by omega),val_cons]
 have h2:val (u0.drop j)=nth u0 j+4294967296*val (u0.drop (j+1)):=by rw[drop_eq_nth (by omega),val_cons]
 have h3:nth us j=nth u0 j:=by
  rw[← nth_take (xs:=us) (show j<j+1 by omega),ht,nth_take (by omega)]
 have h4:(qs.set j x).drop j=x::qs.drop (j+1):=by
  rw[set_eq_take_drop hq,List.drop_append,List.drop_of_length_le (by simp;omega)]
  simp[Nat.min_eq_left (by omega:j≤qs.length)]
 rw[e1,e2,h4,val_cons,h2,h,Nat.add_mul,Nat.mul_add,Nat.mul_assoc]
 generalize val (qs.drop (j+1))*V=A at *
 omega
theorem norm_len {n s:Nat} (h:1≤(limbs n).length) (hs:s=32-bits (nth (limbs n) ((limbs n).length-1))) :
  (limbs (n*2 ^ s)).length=(limbs n).length∧4294967296 ^ ((limbs n).length-1)*2 ^ 31≤n*2 ^ s∧0<nth (limbs (n*2 ^ s)) ((limbs n).length-1):=by
 have h0:n≠0:=fun k=>by subst k;rw[limbs_zero] at h;simp at h
 obtain⟨us,x,e1,hx,hx2,hu,hb,hn⟩:=limbs_snoc h0
 have hl:(limbs n).length=us.length+1:=by rw[e1];simp
 rw[hl,Nat.add_sub_cancel,hn] at hs
 have hbx:=bits_le.2 (show x<2 ^ 32 from hx2)
 have hbp:=bits_pos hx
 have hB:bits (n*2 ^ s)=32*(us.length+1):=by rw[bits_mul_pow h0,hb];omega
 have hne:n*2 ^ s≠0:=Nat.mul_ne_zero h0 (two_pow_ne s)
 have hlow:=two_pow_le_of_bits hne
 rw[hB] at hlow
 have e2:4294967296 ^ us.length*2 ^ 31=2 ^ (32*(us.length+1)-1):=by
  rw[pow32,← Nat.pow_add];congr 1
 have hlen:(limbs (n*2 ^ s)).length=us.length+1:=by
  refine Nat.le_antisymm (limbs_len_bits (Nat.le_of_eq hB)) ?_
  rcases Nat.lt_or_ge (limbs (n*2 ^ s)).length (us.length+1) with h1 | h1
  ·exfalso
   have h2:=limbs_length_le.1 (show (limbs (n*2 ^ s)).length≤us.length by omega)
   rw[pow32] at h2
   have h3:=(Nat.pow_lt_pow_iff_right (by decide:1<2)).1 (Nat.lt_of_le_of_lt hlow h2)
   omega
  ·exact h1
 refine⟨by rw[hlen,hl],by rw[hl,Nat.add_sub_cancel,e2];exact hlow,?_⟩
 have:=top_nth (limbs_top (n*2 ^ s)) (by omega)
 rw[hlen,Nat.add_sub_cancel] at this
 rw[hl,Nat.add_sub_cancel]
 omega
theorem first_rest {u0:List Nat} {m V s N l:Nat} (hl:u0.length=l+1) (hv:val u0=m*2 ^ s) (hm:m<4294967296 ^ l) (hs:s≤31) (hN:1≤N) (hNl:N≤l) (hV:4294967296 ^ (N-1)*2 ^ 31≤V):val (u0.drop (l+1-N))<V:=by
 have h1:=val_take_drop u0 (l+1-N) (by omega)
 refine Nat.lt_of_lt_of_le ?_ hV
 have h2:m*2 ^ s<4294967296 ^ (l+1-N)*(4294967296 ^ (N-1)*2 ^ 31):=by
  rw[← Nat.mul_assoc,← Nat.pow_add,show l+1-N+(N-1)=l by omega]
  exact Nat.lt_of_lt_of_le (Nat.mul_lt_mul_of_pos_right hm (two_pow_pos s)) (Nat.mul_le_mul_left _ (Nat.pow_le_pow_right (by decide) hs))
 rw[hv] at h1
 generalize 4294967296 ^ (N-1)*2 ^ 31=Q at *
 generalize 4294967296 ^ (l+1-N)=P at *
 rcases Nat.lt_or_ge (val (u0.drop (l+1-N))) Q with h | h
 ·exact h
 have:=Nat.mul_le_mul_left P h
 omega
theorem take_all {us:List Nat} {V N:Nat} (h:val us<V) (hV:V<4294967296 ^ N) (hN:N≤us.length):val (us.take N)=val us:=by
 have h1:=val_take_drop us N hN
 generalize 4294967296 ^ N=P at *
 rcases Nat.eq_zero_or_pos (val (us.drop N)) with h2 | h2
 ·rw[h2] at h1;omega
 have:=Nat.le_mul_of_pos_right P h2
 omega
theorem div_end {m n s Q R U:Nat} (hn:0<n) (hU:U=m*2 ^ s) (hR:R<n*2 ^ s) (h:U=Q*(n*2 ^ s)+R):Q=m/n∧R/2 ^ s=m % n:=by
 have hp:=two_pow_pos s
 have hV:0<n*2 ^ s:=Nat.mul_pos hn hp
 have h1:=(Nat.div_mod_unique (a:=m*2 ^ s) (c:=R) (d:=Q) hV).2 ⟨by rw[← hU,h,Nat.mul_comm];omega,hR⟩
 rw[Nat.mul_div_mul_right _ _ hp,Nat.mul_mod_mul_right] at h1
 refine⟨h1.1.symm,?_⟩
 rw[← h1.2,Nat.mul_div_cancel _ hp]
def DivInv (u0 ul qs:List Nat) (V k:Nat):Prop :=
 ul.length=u0.length∧Lt32 ul∧Lt32 qs∧ul.take k=u0.take k∧val (ul.drop k)<V∧val (u0.drop k)=val (qs.drop k)*V+val (ul.drop k)
theorem back_last {ys zs vn:List Nat} {cy N:Nat} (hl:zs.length=N+1) (hyl:ys.length=zs.length) (hvn:vn.length=N) (h:val (ys.take N)+4294967296 ^ N*cy=val (zs.take N)+val (vn.take N)) :
  val (ys.set N ((nth zs N+cy) % 4294967296))+4294967296 ^ (N+1)*((nth zs N+cy)/4294967296)=val zs+val vn:=by
 rw[List.take_of_length_le (by omega:vn.length≤N)] at h
 have h1:=val_take_step zs N
 rw[List.take_of_length_le (by omega:zs.length≤N+1)] at h1
 rw[val_set_last (by omega),h1,Nat.pow_succ,Nat.mul_assoc]
 generalize 4294967296 ^ N=P at *
 have e2:P*(nth zs N+cy)=P*nth zs N+P*cy:=by rw[Nat.mul_add]
 generalize nth zs N+cy=s at *
 have e:P*(s % 4294967296)+P*(4294967296*(s/4294967296))=P*s:=by
  rw[← Nat.mul_add];congr 1;omega
 omega
theorem inv_next {u0 ul qs pre ws ys post:List Nat} {V x:Nat} (hi:DivInv u0 ul qs V (pre.length+1)) (hpar:Lt32 pre∧Lt32 post∧pre.length+ws.length+post.length=u0.length) (hyl:ys.length=ws.length) (hy:Lt32 ys) (hx:x<4294967296)
  (hstep:∀ x ys,val (ul.drop pre.length)=x*V+val ys→(pre++ys++post).take pre.length=u0.take pre.length∧val ((pre++ys++post).drop pre.length)=val ys∧val (u0.drop pre.length)=val ((qs.set pre.length x).drop pre.length)*V+val ((pre++ys++post).drop pre.length))
  (hU:val (ul.drop pre.length)=val ws) (hV:0<V) (hq:x=val ws/V) (hr:val ys=val ws % V):DivInv u0 (pre++ys++post) (qs.set pre.length x) V pre.length:=by
 have h1:=Nat.div_add_mod (val ws) V
 have h2:=Nat.mod_lt (val ws) hV
 obtain⟨a,b,c⟩:=hstep x ys (by rw[hU,hq,hr,Nat.mul_comm];exact h1.symm)
 exact⟨by simp[hyl];omega,(hpar.1.append hy).append hpar.2.1,hi.2.2.1.set _ _ hx,a,by rw[b,hr];exact h2,c⟩
end
end Go.Proofs.YteidgoldnllabaaGreatDoor
