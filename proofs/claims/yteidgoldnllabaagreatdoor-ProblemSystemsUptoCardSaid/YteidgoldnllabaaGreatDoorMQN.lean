/-
  Plain: rational numbers: powers of two, absolute values; no program in sight.
-/
import Derived.Test.YteidgoldnllabaaGreatDoorMEqfR
import Derived.Deep.CutRange
import Derived.Test.YteidgoldnllabaaGreatDoorMRchN
import Derived.Test.YteidgoldnllabaaGreatDoorMCmpR
import Derived.Test.YteidgoldnllabaaGreatDoorMIncP
import Derived.Deep.DeepFit
import Derived.Test.YteidgoldnllabaaGreatDoorMR2F
import Derived.Test.YteidgoldnllabaaGreatDoorMR7V
import Derived.Test.YteidgoldnllabaaGreatDoorMDotM
namespace Go.Proofs.YteidgoldnllabaaGreatDoor
open Go.RowKit
section
def e2 (e:Int):Rat:=(2:Rat) ^ e
theorem e2_pos (e:Int):0<e2 e:=Rat.zpow_pos (by decide)
theorem e2_add (a b:Int):e2 (a+b)=e2 a*e2 b:=Rat.zpow_add (by decide) a b
theorem e2_zero:e2 0=1:=Rat.zpow_zero _
theorem e2_one:e2 1=2:=Rat.zpow_one _
theorem e2_nat (n:Nat):e2 (n:Int)=((2 ^ n:Nat):Rat):=by
 unfold e2
 rw[Rat.zpow_natCast,Rat.natCast_pow];rfl
theorem e2_int (n:Nat):e2 (n:Int)=(((2:Int) ^ n:Int):Rat):=by
 unfold e2
 rw[Rat.zpow_natCast,Rat.intCast_pow];rfl
theorem e2_ge_one {a:Int} (h:0≤a):1≤e2 a:=by
 obtain⟨n,rfl⟩:=Int.eq_ofNat_of_zero_le h
 rw[e2_nat]
 have:((1:Nat):Rat)≤((2 ^ n:Nat):Rat):=Rat.natCast_le_natCast.2 (Nat.pow_pos (by decide))
 exact this
theorem e2_le {a b:Int} (h:a≤b):e2 a≤e2 b:=by
 have h1:=e2_ge_one (show 0≤b-a by omega)
 have h2:=e2_pos a
 have h3:e2 b=e2 a*e2 (b-a):=by rw[← e2_add];congr 1;omega
 have h4:=Rat.mul_le_mul_of_nonneg_left h1 (Rat.le_of_lt h2)
 rw[h3];grind
def ab (x:Rat):Rat:=if 0≤x then x else -x
theorem ab_of_nonneg {x:Rat} (h:0≤x):ab x=x:=if_pos h
theorem ab_le {x y:Rat}:ab x≤y↔-y≤x∧x≤y:=by unfold ab;split <;> grind
theorem ab_neg (x:Rat):ab (-x)=ab x:=by unfold ab;grind
theorem int_le_rat {a b:Int}:(a:Rat)≤(b:Rat)↔a≤b:=Rat.intCast_le_intCast
def qv (d:Dy):Rat:=(d.iv:Rat)*e2 (-16384)
theorem qv_zero:qv .zero=0:=by unfold qv;rw[Dy.iv_zero];exact Rat.zero_mul _
theorem qv_opp (d:Dy):qv d.opp=-qv d:=by unfold qv;rw[Dy.opp_iv,Rat.intCast_neg,Rat.neg_mul]
theorem qv_eq_zero {d:Dy}:qv d=0↔d.m=0:=by
 rw[← Dy.iv_eq_zero]
 unfold qv
 have h:=e2_pos (-16384)
 constructor
 ·intro h1
  have h2:(d.iv:Rat)=0:=by grind
  exact Rat.intCast_eq_zero_iff.1 h2
 intro h1;rw[h1];exact Rat.zero_mul _
theorem qv_sg {d:Dy} (h:-16384≤d.e):qv d=(sg d.neg d.m:Rat)*e2 d.e:=by
 unfold qv
 rw[iv_sg,Rat.intCast_mul]
 have:(((2:Int) ^ (d.e+16384).toNat:Int):Rat)=e2 (d.e+16384):=by
  rw[← e2_int];congr 1;omega
 rw[this,Rat.mul_assoc,← e2_add]
 congr 2;omega
theorem qv_canon {n:Nat} {u:Int} (h:-16384≤u):qv (canon false n u)=(n:Rat)*e2 u:=by
 unfold qv
 rw[canon_iv _ _ _ h]
 have h1:sg false (n*2 ^ (u+16384).toNat)=(n:Int)*(2:Int) ^ (u+16384).toNat:=by
  unfold sg;rw[if_neg (by decide)];push_cast;rfl
 rw[h1,Rat.intCast_mul]
 have:(((2:Int) ^ (u+16384).toNat:Int):Rat)=e2 (u+16384):=by
  rw[← e2_int];congr 1;omega
 rw[this,Rat.mul_assoc,← e2_add]
 rw[show u+16384 + -16384=u from by omega];rfl
theorem qv_int (n:Int):qv (intD n)=(n:Rat):=by
 unfold qv
 rw[intD_iv,Rat.intCast_mul]
 have:(((2:Int) ^ 16384:Int):Rat)=e2 ((16384:Nat):Int):=(e2_int 16384).symm
 generalize (2:Int) ^ 16384=Q at *
 rw[this,Rat.mul_assoc,← e2_add]
 show (n:Rat)*e2 0=n
 rw[e2_zero,Rat.mul_one]
section
variable {m:Nat} {e:Int} {more up:Bool} {p:Nat} {y:Rat}
theorem runit_e2 (hm:m≠0) (h0:(m:Rat)*e2 e≤y):e2 (runit m e p)≤y*e2 (1-p)+e2 (-16384):=by
 have hy:0≤y:=Rat.le_trans (Rat.mul_nonneg Rat.natCast_nonneg (Rat.le_of_lt (e2_pos e))) h0
 have a1:=e2_pos (-16384)
 have a2:=Rat.mul_nonneg hy (Rat.le_of_lt (e2_pos (1-(p:Int))))
 unfold runit
 by_cases h:e+bits m-p≤-16384
 ·rw[Int.max_eq_right h];grind
 rw[Int.max_eq_left (by omega)]
 have hb:0<bits m:=bits_pos hm
 have h1:e2 (e+bits m-p)=e2 e*e2 ((bits m-1:Nat):Int)*e2 (1-p):=by
  rw[← e2_add,← e2_add];congr 1;omega
 have h2:e2 ((bits m-1:Nat):Int)≤(m:Rat):=by
  rw[e2_nat];exact Rat.natCast_le_natCast.2 (two_pow_le_of_bits hm)
 have h3:=Rat.mul_le_mul_of_nonneg_left h2 (Rat.le_of_lt (e2_pos e))
 have h4:e2 e*e2 ((bits m-1:Nat):Int)≤y:=by grind
 have h5:=Rat.mul_le_mul_of_nonneg_right h4 (Rat.le_of_lt (e2_pos (1-(p:Int))))
 rw[h1];grind
theorem rlow_q (hmo:more=true→p<bits m) (h1:more=false→y=(m:Rat)*e2 e) (h2:(m:Rat)*e2 e≤y∧y≤((m:Rat)+1)*e2 e) :
  (rlow m e (runit m e p):Rat)*e2 (runit m e p)≤y∧y≤((rlow m e (runit m e p):Rat)+1)*e2 (runit m e p)∧((more||rlost m e (runit m e p))=false→y=(rlow m e (runit m e p):Rat)*e2 (runit m e p)):=by
 have hu:more=true→e<runit m e p:=fun h=>by have:=hmo h;unfold runit;omega
 generalize runit m e p=u at *
 have pu:=e2_pos u
 by_cases hue:u≤e
 ·have hm:more=false:=by
   cases more with
   | false=>rfl
   | true=>have:=hu rfl;omega
  have e1:(rlow m e u:Rat)*e2 u=(m:Rat)*e2 e:=by
   unfold rlow
   rw[if_pos hue,Rat.natCast_mul,← e2_nat,Rat.mul_assoc,← e2_add]
   congr 2;omega
  rw[h1 hm,e1]
  refine⟨Rat.le_refl,?_,fun _=>rfl⟩
  rw[Rat.add_mul,e1];grind
 have hD:e2 u=((2 ^ (u-e).toNat:Nat):Rat)*e2 e:=by
  rw[← e2_nat,← e2_add];congr 1;omega
 have hpD:=two_pow_pos (u-e).toNat
 have hq:rlow m e u=m/2 ^ (u-e).toNat:=by unfold rlow;rw[if_neg hue]
 have hl:rlost m e u=!decide (m % 2 ^ (u-e).toNat=0):=by
  unfold rlost;rw[decide_eq_false hue];rfl
 rw[hq,hl,hD]
 generalize 2 ^ (u-e).toNat=D at *
 have d1:=Nat.div_add_mod m D
 have d2:=Nat.mod_lt m hpD
 have pe:=e2_pos e
 have k1:((m/D:Nat):Rat)*(D:Rat)≤(m:Rat):=by
  rw[← Rat.natCast_mul];exact Rat.natCast_le_natCast.2 (Nat.div_mul_le_self m D)
 have k2:(m:Rat)+1≤(((m/D:Nat):Rat)+1)*(D:Rat):=by
  have:m+1≤(m/D+1)*D:=by rw[Nat.add_mul,Nat.one_mul,Nat.mul_comm];omega
  have:=Rat.natCast_le_natCast.2 this
  rw[Rat.natCast_mul,Rat.natCast_add,Rat.natCast_add] at this
  exact this
 have k3:=Rat.mul_le_mul_of_nonneg_right k1 (Rat.le_of_lt pe)
 have k4:=Rat.mul_le_mul_of_nonneg_right k2 (Rat.le_of_lt pe)
 refine⟨by grind,by grind,fun h=>?_⟩
 rw[Bool.or_eq_false_iff,Bool.not_eq_false',decide_eq_true_eq] at h
 have h3:=h1 h.1
 have k5:((m/D:Nat):Rat)*(D:Rat)=(m:Rat):=by
  rw[← Rat.natCast_mul,Nat.mul_comm]
  have:D*(m/D)=m:=by omega
  rw[this]
 rw[h3,← k5];grind
theorem rcut_q (hp:8≤p) (hp2:p≤4096) (hm:m≠0) (hmo:more=true→p<bits m) (h1:more=false→y=(m:Rat)*e2 e) (h2:(m:Rat)*e2 e≤y∧y≤((m:Rat)+1)*e2 e) :
  (∀ d,rcut m e more p up=some d→0≤qv d∧(up=false→qv d≤y)∧(up=true→y≤qv d)∧(y≤e2 16000→ab (qv d-y)≤y*e2 (1-p)+e2 (-16384)))∧(y≤e2 16000∨up=false→rcut m e more p up≠none):=by
 obtain⟨a1,a2,a3⟩:=rlow_q hmo h1 h2
 have a4:=runit_e2 (p:=p) hm h2.1
 have hum:-16384≤runit m e p:=runit_ge
 have pu:=e2_pos (runit m e p)
 have hq:∃ q:Nat,q=rq m e more p up∧(up=false→(q:Rat)*e2 (runit m e p)≤y)∧(up=true→y≤(q:Rat)*e2 (runit m e p))∧ab ((q:Rat)*e2 (runit m e p)-y)≤e2 (runit m e p):=by
  refine⟨_,rfl,?_⟩
  unfold rq
  cases up with
  | false =>
   rw[if_neg (by simp)]
   refine⟨fun _=>a1,fun h=>(by cases h),ab_le.2 ⟨by grind,by grind⟩⟩
  | true =>
   cases hl:(more||rlost m e (runit m e p)) with
   | true =>
    rw[if_pos (by simp),Rat.natCast_add]
    refine⟨fun h=>(by cases h),fun _=>a2,ab_le.2 ⟨?_,?_⟩⟩
    ·have:((1:Nat):Rat)=1:=rfl
     rw[this];grind
    ·have:((1:Nat):Rat)=1:=rfl
     rw[this];grind
   | false =>
    rw[if_neg (by simp)]
    have:=a3 hl
    refine⟨fun h=>(by cases h),fun _=>by rw[← this];exact Rat.le_refl,ab_le.2 ⟨by grind,by grind⟩⟩
 obtain⟨q,rfl,q1,q2,q3⟩:=hq
 have hy:0≤y:=Rat.le_trans (Rat.mul_nonneg Rat.natCast_nonneg (Rat.le_of_lt (e2_pos e))) h2.1
 have big:((bits (rq m e more p up):Int)+runit m e p > 16384)→e2 16384≤(rq m e more p up:Rat)*e2 (runit m e p):=by
  intro hb
  have h0:rq m e more p up≠0:=by
   intro h0
   rw[h0,bits_zero] at hb
   have h5:rlow m e (runit m e p)=0:=by
    unfold rq at h0
    split at h0
    ·omega
    ·exact h0
   unfold runit at hb h5 hum
   by_cases h6:e+bits m-p≤-16384
   ·rw[Int.max_eq_right h6] at hb;omega
   ·rw[Int.max_eq_left (by omega)] at hb h5
    have h7:=two_pow_le_of_bits hm
    unfold rlow at h5
    split at h5
    ·rcases Nat.mul_eq_zero.1 h5 with h8 | h8
     ·exact hm h8
     ·exact two_pow_ne _ h8
    ·next h9 =>
     have h10:2 ^ (e+bits m-p-e).toNat≤m:=Nat.le_trans (Nat.pow_le_pow_right (by decide) (by omega)) h7
     have:=Nat.div_pos h10 (two_pow_pos _)
     omega
  have h3:=two_pow_le_of_bits h0
  have h4:e2 ((bits (rq m e more p up)-1:Nat):Int)≤(rq m e more p up:Rat):=by
   rw[e2_nat];exact Rat.natCast_le_natCast.2 h3
  have h5:=Rat.mul_le_mul_of_nonneg_right h4 (Rat.le_of_lt pu)
  rw[← e2_add] at h5
  exact Rat.le_trans (e2_le (by omega)) h5
 have small:y≤e2 16000→¬ ((bits (rq m e more p up):Int)+runit m e p > 16384):=by
  intro hy2 hb
  have h3:=big hb
  have h4:e2 (1-(p:Int))≤1:=by rw[← e2_zero];exact e2_le (by omega)
  have h5:=Rat.mul_le_mul_of_nonneg_left h4 hy
  have h6:=(ab_le.1 q3).2
  have h7:e2 16384=e2 16000*e2 384:=by rw[show (16384:Int)=16000+384 from rfl,e2_add]
  have h8:(4:Rat)≤e2 384:=by
   have:e2 2≤e2 384:=e2_le (by decide)
   have h9:e2 2=4:=by rw[show (2:Int)=1+1 from rfl,e2_add,e2_one];decide +kernel
   rw[h9] at this;exact this
  have h10:=Rat.mul_le_mul_of_nonneg_left h8 (Rat.le_of_lt (e2_pos 16000))
  have h11:e2 (-16384)≤e2 16000:=e2_le (by decide)
  have h12:=e2_pos 16000
  grind
 refine⟨fun d hd=>?_,fun hs=>?_⟩
 ·unfold rcut at hd
  split at hd
  rotate_left
  ·cases hd
   rw[qv_canon hum]
   refine⟨Rat.mul_nonneg Rat.natCast_nonneg (Rat.le_of_lt pu),q1,q2,fun _=>Rat.le_trans q3 a4⟩
  next hb =>
  split at hd
  ·cases hd
  next hu =>
  cases hd
  have h3:=big hb
  have hv:qv (canon false (2 ^ p-1) (16384-p))≤e2 16384:=by
   rw[qv_canon (by omega)]
   have h4:((2 ^ p-1:Nat):Rat)≤e2 (p:Int):=by
    rw[e2_nat];exact Rat.natCast_le_natCast.2 (Nat.sub_le _ _)
   have h5:=Rat.mul_le_mul_of_nonneg_right h4 (Rat.le_of_lt (e2_pos (16384-(p:Int))))
   rw[← e2_add,show (p:Int)+(16384-p)=16384 from by omega] at h5
   exact h5
  have hup:up=false:=by cases up with | false=>rfl | true=>exact absurd rfl hu
  refine⟨?_,fun _=>Rat.le_trans hv (Rat.le_trans h3 (q1 hup)),fun h=>absurd h hu,fun hy2=>absurd hb (small hy2)⟩
  rw[qv_canon (by omega)]
  exact Rat.mul_nonneg Rat.natCast_nonneg (Rat.le_of_lt (e2_pos _))
 unfold rcut
 split
 ·next hb =>
  rcases hs with hs | hs
  ·exact absurd hb (small hs)
  rw[if_neg (by rw[hs];decide)];exact fun h=>by cases h
 exact fun h=>by cases h
end
def rdq (y:Rat) (p:Nat) (up:Bool) (r:Option Dy):Prop :=
 (∀ d,r=some d→(up=false→qv d≤y)∧(up=true→y≤qv d)∧(ab y≤e2 16000→ab (qv d-y)≤ab y*e2 (1-p)+e2 (-16384)))∧(ab y≤e2 16000→r≠none)
theorem rdq.opp {y:Rat} {p:Nat} {up:Bool} {r:Option Dy} (h:rdq y p (!up) r):rdq (-y) p up (r.map Dy.opp):=by
 obtain⟨h1,h2⟩:=h
 refine⟨fun d hd=>?_,fun hy=>?_⟩
 ·cases hr:r with
  | none=>rw[hr] at hd;cases hd
  | some x =>
  rw[hr] at hd;cases hd
  obtain⟨a,b,c⟩:=h1 x hr
  rw[qv_opp]
  refine⟨fun h=>?_,fun h=>?_,fun h=>?_⟩
  ·have:=b (by rw[h];rfl);grind
  ·have:=a (by rw[h];rfl);grind
  rw[ab_neg] at h ⊢
  have:=c h
  rw[show -qv x - -y=-(qv x-y) from by grind,ab_neg];exact this
 rw[ab_neg] at hy
 have:=h2 hy
 cases r with
 | some x=>exact fun h=>by cases h
 | none=>exact absurd rfl this
theorem rdq_rcut {m:Nat} {e:Int} {more up:Bool} {p:Nat} {y:Rat} (hp:8≤p) (hp2:p≤4096) (hm:m≠0) (hmo:more=true→p<bits m) (h1:more=false→y=(m:Rat)*e2 e) (h2:(m:Rat)*e2 e≤y∧y≤((m:Rat)+1)*e2 e):rdq y p up (rcut m e more p up):=by
 have hy:0≤y:=Rat.le_trans (Rat.mul_nonneg Rat.natCast_nonneg (Rat.le_of_lt (e2_pos e))) h2.1
 obtain⟨a,b⟩:=rcut_q (up:=up) hp hp2 hm hmo h1 h2
 unfold rdq
 rw[ab_of_nonneg hy]
 exact⟨fun d hd=>(a d hd).2,fun h=>b (.inl h)⟩
theorem rdq_zero (p:Nat) (up:Bool):rdq 0 p up (some .zero):=by
 refine⟨fun d hd=>?_,fun _ h=>by cases h⟩
 cases hd
 rw[qv_zero]
 refine⟨fun _=>Rat.le_refl,fun _=>Rat.le_refl,fun _=>?_⟩
 have:=e2_pos (-16384)
 have:=e2_pos (1-(p:Int))
 rw[show (0:Rat)-0=0 from by grind,ab_of_nonneg Rat.le_refl];grind
theorem rdq_rndS {s:Bool} {m:Nat} {e:Int} {more up:Bool} {p:Nat} {y:Rat} (hp:8≤p) (hp2:p≤4096) (hm:m≠0) (hmo:more=true→p<bits m) (h1:more=false→y=(m:Rat)*e2 e) (h2:(m:Rat)*e2 e≤y∧y≤((m:Rat)+1)*e2 e):rdq (if s then -y else y) p up (rndS s m e more p up):=by
 unfold rndS sgnR
 cases s with
 | true =>
  have:=(rdq_rcut (up:=!up) hp hp2 hm hmo h1 h2).opp
  simpa using this
 | false =>
 have:=rdq_rcut (up:=up) hp hp2 hm hmo h1 h2
 simpa using this
theorem rdq_quo {s:Bool} {m n:Nat} {e:Int} {p:Nat} (up:Bool) {K:Nat} (hp:8≤p) (hp2:p≤4096) (hm:m≠0) (hn:n≠0) (hK:p+1+bits n≤bits m+K) :
  rdq (if s then -((m:Rat)/n*e2 e) else (m:Rat)/n*e2 e) p up (quoR s m n e p up K):=by
 unfold quoR
 have hb:p<bits (m*2 ^ K/n):=by
  have:=bits_quo hn (p+1) (a:=m*2 ^ K) (by rw[bits_mul_pow hm];omega) (by omega)
  omega
 have hq0:m*2 ^ K/n≠0:=fun h=>by rw[h,bits_zero] at hb;omega
 have hnR:(0:Rat)<(n:Rat):=Rat.natCast_pos.2 (by omega)
 have pe:=e2_pos (e-K)
 have hpe:e2 e=e2 (e-K)*((2 ^ K:Nat):Rat):=by rw[← e2_nat,← e2_add];congr 1;omega
 have d1:=Nat.div_add_mod (m*2 ^ K) n
 have d2:=Nat.mod_lt (m*2 ^ K) (Nat.pos_of_ne_zero hn)
 have f:(m:Rat)/n*e2 e*n=((m*2 ^ K:Nat):Rat)*e2 (e-K):=by
  rw[Rat.natCast_mul,hpe]
  grind
 refine rdq_rndS hp hp2 hq0 (fun _=>hb) (fun h=>?_) ⟨?_,?_⟩
 ·have h0:m*2 ^ K % n=0:=by
   rw[decide_eq_false_iff_not] at h
   exact Classical.byContradiction fun k=>h (bits_pos k)
  have h3:((m*2 ^ K:Nat):Rat)=((m*2 ^ K/n:Nat):Rat)*n:=by
   rw[← Rat.natCast_mul,Nat.mul_comm (m*2 ^ K/n)]
   congr 1;omega
  rw[h3] at f
  generalize ((m*2 ^ K/n:Nat):Rat)=Q at *
  grind
 ·have h3:((m*2 ^ K/n:Nat):Rat)*n≤((m*2 ^ K:Nat):Rat):=by
   rw[← Rat.natCast_mul];exact Rat.natCast_le_natCast.2 (Nat.div_mul_le_self _ _)
  have h4:=Rat.mul_le_mul_of_nonneg_right h3 (Rat.le_of_lt pe)
  refine Rat.le_of_mul_le_mul_right ?_ hnR
  rw[f];grind
 have h3:((m*2 ^ K:Nat):Rat)≤(((m*2 ^ K/n:Nat):Rat)+1)*n:=by
  have:m*2 ^ K≤(m*2 ^ K/n+1)*n:=by rw[Nat.add_mul,Nat.one_mul,Nat.mul_comm (m*2 ^ K/n)];omega
  have:=Rat.natCast_le_natCast.2 this
  rw[show (((m*2 ^ K/n+1)*n:Nat):Rat)=(((m*2 ^ K/n:Nat):Rat)+1)*n from by rw[Rat.natCast_mul,Rat.natCast_add];rfl] at this
  exact this
 have h4:=Rat.mul_le_mul_of_nonneg_right h3 (Rat.le_of_lt pe)
 refine Rat.le_of_mul_le_mul_right ?_ hnR
 rw[f];grind
theorem sg_rat (s:Bool) (n:Nat):((sg s n:Int):Rat)=if s then -(n:Rat) else (n:Rat):=by
 unfold sg
 cases s with
 | true=>simp only[if_true];rw[Rat.intCast_neg];rfl
 | false=>rfl
theorem dvP_q {d f:Dy} (hd:d.ok) (hf:f.ok) {p:Nat} (hp:8≤p) (hp2:p≤512) (up:Bool) (hfz:qv f≠0):∃ r,dvP d f p up=rndE r∧rdq (qv d/qv f) p up r:=by
 have hfm:f.m≠0:=fun h=>hfz (qv_eq_zero.2 h)
 unfold dvP
 rw[if_neg hfm]
 split
 ·next hm =>
  refine⟨some .zero,rfl,?_⟩
  have:qv d/qv f=0:=by rw[qv_eq_zero.2 hm];grind
  rw[this];exact rdq_zero p up
 next hm =>
 refine⟨_,rfl,?_⟩
 have:=rdq_quo (s:=d.neg != f.neg) (e:=d.e-f.e) up hp (show p≤4096 by omega) hm hfm (K:=((p:Int)+(2:Nat)+bits f.m-bits d.m).toNat) (by omega)
 have e1:qv d/qv f=if (d.neg != f.neg)=true then -((d.m:Rat)/f.m*e2 (d.e-f.e)) else (d.m:Rat)/f.m*e2 (d.e-f.e):=by
  rw[qv_sg (ok_e hd).1,qv_sg (ok_e hf).1,sg_rat,sg_rat]
  have h1:=e2_pos f.e
  have h2:e2 d.e=e2 (d.e-f.e)*e2 f.e:=by rw[← e2_add];congr 1;omega
  have h3:(f.m:Rat)≠0:=fun h=>hfm (Rat.natCast_eq_zero_iff.1 h)
  rw[h2]
  generalize (d.m:Rat)=M at *
  generalize (f.m:Rat)=N at *
  generalize e2 (d.e-f.e)=A at *
  generalize e2 f.e=B at *
  cases d.neg <;> cases f.neg <;> simp <;> grind
 rw[e1];exact this
theorem rndE_rdq {y:Rat} {p:Nat} {up:Bool} {r:Option Dy} (h:rdq y p up r):((rndE r).2=0→(up=false→qv (rndE r).1≤y)∧(up=true→y≤qv (rndE r).1))∧(ab y≤e2 16000→(rndE r).2=0∧ab (qv (rndE r).1-y)≤ab y*e2 (1-p)+e2 (-16384)):=by
 obtain⟨h1,h2⟩:=h
 cases r with
 | none=>exact⟨fun h=>(by cases h),fun hy=>absurd rfl (h2 hy)⟩
 | some d =>
 obtain⟨a,b,c⟩:=h1 d rfl
 exact⟨fun _=>⟨a,b⟩,fun hy=>⟨rfl,c hy⟩⟩
end
section
open Go.RowKit Go.Sort
end
section
open Go.RowKit Go.Sort
end
theorem intD_small {n:Int} (hn:-1073741824≤n∧n≤1073741824):(intD n).ok :=
 (intD_isP (p := 40) (by decide) (by decide) (by have : (2 : Nat) ^ 40 = 1099511627776 := by decide
                                                 omega)).1
theorem div_small {n d:Int} (hn:-1073741824≤n∧n≤1073741824) (hd:1≤d):ab ((n:Rat)/(d:Rat))≤e2 16000:=by
 have h1:(1:Rat)≤(d:Rat):=by have:=int_le_rat.2 hd;simpa using this
 have h2:e2 30≤e2 16000:=e2_le (by decide)
 have h3:e2 30=((1073741824:Int):Rat):=by rw[show (30:Int)=((30:Nat):Int) from rfl,e2_int];rfl
 have h4:=int_le_rat.2 hn.1
 have h5:=int_le_rat.2 hn.2
 rw[Rat.intCast_neg] at h4
 have hi:(0:Rat)<(d:Rat)⁻¹:=Rat.inv_pos.2 (by grind)
 have hm:(d:Rat)*(d:Rat)⁻¹=1:=Rat.mul_inv_cancel _ (by grind)
 rw[Rat.div_def]
 generalize (d:Rat)⁻¹=i at *
 generalize (d:Rat)=D at *
 generalize (n:Rat)=M at *
 have hi1:i≤1:=by
  have:=Rat.mul_le_mul_of_nonneg_right h1 (Rat.le_of_lt hi)
  grind
 rw[ab_le]
 rw[← h3] at h4 h5
 generalize e2 30=E at *
 generalize e2 16000=F at *
 have hE:0≤E:=by grind
 have a1:=Rat.mul_le_mul_of_nonneg_right h5 (Rat.le_of_lt hi)
 have a2:=Rat.mul_le_mul_of_nonneg_right h4 (Rat.le_of_lt hi)
 have a3:=Rat.mul_le_mul_of_nonneg_left hi1 hE
 constructor <;> grind
theorem enc_q {n d:Int} {p:Nat} (hv:ratB n d=true) (h8:8≤p) (h5:p≤512):∃ lo hi,encR n d p=(lo,hi,false)∧qv lo≤(n:Rat)/(d:Rat)∧(n:Rat)/(d:Rat)≤qv hi:=by
 obtain⟨d1,d2,n1,n2⟩:=ratB_parts hv
 have hz:qv (intD d)≠0:=by
  rw[qv_int]
  have:=int_le_rat.2 d1
  intro h
  rw[h] at this
  simp at this
  grind
 obtain⟨r1,e1,q1⟩:=dvP_q (intD_small ⟨n1,n2⟩) (intD_small ⟨by omega,d2⟩) h8 h5 false hz
 obtain⟨r2,e2',q2⟩:=dvP_q (intD_small ⟨n1,n2⟩) (intD_small ⟨by omega,d2⟩) h8 h5 true hz
 rw[qv_int,qv_int] at q1 q2
 have hb:=div_small ⟨n1,n2⟩ d1
 obtain⟨a1,b1⟩:=rndE_rdq q1
 obtain⟨a2,b2⟩:=rndE_rdq q2
 refine⟨(dvP (intD n) (intD d) p false).1,(dvP (intD n) (intD d) p true).1,?_,?_,?_⟩
 ·unfold encR
  rw[if_pos ⟨by rw[e1];exact (b1 hb).1,by rw[e2'];exact (b2 hb).1⟩]
 ·rw[e1];exact (a1 (b1 hb).1).1 rfl
 rw[e2'];exact (a2 (b2 hb).1).2 rfl
end Go.Proofs.YteidgoldnllabaaGreatDoor
