/-
  Walks: round.sqrt of a number that is not 0, from a contract of natural.Sqrt.
-/
import Derived.Test.YteidgoldnllabaaGreatDoorMRoDiv
import Derived.Test.YteidgoldnllabaaGreatDoorMRoE
import Derived.Test.YteidgoldnllabaaGreatDoorMEqU
namespace Go.Proofs.YteidgoldnllabaaGreatDoor
open Go.RowKit
section
section
variable {p q:Nat} {S T:Int} {x y:Dy}
theorem isP.mono {d:Dy} (h:isP p d) (hpq:p≤q):isP q d:=⟨h.1,Nat.le_trans h.2 hpq⟩
end
theorem rcut_more {m k f p:Nat} {e:Int} {more up:Bool} (hm:m≠0) (hf:f<2 ^ k) (hb:(more||decide (f≠0))=true→p<bits m) :
  rcut m e (more||decide (f≠0)) p up=rcut (m*2 ^ k+f) (e-k) more p up:=by
 have hN:m*2 ^ k+f≠0:=by have:=Nat.mul_ne_zero hm (two_pow_ne k);omega
 have hbits:bits (m*2 ^ k+f)=bits m+k:=by
  refine bits_unique ?_ (.inr ?_)
  ·have h1:=lt_two_pow_bits m
   have h2:(m+1)*2 ^ k≤2 ^ bits m*2 ^ k:=Nat.mul_le_mul_right _ h1
   rw[Nat.pow_add];rw[Nat.add_mul] at h2;omega
  ·have h1:=two_pow_le_of_bits hm
   have h3:=bits_pos hm
   have h2:2 ^ (bits m-1)*2 ^ k≤m*2 ^ k:=Nat.mul_le_mul_right _ h1
   rw[← Nat.pow_add] at h2
   rw[show bits m+k-1=bits m-1+k from by omega];omega
 have hu:runit (m*2 ^ k+f) (e-k) p=runit m e p:=by unfold runit;rw[hbits];congr 1;omega
 have hdiv (j:Nat):(m*2 ^ k+f)/2 ^ (j+k)=m/2 ^ j:=by
  rw[Nat.pow_add,Nat.mul_comm (2 ^ j),← Nat.div_div_eq_div_mul,Nat.add_comm,Nat.add_mul_div_right _ _ (two_pow_pos k),Nat.div_eq_of_lt hf,Nat.zero_add]
 by_cases hz:(more||decide (f≠0))=true
 ·have hp:=hb hz
  have hue:e<runit m e p:=by unfold runit;omega
  obtain⟨j,hj⟩:∃ j:Nat,runit m e p=e+j+1:=⟨(runit m e p-e-1).toNat,by omega⟩
  have hl:rlow (m*2 ^ k+f) (e-k) (runit m e p)=rlow m e (runit m e p):=by
   unfold rlow
   rw[if_neg (by omega),if_neg (by omega),show (runit m e p-(e-k)).toNat=j+1+k from by omega,show (runit m e p-e).toNat=j+1 from by omega,hdiv]
  have hlost:(more||rlost (m*2 ^ k+f) (e-k) (runit m e p))=((more||decide (f≠0))||rlost m e (runit m e p)):=by
   rw[hz,Bool.true_or]
   cases hmore:more with
   | true=>rfl
   | false =>
    rw[hmore] at hz
    have hf0:f≠0:=by simpa using hz
    rw[Bool.false_or]
    unfold rlost
    have h2:(m*2 ^ k+f) % 2 ^ (runit m e p-(e-k)).toNat≠0:=by
     rw[show (runit m e p-(e-k)).toNat=j+1+k from by omega]
     intro h
     have h3:2 ^ k ∣ m*2 ^ k+f:=Nat.dvd_trans (Nat.pow_dvd_pow 2 (by omega)) (Nat.dvd_of_mod_eq_zero h)
     have h4:2 ^ k ∣ f:=(Nat.dvd_add_right (Nat.dvd_mul_left _ _)).1 h3
     exact hf0 (Nat.eq_zero_of_dvd_of_lt h4 hf)
    rw[decide_eq_false (by omega),decide_eq_false h2];rfl
  have hq:rq (m*2 ^ k+f) (e-k) more p up=rq m e (more||decide (f≠0)) p up:=by
   unfold rq
   rw[hu,hl,hlost]
  unfold rcut
  rw[hq,hu]
 have h0:more=false∧f=0:=by
  rw[Bool.or_eq_true,not_or] at hz
  exact⟨by simpa using hz.1,by simpa using hz.2⟩
 obtain⟨rfl,rfl⟩:=h0
 have hl:rlow (m*2 ^ k+0) (e-k) (runit m e p)=rlow m e (runit m e p):=by
  unfold rlow
  rw[Nat.add_zero]
  by_cases h1:runit m e p≤e-k
  ·rw[if_pos h1,if_pos (by omega),Nat.mul_assoc,← Nat.pow_add]
   congr 2;omega
  ·rw[if_neg h1]
   by_cases h2:runit m e p≤e
   ·rw[if_pos h2]
    have h3:k=(e-runit m e p).toNat+(runit m e p-(e-k)).toNat:=by omega
    conv=>lhs;lhs;rw[h3,Nat.pow_add,← Nat.mul_assoc]
    rw[Nat.mul_div_cancel _ (two_pow_pos _)]
   ·rw[if_neg h2]
    have h3:(runit m e p-(e-k)).toNat=(runit m e p-e).toNat+k:=by omega
    have:=hdiv (runit m e p-e).toNat
    rw[Nat.add_zero] at this
    rw[h3,this]
 have hlost:rlost (m*2 ^ k+0) (e-k) (runit m e p)=rlost m e (runit m e p):=by
  unfold rlost
  rw[Nat.add_zero]
  by_cases h1:runit m e p≤e-k
  ·rw[decide_eq_true h1,decide_eq_true (show runit m e p≤e by omega)];rfl
  ·by_cases h2:runit m e p≤e
   ·have h3:k=(e-runit m e p).toNat+(runit m e p-(e-k)).toNat:=by omega
    have h4:m*2 ^ k % 2 ^ (runit m e p-(e-k)).toNat=0:=by
     conv=>lhs;lhs;rw[h3,Nat.pow_add,← Nat.mul_assoc]
     exact Nat.mul_mod_left _ _
    rw[h4,decide_eq_true h2];simp
   ·have h3:(runit m e p-(e-k)).toNat=(runit m e p-e).toNat+k:=by omega
    rw[h3,Nat.pow_add,Nat.mul_mod_mul_right,decide_eq_false h1,decide_eq_false h2]
    have:(m % 2 ^ (runit m e p-e).toNat*2 ^ k=0)↔(m % 2 ^ (runit m e p-e).toNat=0):=by
     rw[Nat.mul_eq_zero];exact⟨fun h=>h.resolve_right (two_pow_ne k),.inl⟩
    simp only[this]
 have hq:rq (m*2 ^ k+0) (e-k) false p up=rq m e (false||decide (0≠0)) p up:=by
  unfold rq
  rw[hu,hl,hlost];simp
 unfold rcut
 rw[hq,hu]
end
section
section
variable {d f:Dy} {p:Nat} {low:Int} {up:Bool}
end
end
end Go.Proofs.YteidgoldnllabaaGreatDoor
