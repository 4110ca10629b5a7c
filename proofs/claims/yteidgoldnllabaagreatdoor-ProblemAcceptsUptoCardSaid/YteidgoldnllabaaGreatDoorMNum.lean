/-
  Plain arithmetic of lists of limbs (base 2^32), no program in sight.
-/
import Derived.KernelRfl
import Derived.Test.YteidgoldnllabaaGreatDoorProg
import Derived.WalkKit
import Derived.WalkSpells
import Derived.WalkLawsBesides
import Derived.BigQuiet
import Derived.Deep.QuietTactic
import Derived.Lib.Hide
import Derived.Lib.Walk
import Derived.Lib.SliceRun
import Derived.Deep.DeepCutAuto
import Derived.Lib.BitFns
import Derived.Lib.TrailingZeros
namespace Go.Proofs.YteidgoldnllabaaGreatDoor
open Go.RowKit
open Lib (hid)
section
def val:List Nat→Nat
 | []=>0
 | x::xs=>x+4294967296*val xs
def Lt32 (xs:List Nat):Prop:=∀ x∈xs,x<4294967296
def nth (xs:List Nat) (i:Nat):Nat:=xs.getD i 0
theorem Lt32.nil:Lt32 []:=fun _ h=>by cases h
theorem Lt32.cons {x:Nat} {xs:List Nat} (h:x<4294967296) (hs:Lt32 xs):Lt32 (x::xs):=by
 intro y hy
 rcases List.mem_cons.1 hy with rfl | hy
 ·exact h
 exact hs y hy
theorem Lt32.append {xs ys:List Nat} (h:Lt32 xs) (hs:Lt32 ys):Lt32 (xs++ys):=by
 intro y hy
 rcases List.mem_append.1 hy with hy | hy
 ·exact h y hy
 exact hs y hy
theorem Lt32.snoc {xs:List Nat} {x:Nat} (h:Lt32 xs) (hs:x<4294967296):Lt32 (xs++[x]):=h.append (.cons hs .nil)
theorem Lt32.take {xs:List Nat} (h:Lt32 xs) (n:Nat):Lt32 (xs.take n):=fun y hy=>h y (List.mem_of_mem_take hy)
theorem Lt32.drop {xs:List Nat} (h:Lt32 xs) (n:Nat):Lt32 (xs.drop n):=fun y hy=>h y (List.mem_of_mem_drop hy)
theorem Lt32.nth {xs:List Nat} (h:Lt32 xs) (i:Nat):nth xs i<4294967296:=by
 unfold Go.Proofs.YteidgoldnllabaaGreatDoor.nth
 rw[List.getD_eq_getElem?_getD]
 by_cases hi:i<xs.length
 ·rw[List.getElem?_eq_getElem hi];exact h _ (List.getElem_mem hi)
 rw[List.getElem?_eq_none (by omega)];decide
theorem Lt32.set {xs:List Nat} (h:Lt32 xs) (i x:Nat) (hx:x<4294967296):Lt32 (xs.set i x):=by
 intro y hy
 rcases List.mem_or_eq_of_mem_set hy with hy | rfl
 ·exact h y hy
 exact hx
theorem Lt32.replicate (n:Nat):Lt32 (List.replicate n 0):=by
 intro y hy
 rw[(List.mem_replicate.1 hy).2];decide
theorem nth_eq {xs:List Nat} {i:Nat} (h:i<xs.length):nth xs i=xs[i]:=by
 unfold nth;rw[List.getD_eq_getElem?_getD,List.getElem?_eq_getElem h];rfl
theorem nth_ge {xs:List Nat} {i:Nat} (h:xs.length≤i):nth xs i=0:=by
 unfold nth;rw[List.getD_eq_getElem?_getD,List.getElem?_eq_none h];rfl
theorem nth_get? {xs:List Nat} {i:Nat} (h:i<xs.length):xs[i]? = some (nth xs i):=by
 rw[nth_eq h,List.getElem?_eq_getElem h]
theorem nth_cons_zero (x:Nat) (xs:List Nat):nth (x::xs) 0=x:=rfl
theorem nth_cons_succ (x:Nat) (xs:List Nat) (i:Nat):nth (x::xs) (i+1)=nth xs i:=by
 unfold nth;simp
theorem nth_append_left {xs ys:List Nat} {i:Nat} (h:i<xs.length):nth (xs++ys) i=nth xs i:=by
 rw[nth_eq h,nth_eq (by simp;omega),List.getElem_append_left h]
theorem nth_append_right {xs ys:List Nat} {i:Nat} (h:xs.length≤i):nth (xs++ys) i=nth ys (i-xs.length):=by
 by_cases h2:i<(xs++ys).length
 ·rw[nth_eq h2,nth_eq (by simp at h2;omega),List.getElem_append_right h]
 rw[nth_ge (by omega),nth_ge (by simp at h2;omega)]
theorem nth_take {xs:List Nat} {n i:Nat} (h:i<n):nth (xs.take n) i=nth xs i:=by
 unfold nth
 simp[h]
theorem nth_drop {xs:List Nat} {n i:Nat}:nth (xs.drop n) i=nth xs (n+i):=by
 unfold nth
 simp[List.getElem?_drop]
theorem nth_set_eq {xs:List Nat} {i x:Nat} (h:i<xs.length):nth (xs.set i x) i=x:=by
 rw[nth_eq (by simpa using h)];simp
theorem nth_set_ne {xs:List Nat} {i j x:Nat} (h:i≠j):nth (xs.set i x) j=nth xs j:=by
 unfold nth;simp[List.getElem?_set_ne h]
theorem take_succ_nth {xs:List Nat} {n:Nat} (h:n<xs.length):xs.take (n+1)=xs.take n++[nth xs n]:=by
 rw[List.take_succ_eq_append_getElem h,nth_eq h]
theorem drop_eq_nth {xs:List Nat} {n:Nat} (h:n<xs.length):xs.drop n=nth xs n::xs.drop (n+1):=by
 rw[List.drop_eq_getElem_cons h,nth_eq h]
theorem set_eq_take_drop {xs:List Nat} {i x:Nat} (h:i<xs.length):xs.set i x=xs.take i++x::xs.drop (i+1):=by
 rw[List.set_eq_take_append_cons_drop,if_pos h]
theorem val_nil:val []=0:=rfl
theorem val_cons (x:Nat) (xs:List Nat):val (x::xs)=x+4294967296*val xs:=rfl
theorem val_append (xs ys:List Nat):val (xs++ys)=val xs+4294967296 ^ xs.length*val ys:=by
 induction xs with
 | nil=>simp[val]
 | cons x xs ih =>
  simp only[List.cons_append,val,ih,List.length_cons,Nat.pow_succ]
  rw[Nat.mul_add,← Nat.mul_assoc,Nat.mul_comm 4294967296 (4294967296 ^ xs.length)]
  omega
theorem val_snoc (xs:List Nat) (x:Nat):val (xs++[x])=val xs+4294967296 ^ xs.length*x:=by
 rw[val_append];simp[val]
theorem val_take_succ {xs:List Nat} {n:Nat} (h:n<xs.length):val (xs.take (n+1))=val (xs.take n)+4294967296 ^ n*nth xs n:=by
 rw[take_succ_nth h,val_snoc,List.length_take,Nat.min_eq_left (by omega)]
theorem val_take_drop (xs:List Nat) (n:Nat) (h:n≤xs.length):val xs=val (xs.take n)+4294967296 ^ n*val (xs.drop n):=by
 conv=>lhs;rw[← List.take_append_drop n xs]
 rw[val_append,List.length_take,Nat.min_eq_left h]
theorem val_lt {xs:List Nat} (h:Lt32 xs):val xs<4294967296 ^ xs.length:=by
 induction xs with
 | nil=>simp[val]
 | cons x xs ih =>
  have h1:=h x (List.mem_cons_self ..)
  have h2:=ih (fun y hy=>h y (List.mem_cons_of_mem _ hy))
  simp only[val,List.length_cons,Nat.pow_succ]
  omega
theorem val_replicate (n:Nat):val (List.replicate n 0)=0:=by
 induction n with
 | zero=>rfl
 | succ n ih=>simp[List.replicate_succ,val,ih]
theorem val_zeros {xs:List Nat} (h:∀ i,i<xs.length→nth xs i=0):val xs=0:=by
 induction xs with
 | nil=>rfl
 | cons x xs ih =>
  have h0:=h 0 (by simp)
  rw[nth_cons_zero] at h0
  have:=ih (fun i hi=>by have:=h (i+1) (by simp;omega);rwa [nth_cons_succ] at this)
  simp[val,this,h0]
theorem val_take_step (xs:List Nat) (n:Nat):val (xs.take (n+1))=val (xs.take n)+4294967296 ^ n*nth xs n:=by
 by_cases h:n<xs.length
 ·exact val_take_succ h
 rw[nth_ge (by omega),List.take_of_length_le (by omega),List.take_of_length_le (by omega)];simp
theorem take_set_succ {xs:List Nat} {i x:Nat} (h:i<xs.length):(xs.set i x).take (i+1)=xs.take i++[x]:=by
 rw[take_succ_nth (by simpa using h),nth_set_eq h,List.take_set_of_le (Nat.le_refl i)]
theorem val_take_set {xs:List Nat} {i x:Nat} (h:i<xs.length):val ((xs.set i x).take (i+1))=val (xs.take i)+4294967296 ^ i*x:=by
 rw[take_set_succ h,val_snoc,List.length_take,Nat.min_eq_left (by omega)]
theorem add_step {xs ys zs:List Nat} {k c:Nat} (hk:k<zs.length) (h:val (zs.take k)+4294967296 ^ k*c=val (xs.take k)+val (ys.take k)) :
  val ((zs.set k ((nth xs k+nth ys k+c) % 4294967296)).take (k+1))+4294967296 ^ (k+1)*((nth xs k+nth ys k+c)/4294967296)=val (xs.take (k+1))+val (ys.take (k+1)):=by
 rw[val_take_set hk,val_take_step xs,val_take_step ys,Nat.pow_succ,Nat.mul_assoc]
 generalize 4294967296 ^ k=P at *
 have e2:P*(nth xs k+nth ys k+c)=P*nth xs k+P*nth ys k+P*c:=by rw[Nat.mul_add,Nat.mul_add]
 generalize nth xs k+nth ys k+c=s at *
 have e:P*(s % 4294967296)+P*(4294967296*(s/4294967296))=P*s:=by
  rw[← Nat.mul_add];congr 1;omega
 omega
theorem val_set_last {zs:List Nat} {k c:Nat} (h:zs.length=k+1):val (zs.set k c)=val (zs.take k)+4294967296 ^ k*c:=by
 have:=val_take_set (x:=c) (show k<zs.length by omega)
 rwa [List.take_of_length_le (by simp;omega)] at this
theorem sub_step {xs ys zs:List Nat} {k c z c':Nat} (hk:k<zs.length) (h:val (zs.take k)+val (ys.take k)=val (xs.take k)+4294967296 ^ k*c) (e:z+nth ys k+c=nth xs k+4294967296*c') :
  val ((zs.set k z).take (k+1))+val (ys.take (k+1))=val (xs.take (k+1))+4294967296 ^ (k+1)*c':=by
 rw[val_take_set hk,val_take_step xs,val_take_step ys,Nat.pow_succ,Nat.mul_assoc]
 generalize 4294967296 ^ k=P at *
 have e2:P*(z+nth ys k+c)=P*z+P*nth ys k+P*c:=by rw[Nat.mul_add,Nat.mul_add]
 have e3:P*(nth xs k+4294967296*c')=P*nth xs k+P*(4294967296*c'):=by rw[Nat.mul_add]
 rw[e] at e2
 omega
def Top (xs:List Nat):Prop:=xs.getLast?≠some 0
def limbs (n:Nat):List Nat:=if n=0 then [] else n % 4294967296::limbs (n/4294967296)
termination_by n
decreasing_by omega
theorem limbs_zero:limbs 0=[]:=by rw[limbs];rfl
theorem limbs_pos {n:Nat} (h:n≠0):limbs n=n % 4294967296::limbs (n/4294967296):=by rw[limbs,if_neg h]
theorem limbs_lt32 (n:Nat):Lt32 (limbs n):=by
 induction n using Nat.strongRecOn with
 | _ n ih =>
  by_cases h:n=0
  ·subst h;rw[limbs_zero];exact .nil
  ·rw[limbs_pos h];exact .cons (by omega) (ih _ (by omega))
theorem val_limbs (n:Nat):val (limbs n)=n:=by
 induction n using Nat.strongRecOn with
 | _ n ih =>
  by_cases h:n=0
  ·subst h;rw[limbs_zero];rfl
  ·rw[limbs_pos h,val_cons,ih _ (by omega)];omega
theorem limbs_eq_nil {n:Nat}:limbs n=[]↔n=0:=by
 constructor
 ·intro h;have:=val_limbs n;rw[h] at this;exact this.symm
 rintro rfl;exact limbs_zero
theorem top_cons {x:Nat} {xs:List Nat} (h:xs≠[]):Top (x::xs)↔Top xs:=by
 unfold Top;rw[List.getLast?_cons]
 cases xs with
 | cons y ys=>simp[List.getLast?_cons]
 | nil=>exact absurd rfl h
theorem limbs_top (n:Nat):Top (limbs n):=by
 induction n using Nat.strongRecOn with
 | _ n ih =>
  by_cases h:n=0
  ·subst h;rw[limbs_zero];simp[Top]
  ·rw[limbs_pos h]
   by_cases h2:n/4294967296=0
   ·rw[h2,limbs_zero];simp[Top];omega
   ·rw[top_cons (by rw[Ne,limbs_eq_nil];exact h2)];exact ih _ (by omega)
theorem val_eq_zero_top {xs:List Nat} (ht:Top xs) (h0:val xs=0):xs=[]:=by
 induction xs with
 | nil=>rfl
 | cons x xs ih =>
  simp only[val] at h0
  by_cases hx:xs=[]
  ·subst hx;simp[Top,val] at ht h0;omega
  ·exact absurd (ih ((top_cons hx).1 ht) (by omega)) hx
theorem limbs_val {xs:List Nat} (h:Lt32 xs) (ht:Top xs):limbs (val xs)=xs:=by
 induction xs with
 | nil=>exact limbs_zero
 | cons x xs ih =>
  have hx:=h x (List.mem_cons_self ..)
  have hne:val (x::xs)≠0:=fun h0=>by cases val_eq_zero_top ht h0
  rw[limbs_pos hne,val_cons]
  have e1:(x+4294967296*val xs) % 4294967296=x:=by omega
  have e2:(x+4294967296*val xs)/4294967296=val xs:=by omega
  rw[e1,e2]
  by_cases hn:xs=[]
  ·subst hn;rw[val_nil,limbs_zero]
  ·rw[ih (fun y hy=>h y (List.mem_cons_of_mem _ hy)) ((top_cons hn).1 ht)]
theorem limbs_length_le {n k:Nat}:(limbs n).length≤k↔n<4294967296 ^ k:=by
 induction k generalizing n with
 | zero=>rw[Nat.le_zero,List.length_eq_zero_iff,limbs_eq_nil];simp
 | succ k ih =>
  by_cases h:n=0
  ·subst h;rw[limbs_zero];simp;exact Nat.pow_pos (by decide)
  ·rw[limbs_pos h,List.length_cons,Nat.succ_le_succ_iff,ih,Nat.pow_succ]
   omega
theorem top_take {xs:List Nat} {n:Nat} (h:n≤xs.length) (h0:0<n→nth xs (n-1)≠0):Top (xs.take n):=by
 unfold Top
 by_cases hn:n=0
 ·subst hn;simp
 rw[List.getLast?_eq_getElem?,List.length_take,Nat.min_eq_left h,List.getElem?_take,if_pos (by omega),nth_get? (by omega)]
 intro hh;exact h0 (by omega) (Option.some.inj hh)
theorem top_nth {xs:List Nat} (h:Top xs) (hn:0<xs.length):nth xs (xs.length-1)≠0:=by
 intro h0
 apply h
 rw[List.getLast?_eq_getElem?,nth_get? (by omega),h0]
theorem top_of_nth {xs:List Nat} (h:0<xs.length→nth xs (xs.length-1)≠0):Top xs:=by
 have:=top_take (xs:=xs) (Nat.le_refl _) h
 rwa [List.take_length] at this
theorem val_take_zeros {xs:List Nat} {n:Nat} (h:n≤xs.length) (hz:∀ i,n≤i→i<xs.length→nth xs i=0):val (xs.take n)=val xs:=by
 have e:=val_take_drop xs n h
 have:val (xs.drop n)=0:=val_zeros fun i hi=>by
  rw[nth_drop];exact hz _ (by omega) (by simp at hi;omega)
 rw[this] at e;omega
def bits (n:Nat):Nat:=if n=0 then 0 else n.log2+1
theorem bits_zero:bits 0=0:=rfl
theorem bits_le {n k:Nat}:bits n≤k↔n<2 ^ k:=by
 unfold bits
 split
 ·next h=>subst h;simp;exact Nat.pow_pos (by decide)
 next h=>exact Nat.log2_lt h
theorem lt_bits {n k:Nat}:k<bits n↔2 ^ k≤n:=by
 have:=@bits_le n k
 omega
theorem lt_two_pow_bits (n:Nat):n<2 ^ bits n:=bits_le.1 (Nat.le_refl _)
theorem bits_pos {n:Nat} (h:n≠0):0<bits n:=by unfold bits;rw[if_neg h];omega
theorem two_pow_le_of_bits {n:Nat} (h:n≠0):2 ^ (bits n-1)≤n:=lt_bits.1 (by have:=bits_pos h;omega)
theorem bits_eq_zero {n:Nat}:bits n=0↔n=0:=by
 constructor
 ·intro h;by_cases h0:n=0
  ·exact h0
  have:=bits_pos h0;omega
 rintro rfl;rfl
theorem bits_unique {n k:Nat} (h1:n<2 ^ k) (h2:k=0∨2 ^ (k-1)≤n):bits n=k:=by
 have a:=bits_le.2 h1
 rcases h2 with h2 | h2
 ·omega
 by_cases hk:k=0
 ·omega
 have:=lt_bits.2 h2;omega
theorem bits_mono {m n:Nat} (h:m≤n):bits m≤bits n:=bits_le.2 (Nat.lt_of_le_of_lt h (lt_two_pow_bits n))
theorem bits_mul_pow {n k:Nat} (h:n≠0):bits (n*2 ^ k)=bits n+k:=by
 apply bits_unique
 ·rw[Nat.pow_add];exact Nat.mul_lt_mul_of_pos_right (lt_two_pow_bits n) (Nat.pow_pos (by decide))
 right
 have h1:=bits_pos h
 rw[show bits n+k-1=(bits n-1)+k from by omega,Nat.pow_add]
 exact Nat.mul_le_mul_right _ (two_pow_le_of_bits h)
theorem pow32 (n:Nat):4294967296 ^ n=2 ^ (32*n):=by rw[Nat.pow_mul]
theorem bits_val_snoc {xs:List Nat} {x:Nat} (h:Lt32 xs) (hx:x≠0):bits (val (xs++[x]))=32*xs.length+bits x:=by
 rw[val_snoc,pow32]
 have h1:=val_lt h
 rw[pow32] at h1
 apply bits_unique
 ·rw[Nat.pow_add]
  have:=lt_two_pow_bits x
  calc val xs+2 ^ (32*xs.length)*x<2 ^ (32*xs.length)+2 ^ (32*xs.length)*x:=by omega
   _=2 ^ (32*xs.length)*(x+1):=by rw[Nat.mul_add];omega
   _≤2 ^ (32*xs.length)*2 ^ bits x:=Nat.mul_le_mul_left _ this
 right
 have:=bits_pos hx
 rw[show 32*xs.length+bits x-1=32*xs.length+(bits x-1) from by omega,Nat.pow_add]
 exact Nat.le_trans (Nat.mul_le_mul_left _ (two_pow_le_of_bits hx)) (by omega)
end
def Kp (w w':World):Prop:=Below w.heap.size w w'
theorem Kp.refl (w:World):Kp w w:=Below.refl _ _
theorem Kp.trans {a b c:World} (h:Kp a b) (k:Kp b c):Kp a c:=Below.trans h (Below.mono k h.size)
theorem Kp.alloc {a w:World} (h:Kp a w) (o:Obj):Kp a (w.alloc o):=Below.alloc h h.size o
theorem Kp.drew {a w:World} (h:Kp a w):Kp a w.drew:=Below.drew h
theorem Kp.drewN {a w:World} (h:Kp a w) (n:Nat):Kp a (w.drewN n):=⟨h.os,h.tape,h.output,h.size,h.block⟩
theorem Kp.size {a w:World} (h:Kp a w):a.heap.size≤w.heap.size:=Below.size h
theorem Kp.below {a w:World} (h:Kp a w):Below a.heap.size a w:=h
theorem Kp.of {a w:World} (h:Below a.heap.size a w):Kp a w:=h
theorem Kp.cell {w w':World} (h:Kp w w') {p:Addr} {v:Value} (hc:w.cell? p=some v):w'.cell? p=some v :=
 (Below.cell h (World.block_lt_of_cell? w p hc)).trans hc
theorem Kp.frozen {w w':World} (h:Kp w w') {p:Addr} {v:Value} (hc:w.cell? p=some v) {f:Bool} (hf:w.frozen? p=f):w'.frozen? p=f :=
 (Below.frozen h (World.block_lt_of_cell? w p hc)).trans hf
theorem Kp.heap {w w':World} (h:Kp w w') {b:Nat} {o:Obj} (ho:w.heap[b]? = some o):w'.heap[b]? = some o :=
 (h.block b (Array.getElem?_eq_some_iff.1 ho).1).trans ho
def Enters (P:Program) (g:FuncId):Prop:=∀ args w,(callFunc g args).run P w=.ok (.enter g args) w
def Rd (w:World) (a:Option Addr) (xs:List Nat):Prop :=
 Lt32 xs∧(xs=[]∨∃ b o,a=some ⟨b,o,none⟩∧∀ i,i<xs.length→w.cell? ⟨b,o+i,none⟩=some (.int .u32 (nth xs i)))
theorem Rd.lt32 {w:World} {a:Option Addr} {xs:List Nat} (h:Rd w a xs):Lt32 xs:=h.1
theorem Rd.kp {w w':World} {a:Option Addr} {xs:List Nat} (h:Rd w a xs) (k:Kp w w'):Rd w' a xs:=by
 obtain⟨h1,h2⟩:=h
 refine⟨h1,?_⟩
 rcases h2 with h2 | ⟨b,o,rfl,h2⟩
 ·exact .inl h2
 exact .inr ⟨b,o,rfl,fun i hi=>k.cell (h2 i hi)⟩
theorem Rd.nil (w:World) (a:Option Addr):Rd w a []:=⟨.nil,.inl rfl⟩
theorem Rd.some {w:World} {a:Option Addr} {xs:List Nat} (h:Rd w a xs) {i:Nat} (hi:i<xs.length) :
  ∃ b o,a=.some ⟨b,o,none⟩∧∀ i,i<xs.length→w.cell? ⟨b,o+i,none⟩=.some (.int .u32 (nth xs i)):=by
 rcases h.2 with h2 | h2
 ·subst h2;simp at hi
 exact h2
theorem Rd.take {w:World} {a:Option Addr} {xs:List Nat} (h:Rd w a xs) (n:Nat):Rd w a (xs.take n):=by
 refine⟨h.1.take n,?_⟩
 rcases h.2 with h2 | ⟨b,o,rfl,h2⟩
 ·exact .inl (by rw[h2];simp)
 refine .inr ⟨b,o,rfl,fun i hi=>?_⟩
 rw[List.length_take] at hi
 rw[nth_take (by omega)]
 exact h2 i (by omega)
theorem Rd.drop {w:World} {b o:Nat} {xs:List Nat} (h:Rd w (.some ⟨b,o,none⟩) xs) (n:Nat):Rd w (.some ⟨b,o+n,none⟩) (xs.drop n):=by
 refine⟨h.1.drop n,?_⟩
 rcases h.2 with h2 | ⟨b',o',e,h2⟩
 ·exact .inl (by rw[h2];simp)
 cases e
 refine .inr ⟨b,o+n,rfl,fun i hi=>?_⟩
 rw[List.length_drop] at hi
 rw[nth_drop,Nat.add_assoc]
 exact h2 _ (by omega)
theorem ret_bool {a b:Bool} (h:a=b):Ending.returned (.bool a)=.returned (.bool b):=by rw[h]
theorem ret_int {k:IntKind} {a b:Int} (h:a=b):Ending.returned (.int k a)=.returned (.int k b):=by rw[h]
theorem ret_len {a:Option Addr} {m n c:Nat} (h:m=n):Ending.returned (.slice a m c)=.returned (.slice a n c):=by rw[h]
def Own (w:World) (base:Nat) (v:Value) (xs:List Nat):Prop :=
 Lt32 xs∧w.ownsRow base 213 1 v xs.length (xs.map fun x:Nat=>Value.int .u32 (x:Int))
theorem Own.value {w:World} {base:Nat} {v:Value} {xs:List Nat} (h:Own w base v xs):∃ a c,v=.slice a xs.length c∧xs.length≤c∧c≤maxLen∧Rd w a xs:=by
 obtain⟨h1,h2,h3⟩:=h
 rcases h3 with ⟨rfl,h3⟩ | ⟨g,cap,cur,rfl,hb,hg,hn,hc,hs,ht⟩
 ·refine⟨none,0,by rw[h3],by omega,by decide,h1,.inl (List.length_eq_zero_iff.1 h3)⟩
 refine⟨_,_,rfl,hn,hc,h1,.inr ⟨g,0,rfl,fun i hi=>?_⟩⟩
 rw[cell_of_row w g _ cur _ _ hg]
 have:(cur.toList.take (xs.length*1))[i]? = .some (.int .u32 (nth xs i)):=by
  rw[ht,List.getElem?_map,nth_get? hi];rfl
 rw[List.getElem?_take,if_pos (by omega)] at this
 simpa using this
def u32v (x:Nat):Value:=.int .u32 (x:Int)
def Blk (w:World) (g:Nat) (xs:List Nat):Prop:=w.heap[g]? = some (.cells (xs.map u32v).toArray 213 (0,0))
theorem Blk.cell {w:World} {g:Nat} {xs:List Nat} (h:Blk w g xs) {i:Nat} (hi:i<xs.length):w.cell? ⟨g,i,none⟩=some (.int .u32 (nth xs i)):=by
 rw[cell_of_row w g _ _ _ _ h,List.getElem?_toArray,List.getElem?_map,nth_get? hi];rfl
theorem Blk.frozen {w:World} {g:Nat} {xs:List Nat} (h:Blk w g xs) (i:Nat):w.frozen? ⟨g,i,none⟩=false:=frozen_of_row w g _ _ _ h
theorem Blk.kp {w w':World} {g:Nat} {xs:List Nat} (h:Blk w g xs) (k:Kp w w'):Blk w' g xs:=k.heap h
theorem Blk.rd {w:World} {g:Nat} {xs:List Nat} (h:Blk w g xs) (hl:Lt32 xs):Rd w (some ⟨g,0,none⟩) xs :=
 ⟨hl,.inr ⟨g,0,rfl,fun i hi=>by rw[Nat.zero_add];exact h.cell hi⟩⟩
theorem Blk.set {w:World} {g:Nat} {xs:List Nat} (h:Blk w g xs) (i x:Nat):Blk (w.setCell ⟨g,i,none⟩ (.int .u32 (x:Int))) g (xs.set i x):=by
 unfold Blk
 rw[heap_setCell_same w g i _ _ _ h]
 congr 2
 rw[List.setIfInBounds_toArray,List.map_set];rfl
theorem Blk.put {w:World} {g:Nat} {xs:List Nat} (h:Blk w g xs) {i x:Nat} {e:Int} (he:e=x):Blk (w.setCell ⟨g,i,none⟩ (.int .u32 e)) g (xs.set i x):=by
 subst he;exact h.set i x
theorem Kp.set {a w:World} (h:Kp a w) {g i:Nat} (hg:a.heap.size≤g) (v:Value):Kp a (w.setCell ⟨g,i,none⟩ v):=Below.setCell h hg v
theorem Blk.made (w:World) (n:Nat):Blk (w.alloc (.cells (madeCells #[.int .u32 0] n) 213)) w.heap.size (List.replicate n 0):=by
 unfold Blk
 rw[heap_alloc_new]
 congr 2
 rw[← Array.toList_inj,toList_madeCells_one,List.map_replicate];rfl
theorem Blk.lt {w:World} {g:Nat} {xs:List Nat} (h:Blk w g xs):g<w.heap.size:=(Array.getElem?_eq_some_iff.1 h).1
theorem infoU32:(Tryz.prog.info? 213).map (fun i=>(i.zero,i.size,i.bytes))=some (some (.int .u32 0),1,4):=by kernel_rfl
theorem make_u32 (i:Int) (n:Nat) (e:i=n) (hn:n≤9000000) (u:World):(Instr.makeSlice 111 (.int .i64 i) (.int .i64 i)).run Tryz.prog u =
  .ok (.slice (some ⟨u.heap.size,0,none⟩) n n) (u.alloc (.cells (madeCells #[.int .u32 0] n) 213)):=by
 subst e
 obtain⟨i0,hi,hz0,hz1,hz2⟩:=info_parts infoU32
 have h:=run_make (P:=Tryz.prog) u 111 213 i0 (.int .u32 0) Tryz.underlying111 hi hz0 .i64 .i64 (n:Int) (n:Int) (by omega) (Int.le_refl _) (by rw[hz2];omega) (by omega)
 simpa [hz1,Value.cells] using h
theorem Own.nil (w:World) (base:Nat):Own w base (.slice none 0 0) []:=⟨.nil,World.ownsRow_nil _ _ _ _⟩
theorem Own.alloc {w:World} {base:Nat} {v:Value} {xs:List Nat} (h:Own w base v xs) (o:Obj):Own (w.alloc o) base v xs:=⟨h.1,h.2.alloc o⟩
theorem Own.rd {w:World} {base:Nat} {a:Option Addr} {n c:Nat} {xs:List Nat} (h:Own w base (.slice a n c) xs):n=xs.length∧xs.length≤c∧c≤maxLen∧Rd w a xs:=by
 obtain⟨a',c',e,h1,h2,h3⟩:=h.value
 cases e
 exact⟨rfl,h1,h2,h3⟩
theorem make_u32c (i k:Int) (l c:Nat) (e:i=l) (e2:k=c) (hlc:l≤c) (hn:c≤9000000) (u:World):(Instr.makeSlice 111 (.int .i64 i) (.int .i64 k)).run Tryz.prog u =
  .ok (.slice (some ⟨u.heap.size,0,none⟩) l c) (u.alloc (.cells (madeCells #[.int .u32 0] c) 213)):=by
 subst e e2
 obtain⟨i0,hi,hz0,hz1,hz2⟩:=info_parts infoU32
 have h:=run_make (P:=Tryz.prog) u 111 213 i0 (.int .u32 0) Tryz.underlying111 hi hz0 .i64 .i64 (l:Int) (c:Int) (by omega) (by omega) (by rw[hz2];omega) (by omega)
 simpa [hz1,Value.cells] using h
theorem Own.made (w:World) (l c:Nat) (hl:l≤c) (hc:c≤9000000) (base:Nat) (hb:base≤w.heap.size) :
  Own (w.alloc (.cells (madeCells #[.int .u32 0] c) 213)) base (.slice (some ⟨w.heap.size,0,none⟩) l c) (List.replicate l 0):=by
 refine⟨.replicate _,by simp,.inr ⟨w.heap.size,c,_,by simp,hb,heap_alloc_new w _,by simpa using hl,by unfold maxLen;omega,by simp[size_madeCells],?_⟩⟩
 rw[toList_madeCells_one]
 simp[List.take_replicate,Nat.min_eq_left hl]
theorem wpList_append_u32 {w:World} {ops:Array Oper} {rest:List Oper} {o:Oper} {a:Act} {Q:Exit→Act→World→Prop} (hgd:o.guard=none) (s x:Operand)
  (ho:o.op=.call { callee:=.builtin .append,args:=#[s,x],argTypes:=#[111,111] })
  (base:Nat) (v:Value) (xs:List Nat) (hs:a.eval s=v) (hown:Own w base v xs)
  (g:Nat) (e:Int) (hx:a.eval x=.slice (some ⟨g,0,none⟩) 1 1) (hcell:w.cell? ⟨g,0,none⟩=some (.int .u32 e))
  (y:Nat) (he:e=y) (hy:y<4294967296) (hlen:xs.length+1≤9000000) (hbase:base≤w.heap.size)
  (h:∀ a' c' w',Own w' base (.slice a' (xs.length+1) c') (xs++[y])→Below base w w'→wpList Tryz.prog ops Q rest (a.put o.dst (.slice a' (xs.length+1) c')) w') :
  wpList Tryz.prog ops Q (o::rest) a w:=by
 obtain⟨i0,hi,hz0,hz1,hz2⟩:=info_parts infoU32
 subst he
 refine wpList_append_own w hgd s x 111 ho base 213 i0 (.int .u32 0) 1 4 Tryz.underlying111 hi hz0 hz1 hz2 rfl (by decide) v xs.length (xs.map fun x:Nat=>Value.int .u32 (x:Int)) hs hown.2
  ⟨g,0,none⟩ 1 1 [.int .u32 y] hx rfl ?_ ?_ (by unfold maxLen;omega) (by omega) hbase ?_
 ·intro j u hj
  match j,hj with
  | 0,hj=>simp at hj;subst hj;simpa [Addr.add] using hcell
 ·intro u hu;simp at hu;subst hu;rfl
 intro v' w' h1 h2 _
 have hb:Below base w w':=(Below.refl base w).grown h2 hbase (fun k hk=>(hown.2.lt k hk).1)
 have ho:Own w' base v' (xs++[y]):=⟨hown.1.snoc hy,by simpa using h1⟩
 obtain⟨a',c',e,h3,h4,h5⟩:=ho.value
 have e':v'=.slice a' (xs.length+1) c':=by rw[e];simp
 subst e'
 exact h a' c' w' ho hb
theorem run_append_zero {w:World} (base:Nat) (t ty e:TypeId) (i:TypeInfo) (size:Nat) (ht:Tryz.prog.underlying t=some (.slice e)) (hi:Tryz.prog.info? e=some i)
  (v:Value) (n c2:Nat) (xs:List Value) (hown:w.ownsRow base e size v n xs) :
  (Builtin.append_ #[t,t] ty #[v,.slice none 0 c2]).run Tryz.prog w=.ok v w:=by
 rcases hown.2 with ⟨rfl,rfl⟩ | ⟨g,cap,cur,rfl,_,_,hnc,_⟩
 ·simp[Builtin.append_,run_underlying ht,sizeOf,typeInfo,hi,Builtin.lenOf,Builtin.firstCells]
 simp[Builtin.append_,run_underlying ht,sizeOf,typeInfo,hi,Builtin.lenOf,Builtin.firstCells,hnc,storeCells]
theorem wpList_append_u32s {w:World} {ops:Array Oper} {rest:List Oper} {o:Oper} {a:Act} {Q:Exit→Act→World→Prop} (hgd:o.guard=none) (s x:Operand)
  (ho:o.op=.call { callee:=.builtin .append,args:=#[s,x],argTypes:=#[111,111] })
  (base:Nat) (v:Value) (xs:List Nat) (hs:a.eval s=v) (hown:Own w base v xs)
  (ad:Option Addr) (ys:List Nat) (c:Nat) (hx:a.eval x=.slice ad ys.length c) (hrd:Rd w ad ys) (hlen:xs.length+ys.length≤9000000) (hbase:base≤w.heap.size)
  (h:∀ a' c' w',Own w' base (.slice a' (xs.length+ys.length) c') (xs++ys)→Below base w w'→wpList Tryz.prog ops Q rest (a.put o.dst (.slice a' (xs.length+ys.length) c')) w') :
  wpList Tryz.prog ops Q (o::rest) a w:=by
 obtain⟨i0,hi,hz0,hz1,hz2⟩:=info_parts infoU32
 cases ad with
 | none =>
  have hys:ys=[]:=by
   rcases hrd.2 with h | ⟨b,o,h,_⟩
   ·exact h
   ·cases h
  subst hys
  refine wpList_plain hgd fun K hK=>?_
  have hrun:=run_append_zero (w:=w) base 111 o.type 213 i0 1 Tryz.underlying111 hi v _ c _ hown.2
  unfold Oper.wp
  simp[execOp,ho,resolve,invoke,builtin,hs,hx,hrun,Result.andThen]
  obtain⟨a',c',e,h3,h4,h5⟩:=hown.value
  subst e
  exact hK _ _ (by simpa using h a' c' w (by simpa using hown) (Below.refl _ _))
 | some ad =>
 refine wpList_append_own w hgd s x 111 ho base 213 i0 (.int .u32 0) 1 4 Tryz.underlying111 hi hz0 hz1 hz2 rfl (by decide) v xs.length (xs.map fun x:Nat=>Value.int .u32 (x:Int)) hs hown.2
  ad ys.length c (ys.map fun x:Nat=>Value.int .u32 (x:Int)) hx (by simp) ?_ ?_ (by unfold maxLen;omega) (by omega) hbase ?_
 ·intro j u hj
  rcases hrd.2 with h0 | ⟨b,o,h0,hc⟩
  ·subst h0;simp at hj
  cases h0
  have hj2:j<ys.length:=by
   have:=(List.getElem?_eq_some_iff.1 hj).1
   simpa using this
  rw[Addr.add_lit,hc j hj2,← hj,List.getElem?_map,nth_get? hj2];rfl
 ·intro u hu;obtain⟨x,_,rfl⟩:=List.mem_map.1 hu;rfl
 intro v' w' h1 h2 _
 have hb:Below base w w':=(Below.refl base w).grown h2 hbase (fun k hk=>(hown.2.lt k hk).1)
 have ho:Own w' base v' (xs++ys):=⟨hown.1.append hrd.1,by simpa using h1⟩
 obtain⟨a',c',e,h3,h4,h5⟩:=ho.value
 have e':v'=.slice a' (xs.length+ys.length) c':=by rw[e];simp
 subst e'
 exact h a' c' w' ho hb
theorem Own.empty (w:World) (base:Nat) (hb:base≤w.heap.size):Own (w.alloc (.cells #[] 213)) base (.slice (some ⟨w.heap.size,0,none⟩) 0 0) [] :=
 ⟨.nil,World.ownsRow_made w #[] 0 hb (Nat.zero_le _) rfl⟩
theorem nil_u32 (w:World) (a:Option Addr) (n c n' c':Nat):(binOp .eql 111 (.slice a n c) (.slice none n' c')).run Tryz.prog w=.ok (.bool a.isNone) w :=
 Lib.run_eql_slice_nil w _ _ a n c n' c' Tryz.underlying111
theorem trim_top {xs:List Nat} (h:Lt32 xs) {n:Nat} (hn:n≤xs.length) (hz:∀ i,n≤i→i<xs.length→nth xs i=0) (h0:0<n→nth xs (n-1)≠0) :
  xs.take n=limbs (val xs):=by
 rw[← val_take_zeros hn hz,limbs_val (h.take n) (top_take hn h0)]
theorem limbs_len_le {xs:List Nat} (h:Lt32 xs):(limbs (val xs)).length≤xs.length:=limbs_length_le.2 (val_lt h)
set_option maxHeartbeats 400000 in
theorem trim_any (a:Option Addr) (xs:List Nat) (c:Nat) (w:World) (h:Rd w a xs) (hc:xs.length≤c) (hm:c≤maxLen) :
  Calls Tryz.prog 211 #[.slice a xs.length c] w fun e w'=>e=.returned (.slice a (limbs (val xs)).length c)∧w=w':=by
 unfold maxLen at hm
 go_enter Tryz.func211,Tryz.ntmps211
 go_wp2
 go_loop [3] (fun x=>∃ n:Nat,n≤xs.length∧x=.int .i64 n∧∀ i,n≤i→i<xs.length→nth xs i=0) (fun x=>(intOf x).toNat)
 case atStart=>exact⟨xs.length,Nat.le_refl _,rfl,fun i h1 h2=>by omega⟩
 case round =>
 obtain⟨n,hn,rfl,hz⟩:=hrel
 have Hz:=hid hz;clear hz
 by_cases h0:n=0
 ·subst h0
  go_wp2
  go_ret
  have:=trim_top h.lt32 hn Hz.out (by omega)
  rw[← this]
  exact⟨rfl,rfl⟩
 obtain⟨b,o,rfl,hcell⟩:=h.some (i:=n-1) (by omega)
 have hk:=hcell (n-1) (by omega)
 clear hcell
 by_cases hx:nth xs (n-1)=0
 rotate_left
 ·have hx2:((nth xs (n-1):Int)==0)=false:=by simp;omega
  go_wp2
  go_ret
  have:=trim_top h.lt32 hn Hz.out (fun _=>hx)
  rw[← this,List.length_take,Nat.min_eq_left hn]
  exact⟨rfl,rfl⟩
 have hx2:((nth xs (n-1):Int)==0)=true:=by simp[hx]
 have Hx:=hid hx;clear hx
 go_wp2
 go_round
 case measure=>simp[intOf];omega
 case rel =>
 refine⟨n-1,by omega,by congr 1;omega,fun i h1 h2=>?_⟩
 by_cases hi:i=n-1
 ·rw[hi];exact Hx.out
 exact Hz.out i (by omega) h2
theorem trim_exists (xs:List Nat):∃ n,n≤xs.length∧(∀ i,n≤i→i<xs.length→nth xs i=0)∧(0<n→nth xs (n-1)≠0):=by
 have key:∀ k,k≤xs.length→(∀ i,k≤i→i<xs.length→nth xs i=0)→∃ n,n≤xs.length∧(∀ i,n≤i→i<xs.length→nth xs i=0)∧(0<n→nth xs (n-1)≠0):=by
  intro k
  induction k with
  | zero=>intro h1 h2;exact⟨0,h1,h2,fun h=>absurd h (by omega)⟩
  | succ k ih =>
   intro h1 h2
   by_cases h:nth xs k=0
   ·refine ih (by omega) fun i hi hi2=>?_
    by_cases e:i=k
    ·rw[e];exact h
    ·exact h2 i (by omega) hi2
   ·exact⟨k+1,h1,h2,fun _=>h⟩
 exact key xs.length (Nat.le_refl _) fun i h1 h2=>by omega
theorem take_limbs {xs:List Nat} (h:Lt32 xs):xs.take (limbs (val xs)).length=limbs (val xs):=by
 obtain⟨n,h1,h2,h3⟩:=trim_exists xs
 have e:=trim_top h h1 h2 h3
 have:(limbs (val xs)).length=n:=by rw[← e,List.length_take,Nat.min_eq_left h1]
 rw[this];exact e
theorem Rd.limbs {w:World} {a:Option Addr} {xs:List Nat} (h:Rd w a xs):Rd w a (Go.Proofs.YteidgoldnllabaaGreatDoor.limbs (val xs)):=by
 have h0:=h.take (Go.Proofs.YteidgoldnllabaaGreatDoor.limbs (val xs)).length
 rwa [take_limbs h.lt32] at h0
def idxP (p:Nat→Bool) (n:Nat):Int:=match (List.range n).find? p with | some i=>(i:Int) | none=>-1
theorem idxP_none {p:Nat→Bool} {n:Nat} (h:∀ i,i<n→p i=false):idxP p n=-1:=by
 unfold idxP
 have:(List.range n).find? p=none:=by
  rw[List.find?_eq_none];intro i hi;rw[h i (List.mem_range.1 hi)];decide
 rw[this]
theorem idxP_some {p:Nat→Bool} {n k:Nat} (hk:k<n) (hp:p k=true) (h:∀ i,i<k→p i=false):idxP p n=k:=by
 unfold idxP
 have:(List.range n).find? p=some k:=by
  rw[List.find?_range_eq_some]
  refine⟨hp,List.mem_range.2 hk,fun j hj=>?_⟩
  rw[h j hj];decide
 rw[this]
def anyP (p:Nat→Bool) (n:Nat):Bool:=(List.range n).any p
theorem anyP_false {p:Nat→Bool} {n:Nat}:anyP p n=false↔∀ i,i<n→p i=false:=by
 unfold anyP;rw[List.any_eq_false]
 constructor
 ·intro h i hi;simpa using h i (List.mem_range.2 hi)
 intro h i hi;rw[h i (List.mem_range.1 hi)];decide
theorem anyP_true {p:Nat→Bool} {n:Nat}:anyP p n=true↔∃ i,i<n∧p i=true:=by
 unfold anyP;rw[List.any_eq_true]
 exact⟨fun ⟨i,h1,h2⟩=>⟨i,List.mem_range.1 h1,h2⟩,fun ⟨i,h1,h2⟩=>⟨i,List.mem_range.2 h1,h2⟩⟩
theorem anyP_idx (p:Nat→Bool) (n:Nat):decide (0≤idxP p n)=anyP p n:=by
 by_cases h:∀ i,i<n→p i=false
 ·rw[idxP_none h,anyP_false.2 h];decide
 have h':∃ i,i<n∧p i=true:=by
  apply Classical.byContradiction;intro hn;apply h;intro i hi
  cases hp:p i with
  | false=>rfl
  | true=>exact absurd ⟨i,hi,hp⟩ hn
 rw[anyP_true.2 h']
 unfold idxP
 split
 ·simp
 next hnone =>
 rw[List.find?_eq_none] at hnone
 obtain⟨i,hi,hp⟩:=h'
 exact absurd hp (hnone i (List.mem_range.2 hi))
def Ans (P:Program) (g:FuncId) (cap:Array Value) (w:World) (n:Nat) (ev:Nat→Value) (p:Nat→Bool):Prop :=
 Enters P g∧∀ i,i<n→∀ w1,Kp w w1→Calls P g (#[ev i]++cap) w1 fun e w2=>e=.returned (.bool (p i))∧Kp w1 w2
set_option maxHeartbeats 400000 in
theorem idx_lists (a:Option Addr) (n c:Nat) (g:FuncId) (cap:Array Value) (w:World) (ev:Nat→Value) (p:Nat→Bool) (hm:n≤maxLen)
  (hev:∀ i,i<n→∃ b o,a=some ⟨b,o,none⟩∧w.cell? ⟨b,o+i,none⟩=some (ev i))
  (hp:Ans Tryz.prog g cap w n ev p) :
  Calls Tryz.prog 276 #[.slice a n c,.func (.func g) #[] cap] w fun e w'=>e=.returned (.int .i64 (idxP p n))∧Kp w w':=by
 unfold maxLen at hm
 go_enter Tryz.func276,Tryz.ntmps276
 go_wp2
 go_loopw [8] (fun x wr=>∃ k:Nat,k≤n∧x=.int .i64 k∧(∀ i,i<k→p i=false)∧Kp w wr) (fun x _=>n-(intOf x).toNat)
 case atStart=>exact⟨0,by omega,rfl,fun i h1=>by omega,.refl _⟩
 case round =>
 obtain⟨k,hk,rfl,hz,hkp⟩:=hrel
 have Hz:=hid hz;clear hz
 by_cases hlt:k<n
 rotate_left
 ·have:=idxP_none (p:=p) (n:=n) (fun i hi=>Hz.out i (by omega))
  have Hthis:=hid this;clear this
  go_wp2
  go_ret
  exact⟨by rw[Hthis.out];rfl,hkp⟩
 obtain⟨b,o,rfl,hcell⟩:=hev k hlt
 have hc1:=hkp.cell hcell
 clear hcell hev
 have hgo:∀ args w,(callFunc g args).run Tryz.prog w=.ok (.enter g args) w:=hp.1
 have hcall:=hp.2 k hlt wr hkp
 clear hp
 cases hq:p k with
 | true =>
  rw[hq] at hcall
  have Hc:=hid hcall
  have Hq:=hid hq
  clear hcall hq
  go_wp2_with (refine Hc.out.mono ?_;rintro e w2 ⟨rfl,hk2⟩)
  go_ret
  exact⟨by rw[idxP_some hlt Hq.out Hz.out];rfl,hkp.trans hk2⟩
 | false =>
 rw[hq] at hcall
 have Hc:=hid hcall
 have Hq:=hid hq
 clear hcall hq
 go_wp2_with (refine Hc.out.mono ?_;rintro e w2 ⟨rfl,hk2⟩)
 go_roundw
 case measure=>simp[intOf];omega
 case rel =>
 refine⟨k+1,by omega,by go_num,fun i hi=>?_,hkp.trans hk2⟩
 by_cases h:i=k
 ·rw[h];exact Hq.out
 exact Hz.out i (by omega)
set_option maxHeartbeats 400000 in
theorem has_lists (a:Option Addr) (n c:Nat) (g:FuncId) (cap:Array Value) (w:World) (ev:Nat→Value) (p:Nat→Bool) (hm:n≤maxLen)
  (hev:∀ i,i<n→∃ b o,a=some ⟨b,o,none⟩∧w.cell? ⟨b,o+i,none⟩=some (ev i))
  (hp:Ans Tryz.prog g cap w n ev p) :
  Calls Tryz.prog 249 #[.slice a n c,.func (.func g) #[] cap] w fun e w'=>e=.returned (.bool (anyP p n))∧Kp w w':=by
 have Hc:=hid (idx_lists a n c g cap w ev p hm hev hp)
 have Ha:=hid (anyP_idx p n)
 clear hev hp hm
 go_enter Tryz.func249,Tryz.ntmps249
 go_wp2_with (refine Hc.out.mono ?_;rintro e w2 ⟨rfl,hk2⟩)
 go_ret
 exact⟨by rw[← Ha.out];rfl,hk2⟩
theorem enters149:Enters Tryz.prog 250:=fun _ _=>by kernel_rfl
set_option maxHeartbeats 400000 in
theorem long1_any (a:Option Addr) (n c:Nat) (w:World) (hm:n≤maxLen) :
  Calls Tryz.prog 250 #[.slice a n c] w fun e w'=>e=.returned (.bool (decide (256<n)))∧w=w':=by
 unfold maxLen at hm
 go_enter Tryz.func250,Tryz.ntmps250
 go_wp2
 go_ret
 exact⟨ret_bool (by simp;omega),rfl⟩
def lenBig (nv:Nat→Nat) (i:Nat):Bool:=decide (256<nv i)
set_option maxHeartbeats 400000 in
theorem long_any (a:Option Addr) (n c:Nat) (av:Nat→Option Addr) (nv cv:Nat→Nat) (w:World) (hm:n≤maxLen) (hn:∀ i,i<n→nv i≤maxLen)
  (hev:∀ i,i<n→∃ b o,a=some ⟨b,o,none⟩∧w.cell? ⟨b,o+i,none⟩=some (.slice (av i) (nv i) (cv i))) :
  Calls Tryz.prog 208 #[.slice a n c] w fun e w'=>e=.returned (.bool (anyP (lenBig nv) n))∧Kp w w':=by
 have Hc:=hid (has_lists a n c 250 #[] w (fun i=>.slice (av i) (nv i) (cv i)) (lenBig nv) hm hev
  ⟨enters149,fun i hi w1 _=>(long1_any (av i) (nv i) (cv i) w1 (hn i hi)).mono fun e w2 ⟨h1,h2⟩=>⟨h1,h2▸.refl _⟩⟩)
 clear hev hn hm
 go_enter Tryz.func208,Tryz.ntmps208
 go_wp2_with (refine Hc.out.mono ?_;rintro e w2 ⟨rfl,hk2⟩)
 go_ret
 exact⟨rfl,hk2⟩
theorem anyP_one (p:Nat→Bool):anyP p 1=p 0:=by unfold anyP;simp[List.range_succ]
theorem anyP_two (p:Nat→Bool):anyP p 2=(p 0||p 1):=by unfold anyP;simp[List.range_succ]
set_option maxHeartbeats 400000 in
theorem clip_any (a:Option Addr) (n c:Nat) (w:World) (hn:n≤c) (_hm:c≤maxLen) :
  Calls Tryz.prog 251 #[.slice a n c] w fun e w'=>e=.returned (.slice a n n)∧w=w':=by
 go_enter Tryz.func251,Tryz.ntmps251
 go_wp2
 go_ret
 exact⟨rfl,rfl⟩
def Nat2 (w:World) (v:Nat) (f:Int) (e:Ending) (w':World):Prop :=
 ∃ a c,e=.returned (.tuple #[.slice a (limbs v).length c,.int .i64 f])∧(limbs v).length≤c∧c≤maxLen∧Rd w' a (limbs v)∧Kp w w'
theorem nat2_intro {w w':World} {v:Nat} {f:Int} {e:Ending} (a:Option Addr) (n c:Nat) (he:e=.returned (.tuple #[.slice a n c,.int .i64 f])) (hn:n=(limbs v).length) (hc:n≤c) (hm:c≤maxLen) (hr:Rd w' a (limbs v)) (hk:Kp w w'):Nat2 w v f e w':=by
 subst hn;exact⟨a,c,he,hc,hm,hr,hk⟩
set_option maxHeartbeats 400000 in
theorem long_one (a:Option Addr) (n c g:Nat) (w:World) (hn:n≤256) (hcell:w.cell? ⟨g,0,none⟩=some (.slice a n c)) :
  Calls Tryz.prog 208 #[.slice (some ⟨g,0,none⟩) 1 1] w fun e w'=>e=.returned (.bool false)∧Kp w w':=by
 have h:=long_any (some ⟨g,0,none⟩) 1 1 (fun _=>a) (fun _=>n) (fun _=>c) w (by decide) (fun _ _=>by unfold maxLen;omega) (fun i hi=>⟨g,0,rfl,by rw[show i=0 by omega];exact hcell⟩)
 refine h.mono fun e w' ⟨h1,h2⟩=>⟨?_,h2⟩
 rw[h1,anyP_one]
 exact ret_bool (decide_eq_false (show ¬ 256<n by omega))
set_option maxHeartbeats 400000 in
theorem long_two (a a2:Option Addr) (n c n2 c2 g:Nat) (w:World) (hn:n≤256) (hn2:n2≤256) (hcell:w.cell? ⟨g,0,none⟩=some (.slice a n c)) (hcell2:w.cell? ⟨g,1,none⟩=some (.slice a2 n2 c2)) :
  Calls Tryz.prog 208 #[.slice (some ⟨g,0,none⟩) 2 2] w fun e w'=>e=.returned (.bool false)∧Kp w w':=by
 have h:=long_any (some ⟨g,0,none⟩) 2 2 (fun i=>if i=0 then a else a2) (fun i=>if i=0 then n else n2) (fun i=>if i=0 then c else c2) w (by decide) (fun i _=>by unfold maxLen;split <;> omega) (fun i hi=>⟨g,0,rfl,by
  rcases (show i=0∨i=1 by omega) with rfl | rfl
  ·exact hcell
  ·exact hcell2⟩)
 refine h.mono fun e w' ⟨h1,h2⟩=>⟨?_,h2⟩
 rw[h1,anyP_two]
 refine ret_bool ?_
 unfold lenBig
 simp;omega
set_option maxHeartbeats 400000 in
theorem done_ok (a:Option Addr) (xs:List Nat) (c:Nat) (w:World) (h:Rd w a xs) (hc:xs.length≤c) (hm:c≤maxLen) (hv:(limbs (val xs)).length≤256) :
  Calls Tryz.prog 209 #[.slice a xs.length c] w (Nat2 w (val xs) 0):=by
 have H1:=hid (trim_any a xs c w h hc hm)
 have hl:=limbs_len_le h.lt32
 have hr:=h.limbs
 generalize hn:(limbs (val xs)).length=n at *
 have Hn:=hid hn;clear hn
 go_enter Tryz.func209,Tryz.ntmps209
 go_wp2_with fail
 refine H1.out.mono ?_
 rintro e w2 ⟨rfl,rfl⟩
 go_wp2_with fail
 refine (long_one a n c _ _ hv (by simp)).mono ?_
 rintro e w3 ⟨rfl,hk⟩
 go_wp2_with fail
 refine (clip_any a n c _ (by omega) hm).mono ?_
 rintro e w4 ⟨rfl,rfl⟩
 go_wp2_with fail
 go_ret2
 have hk2:Kp w w3:=((Kp.refl w).alloc _).trans hk
 exact nat2_intro a n n rfl Hn.out.symm (Nat.le_refl _) (by omega) (hr.kp hk2) hk2
theorem ret_two32 {a b c d:Int} (h:a=c) (h2:b=d):Ending.returned (.tuple #[.int .u32 a,.int .u32 b])=.returned (.tuple #[.int .u32 c,.int .u32 d]):=by rw[h,h2]
set_option maxHeartbeats 400000 in
theorem add32_any (x y c:Int) (w:World) (hx0:0≤x) (hx:x<4294967296) (hy0:0≤y) (hy:y<4294967296) (hc0:0≤c) (hc:c≤1) :
  Calls Tryz.prog 301 #[.int .u32 x,.int .u32 y,.int .u32 c] w fun e w' =>
   e=.returned (.tuple #[.int .u32 ((x+y+c) % 4294967296),.int .u32 ((x+y+c)/4294967296)])∧w=w':=by
 go_enter Tryz.func301,Tryz.ntmps301
 go_wp2
 go_ret2
 exact⟨rfl,rfl⟩
def MadeV (w:World) (v n:Nat) (e:Ending) (w':World):Prop :=
 ∃ g zs,e=.returned (.slice (some ⟨g,0,none⟩) n n)∧zs.length=n∧val zs=v∧Rd w' (some ⟨g,0,none⟩) zs∧Kp w w'
set_option maxHeartbeats 1000000 in
theorem add_any (a b:Option Addr) (xs ys:List Nat) (c d:Nat) (w:World) (hx:Rd w a xs) (hy:Rd w b ys) (hxl:xs.length≤1000) (hyl:ys.length≤1000) :
  Calls Tryz.prog 308 #[.slice a xs.length c,.slice b ys.length d] w (MadeV w (val xs+val ys) (max xs.length ys.length+1)):=by
 go_enter Tryz.func308,Tryz.ntmps308
 go_upto_if 14 with fail
 go_cut [0,1] (fun x y wx=>wx=w∧∃ a1 a2 xs1 xs2 c1 c2,x=.slice a1 xs1.length c1∧y=.slice a2 xs2.length c2∧Rd w a1 xs1∧Rd w a2 xs2∧xs2.length≤xs1.length∧xs1.length≤1000∧val xs1+val xs2=val xs+val ys∧max xs.length ys.length=xs1.length)
 case first =>
  go_wp2
  ·go_meet
   case rel=>exact⟨rfl,b,a,ys,xs,d,c,rfl,rfl,hy,hx,by omega,hyl,by omega,by omega⟩
  go_meet
  case rel=>exact⟨rfl,a,b,xs,ys,c,d,rfl,rfl,hx,hy,by omega,hxl,rfl,by omega⟩
 case rest =>
 obtain⟨rfl,a1,a2,xs1,ys1,c1,c2,rfl,rfl,h1,h2,hle,hl,hv,hmax⟩:=hcut
 have Hv:=hid hv
 have Hmax:=hid hmax
 clear hv hmax hx hy hxl hyl
 have hmk:=make_u32 ((xs1.length:Int)+1) (xs1.length+1) (by omega) (by omega)
 go_wp2
 clear hmk
 go_loopw [6,23] (fun cy ix wr=>∃ (k c:Nat) (zs:List Nat),k≤xs1.length∧ix=.int .i64 k∧cy=.int .u32 c∧c≤1∧zs.length=xs1.length+1∧Blk wr wc.heap.size zs∧Lt32 zs ∧
  val (zs.take k)+4294967296 ^ k*c=val (xs1.take k)+val (ys1.take k)∧Kp wc wr) (fun _ ix _=>xs1.length-(intOf ix).toNat)
 case atStart=>exact⟨0,0,_,Nat.zero_le _,rfl,rfl,by omega,by simp,Blk.made _ _,.replicate _,by simp[val],(Kp.refl _).alloc _⟩
 case round =>
 obtain⟨k,cy,zs,hk,rfl,rfl,hcy,hzl,hb,hz32,hvz,hkp⟩:=hrel
 have Hvz:=hid hvz
 have Hzl:=hid hzl
 clear hvz
 by_cases hlt:k<xs1.length
 rotate_left
 ·have hs1:=hb.cell (i:=xs1.length) (by omega)
  have hs2:=hb.frozen xs1.length
  go_wp2
  go_ret
  have hke:k=xs1.length:=by omega
  have e1:=val_set_last (c:=cy) Hzl.out
  have e2:=Hvz.out
  rw[hke,List.take_of_length_le (Nat.le_refl _),List.take_of_length_le hle,← e1,Hv.out] at e2
  exact⟨wc.heap.size,zs.set xs1.length cy,by rw[Hmax.out];rfl,by simp[Hzl.out,Hmax.out],e2,(hb.put rfl).rd (hz32.set _ _ (by omega)),hkp.set (Nat.le_refl _) _⟩
 obtain⟨b1,o1,rfl,hcx⟩:=(h1.kp hkp).some hlt
 have hx1:=hcx k hlt
 have bx:=h1.lt32.nth k
 have by':=h2.lt32.nth k
 have hs1:=hb.cell (i:=k) (by omega)
 have hs2:=hb.frozen k
 clear hcx
 by_cases hlt2:k<ys1.length
 rotate_left
 ·go_wp2_with fail
  refine (add32_any _ _ _ _ (by omega) (by omega) (by omega) (by omega) (by omega) (by omega)).mono ?_
  rintro e w2 ⟨rfl,rfl⟩
  go_wp2_with fail
  have hny:nth ys1 k=0:=nth_ge (by omega)
  go_roundw
  case measure=>simp[intOf];omega
  case rel =>
  refine⟨k+1,(nth xs1 k+nth ys1 k+cy)/4294967296,zs.set k ((nth xs1 k+nth ys1 k+cy) % 4294967296),by omega,by go_num,by congr 1;omega,by omega,by simp[Hzl.out],hb.put (by omega),hz32.set _ _ (by omega),add_step (by omega) Hvz.out,hkp.set (Nat.le_refl _) _⟩
 obtain⟨b2,o2,rfl,hcy2⟩:=(h2.kp hkp).some hlt2
 have hy1:=hcy2 k hlt2
 clear hcy2
 go_wp2_with fail
 refine (add32_any _ _ _ _ (by omega) (by omega) (by omega) (by omega) (by omega) (by omega)).mono ?_
 rintro e w2 ⟨rfl,rfl⟩
 go_wp2_with fail
 go_roundw
 case measure=>simp[intOf];omega
 case rel =>
 refine⟨k+1,(nth xs1 k+nth ys1 k+cy)/4294967296,zs.set k ((nth xs1 k+nth ys1 k+cy) % 4294967296),by omega,by go_num,by congr 1,by omega,by simp[Hzl.out],hb.put (by omega),hz32.set _ _ (by omega),add_step (by omega) Hvz.out,hkp.set (Nat.le_refl _) _⟩
theorem div_or (a b k:Nat):(a ||| b)/2 ^ k=a/2 ^ k ||| b/2 ^ k:=by
 rw[← Nat.shiftRight_eq_div_pow,← Nat.shiftRight_eq_div_pow,← Nat.shiftRight_eq_div_pow,Nat.shiftRight_or_distrib]
theorem div_and (a b k:Nat):(a &&& b)/2 ^ k=a/2 ^ k &&& b/2 ^ k:=by
 rw[← Nat.shiftRight_eq_div_pow,← Nat.shiftRight_eq_div_pow,← Nat.shiftRight_eq_div_pow,Nat.shiftRight_and_distrib]
theorem div_xor (a b k:Nat):(a ^^^ b)/2 ^ k=a/2 ^ k ^^^ b/2 ^ k:=by
 rw[← Nat.shiftRight_eq_div_pow,← Nat.shiftRight_eq_div_pow,← Nat.shiftRight_eq_div_pow,Nat.shiftRight_xor_distrib]
theorem lt_xor32 {a b:Nat} (ha:a<4294967296) (hb:b<4294967296):a ^^^ b<4294967296:=Nat.xor_lt_two_pow (n:=32) ha hb
theorem lt_and32 {a b:Nat} (hb:b<4294967296):a &&& b<4294967296:=Nat.lt_of_le_of_lt Nat.and_le_right hb
def bor (x y c:Int):Int:=if x<y+c then 1 else 0
theorem bor_val (x y c:Int):0≤bor x y c∧bor x y c≤1:=by unfold bor;split <;> omega
theorem bor_nat {x y c d:Nat} (hx:x<4294967296) (hy:y<4294967296) (hc:c≤1) (_hd:d<4294967296) (he:(d:Int)=((x:Int)-y-c) % 4294967296) :
  ((((4294967295 ^^^ x) &&& y) ||| ((4294967295 ^^^ (x ^^^ y)) &&& d))/2147483648:Nat)=if x<y+c then 1 else 0:=by
 rw[show (2147483648:Nat)=2 ^ 31 from rfl,div_or,div_and,div_and,div_xor,div_xor,div_xor]
 have ex:x/2 ^ 31=0∨x/2 ^ 31=1:=by omega
 have ey:y/2 ^ 31=0∨y/2 ^ 31=1:=by omega
 have ed:d/2 ^ 31=0∨d/2 ^ 31=1:=by omega
 have em:4294967295/2 ^ 31=1:=by decide
 rw[em]
 rcases ex with ex | ex <;> rcases ey with ey | ey <;> rcases ed with ed | ed <;> rw[ex,ey,ed] <;> simp <;> omega
theorem bor_bits (x y c d:Int) (hx0:0≤x) (hx:x<4294967296) (hy0:0≤y) (hy:y<4294967296) (hc0:0≤c) (hc:c≤1) (he:d=(x-y-c) % 4294967296) :
  Go.bits BinOp.or IntKind.u32 (Go.bits BinOp.and IntKind.u32 (Go.bits BinOp.xor IntKind.u32 IntKind.u32.max x) y)
   (Go.bits BinOp.and IntKind.u32 (Go.bits BinOp.xor IntKind.u32 IntKind.u32.max (Go.bits BinOp.xor IntKind.u32 x y)) d)/2147483648=bor x y c:=by
 obtain⟨x,rfl⟩:=Int.eq_ofNat_of_zero_le hx0
 obtain⟨y,rfl⟩:=Int.eq_ofNat_of_zero_le hy0
 obtain⟨c,rfl⟩:=Int.eq_ofNat_of_zero_le hc0
 obtain⟨d,rfl⟩:∃ n:Nat,d=n:=⟨d.toNat,by omega⟩
 have hx':x<4294967296:=by omega
 have hy':y<4294967296:=by omega
 have hd':d<4294967296:=by omega
 have em:IntKind.u32.max=((4294967295:Nat):Int):=by decide
 rw[em,u32_xor_nat _ _ (by decide) hx',u32_xor_nat _ _ hx' hy',u32_and_nat _ _ (lt_xor32 (by decide) hx') hy',
  u32_xor_nat _ _ (by decide) (lt_xor32 hx' hy'),u32_and_nat _ _ (lt_xor32 (by decide) (lt_xor32 hx' hy')) hd',
  u32_or_nat _ _ (lt_and32 hy') (lt_and32 hd')]
 have:=bor_nat (c:=c) hx' hy' (by omega) hd' he
 unfold bor
 rw[show (2147483648:Int)=((2147483648:Nat):Int) from rfl,← Int.natCast_ediv,this]
 split <;> split <;> omega
set_option maxHeartbeats 400000 in
theorem sub32_any (x y c:Int) (w:World) (hx0:0≤x) (hx:x<4294967296) (hy0:0≤y) (hy:y<4294967296) (hc0:0≤c) (hc:c≤1) :
  Calls Tryz.prog 312 #[.int .u32 x,.int .u32 y,.int .u32 c] w fun e w' =>
   e=.returned (.tuple #[.int .u32 ((x-y-c) % 4294967296),.int .u32 (bor x y c)])∧w=w':=by
 have Hb:=hid (bor_bits x y c _ hx0 hx hy0 hy hc0 hc rfl)
 go_enter Tryz.func312,Tryz.ntmps312
 go_wp2
 all_goals go_ret2
 all_goals exact⟨ret_two32 rfl Hb.out,rfl⟩
theorem bor_eq {x y c:Nat} {z:Nat} (hx:x<4294967296) (hy:y<4294967296) (hc:c≤1) (hz:(z:Int)=((x:Int)-y-c) % 4294967296):z+y+c=x+4294967296*(bor x y c).toNat:=by
 unfold bor;split <;> omega
set_option maxHeartbeats 1000000 in
theorem sub_any (a b:Option Addr) (xs ys:List Nat) (c d:Nat) (w:World) (hx:Rd w a xs) (hy:Rd w b ys) (hxl:xs.length≤1000) (hxc:xs.length≤c) (hyc:ys.length≤d) (hc:c≤maxLen) (hd:d≤maxLen) (hle:val ys≤val xs) :
  Calls Tryz.prog 309 #[.slice a xs.length c,.slice b ys.length d] w (MadeV w (val xs-val ys) (limbs (val xs)).length):=by
 have H1:=hid (trim_any a xs c w hx hxc hc)
 have H2:=hid (trim_any b ys d w hy hyc hd)
 have h1:=hx.limbs
 have h2:=hy.limbs
 have hl1:=limbs_len_le hx.lt32
 have hl2:(limbs (val ys)).length≤(limbs (val xs)).length:=limbs_length_le.2 (Nat.lt_of_le_of_lt hle (by have:=val_lt (limbs_lt32 (val xs));rwa [val_limbs] at this))
 have hv1:=val_limbs (val xs)
 have hv2:=val_limbs (val ys)
 have Hle:=hid hle
 go_enter Tryz.func309,Tryz.ntmps309
 go_wp2_with fail
 refine H1.out.mono ?_
 rintro e w2 ⟨rfl,rfl⟩
 go_wp2_with fail
 refine H2.out.mono ?_
 rintro e w2 ⟨rfl,rfl⟩
 clear H1 H2 hx hy hle hc hd hxc hyc
 generalize limbs (val xs)=us at *
 generalize limbs (val ys)=vs at *
 have Hv1:=hid hv1
 have Hv2:=hid hv2
 clear hv1 hv2
 have hmk:=make_u32 (us.length:Int) us.length rfl (by omega)
 go_wp2
 clear hmk
 go_loopw [6,19] (fun cy ix wr=>∃ (k c:Nat) (zs:List Nat),k≤us.length∧ix=.int .i64 k∧cy=.int .u32 c∧c≤1∧zs.length=us.length∧Blk wr w.heap.size zs∧Lt32 zs ∧
   val (zs.take k)+val (vs.take k)=val (us.take k)+4294967296 ^ k*c∧Kp w wr) (fun _ ix _=>us.length-(intOf ix).toNat)
 case atStart=>exact⟨0,0,_,Nat.zero_le _,rfl,rfl,by omega,by simp,Blk.made _ _,.replicate _,by simp[val],(Kp.refl _).alloc _⟩
 case round =>
 obtain⟨k,cy,zs,hk,rfl,rfl,hcy,hzl,hb,hz32,hvz,hkp⟩:=hrel
 have Hvz:=hid hvz
 have Hzl:=hid hzl
 clear hvz
 by_cases hlt:k<us.length
 rotate_left
 ·go_wp2
  go_ret
  have hke:k=us.length:=by omega
  have e2:=Hvz.out
  rw[hke,List.take_of_length_le (Nat.le_refl _),List.take_of_length_le hl2,List.take_of_length_le (by omega),Hv1.out,Hv2.out] at e2
  have e3:=val_lt hz32
  rw[Hzl.out] at e3
  have e4:=Hle.out
  have hc0:cy=0:=by
   rcases (show cy=0∨cy=1 by omega) with h | h
   ·exact h
   ·subst h;omega
  subst hc0
  exact⟨w.heap.size,zs,rfl,Hzl.out,by omega,hb.rd hz32,hkp⟩
 obtain⟨b1,o1,rfl,hcx⟩:=(h1.kp hkp).some hlt
 have hx1:=hcx k hlt
 have bx:=h1.lt32.nth k
 have by':=h2.lt32.nth k
 have hs1:=hb.cell (i:=k) (by omega)
 have hs2:=hb.frozen k
 have hbv:=bor_val (nth us k) (nth vs k) cy
 have Heq:=hid (fun z h=>bor_eq (z:=z) bx by' hcy h)
 clear hcx
 by_cases hlt2:k<vs.length
 ·obtain⟨b2,o2,rfl,hcy2⟩:=(h2.kp hkp).some hlt2
  have hy1:=hcy2 k hlt2
  clear hcy2
  go_wp2_with fail
  refine (sub32_any _ _ _ _ (by omega) (by omega) (by omega) (by omega) (by omega) (by omega)).mono ?_
  rintro e w2 ⟨rfl,rfl⟩
  go_wp2_with fail
  go_roundw
  case measure=>simp[intOf];omega
  case rel =>
  refine⟨k+1,(bor (nth us k) (nth vs k) cy).toNat,zs.set k (((nth us k:Int)-nth vs k-cy) % 4294967296).toNat,by omega,by go_num,by congr 1;omega,by omega,by simp[Hzl.out],hb.put (by omega),hz32.set _ _ (by omega),sub_step (by omega) Hvz.out (Heq.out _ (by omega)),hkp.set (Nat.le_refl _) _⟩
 have hny:nth vs k=0:=nth_ge (by omega)
 have Hny:=hid hny
 clear hny
 have hbv:=bor_val (nth us k) 0 cy
 go_wp2_with fail
 refine (sub32_any _ _ _ _ (by omega) (by omega) (by omega) (by omega) (by omega) (by omega)).mono ?_
 rintro e w2 ⟨rfl,rfl⟩
 go_wp2_with fail
 go_roundw
 case measure=>simp[intOf];omega
 case rel =>
 have hny:=Hny.out
 refine⟨k+1,(bor (nth us k) (nth vs k) cy).toNat,zs.set k (((nth us k:Int)-nth vs k-cy) % 4294967296).toNat,by omega,by go_num,by rw[hny];congr 1;simp;omega,by omega,by simp[Hzl.out],hb.put (by rw[hny];simp;omega),hz32.set _ _ (by omega),sub_step (by omega) Hvz.out (Heq.out _ (by omega)),hkp.set (Nat.le_refl _) _⟩
section
def tz (n:Nat):Nat:=if n=0 then 0 else if n % 2=1 then 0 else tz (n/2)+1
termination_by n
decreasing_by omega
theorem tz_odd {n:Nat} (h:n % 2=1):tz n=0:=by rw[tz];split <;> simp_all
theorem tz_even {n:Nat} (h0:n≠0) (h:n % 2=0):tz n=tz (n/2)+1:=by rw[tz];rw[if_neg h0,if_neg (by omega)]
def oddp (n:Nat):Nat:=n/2 ^ tz n
theorem tz_spec (n:Nat) (h:n≠0):∃ m,m % 2=1∧n=m*2 ^ tz n:=by
 induction n using Nat.strongRecOn with
 | _ n ih =>
  by_cases h1:n % 2=1
  ·exact⟨n,h1,by rw[tz_odd h1];simp⟩
  ·obtain⟨m,hm,e⟩:=ih (n/2) (by omega) (by omega)
   refine⟨m,hm,?_⟩
   rw[tz_even h (by omega),Nat.pow_succ,← Nat.mul_assoc,← e];omega
theorem oddp_spec {n:Nat} (h:n≠0):oddp n % 2=1∧n=oddp n*2 ^ tz n:=by
 obtain⟨m,hm,e⟩:=tz_spec n h
 have:oddp n=m:=by
  unfold oddp
  conv=>lhs;lhs;rw[e]
  exact Nat.mul_div_cancel _ (Nat.pow_pos (by decide))
 rw[this];exact⟨hm,e⟩
theorem odd_pow_unique {m m' a b:Nat} (hm:m % 2=1) (hm':m' % 2=1) (h:m*2 ^ a=m'*2 ^ b):m=m'∧a=b:=by
 induction a generalizing b with
 | zero =>
  cases b with
  | zero=>simpa using h
  | succ b =>
   exfalso
   rw[Nat.pow_succ,← Nat.mul_assoc] at h
   simp at h;omega
 | succ a ih =>
  cases b with
  | zero =>
   exfalso
   rw[Nat.pow_succ,← Nat.mul_assoc] at h
   simp at h;omega
  | succ b =>
   rw[Nat.pow_succ,Nat.pow_succ,← Nat.mul_assoc,← Nat.mul_assoc] at h
   have:=ih (b:=b) (by omega)
   exact⟨this.1,by omega⟩
theorem tz_mul_pow {m:Nat} (hm:m % 2=1) (k:Nat):tz (m*2 ^ k)=k:=by
 have hne:m*2 ^ k≠0:=Nat.mul_ne_zero (by omega) (Nat.ne_of_gt (Nat.pow_pos (by decide)))
 obtain⟨h1,h2⟩:=oddp_spec hne
 exact (odd_pow_unique hm h1 h2).2.symm
theorem oddp_mul_pow {m:Nat} (hm:m % 2=1) (k:Nat):oddp (m*2 ^ k)=m:=by
 have hne:m*2 ^ k≠0:=Nat.mul_ne_zero (by omega) (Nat.ne_of_gt (Nat.pow_pos (by decide)))
 obtain⟨h1,h2⟩:=oddp_spec hne
 exact (odd_pow_unique hm h1 h2).1.symm
theorem oddp_odd {m:Nat} (hm:m % 2=1):oddp m=m:=by simpa using oddp_mul_pow hm 0
theorem oddp_ne_zero {n:Nat} (h:n≠0):oddp n≠0:=by have:=(oddp_spec h).1;omega
theorem bits_oddp {n:Nat} (h:n≠0):bits n=bits (oddp n)+tz n:=by
 conv=>lhs;rw[(oddp_spec h).2]
 exact bits_mul_pow (oddp_ne_zero h)
theorem tz_shift {n:Nat} (h:n≠0) (k:Nat):tz (n*2 ^ k)=tz n+k:=by
 have h1:=oddp_spec h
 conv=>lhs;rw[h1.2,Nat.mul_assoc,← Nat.pow_add]
 exact tz_mul_pow h1.1 _
theorem oddp_shift {n:Nat} (h:n≠0) (k:Nat):oddp (n*2 ^ k)=oddp n:=by
 have h1:=oddp_spec h
 conv=>lhs;rw[h1.2,Nat.mul_assoc,← Nat.pow_add]
 exact oddp_mul_pow h1.1 _
structure Dy where
 neg:Bool
 m:Nat
 e:Int
deriving DecidableEq
def Dy.zero:Dy:=⟨false,0,0⟩
def Dy.ok (d:Dy):Prop :=
 (d.m=0∧d.neg=false∧d.e=0)∨(d.m % 2=1∧bits d.m≤4096∧-16384≤d.e∧d.e≤16384∧bits d.m+d.e≤16384)
instance (d:Dy):Decidable d.ok:=by unfold Dy.ok;exact inferInstance
def sg (neg:Bool) (n:Nat):Int:=if neg then -(n:Int) else n
def Dy.iv (d:Dy):Int:=sg d.neg (d.m*2 ^ (d.e+16384).toNat)
theorem Dy.ok_zero:Dy.zero.ok:=.inl ⟨rfl,rfl,rfl⟩
theorem sg_zero (s:Bool):sg s 0=0:=by unfold sg;cases s <;> rfl
theorem sg_eq_zero {s:Bool} {n:Nat}:sg s n=0↔n=0:=by unfold sg;cases s <;> simp
theorem Dy.iv_zero:Dy.zero.iv=0:=by
 unfold Dy.iv Dy.zero;simp only[Nat.zero_mul,sg_zero]
theorem Dy.iv_eq_zero {d:Dy}:d.iv=0↔d.m=0:=by
 unfold Dy.iv;rw[sg_eq_zero]
 constructor
 ·intro h
  rcases Nat.mul_eq_zero.1 h with h | h
  ·exact h
  exact absurd h (Nat.ne_of_gt (Nat.pow_pos (by decide)))
 intro h;rw[h];simp
theorem Dy.eq_zero {d:Dy} (h:d.ok) (h0:d.m=0):d=Dy.zero:=by
 rcases h with ⟨h1,h2,h3⟩ | ⟨h1,_⟩
 ·cases d;simp_all [Dy.zero]
 omega
def canon (neg:Bool) (n:Nat) (e:Int):Dy:=if n=0 then .zero else ⟨neg,oddp n,e+tz n⟩
theorem canon_zero (neg:Bool) (e:Int):canon neg 0 e=.zero:=rfl
theorem canon_shift (neg:Bool) (n k:Nat) (e:Int):canon neg (n*2 ^ k) e=canon neg n (e+k):=by
 unfold canon
 by_cases h:n=0
 ·subst h;simp
 rw[if_neg h,if_neg (Nat.mul_ne_zero h (Nat.ne_of_gt (Nat.pow_pos (by decide)))),oddp_shift h,tz_shift h]
 congr 1;omega
theorem canon_ok {d:Dy} (h:d.ok):canon d.neg d.m d.e=d:=by
 unfold canon
 split
 ·next h0=>exact (d.eq_zero h h0).symm
 next h0 =>
 rcases h with ⟨h1,_⟩ | ⟨h1,_⟩
 ·exact absurd h1 h0
 rw[oddp_odd h1,tz_odd h1];cases d;simp
theorem canon_iv (neg:Bool) (n:Nat) (e:Int) (h:-16384≤e):(canon neg n e).iv=sg neg (n*2 ^ (e+16384).toNat):=by
 unfold canon
 split
 ·next h0=>subst h0;rw[Dy.iv_zero];simp[sg_zero]
 next h0 =>
 unfold Dy.iv
 simp only[]
 congr 1
 conv=>rhs;rw[(oddp_spec h0).2]
 rw[Nat.mul_assoc,← Nat.pow_add]
 congr 2;omega
def inr (d:Dy):Prop:=d.m=0∨(bits d.m≤4096∧-16384≤d.e∧d.e≤16384∧bits d.m+d.e≤16384)
instance (d:Dy):Decidable (inr d):=by unfold inr;exact inferInstance
theorem canon_ok_iff (neg:Bool) (n:Nat) (e:Int):(canon neg n e).ok↔inr (canon neg n e):=by
 unfold canon
 split
 ·exact⟨fun _=>.inl rfl,fun _=>Dy.ok_zero⟩
 next h0 =>
 have h1:=oddp_spec h0
 unfold Dy.ok inr
 simp only[]
 constructor
 ·rintro (⟨h,_⟩ | ⟨_,h⟩)
  ·exact absurd h (oddp_ne_zero h0)
  exact .inr h
 rintro (h | h)
 ·exact absurd h (oddp_ne_zero h0)
 exact .inr ⟨h1.1,h⟩
end
theorem bits_half {x:Nat} (h:x≠0):bits x=1+bits (x/2):=by
 apply bits_unique
 ·have:=lt_two_pow_bits (x/2)
  rw[Nat.pow_add];omega
 right
 by_cases h2:x/2=0
 ·rw[h2];simp[bits_zero];omega
 have:=two_pow_le_of_bits h2
 have h3:=bits_pos h2
 rw[show 1+bits (x/2)-1=(bits (x/2)-1)+1 from by omega,Nat.pow_succ];omega
theorem bitLenAux_eq:∀ (f x:Nat),x<2 ^ f→Lib.bitLenAux f x=bits x
 | 0,x,h=>by
  have:x=0:=by simpa using h
  subst this;rfl
 | f+1,x,h=>by
  unfold Lib.bitLenAux
  by_cases h0:x=0
  ·subst h0;rfl
  ·rw[if_neg h0,bits_half h0,bitLenAux_eq f (x/2) (by rw[Nat.pow_succ] at h;omega)]
theorem bitLen_eq {x:Nat} (h:x<4294967296):Lib.bitLen x=bits x :=
 bitLenAux_eq 64 x (Nat.lt_of_lt_of_le (show x<2 ^ 32 from h) (Nat.pow_le_pow_right (by decide) (by decide)))
theorem tab_at (b:Int) (h0:0≤b) (h1:b≤255) (h:b.toNat<Lib.len8tab.size):((Lib.len8tab[b.toNat]).toNat:Int)=(Lib.bitLen b.toNat:Int):=by
 rw[← Lib.len8_of b h0 h1]
 unfold Lib.len8
 rw[ByteArray.getElem?_lt' _ _ h,Option.getD_some]
theorem len_wrap (n k:Int) (h0:0≤n) (h1:n≤8) (k0:0≤k) (k1:k≤24):wrap64 (k+wrap64 n)=k+n:=by
 rw[IntWalk.wrap64_in n ⟨by omega,by omega⟩,IntWalk.wrap64_in (k+n) ⟨by omega,by omega⟩]
theorem len_wrap0 (n:Int) (h0:0≤n) (h1:n≤8):wrap64 (wrap64 n)=n:=by
 rw[IntWalk.wrap64_in n ⟨by omega,by omega⟩,IntWalk.wrap64_in n ⟨by omega,by omega⟩]
set_option maxHeartbeats 4000000 in
set_option maxRecDepth 100000 in
theorem len32_raw (x:Int) (w:World) (h0:0≤x) (h1:x≤4294967295) :
  Calls Tryz.prog 238 #[.int .u32 x] w fun e w'=>e=.returned (.int .i64 (Lib.bitLen x.toNat))∧w'=w:=by
 have hsz:(Lib.len8tab.size:Int)=256:=by rw[Lib.len8tab_size];rfl
 go_enter Tryz.func238,Tryz.ntmps238
 go_wp2
 all_goals (go_ret;refine⟨congrArg Ending.returned (congrArg (Value.int IntKind.i64) ?_),rfl⟩)
 ·have l:=Lib.bitLen_le8' (x/65536/256) (by omega) (by omega)
  refine (len_wrap _ 24 (Int.natCast_nonneg _) (by rw[tab_at _ (by omega) (by omega)];omega) (by omega) (by omega)).trans ?_
  rw[tab_at _ (by omega) (by omega)]
  have e:(x/65536/256).toNat=x.toNat/16777216:=by omega
  have s:=Lib.bitLen_shift24 x.toNat (by omega) (by omega)
  rw[e] at l ⊢
  omega
 ·have l:=Lib.bitLen_le8' (x/65536) (by omega) (by omega)
  refine (len_wrap _ 16 (Int.natCast_nonneg _) (by rw[tab_at _ (by omega) (by omega)];omega) (by omega) (by omega)).trans ?_
  rw[tab_at _ (by omega) (by omega)]
  have e:(x/65536).toNat=x.toNat/65536:=by omega
  have s:=Lib.bitLen_shift16 x.toNat (by omega) (by omega)
  rw[e] at l ⊢
  omega
 ·have l:=Lib.bitLen_le8' (x/256) (by omega) (by omega)
  refine (len_wrap _ 8 (Int.natCast_nonneg _) (by rw[tab_at _ (by omega) (by omega)];omega) (by omega) (by omega)).trans ?_
  rw[tab_at _ (by omega) (by omega)]
  have e:(x/256).toNat=x.toNat/256:=by omega
  have s:=Lib.bitLen_shift8 x.toNat (by omega) (by omega)
  rw[e] at l ⊢
  omega
 have l:=Lib.bitLen_le8' x (by omega) (by omega)
 refine (len_wrap0 _ (Int.natCast_nonneg _) (by rw[tab_at _ (by omega) (by omega)];omega)).trans ?_
 rw[tab_at _ (by omega) (by omega)]
theorem len32_any (x:Nat) (w:World) (h:x<4294967296) :
  Calls Tryz.prog 238 #[.int .u32 x] w fun e w'=>e=.returned (.int .i64 (bits x))∧w=w':=by
 have:=len32_raw x w (by omega) (by omega)
 rw[Int.toNat_natCast,bitLen_eq h] at this
 exact this.mono fun e w' ⟨h1,h2⟩=>⟨h1,h2.symm⟩
set_option maxHeartbeats 400000 in
theorem lz32_any (x:Nat) (w:World) (h:x<4294967296) :
  Calls Tryz.prog 298 #[.int .u32 x] w fun e w'=>e=.returned (.int .i64 (32-bits x:Nat))∧w=w':=by
 have hb:bits x≤32:=bits_le.2 h
 go_enter Tryz.func298,Tryz.ntmps298
 go_wp2_with (refine (len32_any _ _ h).mono ?_;rintro e w2 ⟨rfl,rfl⟩)
 go_ret
 exact⟨ret_int (by omega),rfl⟩
def Tab (w:World):Prop:=∀ j,j<32→w.cell? ⟨1,j,none⟩=some (.int .u8 (Lib.deBruijn32tab.getD j 0))
theorem Tab.kp {w w':World} (h:Tab w) (k:Kp w w'):Tab w':=fun j hj=>k.cell (h j hj)
theorem ctzFrom_tz:∀ (f x:Nat),x≠0→x<2 ^ f→Lib.ctzFrom f x=tz x
 | 0, x, h0, h => by have : x = 0 := by simpa using h
                     exact absurd this h0
 | f+1,x,h0,h=>by
   unfold Lib.ctzFrom
   by_cases h1:x % 2=1
   · rw[if_pos h1,tz_odd h1]
   · rw[if_neg h1,tz_even h0 (by omega),ctzFrom_tz f (x/2) (by omega) (by rw[Nat.pow_succ] at h;omega),Nat.add_comm]
theorem ctz_tz {x:Nat} (h0:x≠0) (h:x<4294967296):Lib.ctz 32 x=tz x:=by
 unfold Lib.ctz;rw[if_neg h0];exact ctzFrom_tz 32 x h0 h
theorem tz32_key (x a:Nat) (hx:x<4294967296) (hx0:x≠0) (hlow:x &&& (4294967296-x)=a) :
  Go.bits BinOp.and IntKind.u32 (x:Int) (-(x:Int) % 4294967296)*125613361 % 4294967296/134217728=((a*125613361 % 4294967296/134217728:Nat):Int):=by
 have e1:-(x:Int) % 4294967296=((4294967296-x:Nat):Int):=by omega
 rw[e1,u32_and_nat x _ hx (by omega),hlow]
 omega
set_option maxHeartbeats 1000000 in
theorem tz32_core (x k idx:Nat) (w:World) (hx0:((x:Int)==0)=false)
  (key:Go.bits BinOp.and IntKind.u32 (x:Int) (-(x:Int) % 4294967296)*125613361 % 4294967296/134217728=(idx:Int))
  (hi:idx<32) (hk:k<32) (hcell:w.cell? ⟨1,idx,none⟩=some (.int .u8 k)) :
  Calls Tryz.prog 295 #[.int .u32 x] w fun e w'=>e=.returned (.int .i64 k)∧w=w':=by
 go_enter Tryz.func295,Tryz.ntmps295
 go_wp2_with (simp only[key])
 go_ret
 exact⟨rfl,rfl⟩
theorem tz32_any (x:Nat) (w:World) (hx0:x≠0) (hx:x<4294967296) (hT:Tab w) :
  Calls Tryz.prog 295 #[.int .u32 x] w fun e w'=>e=.returned (.int .i64 (tz x))∧w=w':=by
 obtain⟨hlow,hk⟩:=Lib.lowest_bit 32 x hx0 hx
 obtain⟨hi,htab⟩:=Lib.deBruijn32_at _ hk
 have hcell:=hT _ hi
 rw[htab] at hcell
 have:=tz32_core x _ _ w (by simp;omega) (tz32_key x _ hx hx0 hlow) hi hk hcell
 rwa [ctz_tz hx0 hx] at this
theorem limbs_snoc {n:Nat} (h:n≠0):∃ us x,limbs n=us++[x]∧x≠0∧x<4294967296∧Lt32 us∧bits n=32*us.length+bits x∧nth (limbs n) us.length=x:=by
 have h1:limbs n≠[]:=by rw[Ne,limbs_eq_nil];exact h
 obtain⟨us,x,e⟩:∃ us x,limbs n=us++[x]:=⟨_,_,(List.dropLast_concat_getLast h1).symm⟩
 have h2:=limbs_top n
 have h3:=limbs_lt32 n
 rw[e] at h2 h3
 have hx:x≠0:=by intro h0;subst h0;unfold Top at h2;simp at h2
 have h4:Lt32 us:=fun y hy=>h3 y (List.mem_append_left _ hy)
 refine⟨us,x,e,hx,h3 x (by simp),h4,?_,?_⟩
 ·rw[← bits_val_snoc h4 hx,← e,val_limbs]
 rw[e,nth_append_right (Nat.le_refl _),Nat.sub_self];rfl
set_option maxHeartbeats 400000 in
theorem bits_any (a:Option Addr) (xs:List Nat) (c:Nat) (w:World) (h:Rd w a xs) (hc:xs.length≤c) (hm:c≤maxLen) (hl:xs.length≤1100000) :
  Calls Tryz.prog 244 #[.slice a xs.length c] w fun e w'=>e=.returned (.int .i64 (bits (val xs)))∧w=w':=by
 have H1:=hid (trim_any a xs c w h hc hm)
 have hll:=limbs_len_le h.lt32
 have hr:=h.limbs
 by_cases h0:val xs=0
 ·have hn:(limbs (val xs)).length=0:=by rw[h0,limbs_zero];rfl
  have Hz:=hid h0
  clear h0
  rw[hn] at H1
  clear hn
  go_enter Tryz.func244,Tryz.ntmps244
  go_wp2_with fail
  refine H1.out.mono ?_
  rintro e w2 ⟨rfl,rfl⟩
  go_wp2_with fail
  go_ret
  exact⟨ret_int (by rw[Hz.out];rfl),rfl⟩
 obtain⟨us,x,e,hx0,hx,hus,hb,hnth⟩:=limbs_snoc h0
 obtain⟨b,o,rfl,hcell⟩:=hr.some (i:=us.length) (by rw[e];simp)
 have hk:=hcell us.length (by rw[e];simp)
 have hlen:(limbs (val xs)).length=us.length+1:=by rw[e];simp
 rw[hlen] at H1 hll
 rw[hnth] at hk
 have Hb:=hid hb
 have hbx:bits x≤32:=bits_le.2 hx
 clear hb hcell hlen hnth e hr h h0
 go_enter Tryz.func244,Tryz.ntmps244
 go_wp2_with fail
 refine H1.out.mono ?_
 rintro e w2 ⟨rfl,rfl⟩
 go_wp2_with fail
 refine (len32_any x _ hx).mono ?_
 rintro e w2 ⟨rfl,rfl⟩
 go_wp2_with fail
 go_ret
 exact⟨ret_int (by rw[Hb.out];omega),rfl⟩
def cmpN (m n:Nat):Int:=if m<n then -1 else if m=n then 0 else 1
theorem cmpN_lt {m n:Nat} (h:m<n):cmpN m n=-1:=by unfold cmpN;rw[if_pos h]
theorem cmpN_gt {m n:Nat} (h:n<m):cmpN m n=1:=by unfold cmpN;rw[if_neg (by omega),if_neg (by omega)]
theorem cmpN_eq {m n:Nat} (h:m=n):cmpN m n=0:=by unfold cmpN;rw[if_neg (by omega),if_pos h]
theorem limbs_length_mono {m n:Nat} (h:m≤n):(limbs m).length≤(limbs n).length :=
 limbs_length_le.2 (Nat.lt_of_le_of_lt h (by have:=val_lt (limbs_lt32 n);rwa [val_limbs] at this))
theorem lt_of_limbs_length {m n:Nat} (h:(limbs m).length<(limbs n).length):m<n:=by
 apply Classical.byContradiction;intro hn
 have:=limbs_length_mono (show n≤m by omega);omega
theorem val_lt_of_top {us vs:List Nat} {k:Nat} (hl:us.length=vs.length) (hk:k<us.length) (hu:Lt32 us) (hd:us.drop (k+1)=vs.drop (k+1)) (h:nth us k<nth vs k):val us<val vs:=by
 have e1:=val_take_drop us k (by omega)
 have e2:=val_take_drop vs k (by omega)
 rw[drop_eq_nth hk,val_cons] at e1
 rw[drop_eq_nth (by omega),val_cons,← hd] at e2
 have b1:=val_lt (hu.take k)
 rw[List.length_take,Nat.min_eq_left (by omega)] at b1
 generalize 4294967296 ^ k=P at *
 generalize val (us.drop (k+1))=D at *
 have e3:P*(nth us k+1+4294967296*D)≤P*(nth vs k+4294967296*D):=Nat.mul_le_mul_left _ (by omega)
 have e4:P*(nth us k+1+4294967296*D)=P*(nth us k+4294967296*D)+P:=by rw[show nth us k+1+4294967296*D=nth us k+4294967296*D+1 from by omega,Nat.mul_add,Nat.mul_one]
 omega
set_option maxHeartbeats 1000000 in
theorem cmp_any (a b:Option Addr) (xs ys:List Nat) (c d:Nat) (w:World) (hx:Rd w a xs) (hy:Rd w b ys) (hxc:xs.length≤c) (hyc:ys.length≤d) (hc:c≤maxLen) (hd:d≤maxLen) :
  Calls Tryz.prog 173 #[.slice a xs.length c,.slice b ys.length d] w fun e w'=>e=.returned (.int .i64 (cmpN (val xs) (val ys)))∧Kp w w':=by
 have H1:=hid (trim_any a xs c w hx hxc hc)
 have H2:=hid (trim_any b ys d w hy hyc hd)
 have h1:=hx.limbs
 have h2:=hy.limbs
 have hl1:=limbs_len_le hx.lt32
 have hl2:=limbs_len_le hy.lt32
 have Hv1:=hid (val_limbs (val xs))
 have Hv2:=hid (val_limbs (val ys))
 have Hlt:=hid (@lt_of_limbs_length (val xs) (val ys))
 have Hgt:=hid (@lt_of_limbs_length (val ys) (val xs))
 unfold maxLen at hc hd
 go_enter Tryz.func173,Tryz.ntmps173
 go_wp2_with fail
 refine H1.out.mono ?_
 rintro e w2 ⟨rfl,rfl⟩
 go_wp2_with fail
 refine H2.out.mono ?_
 rintro e w2 ⟨rfl,rfl⟩
 clear H1 H2 hx hy
 generalize limbs (val xs)=us at *
 generalize limbs (val ys)=vs at *
 rcases Nat.lt_trichotomy us.length vs.length with hlen | hlen | hlen
 ·have hne:((us.length:Int) != vs.length)=true:=by simp;omega
  go_wp2_with fail
  go_ret
  exact⟨ret_int (cmpN_lt (Hlt.out hlen)).symm,.refl _⟩
 ·have hne:((us.length:Int) != vs.length)=false:=by simp;omega
  have Hlen:=hid hlen
  have hle1:us.length≤vs.length:=by omega
  have hle2:vs.length≤us.length:=by omega
  clear hlen
  go_wp2_with fail
  go_loopw [5] (fun ix wr=>∃ k:Nat,k≤us.length∧ix=.int .i64 ((k:Int)-1)∧us.drop k=vs.drop k∧Kp w wr) (fun ix _=>(intOf ix+1).toNat)
  case atStart=>exact⟨us.length,Nat.le_refl _,rfl,by rw[List.drop_of_length_le (Nat.le_refl _),List.drop_of_length_le (by omega)],.refl _⟩
  case round =>
  obtain⟨k,hk,rfl,hdrop,hkp⟩:=hrel
  have Hdrop:=hid hdrop
  clear hdrop
  rcases k with _ | j
  ·rw[show (((0:Nat):Int)-1)=-1 from rfl]
   go_wp2_with fail
   go_ret
   have:us=vs:=by have:=Hdrop.out;rwa [List.drop_zero,List.drop_zero] at this
   exact⟨ret_int (cmpN_eq (by rw[← Hv1.out,← Hv2.out,this])).symm,hkp⟩
  rw[show (((j+1:Nat):Int)-1)=(j:Int) from by omega]
  obtain⟨b1,o1,rfl,hcx⟩:=(h1.kp hkp).some (i:=j) (by omega)
  have hx1:=hcx j (by omega)
  obtain⟨b2,o2,rfl,hcy⟩:=(h2.kp hkp).some (i:=j) (by omega)
  have hy1:=hcy j (by omega)
  clear hcx hcy
  have bx:=h1.lt32.nth j
  have by':=h2.lt32.nth j
  rcases Nat.lt_trichotomy (nth us j) (nth vs j) with hd1 | hd1 | hd1
  ·have Hr:=hid (val_lt_of_top Hlen.out (by omega) h1.lt32 Hdrop.out hd1)
   go_wp2_with fail
   go_quiet (fail)
   go_wp2_with fail
   go_ret
   exact⟨ret_int (cmpN_lt (by have:=Hr.out;rwa [Hv1.out,Hv2.out] at this)).symm,by first | exact hkp.drewN _ | exact (hkp.drewN _).drewN _⟩
  ·have hd2:¬ nth us j<nth vs j:=by omega
   have hd3:¬ nth vs j<nth us j:=by omega
   have Hd1:=hid hd1
   clear hd1
   go_wp2_with fail
   go_quiet (fail)
   go_wp2_with fail
   go_quiet (fail)
   go_wp2_with fail
   go_roundw
   case measure=>simp[intOf]
   case rel =>
   refine⟨j,by omega,rfl,?_,hkp.drewN _⟩
   rw[drop_eq_nth (show j<us.length by omega),drop_eq_nth (show j<vs.length by omega),Hdrop.out,Hd1.out]
  have hd2:¬ nth us j<nth vs j:=by omega
  have Hr:=hid (val_lt_of_top (us:=vs) (vs:=us) (k:=j) Hlen.out.symm (by omega) h2.lt32 Hdrop.out.symm hd1)
  go_wp2_with fail
  go_quiet (fail)
  go_wp2_with fail
  go_quiet (fail)
  go_wp2_with fail
  go_ret
  exact⟨ret_int (cmpN_gt (by have:=Hr.out;rwa [Hv1.out,Hv2.out] at this)).symm,by first | exact hkp.drewN _ | exact (hkp.drewN _).drewN _⟩
 have hne:((us.length:Int) != vs.length)=true:=by simp;omega
 go_wp2_with fail
 go_ret
 exact⟨ret_int (cmpN_gt (Hgt.out hlen)).symm,.refl _⟩
end Go.Proofs.YteidgoldnllabaaGreatDoor
