/-
  Plain arithmetic of lists of limbs (base 2^32), no program in sight.
-/
import Derived.KernelRfl
import Derived.Test.YteidgoldnllabaaGreatDoorProg
import Derived.WalkKit
import Derived.WalkSpells
import Derived.WalkLawsBesides
import Derived.BigQuiet
import Derived.Deep.QuietTactic
import Derived.Lib.Hide
import Derived.Lib.Walk
import Derived.Lib.SliceRun
import Derived.Lib.SlicesCompact
import Derived.Shelf.Sort.Plain
import Derived.Shelf.Slices.In.SortNone
import Derived.Shelf.Slices.CompactS
import Derived.Shelf.Slices.Equal
import Derived.Shelf.Slices.Empties2
import Derived.Shelf.Slices.Turned
import Derived.Lib.Strings
import Derived.Lib.Slices
import Derived.Lib.Bytealg
set_option maxHeartbeats 1000000
set_option maxRecDepth 100000
namespace Go.Proofs.YteidgoldnllabaaGreatDoor
open Go.RowKit
section
def val:List Nat→Nat
 | []=>0
 | x::xs=>x+4294967296*val xs
def Lt32 (xs:List Nat):Prop:=∀ x∈xs,x<4294967296
def nth (xs:List Nat) (i:Nat):Nat:=xs.getD i 0
theorem Lt32.nil:Lt32 []:=fun _ h=>by cases h
theorem Lt32.cons {x:Nat} {xs:List Nat} (h:x<4294967296) (hs:Lt32 xs):Lt32 (x::xs):=by
 intro y hy
 rcases List.mem_cons.1 hy with rfl | hy
 ·exact h
 exact hs y hy
theorem Lt32.append {xs ys:List Nat} (h:Lt32 xs) (hs:Lt32 ys):Lt32 (xs++ys):=by
 intro y hy
 rcases List.mem_append.1 hy with hy | hy
 ·exact h y hy
 exact hs y hy
theorem Lt32.snoc {xs:List Nat} {x:Nat} (h:Lt32 xs) (hs:x<4294967296):Lt32 (xs++[x]):=h.append (.cons hs .nil)
theorem Lt32.take {xs:List Nat} (h:Lt32 xs) (n:Nat):Lt32 (xs.take n):=fun y hy=>h y (List.mem_of_mem_take hy)
theorem Lt32.drop {xs:List Nat} (h:Lt32 xs) (n:Nat):Lt32 (xs.drop n):=fun y hy=>h y (List.mem_of_mem_drop hy)
theorem Lt32.nth {xs:List Nat} (h:Lt32 xs) (i:Nat):nth xs i<4294967296:=by
 unfold Go.Proofs.YteidgoldnllabaaGreatDoor.nth
 rw[List.getD_eq_getElem?_getD]
 by_cases hi:i<xs.length
 ·rw[List.getElem?_eq_getElem hi];exact h _ (List.getElem_mem hi)
 rw[List.getElem?_eq_none (by omega)];decide
theorem Lt32.set {xs:List Nat} (h:Lt32 xs) (i x:Nat) (hx:x<4294967296):Lt32 (xs.set i x):=by
 intro y hy
 rcases List.mem_or_eq_of_mem_set hy with hy | rfl
 ·exact h y hy
 exact hx
theorem Lt32.replicate (n:Nat):Lt32 (List.replicate n 0):=by
 intro y hy
 rw[(List.mem_replicate.1 hy).2];decide
theorem nth_eq {xs:List Nat} {i:Nat} (h:i<xs.length):nth xs i=xs[i]:=by
 unfold nth;rw[List.getD_eq_getElem?_getD,List.getElem?_eq_getElem h];rfl
theorem nth_ge {xs:List Nat} {i:Nat} (h:xs.length≤i):nth xs i=0:=by
 unfold nth;rw[List.getD_eq_getElem?_getD,List.getElem?_eq_none h];rfl
theorem nth_get? {xs:List Nat} {i:Nat} (h:i<xs.length):xs[i]? = some (nth xs i):=by
 rw[nth_eq h,List.getElem?_eq_getElem h]
theorem nth_cons_zero (x:Nat) (xs:List Nat):nth (x::xs) 0=x:=rfl
theorem nth_cons_succ (x:Nat) (xs:List Nat) (i:Nat):nth (x::xs) (i+1)=nth xs i:=by
 unfold nth;simp
theorem nth_append_left {xs ys:List Nat} {i:Nat} (h:i<xs.length):nth (xs++ys) i=nth xs i:=by
 rw[nth_eq h,nth_eq (by simp;omega),List.getElem_append_left h]
theorem nth_append_right {xs ys:List Nat} {i:Nat} (h:xs.length≤i):nth (xs++ys) i=nth ys (i-xs.length):=by
 by_cases h2:i<(xs++ys).length
 ·rw[nth_eq h2,nth_eq (by simp at h2;omega),List.getElem_append_right h]
 rw[nth_ge (by omega),nth_ge (by simp at h2;omega)]
theorem nth_take {xs:List Nat} {n i:Nat} (h:i<n):nth (xs.take n) i=nth xs i:=by
 unfold nth
 simp[h]
theorem nth_drop {xs:List Nat} {n i:Nat}:nth (xs.drop n) i=nth xs (n+i):=by
 unfold nth
 simp[List.getElem?_drop]
theorem nth_set_eq {xs:List Nat} {i x:Nat} (h:i<xs.length):nth (xs.set i x) i=x:=by
 rw[nth_eq (by simpa using h)];simp
theorem nth_set_ne {xs:List Nat} {i j x:Nat} (h:i≠j):nth (xs.set i x) j=nth xs j:=by
 unfold nth;simp[List.getElem?_set_ne h]
theorem nth_replicate (n i:Nat):nth (List.replicate n 0) i=0:=by
 by_cases h:i<n
 ·rw[nth_eq (by simpa using h)];simp
 exact nth_ge (by simp;omega)
theorem take_succ_nth {xs:List Nat} {n:Nat} (h:n<xs.length):xs.take (n+1)=xs.take n++[nth xs n]:=by
 rw[List.take_succ_eq_append_getElem h,nth_eq h]
theorem drop_eq_nth {xs:List Nat} {n:Nat} (h:n<xs.length):xs.drop n=nth xs n::xs.drop (n+1):=by
 rw[List.drop_eq_getElem_cons h,nth_eq h]
theorem set_eq_take_drop {xs:List Nat} {i x:Nat} (h:i<xs.length):xs.set i x=xs.take i++x::xs.drop (i+1):=by
 rw[List.set_eq_take_append_cons_drop,if_pos h]
theorem val_nil:val []=0:=rfl
theorem val_cons (x:Nat) (xs:List Nat):val (x::xs)=x+4294967296*val xs:=rfl
theorem val_append (xs ys:List Nat):val (xs++ys)=val xs+4294967296 ^ xs.length*val ys:=by
 induction xs with
 | nil=>simp[val]
 | cons x xs ih =>
  simp only[List.cons_append,val,ih,List.length_cons,Nat.pow_succ]
  rw[Nat.mul_add,← Nat.mul_assoc,Nat.mul_comm 4294967296 (4294967296 ^ xs.length)]
  omega
theorem val_snoc (xs:List Nat) (x:Nat):val (xs++[x])=val xs+4294967296 ^ xs.length*x:=by
 rw[val_append];simp[val]
theorem val_take_succ {xs:List Nat} {n:Nat} (h:n<xs.length):val (xs.take (n+1))=val (xs.take n)+4294967296 ^ n*nth xs n:=by
 rw[take_succ_nth h,val_snoc,List.length_take,Nat.min_eq_left (by omega)]
theorem val_take_drop (xs:List Nat) (n:Nat) (h:n≤xs.length):val xs=val (xs.take n)+4294967296 ^ n*val (xs.drop n):=by
 conv=>lhs;rw[← List.take_append_drop n xs]
 rw[val_append,List.length_take,Nat.min_eq_left h]
theorem val_lt {xs:List Nat} (h:Lt32 xs):val xs<4294967296 ^ xs.length:=by
 induction xs with
 | nil=>simp[val]
 | cons x xs ih =>
  have h1:=h x (List.mem_cons_self ..)
  have h2:=ih (fun y hy=>h y (List.mem_cons_of_mem _ hy))
  simp only[val,List.length_cons,Nat.pow_succ]
  omega
theorem val_replicate (n:Nat):val (List.replicate n 0)=0:=by
 induction n with
 | zero=>rfl
 | succ n ih=>simp[List.replicate_succ,val,ih]
theorem val_zeros {xs:List Nat} (h:∀ i,i<xs.length→nth xs i=0):val xs=0:=by
 induction xs with
 | nil=>rfl
 | cons x xs ih =>
  have h0:=h 0 (by simp)
  rw[nth_cons_zero] at h0
  have:=ih (fun i hi=>by have:=h (i+1) (by simp;omega);rwa [nth_cons_succ] at this)
  simp[val,this,h0]
theorem val_set {xs:List Nat} {i x:Nat} (h:i<xs.length):val (xs.set i x)+4294967296 ^ i*nth xs i=val xs+4294967296 ^ i*x:=by
 have e:=val_take_drop xs i (by omega)
 rw[drop_eq_nth h,val_cons] at e
 rw[set_eq_take_drop h,val_append,val_cons,List.length_take,Nat.min_eq_left (by omega),e,Nat.mul_add,Nat.mul_add]
 omega
theorem val_take_step (xs:List Nat) (n:Nat):val (xs.take (n+1))=val (xs.take n)+4294967296 ^ n*nth xs n:=by
 by_cases h:n<xs.length
 ·exact val_take_succ h
 rw[nth_ge (by omega),List.take_of_length_le (by omega),List.take_of_length_le (by omega)];simp
theorem take_set_succ {xs:List Nat} {i x:Nat} (h:i<xs.length):(xs.set i x).take (i+1)=xs.take i++[x]:=by
 rw[take_succ_nth (by simpa using h),nth_set_eq h,List.take_set_of_le (Nat.le_refl i)]
theorem val_take_set {xs:List Nat} {i x:Nat} (h:i<xs.length):val ((xs.set i x).take (i+1))=val (xs.take i)+4294967296 ^ i*x:=by
 rw[take_set_succ h,val_snoc,List.length_take,Nat.min_eq_left (by omega)]
theorem add_step {xs ys zs:List Nat} {k c:Nat} (hk:k<zs.length) (h:val (zs.take k)+4294967296 ^ k*c=val (xs.take k)+val (ys.take k)) :
  val ((zs.set k ((nth xs k+nth ys k+c) % 4294967296)).take (k+1))+4294967296 ^ (k+1)*((nth xs k+nth ys k+c)/4294967296)=val (xs.take (k+1))+val (ys.take (k+1)):=by
 rw[val_take_set hk,val_take_step xs,val_take_step ys,Nat.pow_succ,Nat.mul_assoc]
 generalize 4294967296 ^ k=P at *
 have e2:P*(nth xs k+nth ys k+c)=P*nth xs k+P*nth ys k+P*c:=by rw[Nat.mul_add,Nat.mul_add]
 generalize nth xs k+nth ys k+c=s at *
 have e:P*(s % 4294967296)+P*(4294967296*(s/4294967296))=P*s:=by
  rw[← Nat.mul_add];congr 1;omega
 omega
theorem val_set_last {zs:List Nat} {k c:Nat} (h:zs.length=k+1):val (zs.set k c)=val (zs.take k)+4294967296 ^ k*c:=by
 have:=val_take_set (x:=c) (show k<zs.length by omega)
 rwa [List.take_of_length_le (by simp;omega)] at this
theorem sub_step {xs ys zs:List Nat} {k c z c':Nat} (hk:k<zs.length) (h:val (zs.take k)+val (ys.take k)=val (xs.take k)+4294967296 ^ k*c) (e:z+nth ys k+c=nth xs k+4294967296*c') :
  val ((zs.set k z).take (k+1))+val (ys.take (k+1))=val (xs.take (k+1))+4294967296 ^ (k+1)*c':=by
 rw[val_take_set hk,val_take_step xs,val_take_step ys,Nat.pow_succ,Nat.mul_assoc]
 generalize 4294967296 ^ k=P at *
 have e2:P*(z+nth ys k+c)=P*z+P*nth ys k+P*c:=by rw[Nat.mul_add,Nat.mul_add]
 have e3:P*(nth xs k+4294967296*c')=P*nth xs k+P*(4294967296*c'):=by rw[Nat.mul_add]
 rw[e] at e2
 omega
def Top (xs:List Nat):Prop:=xs.getLast?≠some 0
def limbs (n:Nat):List Nat:=if n=0 then [] else n % 4294967296::limbs (n/4294967296)
termination_by n
decreasing_by omega
theorem limbs_zero:limbs 0=[]:=by rw[limbs];rfl
theorem limbs_pos {n:Nat} (h:n≠0):limbs n=n % 4294967296::limbs (n/4294967296):=by rw[limbs,if_neg h]
theorem limbs_lt32 (n:Nat):Lt32 (limbs n):=by
 induction n using Nat.strongRecOn with
 | _ n ih =>
  by_cases h:n=0
  ·subst h;rw[limbs_zero];exact .nil
  ·rw[limbs_pos h];exact .cons (by omega) (ih _ (by omega))
theorem val_limbs (n:Nat):val (limbs n)=n:=by
 induction n using Nat.strongRecOn with
 | _ n ih =>
  by_cases h:n=0
  ·subst h;rw[limbs_zero];rfl
  ·rw[limbs_pos h,val_cons,ih _ (by omega)];omega
theorem limbs_eq_nil {n:Nat}:limbs n=[]↔n=0:=by
 constructor
 ·intro h;have:=val_limbs n;rw[h] at this;exact this.symm
 rintro rfl;exact limbs_zero
theorem top_cons {x:Nat} {xs:List Nat} (h:xs≠[]):Top (x::xs)↔Top xs:=by
 unfold Top;rw[List.getLast?_cons]
 cases xs with
 | cons y ys=>simp[List.getLast?_cons]
 | nil=>exact absurd rfl h
theorem limbs_top (n:Nat):Top (limbs n):=by
 induction n using Nat.strongRecOn with
 | _ n ih =>
  by_cases h:n=0
  ·subst h;rw[limbs_zero];simp[Top]
  ·rw[limbs_pos h]
   by_cases h2:n/4294967296=0
   ·rw[h2,limbs_zero];simp[Top];omega
   ·rw[top_cons (by rw[Ne,limbs_eq_nil];exact h2)];exact ih _ (by omega)
theorem val_eq_zero_top {xs:List Nat} (ht:Top xs) (h0:val xs=0):xs=[]:=by
 induction xs with
 | nil=>rfl
 | cons x xs ih =>
  simp only[val] at h0
  by_cases hx:xs=[]
  ·subst hx;simp[Top,val] at ht h0;omega
  ·exact absurd (ih ((top_cons hx).1 ht) (by omega)) hx
theorem limbs_val {xs:List Nat} (h:Lt32 xs) (ht:Top xs):limbs (val xs)=xs:=by
 induction xs with
 | nil=>exact limbs_zero
 | cons x xs ih =>
  have hx:=h x (List.mem_cons_self ..)
  have hne:val (x::xs)≠0:=fun h0=>by cases val_eq_zero_top ht h0
  rw[limbs_pos hne,val_cons]
  have e1:(x+4294967296*val xs) % 4294967296=x:=by omega
  have e2:(x+4294967296*val xs)/4294967296=val xs:=by omega
  rw[e1,e2]
  by_cases hn:xs=[]
  ·subst hn;rw[val_nil,limbs_zero]
  ·rw[ih (fun y hy=>h y (List.mem_cons_of_mem _ hy)) ((top_cons hn).1 ht)]
theorem limbs_length_le {n k:Nat}:(limbs n).length≤k↔n<4294967296 ^ k:=by
 induction k generalizing n with
 | zero=>rw[Nat.le_zero,List.length_eq_zero_iff,limbs_eq_nil];simp
 | succ k ih =>
  by_cases h:n=0
  ·subst h;rw[limbs_zero];simp;exact Nat.pow_pos (by decide)
  ·rw[limbs_pos h,List.length_cons,Nat.succ_le_succ_iff,ih,Nat.pow_succ]
   omega
theorem top_take {xs:List Nat} {n:Nat} (h:n≤xs.length) (h0:0<n→nth xs (n-1)≠0):Top (xs.take n):=by
 unfold Top
 by_cases hn:n=0
 ·subst hn;simp
 rw[List.getLast?_eq_getElem?,List.length_take,Nat.min_eq_left h,List.getElem?_take,if_pos (by omega),nth_get? (by omega)]
 intro hh;exact h0 (by omega) (Option.some.inj hh)
theorem top_nth {xs:List Nat} (h:Top xs) (hn:0<xs.length):nth xs (xs.length-1)≠0:=by
 intro h0
 apply h
 rw[List.getLast?_eq_getElem?,nth_get? (by omega),h0]
theorem top_of_nth {xs:List Nat} (h:0<xs.length→nth xs (xs.length-1)≠0):Top xs:=by
 have:=top_take (xs:=xs) (Nat.le_refl _) h
 rwa [List.take_length] at this
theorem val_take_zeros {xs:List Nat} {n:Nat} (h:n≤xs.length) (hz:∀ i,n≤i→i<xs.length→nth xs i=0):val (xs.take n)=val xs:=by
 have e:=val_take_drop xs n h
 have:val (xs.drop n)=0:=val_zeros fun i hi=>by
  rw[nth_drop];exact hz _ (by omega) (by simp at hi;omega)
 rw[this] at e;omega
def bits (n:Nat):Nat:=if n=0 then 0 else n.log2+1
theorem bits_zero:bits 0=0:=rfl
theorem bits_le {n k:Nat}:bits n≤k↔n<2 ^ k:=by
 unfold bits
 split
 ·next h=>subst h;simp;exact Nat.pow_pos (by decide)
 next h=>exact Nat.log2_lt h
theorem lt_bits {n k:Nat}:k<bits n↔2 ^ k≤n:=by
 have:=@bits_le n k
 omega
theorem lt_two_pow_bits (n:Nat):n<2 ^ bits n:=bits_le.1 (Nat.le_refl _)
theorem bits_pos {n:Nat} (h:n≠0):0<bits n:=by unfold bits;rw[if_neg h];omega
theorem two_pow_le_of_bits {n:Nat} (h:n≠0):2 ^ (bits n-1)≤n:=lt_bits.1 (by have:=bits_pos h;omega)
theorem bits_unique {n k:Nat} (h1:n<2 ^ k) (h2:k=0∨2 ^ (k-1)≤n):bits n=k:=by
 have a:=bits_le.2 h1
 rcases h2 with h2 | h2
 ·omega
 by_cases hk:k=0
 ·omega
 have:=lt_bits.2 h2;omega
theorem bits_mono {m n:Nat} (h:m≤n):bits m≤bits n:=bits_le.2 (Nat.lt_of_le_of_lt h (lt_two_pow_bits n))
theorem bits_mul_pow {n k:Nat} (h:n≠0):bits (n*2 ^ k)=bits n+k:=by
 apply bits_unique
 ·rw[Nat.pow_add];exact Nat.mul_lt_mul_of_pos_right (lt_two_pow_bits n) (Nat.pow_pos (by decide))
 right
 have h1:=bits_pos h
 rw[show bits n+k-1=(bits n-1)+k from by omega,Nat.pow_add]
 exact Nat.mul_le_mul_right _ (two_pow_le_of_bits h)
theorem pow32 (n:Nat):4294967296 ^ n=2 ^ (32*n):=by rw[Nat.pow_mul]
theorem bits_val_snoc {xs:List Nat} {x:Nat} (h:Lt32 xs) (hx:x≠0):bits (val (xs++[x]))=32*xs.length+bits x:=by
 rw[val_snoc,pow32]
 have h1:=val_lt h
 rw[pow32] at h1
 apply bits_unique
 ·rw[Nat.pow_add]
  have:=lt_two_pow_bits x
  calc val xs+2 ^ (32*xs.length)*x<2 ^ (32*xs.length)+2 ^ (32*xs.length)*x:=by omega
   _=2 ^ (32*xs.length)*(x+1):=by rw[Nat.mul_add];omega
   _≤2 ^ (32*xs.length)*2 ^ bits x:=Nat.mul_le_mul_left _ this
 right
 have:=bits_pos hx
 rw[show 32*xs.length+bits x-1=32*xs.length+(bits x-1) from by omega,Nat.pow_add]
 exact Nat.le_trans (Nat.mul_le_mul_left _ (two_pow_le_of_bits hx)) (by omega)
end
def Kp (w w':World):Prop:=Below w.heap.size w w'
theorem Kp.refl (w:World):Kp w w:=Below.refl _ _
theorem Kp.trans {a b c:World} (h:Kp a b) (k:Kp b c):Kp a c:=Below.trans h (Below.mono k h.size)
theorem Kp.alloc {a w:World} (h:Kp a w) (o:Obj):Kp a (w.alloc o):=Below.alloc h h.size o
theorem Kp.drew {a w:World} (h:Kp a w):Kp a w.drew:=Below.drew h
theorem Kp.drewN {a w:World} (h:Kp a w) (n:Nat):Kp a (w.drewN n):=⟨h.os,h.tape,h.output,h.size,h.block⟩
theorem Kp.size {a w:World} (h:Kp a w):a.heap.size≤w.heap.size:=Below.size h
theorem Kp.below {a w:World} (h:Kp a w):Below a.heap.size a w:=h
theorem Kp.cell {w w':World} (h:Kp w w') {p:Addr} {v:Value} (hc:w.cell? p=some v):w'.cell? p=some v :=
 (Below.cell h (World.block_lt_of_cell? w p hc)).trans hc
theorem Kp.frozen {w w':World} (h:Kp w w') {p:Addr} {v:Value} (hc:w.cell? p=some v) {f:Bool} (hf:w.frozen? p=f):w'.frozen? p=f :=
 (Below.frozen h (World.block_lt_of_cell? w p hc)).trans hf
theorem Kp.heap {w w':World} (h:Kp w w') {b:Nat} {o:Obj} (ho:w.heap[b]? = some o):w'.heap[b]? = some o :=
 (h.block b (Array.getElem?_eq_some_iff.1 ho).1).trans ho
def Enters (P:Program) (g:FuncId):Prop:=∀ args w,(callFunc g args).run P w=.ok (.enter g args) w
def Rd (w:World) (a:Option Addr) (xs:List Nat):Prop :=
 Lt32 xs∧(xs=[]∨∃ b o,a=some ⟨b,o,none⟩∧∀ i,i<xs.length→w.cell? ⟨b,o+i,none⟩=some (.int .u32 (nth xs i)))
theorem Rd.lt32 {w:World} {a:Option Addr} {xs:List Nat} (h:Rd w a xs):Lt32 xs:=h.1
theorem Rd.kp {w w':World} {a:Option Addr} {xs:List Nat} (h:Rd w a xs) (k:Kp w w'):Rd w' a xs:=by
 obtain⟨h1,h2⟩:=h
 refine⟨h1,?_⟩
 rcases h2 with h2 | ⟨b,o,rfl,h2⟩
 ·exact .inl h2
 exact .inr ⟨b,o,rfl,fun i hi=>k.cell (h2 i hi)⟩
theorem Rd.nil (w:World) (a:Option Addr):Rd w a []:=⟨.nil,.inl rfl⟩
theorem Rd.some {w:World} {a:Option Addr} {xs:List Nat} (h:Rd w a xs) {i:Nat} (hi:i<xs.length) :
  ∃ b o,a=.some ⟨b,o,none⟩∧∀ i,i<xs.length→w.cell? ⟨b,o+i,none⟩=.some (.int .u32 (nth xs i)):=by
 rcases h.2 with h2 | h2
 ·subst h2;simp at hi
 exact h2
theorem Rd.take {w:World} {a:Option Addr} {xs:List Nat} (h:Rd w a xs) (n:Nat):Rd w a (xs.take n):=by
 refine⟨h.1.take n,?_⟩
 rcases h.2 with h2 | ⟨b,o,rfl,h2⟩
 ·exact .inl (by rw[h2];simp)
 refine .inr ⟨b,o,rfl,fun i hi=>?_⟩
 rw[List.length_take] at hi
 rw[nth_take (by omega)]
 exact h2 i (by omega)
theorem Rd.drop {w:World} {b o:Nat} {xs:List Nat} (h:Rd w (.some ⟨b,o,none⟩) xs) (n:Nat):Rd w (.some ⟨b,o+n,none⟩) (xs.drop n):=by
 refine⟨h.1.drop n,?_⟩
 rcases h.2 with h2 | ⟨b',o',e,h2⟩
 ·exact .inl (by rw[h2];simp)
 cases e
 refine .inr ⟨b,o+n,rfl,fun i hi=>?_⟩
 rw[List.length_drop] at hi
 rw[nth_drop,Nat.add_assoc]
 exact h2 _ (by omega)
theorem ret_bool {a b:Bool} (h:a=b):Ending.returned (.bool a)=.returned (.bool b):=by rw[h]
theorem ret_int {k:IntKind} {a b:Int} (h:a=b):Ending.returned (.int k a)=.returned (.int k b):=by rw[h]
theorem ret_len {a:Option Addr} {m n c:Nat} (h:m=n):Ending.returned (.slice a m c)=.returned (.slice a n c):=by rw[h]
def Own (w:World) (base:Nat) (v:Value) (xs:List Nat):Prop :=
 Lt32 xs∧w.ownsRow base 213 1 v xs.length (xs.map fun x:Nat=>Value.int .u32 (x:Int))
theorem Own.value {w:World} {base:Nat} {v:Value} {xs:List Nat} (h:Own w base v xs):∃ a c,v=.slice a xs.length c∧xs.length≤c∧c≤maxLen∧Rd w a xs:=by
 obtain⟨h1,h2,h3⟩:=h
 rcases h3 with ⟨rfl,h3⟩ | ⟨g,cap,cur,rfl,hb,hg,hn,hc,hs,ht⟩
 ·refine⟨none,0,by rw[h3],by omega,by decide,h1,.inl (List.length_eq_zero_iff.1 h3)⟩
 refine⟨_,_,rfl,hn,hc,h1,.inr ⟨g,0,rfl,fun i hi=>?_⟩⟩
 rw[cell_of_row w g _ cur _ _ hg]
 have:(cur.toList.take (xs.length*1))[i]? = .some (.int .u32 (nth xs i)):=by
  rw[ht,List.getElem?_map,nth_get? hi];rfl
 rw[List.getElem?_take,if_pos (by omega)] at this
 simpa using this
def u32v (x:Nat):Value:=.int .u32 (x:Int)
def Blk (w:World) (g:Nat) (xs:List Nat):Prop:=w.heap[g]? = some (.cells (xs.map u32v).toArray 213 (0,0))
theorem Blk.cell {w:World} {g:Nat} {xs:List Nat} (h:Blk w g xs) {i:Nat} (hi:i<xs.length):w.cell? ⟨g,i,none⟩=some (.int .u32 (nth xs i)):=by
 rw[cell_of_row w g _ _ _ _ h,List.getElem?_toArray,List.getElem?_map,nth_get? hi];rfl
theorem Blk.frozen {w:World} {g:Nat} {xs:List Nat} (h:Blk w g xs) (i:Nat):w.frozen? ⟨g,i,none⟩=false:=frozen_of_row w g _ _ _ h
theorem Blk.kp {w w':World} {g:Nat} {xs:List Nat} (h:Blk w g xs) (k:Kp w w'):Blk w' g xs:=k.heap h
theorem Blk.rd {w:World} {g:Nat} {xs:List Nat} (h:Blk w g xs) (hl:Lt32 xs):Rd w (some ⟨g,0,none⟩) xs :=
 ⟨hl,.inr ⟨g,0,rfl,fun i hi=>by rw[Nat.zero_add];exact h.cell hi⟩⟩
theorem Blk.set {w:World} {g:Nat} {xs:List Nat} (h:Blk w g xs) (i x:Nat):Blk (w.setCell ⟨g,i,none⟩ (.int .u32 (x:Int))) g (xs.set i x):=by
 unfold Blk
 rw[heap_setCell_same w g i _ _ _ h]
 congr 2
 rw[List.setIfInBounds_toArray,List.map_set];rfl
theorem Blk.put {w:World} {g:Nat} {xs:List Nat} (h:Blk w g xs) {i x:Nat} {e:Int} (he:e=x):Blk (w.setCell ⟨g,i,none⟩ (.int .u32 e)) g (xs.set i x):=by
 subst he;exact h.set i x
theorem Kp.set {a w:World} (h:Kp a w) {g i:Nat} (hg:a.heap.size≤g) (v:Value):Kp a (w.setCell ⟨g,i,none⟩ v):=Below.setCell h hg v
theorem Blk.made (w:World) (n:Nat):Blk (w.alloc (.cells (madeCells #[.int .u32 0] n) 213)) w.heap.size (List.replicate n 0):=by
 unfold Blk
 rw[heap_alloc_new]
 congr 2
 rw[← Array.toList_inj,toList_madeCells_one,List.map_replicate];rfl
theorem Blk.lt {w:World} {g:Nat} {xs:List Nat} (h:Blk w g xs):g<w.heap.size:=(Array.getElem?_eq_some_iff.1 h).1
theorem infoU32:(Tryz.prog.info? 213).map (fun i=>(i.zero,i.size,i.bytes))=some (some (.int .u32 0),1,4):=by kernel_rfl
theorem make_u32 (i:Int) (n:Nat) (e:i=n) (hn:n≤9000000) (u:World):(Instr.makeSlice 111 (.int .i64 i) (.int .i64 i)).run Tryz.prog u =
  .ok (.slice (some ⟨u.heap.size,0,none⟩) n n) (u.alloc (.cells (madeCells #[.int .u32 0] n) 213)):=by
 subst e
 obtain⟨i0,hi,hz0,hz1,hz2⟩:=info_parts infoU32
 have h:=run_make (P:=Tryz.prog) u 111 213 i0 (.int .u32 0) Tryz.underlying111 hi hz0 .i64 .i64 (n:Int) (n:Int) (by omega) (Int.le_refl _) (by rw[hz2];omega) (by omega)
 simpa [hz1,Value.cells] using h
theorem Own.nil (w:World) (base:Nat):Own w base (.slice none 0 0) []:=⟨.nil,World.ownsRow_nil _ _ _ _⟩
theorem Own.alloc {w:World} {base:Nat} {v:Value} {xs:List Nat} (h:Own w base v xs) (o:Obj):Own (w.alloc o) base v xs:=⟨h.1,h.2.alloc o⟩
theorem Own.rd {w:World} {base:Nat} {a:Option Addr} {n c:Nat} {xs:List Nat} (h:Own w base (.slice a n c) xs):n=xs.length∧xs.length≤c∧c≤maxLen∧Rd w a xs:=by
 obtain⟨a',c',e,h1,h2,h3⟩:=h.value
 cases e
 exact⟨rfl,h1,h2,h3⟩
theorem make_u32c (i k:Int) (l c:Nat) (e:i=l) (e2:k=c) (hlc:l≤c) (hn:c≤9000000) (u:World):(Instr.makeSlice 111 (.int .i64 i) (.int .i64 k)).run Tryz.prog u =
  .ok (.slice (some ⟨u.heap.size,0,none⟩) l c) (u.alloc (.cells (madeCells #[.int .u32 0] c) 213)):=by
 subst e e2
 obtain⟨i0,hi,hz0,hz1,hz2⟩:=info_parts infoU32
 have h:=run_make (P:=Tryz.prog) u 111 213 i0 (.int .u32 0) Tryz.underlying111 hi hz0 .i64 .i64 (l:Int) (c:Int) (by omega) (by omega) (by rw[hz2];omega) (by omega)
 simpa [hz1,Value.cells] using h
theorem Own.made (w:World) (l c:Nat) (hl:l≤c) (hc:c≤9000000) (base:Nat) (hb:base≤w.heap.size) :
  Own (w.alloc (.cells (madeCells #[.int .u32 0] c) 213)) base (.slice (some ⟨w.heap.size,0,none⟩) l c) (List.replicate l 0):=by
 refine⟨.replicate _,by simp,.inr ⟨w.heap.size,c,_,by simp,hb,heap_alloc_new w _,by simpa using hl,by unfold maxLen;omega,by simp[size_madeCells],?_⟩⟩
 rw[toList_madeCells_one]
 simp[List.take_replicate,Nat.min_eq_left hl]
theorem wpList_append_u32 {w:World} {ops:Array Oper} {rest:List Oper} {o:Oper} {a:Act} {Q:Exit→Act→World→Prop} (hgd:o.guard=none) (s x:Operand)
  (ho:o.op=.call { callee:=.builtin .append,args:=#[s,x],argTypes:=#[111,111] })
  (base:Nat) (v:Value) (xs:List Nat) (hs:a.eval s=v) (hown:Own w base v xs)
  (g:Nat) (e:Int) (hx:a.eval x=.slice (some ⟨g,0,none⟩) 1 1) (hcell:w.cell? ⟨g,0,none⟩=some (.int .u32 e))
  (y:Nat) (he:e=y) (hy:y<4294967296) (hlen:xs.length+1≤9000000) (hbase:base≤w.heap.size)
  (h:∀ a' c' w',Own w' base (.slice a' (xs.length+1) c') (xs++[y])→Below base w w'→wpList Tryz.prog ops Q rest (a.put o.dst (.slice a' (xs.length+1) c')) w') :
  wpList Tryz.prog ops Q (o::rest) a w:=by
 obtain⟨i0,hi,hz0,hz1,hz2⟩:=info_parts infoU32
 subst he
 refine wpList_append_own w hgd s x 111 ho base 213 i0 (.int .u32 0) 1 4 Tryz.underlying111 hi hz0 hz1 hz2 rfl (by decide) v xs.length (xs.map fun x:Nat=>Value.int .u32 (x:Int)) hs hown.2
  ⟨g,0,none⟩ 1 1 [.int .u32 y] hx rfl ?_ ?_ (by unfold maxLen;omega) (by omega) hbase ?_
 ·intro j u hj
  match j,hj with
  | 0,hj=>simp at hj;subst hj;simpa [Addr.add] using hcell
 ·intro u hu;simp at hu;subst hu;rfl
 intro v' w' h1 h2 _
 have hb:Below base w w':=(Below.refl base w).grown h2 hbase (fun k hk=>(hown.2.lt k hk).1)
 have ho:Own w' base v' (xs++[y]):=⟨hown.1.snoc hy,by simpa using h1⟩
 obtain⟨a',c',e,h3,h4,h5⟩:=ho.value
 have e':v'=.slice a' (xs.length+1) c':=by rw[e];simp
 subst e'
 exact h a' c' w' ho hb
theorem run_append_zero {w:World} (base:Nat) (t ty e:TypeId) (i:TypeInfo) (size:Nat) (ht:Tryz.prog.underlying t=some (.slice e)) (hi:Tryz.prog.info? e=some i)
  (v:Value) (n c2:Nat) (xs:List Value) (hown:w.ownsRow base e size v n xs) :
  (Builtin.append_ #[t,t] ty #[v,.slice none 0 c2]).run Tryz.prog w=.ok v w:=by
 rcases hown.2 with ⟨rfl,rfl⟩ | ⟨g,cap,cur,rfl,_,_,hnc,_⟩
 ·simp[Builtin.append_,run_underlying ht,sizeOf,typeInfo,hi,Builtin.lenOf,Builtin.firstCells]
 simp[Builtin.append_,run_underlying ht,sizeOf,typeInfo,hi,Builtin.lenOf,Builtin.firstCells,hnc,storeCells]
theorem wpList_append_u32s {w:World} {ops:Array Oper} {rest:List Oper} {o:Oper} {a:Act} {Q:Exit→Act→World→Prop} (hgd:o.guard=none) (s x:Operand)
  (ho:o.op=.call { callee:=.builtin .append,args:=#[s,x],argTypes:=#[111,111] })
  (base:Nat) (v:Value) (xs:List Nat) (hs:a.eval s=v) (hown:Own w base v xs)
  (ad:Option Addr) (ys:List Nat) (c:Nat) (hx:a.eval x=.slice ad ys.length c) (hrd:Rd w ad ys) (hlen:xs.length+ys.length≤9000000) (hbase:base≤w.heap.size)
  (h:∀ a' c' w',Own w' base (.slice a' (xs.length+ys.length) c') (xs++ys)→Below base w w'→wpList Tryz.prog ops Q rest (a.put o.dst (.slice a' (xs.length+ys.length) c')) w') :
  wpList Tryz.prog ops Q (o::rest) a w:=by
 obtain⟨i0,hi,hz0,hz1,hz2⟩:=info_parts infoU32
 cases ad with
 | none =>
  have hys:ys=[]:=by
   rcases hrd.2 with h | ⟨b,o,h,_⟩
   ·exact h
   ·cases h
  subst hys
  refine wpList_plain hgd fun K hK=>?_
  have hrun:=run_append_zero (w:=w) base 111 o.type 213 i0 1 Tryz.underlying111 hi v _ c _ hown.2
  unfold Oper.wp
  simp[execOp,ho,resolve,invoke,builtin,hs,hx,hrun,Result.andThen]
  obtain⟨a',c',e,h3,h4,h5⟩:=hown.value
  subst e
  exact hK _ _ (by simpa using h a' c' w (by simpa using hown) (Below.refl _ _))
 | some ad =>
 refine wpList_append_own w hgd s x 111 ho base 213 i0 (.int .u32 0) 1 4 Tryz.underlying111 hi hz0 hz1 hz2 rfl (by decide) v xs.length (xs.map fun x:Nat=>Value.int .u32 (x:Int)) hs hown.2
  ad ys.length c (ys.map fun x:Nat=>Value.int .u32 (x:Int)) hx (by simp) ?_ ?_ (by unfold maxLen;omega) (by omega) hbase ?_
 ·intro j u hj
  rcases hrd.2 with h0 | ⟨b,o,h0,hc⟩
  ·subst h0;simp at hj
  cases h0
  have hj2:j<ys.length:=by
   have:=(List.getElem?_eq_some_iff.1 hj).1
   simpa using this
  rw[Addr.add_lit,hc j hj2,← hj,List.getElem?_map,nth_get? hj2];rfl
 ·intro u hu;obtain⟨x,_,rfl⟩:=List.mem_map.1 hu;rfl
 intro v' w' h1 h2 _
 have hb:Below base w w':=(Below.refl base w).grown h2 hbase (fun k hk=>(hown.2.lt k hk).1)
 have ho:Own w' base v' (xs++ys):=⟨hown.1.append hrd.1,by simpa using h1⟩
 obtain⟨a',c',e,h3,h4,h5⟩:=ho.value
 have e':v'=.slice a' (xs.length+ys.length) c':=by rw[e];simp
 subst e'
 exact h a' c' w' ho hb
theorem Own.empty (w:World) (base:Nat) (hb:base≤w.heap.size):Own (w.alloc (.cells #[] 213)) base (.slice (some ⟨w.heap.size,0,none⟩) 0 0) [] :=
 ⟨.nil,World.ownsRow_made w #[] 0 hb (Nat.zero_le _) rfl⟩
theorem nil_u32 (w:World) (a:Option Addr) (n c n' c':Nat):(binOp .eql 111 (.slice a n c) (.slice none n' c')).run Tryz.prog w=.ok (.bool a.isNone) w :=
 Lib.run_eql_slice_nil w _ _ a n c n' c' Tryz.underlying111
section
inductive Ex where
 | mk (kind rn rd:Int) (name:ByteArray) (pw:Int) (a:Option Addr) (c:Nat) (l:List Ex)
def Ex.kind:Ex→Int | .mk k _ _ _ _ _ _ _=>k
def Ex.rn:Ex→Int | .mk _ n _ _ _ _ _ _=>n
def Ex.rd:Ex→Int | .mk _ _ d _ _ _ _ _=>d
def Ex.name:Ex→ByteArray | .mk _ _ _ s _ _ _ _=>s
def Ex.pw:Ex→Int | .mk _ _ _ _ p _ _ _=>p
def Ex.a:Ex→Option Addr | .mk _ _ _ _ _ a _ _=>a
def Ex.c:Ex→Nat | .mk _ _ _ _ _ _ c _=>c
def Ex.l:Ex→List Ex | .mk _ _ _ _ _ _ _ l=>l
theorem Ex.ind {P:Ex→Prop} (h:∀ e:Ex,(∀ x∈e.l,P x)→P e):∀ e,P e
 | .mk k n d s p a c l=>h _ (fun x hx=>by
   have:SizeOf.sizeOf x<SizeOf.sizeOf l:=List.sizeOf_lt_of_mem hx
   exact Ex.ind h x)
termination_by e=>SizeOf.sizeOf e
decreasing_by
 simp_wf
 omega
mutual
def Ex.size:Ex→Nat | .mk _ _ _ _ _ _ _ l=>1+Ex.sizeL l
def Ex.sizeL:List Ex→Nat | []=>0 | x::t=>x.size+Ex.sizeL t
end
mutual
def Ex.depth:Ex→Nat | .mk _ _ _ _ _ _ _ l=>1+Ex.depthL l
def Ex.depthL:List Ex→Nat | []=>0 | x::t=>max x.depth (Ex.depthL t)
end
theorem Ex.size_eq (e:Ex):e.size=1+Ex.sizeL e.l:=by cases e;rw[Ex.size];rfl
theorem Ex.depth_eq (e:Ex):e.depth=1+Ex.depthL e.l:=by cases e;rw[Ex.depth];rfl
theorem Ex.size_pos (e:Ex):1≤e.size:=by rw[e.size_eq];omega
theorem Ex.depth_pos (e:Ex):1≤e.depth:=by rw[e.depth_eq];omega
def isLet (b:UInt8):Bool:=(decide (97≤b.toNat)&&decide (b.toNat≤122))||(decide (65≤b.toNat)&&decide (b.toNat≤90))
def isDig (b:UInt8):Bool:=decide (48≤b.toNat)&&decide (b.toNat≤57)
def isRun (b:UInt8):Bool:=isLet b||(isDig b||decide (b.toNat=95))
def wordB (s:ByteArray):Bool:=match s.data.toList with | []=>false | b::t=>isLet b&&t.all isRun
def keywords : List String := ["state", "param", "in", "mode", "when", "rises", "falls", "goto", "with", "time", "exp", "log", "sin", "cos", "sqrt"]
def keyB (s:ByteArray):Bool:=keywords.any fun k=>decide (s=k.toUTF8)
def nameB (s:ByteArray):Bool:=wordB s&&(decide (s.size≤20)&&!keyB s)
def ratB (n d:Int):Bool:=decide (1≤d∧d≤1073741824)&&(decide (-1073741824≤n∧n≤1073741824)&&decide (Nat.gcd n.natAbs d.natAbs=1))
def opsK (k:Int):Int:=if 3≤k∧k≤6 then 2 else if 7≤k∧k≤13 then 1 else -1
def nodeB (e:Ex):Bool :=
 if e.kind=1 then ratB e.rn e.rd&&(decide (e.name.size=0)&&(decide (e.pw=0)&&decide (e.l.length=0)))
 else if e.kind=2 then decide (e.rn=0∧e.rd=0)&&(nameB e.name&&(decide (e.pw=0)&&decide (e.l.length=0)))
 else if e.kind=8 then decide (e.rn=0∧e.rd=0)&&(decide (e.name.size=0)&&(decide (0≤e.pw∧e.pw≤16)&&decide (e.l.length=1)))
 else decide (e.rn=0∧e.rd=0)&&(decide (e.name.size=0)&&(decide (e.pw=0)&&decide ((e.l.length:Int)=opsK e.kind)))
mutual
def Ex.allB:Ex→Bool | .mk k n d s p a c l=>nodeB (.mk k n d s p a c l)&&Ex.allL l
def Ex.allL:List Ex→Bool | []=>true | x::t=>x.allB&&Ex.allL t
end
theorem Ex.allB_eq (e:Ex):e.allB=(nodeB e&&Ex.allL e.l):=by cases e;rw[Ex.allB];rfl
def Ex.ok (e:Ex):Bool:=e.allB&&(decide (e.depth≤20)&&decide (e.size≤200))
mutual
def Ex.cnt:Ex→Nat→Nat→Bool×Nat
 | .mk k r d s p a c l,dp,n=>if 20<dp∨200<n+1∨nodeB (.mk k r d s p a c l)=false then (false,n+1) else Ex.cntL l (dp+1) (n+1)
def Ex.cntL:List Ex→Nat→Nat→Bool×Nat
 | [],_,n=>(true,n)
 | x::t,dp,n=>if (x.cnt dp n).1=true then Ex.cntL t dp (x.cnt dp n).2 else (false,(x.cnt dp n).2)
end
theorem Ex.cnt_eq (e:Ex) (dp n:Nat):e.cnt dp n=if 20<dp∨200<n+1∨nodeB e=false then (false,n+1) else Ex.cntL e.l (dp+1) (n+1):=by cases e;rw[Ex.cnt];rfl
theorem Ex.cntL_cons (x:Ex) (t:List Ex) (dp n:Nat):Ex.cntL (x::t) dp n=if (x.cnt dp n).1=true then Ex.cntL t dp (x.cnt dp n).2 else (false,(x.cnt dp n).2):=by rw[Ex.cntL]
theorem Ex.cntL_nil (dp n:Nat):Ex.cntL [] dp n=(true,n):=by rw[Ex.cntL]
theorem Ex.sizeL_cons (x:Ex) (t:List Ex):Ex.sizeL (x::t)=x.size+Ex.sizeL t:=by rw[Ex.sizeL]
theorem Ex.sizeL_nil:Ex.sizeL []=0:=by rw[Ex.sizeL]
theorem Ex.depthL_cons (x:Ex) (t:List Ex):Ex.depthL (x::t)=max x.depth (Ex.depthL t):=by rw[Ex.depthL]
theorem Ex.depthL_nil:Ex.depthL []=0:=by rw[Ex.depthL]
theorem Ex.allL_cons (x:Ex) (t:List Ex):Ex.allL (x::t)=(x.allB&&Ex.allL t):=by rw[Ex.allL]
theorem Ex.allL_nil:Ex.allL []=true:=by rw[Ex.allL]
theorem cnt_list {l:List Ex} (ih:∀ x∈l,∀ dp n,(((x.cnt dp n).1=true↔x.allB=true∧x.depth+dp≤21∧n+x.size≤200)∧((x.cnt dp n).1=true→(x.cnt dp n).2=n+x.size))) :
  ∀ dp n,dp≤21→n≤200→(((Ex.cntL l dp n).1=true↔Ex.allL l=true∧Ex.depthL l+dp≤21∧n+Ex.sizeL l≤200)∧((Ex.cntL l dp n).1=true→(Ex.cntL l dp n).2=n+Ex.sizeL l)):=by
 induction l with
 | nil =>
  intro dp n h1 h2
  rw[Ex.cntL_nil,Ex.allL_nil,Ex.depthL_nil,Ex.sizeL_nil]
  exact⟨⟨fun _=>⟨rfl,by omega,by omega⟩,fun _=>rfl⟩,fun _=>rfl⟩
 | cons x t iht =>
  intro dp n h1 h2
  obtain⟨hx,hx2⟩:=ih x (.head _) dp n
  rw[Ex.cntL_cons,Ex.allL_cons,Ex.depthL_cons,Ex.sizeL_cons,Bool.and_eq_true]
  by_cases hc:(x.cnt dp n).1=true
  ·obtain⟨h3,h4,h5⟩:=hx.1 hc
   rw[if_pos hc,hx2 hc]
   obtain⟨i1,i2⟩:=iht (fun y hy=>ih y (.tail _ hy)) dp (n+x.size) h1 h5
   refine⟨⟨fun h=>?_,fun h=>?_⟩,fun h=>?_⟩
   ·obtain⟨q1,q2,q3⟩:=i1.1 h
    exact⟨⟨h3,q1⟩,by omega,by omega⟩
   ·exact i1.2 ⟨h.1.2,by omega,by omega⟩
   ·rw[i2 h];omega
  ·rw[if_neg hc]
   refine⟨⟨fun h=>(by cases h),fun h=>absurd (hx.2 ⟨h.1.1,by omega,by omega⟩) hc⟩,fun h=>by cases h⟩
theorem cnt_iff:∀ (e:Ex) (dp n:Nat),(((e.cnt dp n).1=true↔e.allB=true∧e.depth+dp≤21∧n+e.size≤200)∧((e.cnt dp n).1=true→(e.cnt dp n).2=n+e.size)):=by
 refine Ex.ind fun e ih dp n=>?_
 rw[Ex.cnt_eq,Ex.allB_eq,e.depth_eq,e.size_eq,Bool.and_eq_true]
 by_cases h:20<dp∨200<n+1∨nodeB e=false
 ·rw[if_pos h]
  refine⟨⟨fun h2=>(by cases h2),fun h2=>?_⟩,fun h2=>by cases h2⟩
  rcases h with h | h | h
  ·omega
  ·omega
  rw[h2.1.1] at h;cases h
 rw[if_neg h]
 have hn:nodeB e=true:=by cases hb:nodeB e with | true=>rfl | false=>exact absurd (.inr (.inr hb)) h
 have hd:¬ 20<dp:=fun h2=>h (.inl h2)
 have hs:¬ 200<n+1:=fun h2=>h (.inr (.inl h2))
 obtain⟨i1,i2⟩:=cnt_list ih (dp+1) (n+1) (by omega) (by omega)
 refine⟨⟨fun h2=>?_,fun h2=>?_⟩,fun h2=>?_⟩
 ·obtain⟨q1,q2,q3⟩:=i1.1 h2
  exact⟨⟨hn,q1⟩,by omega,by omega⟩
 ·exact i1.2 ⟨h2.1.2,by omega,by omega⟩
 rw[i2 h2];omega
theorem cnt_ok (e:Ex):(e.cnt 1 0).1=e.ok:=by
 rw[Bool.eq_iff_iff,(cnt_iff e 1 0).1]
 unfold Ex.ok
 rw[Bool.and_eq_true,Bool.and_eq_true,decide_eq_true_eq,decide_eq_true_eq]
 exact and_congr_right fun _=>and_congr (by omega) (by omega)
mutual
def Ex.rct:Ex→Nat→Nat
 | .mk _ _ _ _ _ _ _ _,0=>1048576
 | .mk k r d s p a c l,lv+1=>if nodeB (.mk k r d s p a c l)=false then 1048576 else Ex.rctL l lv 1
def Ex.rctL:List Ex→Nat→Nat→Nat
 | [],_,n=>n
 | x::t,lv,n=>if n≤200 then Ex.rctL t lv (n+x.rct lv) else n
end
theorem Ex.rct_zero (e:Ex):e.rct 0=1048576:=by cases e;rw[Ex.rct]
theorem Ex.rct_succ (e:Ex) (lv:Nat):e.rct (lv+1)=if nodeB e=false then 1048576 else Ex.rctL e.l lv 1:=by cases e;rw[Ex.rct];rfl
theorem Ex.rctL_nil (lv n:Nat):Ex.rctL [] lv n=n:=by rw[Ex.rctL]
theorem Ex.rctL_cons (x:Ex) (t:List Ex) (lv n:Nat):Ex.rctL (x::t) lv n=if n≤200 then Ex.rctL t lv (n+x.rct lv) else n:=by rw[Ex.rctL]
theorem rctL_ge:∀ (l:List Ex) (lv n:Nat),n≤Ex.rctL l lv n
 | [],lv,n=>by rw[Ex.rctL_nil];exact Nat.le_refl n
 | x::t,lv,n=>by
  rw[Ex.rctL_cons]
  split
  ·have:=rctL_ge t lv (n+x.rct lv);omega
  ·exact Nat.le_refl n
theorem rct_iff:∀ (e:Ex) (lv:Nat),(e.rct lv≤200↔e.allB=true∧e.depth≤lv∧e.size≤200)∧(e.rct lv≤200→e.rct lv=e.size):=by
 refine Ex.ind fun e ih lv=>?_
 have hd:=e.depth_pos
 cases lv with
 | zero =>
  rw[e.rct_zero]
  exact⟨⟨fun h=>absurd h (by decide),fun h=>by omega⟩,fun h=>absurd h (by decide)⟩
 | succ lv =>
 rw[e.rct_succ,e.allB_eq,e.depth_eq,e.size_eq,Bool.and_eq_true]
 cases hn:nodeB e with
 | false =>
  rw[if_pos rfl]
  exact⟨⟨fun h=>absurd h (by decide),fun h=>absurd h.1.1 (by decide)⟩,fun h=>absurd h (by decide)⟩
 | true =>
 rw[if_neg (by decide)]
 have key:∀ (l:List Ex),(∀ x∈l,(x.rct lv≤200↔x.allB=true∧x.depth≤lv∧x.size≤200)∧(x.rct lv≤200→x.rct lv=x.size))→∀ n,n≤200 →
   ((Ex.rctL l lv n≤200↔Ex.allL l=true∧Ex.depthL l≤lv∧n+Ex.sizeL l≤200)∧(Ex.rctL l lv n≤200→Ex.rctL l lv n=n+Ex.sizeL l)):=by
  intro l
  induction l with
  | nil =>
   intro _ n hn
   rw[Ex.rctL_nil,Ex.allL_nil,Ex.depthL_nil,Ex.sizeL_nil]
   exact⟨⟨fun h=>⟨rfl,by omega,by omega⟩,fun h=>by omega⟩,fun h=>by omega⟩
  | cons x t iht =>
   intro hx n hn
   obtain⟨h1,h2⟩:=hx x (.head _)
   rw[Ex.rctL_cons,if_pos hn,Ex.allL_cons,Ex.depthL_cons,Ex.sizeL_cons,Bool.and_eq_true]
   have hge:=rctL_ge t lv (n+x.rct lv)
   by_cases hs:n+x.rct lv≤200
   ·have hx2:=h2 (by omega)
    obtain⟨h3,h4,h5⟩:=h1.1 (by omega)
    rw[hx2] at hs ⊢
    obtain⟨i1,i2⟩:=iht (fun y hy=>hx y (.tail _ hy)) (n+x.size) hs
    refine⟨⟨fun h=>?_,fun h=>?_⟩,fun h=>?_⟩
    ·obtain⟨q1,q2,q3⟩:=i1.1 h
     exact⟨⟨h3,q1⟩,by omega,by omega⟩
    ·exact i1.2 ⟨h.1.2,by omega,by omega⟩
    ·rw[i2 h];omega
   ·refine⟨⟨fun h=>by omega,fun h=>?_⟩,fun h=>by omega⟩
    have h6:=h1.2 ⟨h.1.1,by omega,by omega⟩
    have h7:=h2 h6
    omega
 obtain⟨k1,k2⟩:=key e.l (fun x hx=>ih x hx lv) 1 (by decide)
 refine⟨⟨fun h=>?_,fun h=>?_⟩,fun h=>k2 h⟩
 ·obtain⟨q1,q2,q3⟩:=k1.1 h
  exact⟨⟨rfl,q1⟩,by omega,by omega⟩
 exact k1.2 ⟨h.1.2,by omega,by omega⟩
theorem rct_ok (e:Ex):decide (e.rct 20≤200)=e.ok:=by
 rw[Bool.eq_iff_iff,decide_eq_true_eq,(rct_iff e 20).1]
 unfold Ex.ok
 rw[Bool.and_eq_true,Bool.and_eq_true,decide_eq_true_eq,decide_eq_true_eq]
end
section
mutual
def Ex.er:Ex→Ex | .mk k r d s p _ _ l=>.mk k r d s p none 0 (Ex.erL l)
def Ex.erL:List Ex→List Ex | []=>[] | x::t=>x.er::Ex.erL t
end
theorem Ex.erL_map (l:List Ex):Ex.erL l=l.map Ex.er:=by
 induction l with
 | nil=>rw[Ex.erL];rfl
 | cons x t ih=>rw[Ex.erL,ih];rfl
theorem Ex.er_eq (e:Ex):e.er=.mk e.kind e.rn e.rd e.name e.pw none 0 (e.l.map Ex.er):=by cases e;rw[Ex.er,Ex.erL_map];rfl
theorem Ex.er_l (e:Ex):e.er.l=e.l.map Ex.er:=by rw[e.er_eq];rfl
theorem Ex.er_kind (e:Ex):e.er.kind=e.kind:=by rw[e.er_eq];rfl
theorem Ex.er_name (e:Ex):e.er.name=e.name:=by rw[e.er_eq];rfl
theorem Ex.er_iff {x y:Ex}:x.er=y.er↔(x.kind=y.kind∧x.rn=y.rn∧x.rd=y.rd∧x.name=y.name∧x.pw=y.pw)∧x.l.map Ex.er=y.l.map Ex.er:=by
 rw[x.er_eq,y.er_eq]
 simp only[Ex.mk.injEq,true_and]
 constructor
 ·rintro ⟨h1,h2,h3,h4,h5,h6⟩;exact⟨⟨h1,h2,h3,h4,h5⟩,h6⟩
 rintro ⟨⟨h1,h2,h3,h4,h5⟩,h6⟩;exact⟨h1,h2,h3,h4,h5,h6⟩
theorem sizeL_er {l:List Ex} (h:∀ x∈l,x.er.size=x.size):Ex.sizeL (l.map Ex.er)=Ex.sizeL l:=by
 induction l with
 | nil=>rfl
 | cons x t ih=>rw[List.map_cons,Ex.sizeL_cons,Ex.sizeL_cons,h x (.head _),ih fun y hy=>h y (.tail _ hy)]
theorem Ex.er_size:∀ e:Ex,e.er.size=e.size:=by
 refine Ex.ind fun e ih=>?_
 rw[e.er.size_eq,e.size_eq,e.er_l,sizeL_er ih]
theorem depthL_er {l:List Ex} (h:∀ x∈l,x.er.depth=x.depth):Ex.depthL (l.map Ex.er)=Ex.depthL l:=by
 induction l with
 | nil=>rfl
 | cons x t ih=>rw[List.map_cons,Ex.depthL_cons,Ex.depthL_cons,h x (.head _),ih fun y hy=>h y (.tail _ hy)]
theorem Ex.er_depth:∀ e:Ex,e.er.depth=e.depth:=by
 refine Ex.ind fun e ih=>?_
 rw[e.er.depth_eq,e.depth_eq,e.er_l,depthL_er ih]
theorem Ex.er_rn (e:Ex):e.er.rn=e.rn:=by rw[e.er_eq];rfl
theorem Ex.er_rd (e:Ex):e.er.rd=e.rd:=by rw[e.er_eq];rfl
theorem Ex.er_pw (e:Ex):e.er.pw=e.pw:=by rw[e.er_eq];rfl
theorem nodeB_er (e:Ex):nodeB e.er=nodeB e:=by unfold nodeB;rw[e.er_kind,e.er_rn,e.er_rd,e.er_name,e.er_pw,e.er_l,List.length_map]
theorem allL_er {l:List Ex} (h:∀ x∈l,x.er.allB=x.allB):Ex.allL (l.map Ex.er)=Ex.allL l:=by
 induction l with
 | nil=>rfl
 | cons x t ih=>rw[List.map_cons,Ex.allL_cons,Ex.allL_cons,h x (.head _),ih fun y hy=>h y (.tail _ hy)]
theorem Ex.er_all:∀ e:Ex,e.er.allB=e.allB:=by
 refine Ex.ind fun e ih=>?_
 rw[e.er.allB_eq,e.allB_eq,nodeB_er,e.er_l,allL_er ih]
theorem Ex.er_ok (e:Ex):e.er.ok=e.ok:=by unfold Ex.ok;rw[e.er_all,e.er_depth,e.er_size]
theorem ok_er {x y:Ex} (h:x.er=y.er):x.ok=y.ok:=by rw[← x.er_ok,← y.er_ok,h]
mutual
def Ex.eqv:Ex→Ex→Bool
 | .mk k r d s p _ _ l,y=>(decide (k=y.kind)&&(decide (r=y.rn∧d=y.rd)&&(decide (s=y.name)&&decide (p=y.pw))))&&Ex.eqL l y.l
def Ex.eqL:List Ex→List Ex→Bool
 | [],[]=>true
 | [],_::_=>false
 | _::_,[]=>false
 | x::t,y::u=>x.eqv y&&Ex.eqL t u
end
mutual
def Ex.sub (f:ByteArray→Option Ex):Ex→Ex
 | .mk k r d s p a c l=>if k=2∧(f s).isSome=true then (f s).getD (.mk k r d s p a c l) else .mk k r d s p none 0 (Ex.subL f l)
def Ex.subL (f:ByteArray→Option Ex):List Ex→List Ex
 | []=>[]
 | x::t=>x.sub f::Ex.subL f t
end
mutual
def Ex.flat:Ex→List Ex | .mk k r d s p a c l=>.mk k r d s p a c l::Ex.flatL l
def Ex.flatL:List Ex→List Ex | []=>[] | x::t=>x.flat++Ex.flatL t
end
theorem Ex.flat_eq (e:Ex):e.flat=e::Ex.flatL e.l:=by cases e;rw[Ex.flat];rfl
theorem Ex.flatL_cons (x:Ex) (t:List Ex):Ex.flatL (x::t)=x.flat++Ex.flatL t:=by rw[Ex.flatL]
theorem Ex.flatL_nil:Ex.flatL []=[]:=by rw[Ex.flatL]
theorem flatL_len {l:List Ex} (h:∀ x∈l,x.flat.length=x.size):(Ex.flatL l).length=Ex.sizeL l:=by
 induction l with
 | nil=>rw[Ex.flatL_nil,Ex.sizeL_nil];rfl
 | cons x t ih=>rw[Ex.flatL_cons,Ex.sizeL_cons,List.length_append,h x (.head _),ih fun y hy=>h y (.tail _ hy)]
theorem Ex.flat_len:∀ e:Ex,e.flat.length=e.size:=by
 refine Ex.ind fun e ih=>?_
 rw[e.flat_eq,e.size_eq,List.length_cons,flatL_len ih,Nat.add_comm]
mutual
def Ex.occ (s:ByteArray):Ex→Nat | .mk k _ _ n _ _ _ l=>(if k=2∧n=s then 1 else 0)+Ex.occL s l
def Ex.occL (s:ByteArray):List Ex→Nat | []=>0 | x::t=>x.occ s+Ex.occL s t
end
end
section
end
section
def varE (s:ByteArray):Ex:=.mk 2 0 0 s 0 none 0 []
end
section
theorem bl_irrefl:∀ x:List UInt8,Op.bytesLess x x=false
 | []=>rfl
 | a::x=>by
  unfold Op.bytesLess
  rw[bl_irrefl x]
  simp
theorem bl_trans:∀ x y z:List UInt8,Op.bytesLess x y=true→Op.bytesLess y z=true→Op.bytesLess x z=true
 | _,[],_,h,_=>by unfold Op.bytesLess at h;cases h
 | _,_::_,[],_,h=>by unfold Op.bytesLess at h;cases h
 | [],_::_,_::_,_,_=>rfl
 | a::x,b::y,c::z,h1,h2=>by
  unfold Op.bytesLess at h1 h2 ⊢
  simp only[Bool.or_eq_true,decide_eq_true_eq,Bool.and_eq_true,beq_iff_eq] at h1 h2 ⊢
  rcases h1 with h1 | ⟨rfl,h1⟩
  ·rcases h2 with h2 | ⟨rfl,h2⟩
   ·exact .inl (UInt8.lt_trans h1 h2)
   ·exact .inl h1
  ·rcases h2 with h2 | ⟨rfl,h2⟩
   ·exact .inl h2
   ·exact .inr ⟨rfl,bl_trans x y z h1 h2⟩
theorem bl_total:∀ x y:List UInt8,Op.bytesLess x y=false→Op.bytesLess y x=false→x=y
 | [],[],_,_=>rfl
 | [],_::_,h,_=>by unfold Op.bytesLess at h;cases h
 | _::_,[],_,h=>by unfold Op.bytesLess at h;cases h
 | a::x,b::y,h1,h2=>by
  unfold Op.bytesLess at h1 h2
  simp only[Bool.or_eq_false_iff,decide_eq_false_iff_not,Bool.and_eq_false_iff,beq_eq_false_iff_ne] at h1 h2
  have hab:a=b:=by
   have e1:¬ a.toNat<b.toNat:=fun h=>h1.1 (UInt8.lt_iff_toNat_lt.2 h)
   have e2:¬ b.toNat<a.toNat:=fun h=>h2.1 (UInt8.lt_iff_toNat_lt.2 h)
   exact UInt8.toNat_inj.1 (by omega)
  subst hab
  rw[bl_total x y (by rcases h1.2 with h | h;exact absurd rfl h;exact h) (by rcases h2.2 with h | h;exact absurd rfl h;exact h)]
def blt (x y:ByteArray):Bool:=Op.bytesLess x.toList y.toList
theorem blt_irrefl (x:ByteArray):blt x x=false:=bl_irrefl _
theorem blt_trans {x y z:ByteArray} (h1:blt x y=true) (h2:blt y z=true):blt x z=true:=bl_trans _ _ _ h1 h2
theorem blt_total {x y:ByteArray} (h1:blt x y=false) (h2:blt y x=false):x=y:=by
 have h:=bl_total _ _ h1 h2
 rw[ByteArray.toList_eq,ByteArray.toList_eq] at h
 exact Go.WideShapes.bytes_inj h
theorem blt_ne {x y:ByteArray} (h:blt x y=true):x≠y:=fun e=>by rw[e,blt_irrefl] at h;cases h
def Asc:List ByteArray→Prop
 | []=>True
 | x::t=>(∀ y∈t,blt x y=true)∧Asc t
def insS:List ByteArray→ByteArray→List ByteArray
 | [],s=>[s]
 | x::t,s=>if blt x s=true then x::insS t s else if x=s then x::t else s::x::t
theorem insS_mem {y s:ByteArray}:∀ {l:List ByteArray},y∈insS l s↔y=s∨y∈l
 | []=>by unfold insS;simp
 | x::t=>by
  unfold insS
  split
  ·rw[List.mem_cons,insS_mem (l:=t),List.mem_cons]
   constructor
   ·rintro (h | h | h)
    ·exact .inr (.inl h)
    ·exact .inl h
    ·exact .inr (.inr h)
   ·rintro (h | h | h)
    ·exact .inr (.inl h)
    ·exact .inl h
    ·exact .inr (.inr h)
  ·split
   ·next hx =>
    subst hx
    constructor
    ·exact fun h=>.inr h
    ·rintro (h | h)
     ·rw[h];exact .head _
     ·exact h
   ·simp
theorem insS_asc {s:ByteArray}:∀ {l:List ByteArray},Asc l→Asc (insS l s)
 | [],_=>by unfold insS;exact⟨fun y h=>by simp at h,trivial⟩
 | x::t,h=>by
  unfold insS
  split
  ·next hx =>
   refine⟨fun y hy=>?_,insS_asc h.2⟩
   rcases insS_mem.1 hy with rfl | hy
   ·exact hx
   ·exact h.1 y hy
  ·split
   ·exact h
   ·next h1 h2 =>
    have hsx:blt s x=true:=by
     cases hb:blt s x with
     | true=>rfl
     | false=>exact absurd (blt_total (by simpa using h1) hb) h2
    refine⟨fun y hy=>?_,h⟩
    rcases List.mem_cons.1 hy with rfl | hy
    ·exact hsx
    ·exact blt_trans hsx (h.1 y hy)
theorem asc_uniq:∀ {l m:List ByteArray},Asc l→Asc m→(∀ y,y∈l↔y∈m)→l=m
 | [],[],_,_,_=>rfl
 | [],y::u,_,_,h=>absurd ((h y).2 (.head _)) (by simp)
 | x::t,[],_,_,h=>absurd ((h x).1 (.head _)) (by simp)
 | x::t,y::u,hl,hm,h=>by
  have hxy:x=y:=by
   have h1:=(h x).1 (.head _)
   have h2:=(h y).2 (.head _)
   rcases List.mem_cons.1 h1 with e | h1
   ·exact e
   ·rcases List.mem_cons.1 h2 with e | h2
    ·exact e.symm
    ·have:=blt_trans (hl.1 y h2) (hm.1 x h1)
     rw[blt_irrefl] at this;cases this
  subst hxy
  rw[asc_uniq hl.2 hm.2 fun z=>?_]
  constructor
  ·intro hz
   rcases List.mem_cons.1 ((h z).1 (.tail _ hz)) with e | h1
   ·exact absurd e (blt_ne (hl.1 z hz)).symm
   ·exact h1
  ·intro hz
   rcases List.mem_cons.1 ((h z).2 (.tail _ hz)) with e | h1
   ·exact absurd e (blt_ne (hm.1 z hz)).symm
   ·exact h1
def namesL (vs:List ByteArray):List ByteArray:=vs.foldl insS []
theorem foldl_asc:∀ (vs l:List ByteArray),Asc l→Asc (vs.foldl insS l)∧∀ y,y∈vs.foldl insS l↔y∈l∨y∈vs
 | [],l,h=>⟨h,fun y=>by simp⟩
 | v::vs,l,h=>by
  obtain⟨h1,h2⟩:=foldl_asc vs (insS l v) (insS_asc h)
  refine⟨h1,fun y=>?_⟩
  rw[List.foldl_cons,h2 y,insS_mem,List.mem_cons]
  constructor
  ·rintro ((h | h) | h)
   ·exact .inr (.inl h)
   ·exact .inl h
   ·exact .inr (.inr h)
  ·rintro (h | h | h)
   ·exact .inl (.inr h)
   ·exact .inl (.inl h)
   ·exact .inr h
theorem namesL_asc (vs:List ByteArray):Asc (namesL vs):=(foldl_asc vs [] trivial).1
theorem namesL_mem {vs:List ByteArray} {y:ByteArray}:y∈namesL vs↔y∈vs:=by rw[show y∈namesL vs↔_ from (foldl_asc vs [] trivial).2 y];simp
end
section
theorem bl_lt:∀ x y:List UInt8,Op.bytesLess x y=true↔x<y
 | [],[]=>by unfold Op.bytesLess;simp
 | [],_::_=>by unfold Op.bytesLess;simp
 | _::_,[]=>by unfold Op.bytesLess;simp
 | a::x,b::y=>by
  unfold Op.bytesLess
  rw[Bool.or_eq_true,decide_eq_true_eq,Bool.and_eq_true,bl_lt x y,List.cons_lt_cons_iff,beq_iff_eq]
def leB (x y:List UInt8):Bool:=decide (x≤y)
theorem leB_iff (x y:List UInt8):leB x y=!Op.bytesLess y x:=by
 unfold leB
 rw[Bool.eq_iff_iff,decide_eq_true_eq,Bool.not_eq_true',← Bool.not_eq_true,bl_lt,List.not_lt]
theorem sortB_sorted (l:List (List UInt8)):(l.mergeSort leB).Pairwise fun x y=>leB x y=true:=by
 refine List.pairwise_mergeSort (fun a b c h1 h2=>?_) (fun a b=>?_) l
 ·rw[leB_iff,Bool.not_eq_true'] at h1 h2 ⊢
  cases h3:Op.bytesLess c a with
  | false=>rfl
  | true =>
  cases h4:Op.bytesLess a b with
  | false=>rw[bl_total _ _ h4 h1] at h3;rw[h3] at h2;cases h2
  | true=>rw[bl_trans _ _ _ h3 h4] at h2;cases h2
 rw[leB_iff,leB_iff]
 cases h1:Op.bytesLess b a with
 | false=>rfl
 | true =>
 cases h2:Op.bytesLess a b with
 | true=>have:=bl_trans _ _ _ h1 h2;rw[bl_irrefl] at this;cases this
 | false=>rfl
theorem sortB_perm (l:List (List UInt8)):(l.mergeSort leB).Perm l:=List.mergeSort_perm l leB
theorem compact_go {l:List (List UInt8)} (hs:l.Pairwise fun x y=>leB x y=true):∀ m,m≤l.length→(Lib.compactUpTo l.toArray m).Pairwise (fun x y=>Op.bytesLess x y=true)∧∀ y,y∈Lib.compactUpTo l.toArray m↔y∈l.take m
 | 0,_=>by simp[Lib.compactUpTo]
 | m+1,hm=>by
  obtain⟨h1,h2⟩:=compact_go hs m (by omega)
  have hg:∀ j,j<l.length→l.toArray[j]! = l[j]!:=fun j hj=>by simp[getElem!_pos,hj]
  have hget:∀ j (hj:j<l.length),l[j]! = l[j]:=fun j hj=>getElem!_pos l j hj
  have hle:∀ i j,i<j→(hj:j<l.length)→leB l[i]! l[j]! = true:=fun i j hij hj=>by
   rw[hget i (by omega),hget j hj]
   exact List.pairwise_iff_getElem.1 hs i j (by omega) hj hij
  rw[Lib.compactUpTo_succ]
  have htk:l.take (m+1)=l.take m++[l[m]!]:=by rw[List.take_add_one,List.getElem?_eq_getElem (by omega),hget m (by omega)];rfl
  by_cases hk:Lib.keeps l.toArray m=true
  ·rw[if_pos hk,hg m (by omega)]
   refine⟨List.pairwise_append.2 ⟨h1,by simp,fun a ha b hb=>?_⟩,fun y=>?_⟩
   ·rw[List.mem_singleton] at hb
    subst hb
    obtain⟨i,hi⟩:=List.getElem?_of_mem ((h2 a).1 ha)
    rw[List.getElem?_take] at hi
    split at hi
    ·next him =>
     have ha':a=l[i]!:=by rw[hget i (by omega)];rw[List.getElem?_eq_getElem (by omega)] at hi;injection hi with hi;exact hi.symm
     have hne:l[m]!≠l[m-1]!:=by
      unfold Lib.keeps at hk
      rw[decide_eq_true_eq,hg m (by omega),hg (m-1) (by omega)] at hk
      rcases hk with hk | hk
      ·omega
      ·exact hk
     cases hb:Op.bytesLess a l[m]! with
     | true=>rfl
     | false =>
      exfalso
      have e1:=hle i m him (by omega)
      rw[leB_iff,← ha',Bool.not_eq_true'] at e1
      have e2:a=l[m]!:=bl_total _ _ hb e1
      by_cases hmi:i=m-1
      ·subst hmi;exact hne (by rw[← e2,ha'])
      ·have e3:=hle i (m-1) (by omega) (by omega)
       have e4:=hle (m-1) m (by omega) (by omega)
       rw[leB_iff,Bool.not_eq_true'] at e3 e4
       rw[← ha',e2] at e3
       exact hne (bl_total _ _ e4 e3)
    ·cases hi
   ·rw[List.mem_append,h2 y,htk,List.mem_append]
  ·rw[if_neg hk,List.append_nil]
   refine⟨h1,fun y=>?_⟩
   rw[h2 y,htk,List.mem_append]
   constructor
   ·exact .inl
   ·rintro (h | h)
    ·exact h
    ·rw[List.mem_singleton] at h
     unfold Lib.keeps at hk
     rw[decide_eq_true_eq,hg m (by omega)] at hk
     have hm0:m≠0:=fun h0=>hk (.inl h0)
     rw[hg (m-1) (by omega)] at hk
     have he:l[m]! = l[m-1]!:=Decidable.byContradiction fun hn=>hk (.inr hn)
     rw[h,he,hget (m-1) (by omega)]
     exact List.mem_of_getElem? (i:=m-1) (by rw[List.getElem?_take,if_pos (by omega),List.getElem?_eq_getElem (by omega)])
theorem sort_names (vs:List ByteArray):∃ rs:List ByteArray,Lib.compact ((vs.map (·.data.toList)).mergeSort leB)=rs.map (·.data.toList)∧rs=namesL vs:=by
 generalize hl:(vs.map (·.data.toList)).mergeSort leB=l
 have hs:l.Pairwise fun x y=>leB x y=true:=by rw[← hl];exact sortB_sorted _
 have hp:l.Perm (vs.map (·.data.toList)):=by rw[← hl];exact sortB_perm _
 obtain⟨h1,h2⟩:=compact_go hs l.length (Nat.le_refl _)
 rw[List.take_length] at h2
 refine⟨(Lib.compact l).map fun x=>⟨x.toArray⟩,?_,?_⟩
 ·rw[List.map_map]
  conv=>lhs;rw[← List.map_id (Lib.compact l)]
  exact List.map_congr_left fun x _=>by simp
 have hasc:∀ t:List (List UInt8),t.Pairwise (fun x y=>Op.bytesLess x y=true)→Asc (t.map fun x=>(⟨x.toArray⟩:ByteArray)):=by
  intro t
  induction t with
  | nil=>intro _;trivial
  | cons x t ih =>
   intro h
   rw[List.pairwise_cons] at h
   refine⟨fun y hy=>?_,ih h.2⟩
   obtain⟨z,hz,rfl⟩:=List.mem_map.1 hy
   unfold blt
   rw[ByteArray.toList_eq,ByteArray.toList_eq]
   exact h.1 z hz
 refine asc_uniq (hasc _ h1) (namesL_asc vs) fun y=>?_
 rw[namesL_mem]
 constructor
 ·intro hy
  obtain⟨x,hx,rfl⟩:=List.mem_map.1 hy
  obtain⟨v,hv,e⟩:=List.mem_map.1 (hp.mem_iff.1 ((h2 x).1 hx))
  rw[← e]
  exact hv
 intro hy
 exact List.mem_map.2 ⟨y.data.toList,(h2 _).2 (hp.mem_iff.2 (List.mem_map.2 ⟨y,hy,rfl⟩)),rfl⟩
end
section
open Go.RowKit Go.Shelf Go.Sort
def lays190_ren:Go.Shelf.Ren:=⟨fun | 190=>149 | 125=>195 | 258=>194 | 128=>238 | 129=>239 | 302=>229 | 303=>230 | 304=>231 | 305=>232 | 306=>233 | 307=>234 | 308=>235 | 309=>236 | 310=>237 | 333=>260 | 329=>261 | 330=>262 | 334=>263 | 335=>264 | 336=>265 | 344=>289 | n=>n,fun | 31=>46 | 9=>9 | 3=>3 | 46=>232 | 0=>0 | 51=>213 | 53=>151 | 4=>4 | 183=>254 | 182=>253 | 131=>246 | 5=>5 | 218=>274 | 222=>79 | 228=>289 | 229=>244 | n=>n,fun | n=>n⟩
theorem lays190:Go.Proofs.Lays.n190 Tryz.prog lays190_ren:={
 mixed:=by kernel_rfl
 f125:=Tryz.func195.trans (congrArg some (by kernel_rfl))
 f128:=Tryz.func238.trans (congrArg some (by kernel_rfl))
 f129:=Tryz.func239.trans (congrArg some (by kernel_rfl))
 f190:=Tryz.func149.trans (congrArg some (by kernel_rfl))
 f258:=Tryz.func194.trans (congrArg some (by kernel_rfl))
 f302:=Tryz.func229.trans (congrArg some (by kernel_rfl))
 f303:=Tryz.func230.trans (congrArg some (by kernel_rfl))
 f304:=Tryz.func231.trans (congrArg some (by kernel_rfl))
 f305:=Tryz.func232.trans (congrArg some (by kernel_rfl))
 f306:=Tryz.func233.trans (congrArg some (by kernel_rfl))
 f307:=Tryz.func234.trans (congrArg some (by kernel_rfl))
 f308:=Tryz.func235.trans (congrArg some (by kernel_rfl))
 f309:=Tryz.func236.trans (congrArg some (by kernel_rfl))
 f310:=Tryz.func237.trans (congrArg some (by kernel_rfl))
 f329:=Tryz.func261.trans (congrArg some (by kernel_rfl))
 f330:=Tryz.func262.trans (congrArg some (by kernel_rfl))
 f333:=Tryz.func260.trans (congrArg some (by kernel_rfl))
 f334:=Tryz.func263.trans (congrArg some (by kernel_rfl))
 f335:=Tryz.func264.trans (congrArg some (by kernel_rfl))
 f336:=Tryz.func265.trans (congrArg some (by kernel_rfl))
 f344:=Tryz.func289.trans (congrArg some (by kernel_rfl))
 t0:=Tryz.underlying0
 a0:=Tryz.isAgg0
 z0:=Tryz.sizeOf0
 v0:=Tryz.zeroValue0
 t3:=Tryz.underlying3
 a3:=Tryz.isAgg3
 z3:=Tryz.sizeOf3
 v3:=Tryz.zeroValue3
 t4:=Tryz.underlying4
 a4:=Tryz.isAgg4
 z4:=Tryz.sizeOf4
 v4:=Tryz.zeroValue4
 t5:=Tryz.underlying5
 a5:=Tryz.isAgg5
 z5:=Tryz.sizeOf5
 v5:=Tryz.zeroValue5
 t9:=Tryz.underlying9
 a9:=Tryz.isAgg9
 z9:=Tryz.sizeOf9
 v9:=Tryz.zeroValue9
 t31:=Tryz.underlying46
 a31:=Tryz.isAgg46
 z31:=Tryz.sizeOf46
 v31:=Tryz.zeroValue46
 t46:=Tryz.underlying232
 a46:=Tryz.isAgg232
 z46:=Tryz.sizeOf232
 v46:=Tryz.zeroValue232
 t51:=Tryz.underlying213
 a51:=Tryz.isAgg213
 z51:=Tryz.sizeOf213
 v51:=Tryz.zeroValue213
 t53:=Tryz.underlying151
 a53:=Tryz.isAgg151
 z53:=Tryz.sizeOf151
 v53:=Tryz.zeroValue151
 t131:=Tryz.underlying246
 a131:=Tryz.isAgg246
 z131:=Tryz.sizeOf246
 v131:=Tryz.zeroValue246
 t182:=Tryz.underlying253
 a182:=Tryz.isAgg253
 z182:=Tryz.sizeOf253
 v182:=Tryz.zeroValue253
 t183:=Tryz.underlying254
 a183:=Tryz.isAgg254
 z183:=Tryz.sizeOf254
 v183:=Tryz.zeroValue254
 t218:=Tryz.underlying274
 a218:=Tryz.isAgg274
 z218:=Tryz.sizeOf274
 v218:=Tryz.zeroValue274
 t222:=Tryz.underlying79
 a222:=Tryz.isAgg79
 z222:=Tryz.sizeOf79
 v222:=Tryz.zeroValue79
 t228:=Tryz.underlying289
 a228:=Tryz.isAgg289
 z228:=Tryz.sizeOf289
 v228:=Tryz.zeroValue289
 t229:=Tryz.underlying244
 a229:=Tryz.isAgg244
 z229:=Tryz.sizeOf244
 v229:=Tryz.zeroValue244 }
def lays194_ren:Go.Shelf.Ren:=⟨fun | 194=>150 | n=>n,fun | 31=>46 | 9=>9 | 3=>3 | 4=>4 | 0=>0 | n=>n,fun | n=>n⟩
theorem lays194:Go.Proofs.Lays.n194 Tryz.prog lays194_ren:={
 mixed:=by kernel_rfl
 f194:=Tryz.func150.trans (congrArg some (by kernel_rfl))
 t0:=Tryz.underlying0
 a0:=Tryz.isAgg0
 z0:=Tryz.sizeOf0
 v0:=Tryz.zeroValue0
 t3:=Tryz.underlying3
 a3:=Tryz.isAgg3
 z3:=Tryz.sizeOf3
 v3:=Tryz.zeroValue3
 t4:=Tryz.underlying4
 a4:=Tryz.isAgg4
 z4:=Tryz.sizeOf4
 v4:=Tryz.zeroValue4
 t9:=Tryz.underlying9
 a9:=Tryz.isAgg9
 z9:=Tryz.sizeOf9
 v9:=Tryz.zeroValue9
 t31:=Tryz.underlying46
 a31:=Tryz.isAgg46
 z31:=Tryz.sizeOf46
 v31:=Tryz.zeroValue46 }
def lays110_ren:Go.Shelf.Ren:=⟨fun | 110=>97 | 109=>42 | n=>n,fun | 31=>46 | 9=>9 | 4=>4 | 3=>3 | 0=>0 | n=>n,fun | n=>n⟩
theorem lays110:Go.Proofs.Lays.n110 Tryz.prog lays110_ren:={
 mixed:=by kernel_rfl
 f109:=Tryz.func42.trans (congrArg some (by kernel_rfl))
 f110:=Tryz.func97.trans (congrArg some (by kernel_rfl))
 t0:=Tryz.underlying0
 a0:=Tryz.isAgg0
 z0:=Tryz.sizeOf0
 v0:=Tryz.zeroValue0
 t3:=Tryz.underlying3
 a3:=Tryz.isAgg3
 z3:=Tryz.sizeOf3
 v3:=Tryz.zeroValue3
 t4:=Tryz.underlying4
 a4:=Tryz.isAgg4
 z4:=Tryz.sizeOf4
 v4:=Tryz.zeroValue4
 t9:=Tryz.underlying9
 a9:=Tryz.isAgg9
 z9:=Tryz.sizeOf9
 v9:=Tryz.zeroValue9
 t31:=Tryz.underlying46
 a31:=Tryz.isAgg46
 z31:=Tryz.sizeOf46
 v31:=Tryz.zeroValue46 }
end
section
theorem str_eq (a b:ByteArray):(a.toList==b.toList)=decide (a=b):=by
 by_cases h:a=b
 ·subst h;simp
 have:a.toList≠b.toList:=fun e=>h (by
  rw[ByteArray.toList_eq,ByteArray.toList_eq] at e
  cases a;cases b
  simp only[] at e
  congr 1
  exact Array.toList_inj.1 e)
 rw[decide_eq_false h]
 exact beq_eq_false_iff_ne.2 this
theorem byte_at {s:ByteArray} {i:Nat} (h:i<s.size):s.data.toList[i]? = some (s[i]'h):=by
 have h1:i<s.data.toList.length:=by rw[Array.length_toList];exact h
 rw[List.getElem?_eq_getElem h1]
 rfl
theorem byte_size (s:ByteArray):s.data.toList.length=s.size:=Array.length_toList
theorem size_zero {s:ByteArray}:s.size=0↔s=ByteArray.empty:=by
 constructor
 ·intro h
  obtain⟨⟨l⟩⟩:=s
  have:l=[]:=List.length_eq_zero_iff.1 h
  rw[this];rfl
 rintro rfl;rfl
theorem let_run {b:UInt8} (h:isLet b=true):isRun b=true:=by unfold isRun;rw[h];rfl
theorem all_at {p:UInt8→Bool} {l:List UInt8}:l.all p=true↔∀ (i:Nat) (b:UInt8),l[i]? = some b→p b=true:=by
 rw[List.all_eq_true]
 constructor
 ·intro h i b hi;exact h b (List.mem_of_getElem? hi)
 intro h b hb
 obtain⟨i,hi⟩:=List.getElem?_of_mem hb
 exact h i b hi
theorem word_iff (s:ByteArray):wordB s=true↔(∃ b,s.data.toList[0]? = some b∧isLet b=true)∧∀ (i:Nat) (b:UInt8),s.data.toList[i]? = some b→isRun b=true:=by
 unfold wordB
 cases hl:s.data.toList with
 | nil=>simp
 | cons b t =>
 show (isLet b&&t.all isRun)=true↔_
 rw[Bool.and_eq_true,all_at]
 constructor
 ·rintro ⟨h1,h2⟩
  refine⟨⟨b,rfl,h1⟩,fun i c hi=>?_⟩
  cases i with
  | succ j=>exact h2 j c hi
  | zero=>injection hi with hi;subst hi;exact let_run h1
 rintro ⟨⟨c,hc,h1⟩,h2⟩
 injection hc with hc;subst hc
 exact⟨h1,fun i c hi=>h2 (i+1) c hi⟩
theorem word_no {s:ByteArray} {i:Nat} {b:UInt8} (h:s.data.toList[i]? = some b) (hr:isRun b=false):wordB s=false:=by
 refine Bool.eq_false_iff.2 fun hw=>?_
 rw[((word_iff s).1 hw).2 i b h] at hr
 cases hr
theorem word_let {s:ByteArray} {b:UInt8} (h:s.data.toList[0]? = some b) (hl:isLet b=false):wordB s=false:=by
 refine Bool.eq_false_iff.2 fun hw=>?_
 obtain⟨⟨c,hc,h1⟩,_⟩:=(word_iff s).1 hw
 rw[h] at hc;injection hc with hc;subst hc
 rw[h1] at hl;cases hl
theorem word_empty {s:ByteArray} (h:s.size=0):wordB s=false:=by
 unfold wordB
 have:s.data.toList=[]:=List.length_eq_zero_iff.1 (by rw[byte_size];exact h)
 rw[this]
theorem word_yes {s:ByteArray} {b:UInt8} (h0:s.data.toList[0]? = some b) (h1:isLet b=true) (h:∀ (i:Nat) (c:UInt8),s.data.toList[i]? = some c→isRun c=true):wordB s=true:=(word_iff s).2 ⟨⟨b,h0,h1⟩,h⟩
end
section
theorem ixl_any (s:ByteArray) (c:Int) (w:World) :
  Calls Tryz.prog 272 #[.string s,.int .u8 c] w fun e w'=>e=.returned (.int .i64 (Lib.indexByte s.data.toList c.toNat.toUInt8))∧w'=w:=by
 go_enter Tryz.func272,Tryz.ntmps272
 go_wp2
 rw[run_callFunc_extern Tryz.func290 (by kernel_rfl) (by kernel_rfl) (by kernel_rfl) (e:=Extern.BytealgIndexByte.indexByte) (by kernel_rfl),Lib.run_indexByteString]
 simp only[Result.andThen]
 rw[Oper.upon_value]
 go_wp2
 go_ret
 exact⟨rfl,rfl⟩
theorem ixb_any (s:ByteArray) (c:Int) (w:World) :
  Calls Tryz.prog 243 #[.string s,.int .u8 c] w fun e w'=>∃ k:Int,e=.returned (.int .i64 k)∧w'=w:=by
 go_enter Tryz.func243,Tryz.ntmps243
 go_wp2_with (refine (ixl_any _ _ _).mono ?_;rintro e w' ⟨rfl,rfl⟩)
 go_ret
 exact⟨_,rfl,rfl⟩
end
end Go.Proofs.YteidgoldnllabaaGreatDoor
