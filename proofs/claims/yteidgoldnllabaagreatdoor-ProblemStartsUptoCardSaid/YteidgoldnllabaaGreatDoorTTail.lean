/-
  A region that draws its order, whose last operations wait for all others: the others first, then these.
-/
import Derived.Test.YteidgoldnllabaaGreatDoorTRCoN
import Derived.Deep.RegionHeld3
import Derived.Test.YteidgoldnllabaaGreatDoorTWalN
import Derived.Laws.OwnMore
import Derived.Test.YteidgoldnllabaaGreatDoorTIdxX
set_option maxHeartbeats 2000000
set_option maxRecDepth 20000
namespace Go.Proofs.YteidgoldnllabaaGreatDoor
open Go.RowKit
open Lib (hid)
section
section
variable {P:Program} {ops:Array Oper} {Q:Exit→Act→World→Prop} {md:Region.Mode} {S:World→Prop}
theorem wpAny_more:∀ (fuel:Nat) (listed:Array Bool) (a:Act) (w:World),wpAny P md ops Q fuel listed a w→wpAny P md ops Q (fuel+1) listed a w
 | 0,_,_,_,h=>⟨fun _=>h.2,fun i hi=>by rw[h.1] at hi;cases hi⟩
 | fuel+1,_,_,_,h=>⟨h.1,fun i hi=>wpOp_mono (fun a' w' h'=>wpAny_more fuel _ a' w' h') (h.2 i hi)⟩
theorem wpAny_adds {fuel:Nat} {listed:Array Bool} {a:Act} {w:World} (h:wpAny P md ops Q fuel listed a w):∀ k,wpAny P md ops Q (fuel+k) listed a w
 | 0=>h
 | k+1=>wpAny_more _ _ _ _ (wpAny_adds h k)
theorem wpAnyH_true:∀ (fuel:Nat) (listed:Array Bool) (a:Act) (w:World),wpAny P md ops Q fuel listed a w→wpAnyH P md ops Q (fun _=>True) fuel listed a w
 | 0,_,_,_,h=>h
 | fuel+1,_,_,_,h=>⟨h.1,fun i hi=>wpOp_mono (fun a' w' h'=>⟨trivial,wpAnyH_true fuel _ a' w' h'⟩) (h.2 i hi)⟩
def upTo (n z:Nat):Array Bool:=((List.range n).map fun i=>decide (i<z)).toArray
theorem upTo_size (n z:Nat):(upTo n z).size=n:=by unfold upTo;simp
theorem upTo_getD {n z i:Nat} (hi:i<n) (c:Bool):(upTo n z).getD i c=decide (i<z):=by
 unfold upTo
 simp[hi]
def TailQ (P:Program) (md:Region.Mode) (ops:Array Oper) (z:Nat) (Q:Exit→Act→World→Prop):Exit→Act→World→Prop
 | .normal,a,w=>wpAny P md ops Q (ops.size-z) (upTo ops.size z) a w
 | e,a,w=>Q e a w
theorem wpOp_tail {i:Nat} {K:Act→World→Prop} {a:Act} {w:World} {z:Nat} (h:wpOp P ops (TailQ P md ops z Q) i K a w):wpOp P ops Q i K a w:=by
 unfold wpOp at *
 split
 ·rename_i ho;simpa [ho] using h
 rename_i o ho
 simp only[ho] at h
 split
 ·rename_i hw
  simp only[hw,if_true] at h
  refine h.imp (fun h=>?_) (fun h=>h)
  unfold Oper.wp at *
  generalize (execOp a.eval o).run P w=r at *
  cases r with
  | halt x w'=>cases x <;> simp only[Oper.upon] at h ⊢ <;> exact h
  | ok n w' =>
  cases n <;> simp only[Oper.upon] at h ⊢ <;> first | exact h | exact Calls.mono h (fun e w'' he=>by cases e <;> exact he)
 rename_i hw;simp only[hw] at h;exact h
def tailIs (md:Region.Mode) (ops:Array Oper) (z:Nat):Bool :=
 decide (z<ops.size) &&
 ((List.range ops.size).all fun i=>((ops[i]?).map fun o=>o.after.all fun e=>!Region.binds md e||decide (e.on<i)).getD false) &&
 ((List.range ops.size).all fun j=>!decide (z<j)||((ops[j]?).map fun o=>o.after.any fun e=>Region.binds md e&&decide (z≤e.on)).getD false)
theorem tailIs_spec {z:Nat} (h:tailIs md ops z=true) :
  z<ops.size∧(∀ i o,ops[i]? = some o→∀ e∈o.after,Region.binds md e=true→e.on<i) ∧
  (∀ j o,z<j→ops[j]? = some o→∃ e∈o.after,Region.binds md e=true∧z≤e.on):=by
 unfold tailIs at h
 simp only[Bool.and_eq_true,List.all_eq_true,List.mem_range,decide_eq_true_eq] at h
 obtain⟨⟨h1,h2⟩,h3⟩:=h
 refine⟨h1,fun i o ho e he hb=>?_,fun j o hj ho=>?_⟩
 ·have:=h2 i (Array.getElem?_eq_some_iff.1 ho).1
  rw[ho] at this
  simp only[Option.map_some,Option.getD_some] at this
  have:=Array.all_eq_true_iff_forall_mem.1 this e he
  simpa [hb] using this
 have:=h3 j (Array.getElem?_eq_some_iff.1 ho).1
 rw[ho,decide_eq_true hj] at this
 simp only[Option.map_some,Option.getD_some,Bool.not_true,Bool.false_or] at this
 obtain⟨e,he,hb⟩:=Array.any_eq_true'.1 this
 simp only[Bool.and_eq_true,decide_eq_true_eq] at hb
 exact⟨e,he,hb.1,hb.2⟩
def tailAt (md:Region.Mode) (ops:Array Oper) (z:Nat) (listed:Array Bool):Bool :=
 (listed.size==ops.size) &&
 ((List.range ops.size).all fun j=>!listed.getD j true||((ops[j]?).map fun o=>o.after.all fun e=>!Region.binds md e||listed.getD e.on false).getD false) &&
 ((List.range ops.size).all fun j=>decide (j<z)||!listed.getD j true) &&
 ((List.range z).all fun i=>listed.getD i true||(List.range ops.size).any fun j=>decide (i<j)&&(decide (j≤z)&&((ops[j]?).map fun o=>o.after.any fun e=>Region.binds md e&&(e.on==i)).getD false))
theorem tailAt_spec {z:Nat} {listed:Array Bool} (h:tailAt md ops z listed=true) :
  listed.size=ops.size∧Down md ops listed∧(∀ j,z≤j→j<ops.size→listed.getD j true=false) ∧
  (∀ i,i<z→listed.getD i true=false→∃ j o,i<j∧j≤z∧ops[j]? = some o∧∃ e∈o.after,Region.binds md e=true∧e.on=i):=by
 unfold tailAt at h
 simp only[Bool.and_eq_true,beq_iff_eq,List.all_eq_true,List.mem_range] at h
 obtain⟨⟨⟨h1,h2⟩,h3⟩,h4⟩:=h
 refine⟨h1,fun j o ho hl e he hb=>?_,fun j hj hn=>?_,fun i hi hl=>?_⟩
 ·have:=h2 j (Array.getElem?_eq_some_iff.1 ho).1
  rw[ho,hl] at this
  simp only[Option.map_some,Option.getD_some,Bool.not_true,Bool.false_or] at this
  have:=Array.all_eq_true_iff_forall_mem.1 this e he
  simpa [hb] using this
 ·have:=h3 j hn
  rw[decide_eq_false (by omega)] at this
  simpa using this
 have:=h4 i hi
 rw[hl] at this
 simp only[Bool.false_or,List.any_eq_true,List.mem_range,Bool.and_eq_true,decide_eq_true_eq] at this
 obtain⟨j,hj,hij,hjz,hx⟩:=this
 cases ho:ops[j]? with
 | none=>rw[ho] at hx;simp at hx
 | some o =>
 rw[ho] at hx
 simp only[Option.map_some,Option.getD_some] at hx
 obtain⟨e,he,hb⟩:=Array.any_eq_true'.1 hx
 simp only[Bool.and_eq_true,beq_iff_eq] at hb
 exact⟨j,o,hij,hjz,ho,e,he,hb.1,hb.2⟩
def withTail (n z:Nat) (listed:Array Bool):Array Bool:=((List.range n).map fun i=>listed.getD i true||decide (z≤i)).toArray
theorem withTail_size (n z:Nat) (listed:Array Bool):(withTail n z listed).size=n:=by unfold withTail;simp
theorem withTail_getD {n z i:Nat} {listed:Array Bool} (hi:i<n) (c:Bool):(withTail n z listed).getD i c=(listed.getD i true||decide (z≤i)):=by
 unfold withTail
 simp[hi]
theorem withTail_set {n z j:Nat} {listed:Array Bool} (hs:listed.size=n) (hj:j<n):withTail n z (listed.setIfInBounds j true)=(withTail n z listed).setIfInBounds j true:=by
 refine Array.ext (by simp[withTail]) fun i h1 h2=>?_
 have hi:i<n:=by simpa [withTail] using h1
 have key (A:Array Bool) (h:i<A.size):A[i]=A.getD i true:=by simp[h]
 rw[key _ h1,key _ h2,withTail_getD hi]
 by_cases e:j=i
 ·subst e
  simp[hs,hj,withTail_size]
 rw[getD_set_ne true e,getD_set_ne true e,withTail_getD hi]
theorem ready_some2 {listed:Array Bool} (h2:∀ i o,ops[i]? = some o→∀ e∈o.after,Region.binds md e=true→e.on<i) (hs:listed.size=ops.size) (hz:∃ z,z<ops.size∧listed.getD z true=false):Region.ready md ops listed≠[]:=by
 obtain⟨z,hzn,hz⟩:=hz
 have key:∀ n i,i≤n→i<ops.size→listed.getD i true=false→∃ k,k∈Region.ready md ops listed:=by
  intro n
  induction n with
  | zero =>
   intro i hi hl hu
   obtain rfl:i=0:=by omega
   refine⟨0,mem_ready.2 ⟨hu,ops[0],by simp[hl],fun e he hb=>?_⟩⟩
   have:=h2 0 ops[0] (by simp[hl]) e he hb
   omega
  | succ n ih =>
   intro i hi hl hu
   by_cases hx:∃ e∈(ops[i]).after,Region.binds md e=true∧listed.getD e.on false=false
   ·obtain⟨e,he,hb,hf⟩:=hx
    have hlt:=h2 i ops[i] (by simp[hl]) e he hb
    exact ih e.on (by omega) (by omega) (by rw[getD_sz (by omega) true false];exact hf)
   ·refine⟨i,mem_ready.2 ⟨hu,ops[i],by simp[hl],fun e he hb=>?_⟩⟩
    cases hf:listed.getD e.on false with
    | true=>rfl
    | false=>exact absurd ⟨e,he,hb,hf⟩ hx
 obtain⟨k,hk⟩:=key z z (Nat.le_refl _) hzn hz
 intro h0
 rw[h0] at hk
 cases hk
theorem wpAny_tail {z:Nat} (h:tailIs md ops z=true):∀ (fuel:Nat) (listed:Array Bool) (a:Act) (w:World),
  listed.size=ops.size→Down md ops listed→(∀ j,z≤j→j<ops.size→listed.getD j true=false) →
  (∀ i,i<z→listed.getD i true=false→∃ j o,i<j∧j≤z∧ops[j]? = some o∧∃ e∈o.after,Region.binds md e=true∧e.on=i) →
  wpAny P md ops (TailQ P md ops z Q) fuel (withTail ops.size z listed) a w→wpAny P md ops Q (fuel+(ops.size-z)) listed a w:=by
 obtain⟨h1,h2,h3⟩:=tailIs_spec h
 have all_of (listed:Array Bool) (hd:Down md ops listed) (hw:∀ i,i<z→listed.getD i true=false→∃ j o,i<j∧j≤z∧ops[j]? = some o∧∃ e∈o.after,Region.binds md e=true∧e.on=i)
   (hz:∃ o,ops[z]? = some o∧∀ e∈o.after,Region.binds md e=true→listed.getD e.on false=true) (hs:listed.size=ops.size):∀ i,i<z→listed.getD i true=true:=by
  have key:∀ n i,i<z→z-i≤n→listed.getD i true=true:=by
   intro n
   induction n with
   | zero=>intro i hi hn;omega
   | succ n ih =>
    intro i hi hn
    cases hl:listed.getD i true with
    | true=>rfl
    | false =>
     obtain⟨j,o,hij,hjz,ho,e,he,hb,hon⟩:=hw i hi hl
     have hfalse:listed.getD i false=true:=by
      by_cases hjz2:j=z
      ·subst hjz2
       obtain⟨o',ho',hall⟩:=hz
       rw[ho] at ho'
       cases ho'
       have:=hall e he hb
       rwa [hon] at this
      ·have:=hd j o ho (ih j (by omega) (by omega)) e he hb
       rwa [hon] at this
     rw[getD_sz (by omega) false true,hl] at hfalse
     cases hfalse
  exact fun i hi=>key _ i hi (Nat.le_refl _)
 intro fuel
 induction fuel with
 | zero =>
  intro listed a w hs hd ht hw H
  by_cases hall:∀ i,i<z→listed.getD i true=true
  ·have hl:listed=upTo ops.size z:=by
    refine Array.ext (by rw[upTo_size,hs]) fun i g1 g2=>?_
    have key (A:Array Bool) (h:i<A.size):A[i]=A.getD i true:=by simp[h]
    rw[key _ g1,key _ g2,upTo_getD (by omega)]
    by_cases e:i<z
    ·rw[hall i e,decide_eq_true e]
    ·rw[ht i (by omega) (by omega),decide_eq_false e]
   rw[hl,Nat.zero_add]
   exact H.2
  ·exfalso
   obtain⟨i,hi,hu⟩:∃ i,i<z∧listed.getD i true=false:=by
    refine Classical.byContradiction fun k=>hall fun i hi=>?_
    cases hl:listed.getD i true with
    | true=>rfl
    | false=>exact absurd ⟨i,hi,hl⟩ k
   have key:∀ n i,i≤n→i<z→listed.getD i true=false→∃ k,k∈Region.ready md ops (withTail ops.size z listed):=by
    intro n
    induction n with
    | zero =>
     intro i hi hl hu
     obtain rfl:i=0:=by omega
     have hlt:0<ops.size:=by omega
     refine⟨0,mem_ready.2 ⟨by rw[withTail_getD hlt,hu,decide_eq_false (by omega)];rfl,ops[0],by simp[hlt],fun e he hb=>?_⟩⟩
     have:=h2 0 ops[0] (by simp[hlt]) e he hb
     omega
    | succ n ih =>
     intro i hi hl hu
     have hlt:i<ops.size:=by omega
     by_cases hx:∃ e∈(ops[i]).after,Region.binds md e=true∧listed.getD e.on true=false
     ·obtain⟨e,he,hb,hf⟩:=hx
      have hlt2:=h2 i ops[i] (by simp[hlt]) e he hb
      exact ih e.on (by omega) (by omega) hf
     ·refine⟨i,mem_ready.2 ⟨by rw[withTail_getD hlt,hu,decide_eq_false (by omega)];rfl,ops[i],by simp[hlt],fun e he hb=>?_⟩⟩
      have hlt2:=h2 i ops[i] (by simp[hlt]) e he hb
      rw[withTail_getD (by omega)]
      cases hf:listed.getD e.on true with
      | true=>rfl
      | false=>exact absurd ⟨e,he,hb,hf⟩ hx
   obtain⟨k,hk⟩:=key i i (Nat.le_refl _) hi hu
   rw[H.1] at hk
   cases hk
 | succ fuel ih =>
  intro listed a w hs hd ht hw H
  by_cases hall:∀ i,i<z→listed.getD i true=true
  ·have hl:listed=upTo ops.size z:=by
    refine Array.ext (by rw[upTo_size,hs]) fun i g1 g2=>?_
    have key (A:Array Bool) (h:i<A.size):A[i]=A.getD i true:=by simp[h]
    rw[key _ g1,key _ g2,upTo_getD (by omega)]
    by_cases e:i<z
    ·rw[hall i e,decide_eq_true e]
    ·rw[ht i (by omega) (by omega),decide_eq_false e]
   have hn:Region.ready md ops (withTail ops.size z listed)=[]:=by
    refine List.eq_nil_iff_forall_not_mem.2 fun j hj=>?_
    obtain⟨hu,o,ho,_⟩:=mem_ready.1 hj
    have hjl:=(Array.getElem?_eq_some_iff.1 ho).1
    rw[withTail_getD hjl] at hu
    by_cases e:j<z
    ·rw[hall j e] at hu;cases hu
    ·rw[decide_eq_true (by omega:z≤j),Bool.or_true] at hu;cases hu
   have:=wpAny_adds (H.1 hn) (fuel+1)
   rw[hl,Nat.add_comm]
   exact this
  ·rw[Nat.add_right_comm]
   have low:∀ j,j∈Region.ready md ops listed→j<z:=by
    intro j hj
    obtain⟨hu,o,ho,hp⟩:=mem_ready.1 hj
    have hjl:=(Array.getElem?_eq_some_iff.1 ho).1
    refine Classical.byContradiction fun k=>?_
    by_cases e:j=z
    ·subst e
     exact hall (all_of listed hd hw ⟨o,ho,hp⟩ hs)
    ·obtain⟨e2,he,hb,hon⟩:=h3 j o (by omega) ho
     have:=hp e2 he hb
     have hlt:=h2 j o ho e2 he hb
     rw[getD_sz (by omega) false true,ht e2.on hon (by omega)] at this
     cases this
   have toT:∀ j,j∈Region.ready md ops listed→j∈Region.ready md ops (withTail ops.size z listed):=by
    intro j hj
    have hjz:=low j hj
    obtain⟨hu,o,ho,hp⟩:=mem_ready.1 hj
    have hjl:=(Array.getElem?_eq_some_iff.1 ho).1
    refine mem_ready.2 ⟨by rw[withTail_getD hjl,hu,decide_eq_false (by omega)];rfl,o,ho,fun e he hb=>?_⟩
    have hlt:=h2 j o ho e he hb
    rw[withTail_getD (by omega),getD_sz (by omega) true false,hp e he hb];rfl
   refine⟨fun h0=>absurd h0 (ready_some2 h2 hs (by
    refine Classical.byContradiction fun k=>hall fun i hi=>?_
    cases hl:listed.getD i true with
    | true=>rfl
    | false=>exact absurd ⟨i,by omega,hl⟩ k)),fun j hj=>?_⟩
   have h4:=H.2 j (toT j hj)
   obtain⟨hju,oj,hoj,hallj⟩:=mem_ready.1 hj
   have hjl:=(Array.getElem?_eq_some_iff.1 hoj).1
   have hjz:=low j hj
   refine wpOp_mono (fun a' w' h5=>ih (listed.setIfInBounds j true) a' w' (by simpa using hs) ?_ ?_ ?_ ?_) (wpOp_tail h4)
   ·intro k o hk hl e he hb
    by_cases hkj:k=j
    ·subst hkj
     rw[hoj] at hk
     cases hk
     exact getD_set_true (hallj e he hb)
    ·rw[getD_set_ne true (Ne.symm hkj)] at hl
     exact getD_set_true (hd k o hk hl e he hb)
   ·intro k hk hkn
    rw[getD_set_ne true (by omega)];exact ht k hk hkn
   ·intro i hi hu
    by_cases e:j=i
    ·subst e
     simp[hs,hjl] at hu
    ·rw[getD_set_ne true e] at hu;exact hw i hi hu
   ·rw[withTail_set hs hjl];exact h5
theorem wp_region_free {id:Nat} {a:Act} {w:World} (hm:P.follows .mixedOrders=true) (h:(fun _:World=>True) w.drew→wpAnyH P .any ops Q (fun _=>True) ops.size (Array.replicate ops.size false) a w.drew):(Code.region id ops true).wp P Q a w :=
 wp_region_held (S:=fun _=>True) hm (h trivial)
theorem wpAnyH_tail {z f fuel:Nat} {listed:Array Bool} {a:Act} {w:World} (S:World→Prop) (hz:tailIs md ops z=true) (hl:tailAt md ops z listed=true) (hf:fuel=f+(ops.size-z)) (hS:S w)
  (h:S w→wpAnyH P md ops (TailQ P md ops z Q) S f (withTail ops.size z listed) a w):wpAnyH P md ops Q (fun _=>True) fuel listed a w:=by
 obtain⟨a1,a2,a3,a4⟩:=tailAt_spec hl
 subst hf
 exact wpAnyH_true _ _ _ _ (wpAny_tail hz f listed a w a1 a2 a3 a4 (wpAny_of_held _ _ _ _ (h hS)))
theorem tailQ_held {z k:Nat} {a:Act} {w:World} (hk:ops.size-z=k) (h:(fun _:World=>True) w→wpAnyH P md ops Q (fun _=>True) k (upTo ops.size z) a w):TailQ P md ops z Q .normal a w:=by
 show wpAny P md ops Q (ops.size-z) (upTo ops.size z) a w
 rw[hk]
 exact wpAny_of_held _ _ _ _ (h trivial)
end
end
section
section
variable {P:Program} {ops:Array Oper} {Q:Exit→Act→World→Prop} {md:Region.Mode} {S:World→Prop}
theorem tk (i:Nat) {oi:Oper} {v:Value} {fuel:Nat} {l:Array Bool} {a:Act} {w:World} (h:wpAnyH P md ops Q S fuel (l.setIfInBounds i true) (a.put oi.dst v) w)
  (hi:ops[i]? = some oi:=by rfl) (hs:Region.noSelect ops=true:=by kernel_rfl) (hf:Region.free md ops l i=true:=by kernel_rfl) (hr:(Region.ready md ops l).contains i=true:=by kernel_rfl)
  (hQ:∀ c a w,Q (.panic c) (a.put oi.dst v) w→Q (.panic c) a w:=by exact fun _ _ _ h=>h)
  (hy:YieldsIf P ops S oi v a:=by refine Or.inl ⟨by kernel_rfl,?_⟩;intro w hSw;(try dsimp only at hSw);go_simp;(try with_reducible rfl)) (hS:S w:=by assumption):wpAnyH P md ops Q S (fuel+1) l a w :=
 wpAnyH_take hi hs hf hr hQ hy hS h
theorem cm (i:Nat) {o:Oper} {fuel:Nat} {l:Array Bool} {a:Act} {w:World}
  (h:∀ K':Act→World→Prop,Shut (∀ a w,S w→(S w→wpAnyH P md ops Q S fuel (l.setIfInBounds i true) a w)→K' a w)→if Region.wanted o (yielded ops a.tmps)=true then Oper.wp P o a w K' Q else K' (a.put o.dst undef) w)
  (ho:ops[i]? = some o:=by rfl) (hr:Region.ready md ops l=[i]:=by kernel_rfl):wpAnyH P md ops Q S (fuel+1) l a w :=
 wpAnyH_ready (rs:=[i]) hr (by simp) (AllReadyH.cons ho h AllReadyH.nil)
end
theorem aput:type_of% Act.put.eq_1∧type_of% @List.getElem_toArray.{0}∧type_of% @List.getElem_cons_zero.{0}∧type_of% @List.getElem_cons_succ.{0}∧type_of% @List.setIfInBounds_toArray.{0}∧type_of% @List.set_cons_zero.{0}∧type_of% @List.set_cons_succ.{0} :=
 ⟨Act.put.eq_1,@List.getElem_toArray,@List.getElem_cons_zero,@List.getElem_cons_succ,@List.setIfInBounds_toArray,@List.set_cons_zero,@List.set_cons_succ⟩
end
section
open Go.RowKit Go.Sort
end
section
open Go.RowKit Go.Sort
theorem kp_owns {wb w w':World} {e:TypeId} {size n:Nat} {xs:List Value} {v:Value} (h:w.ownsRow wb.heap.size e size v n xs) (k:Kp w w'):w'.ownsRow wb.heap.size e size v n xs:=by
 refine⟨h.1,?_⟩
 rcases h.2 with h3 | ⟨g,cap,cur,h4,hb,hg,hr⟩
 ·exact .inl h3
 exact .inr ⟨g,cap,cur,h4,hb,by rw[k.below.block g (Array.getElem?_eq_some_iff.1 hg).1];exact hg,hr⟩
def OwnT (wb w:World) (v:Value) (xs:List Ex):Prop:=Kp wb w∧w.ownsRow wb.heap.size 71 6 v xs.length (xs.flatMap Ex.cells)
theorem OwnT.kp {wb w w':World} {v:Value} {xs:List Ex} (h:OwnT wb w v xs) (k:Kp w w'):OwnT wb w' v xs:=⟨h.1.trans k,kp_owns h.2 k⟩
theorem OwnT.row {wb w:World} {v:Value} {xs:List Ex} (h:OwnT wb w v xs) (h0:0<xs.length):∃ g c,v=.slice (some ⟨g,0,none⟩) xs.length c∧xs.length≤c∧c≤maxLen∧wb.heap.size≤g∧RowC w g xs:=by
 obtain⟨a,c,rfl,h1,h2,h3⟩:=rowC_of h.2 rfl
 rcases h3 with h3 | ⟨g,rfl,hg,hr⟩
 ·rw[h3] at h0;exact absurd h0 (Nat.lt_irrefl 0)
 exact⟨g,c,rfl,h1,h2,hg,hr⟩
theorem OwnT.one (wb w:World) (k:Kp wb w) (x:Ex):OwnT wb (w.alloc (.cells #[.int .i64 x.kind,.int .i64 x.rn,.int .i64 x.rd,.string x.name,.int .i64 x.pw,.slice x.a x.l.length x.c] 71)) (.slice (some ⟨w.heap.size,0,none⟩) 1 1) [x] :=
 ⟨k.alloc _,World.ownsRow_lit w #[.int .i64 x.kind,.int .i64 x.rn,.int .i64 x.rd,.string x.name,.int .i64 x.pw,.slice x.a x.l.length x.c] 1 k.size (by decide) rfl⟩
theorem wpList_append_tr {w:World} {ops:Array Oper} {rest:List Oper} {o:Oper} {a:Act} {Q:Exit→Act→World→Prop} (hgd:o.guard=none) (s x:Operand)
  (ho:o.op=.call { callee:=.builtin .append,args:=#[s,x],argTypes:=#[69,69] })
  (wb:World) (v:Value) (zs:List Ex) (hs:a.eval s=v) (hown:OwnT wb w v zs)
  (ad:Addr) (B c:Nat) (ys:List Ex) (n m:Nat) (hn:zs.length=n) (hm:ys.length=m) (hx:a.eval x=.slice (some ad) m c)
  (hrow:RowX w B (some ad) ys) (hpos:0<n+m) (hlen:n+m≤9000000)
  (h:∀ g' c' w',OwnT wb w' (.slice (some ⟨g',0,none⟩) (n+m) c') (zs++ys)→wpList Tryz.prog ops Q rest (a.put o.dst (.slice (some ⟨g',0,none⟩) (n+m) c')) w') :
  wpList Tryz.prog ops Q (o::rest) a w:=by
 subst hn
 subst hm
 refine wpList_append_exs hgd s x ho wb.heap.size v zs hs hown.2 hown.1.size ad B c ys hx hrow hlen ?_
 intro v' w' h1 h2
 have hO:OwnT wb w' v' (zs++ys):=⟨Below.trans hown.1 h2,h1⟩
 obtain⟨g,c',rfl,_⟩:=hO.row (by rw[List.length_append];exact hpos)
 rw[List.length_append] at hO ⊢
 exact h g c' w' hO
theorem flatL_size (l:List Ex):(Ex.flatL l).length=Ex.sizeL l:=flatL_len fun x _=>x.flat_len
theorem flatL_step {l:List Ex} {k:Nat} {x:Ex} (h:l[k]? = some x):Ex.flatL (l.take (k+1))=Ex.flatL (l.take k)++x.flat:=by
 rw[List.take_add_one,h]
 show Ex.flatL (l.take k++[x])=_
 have key:∀ m:List Ex,Ex.flatL (m++[x])=Ex.flatL m++x.flat:=by
  intro m
  induction m with
  | nil=>rw[List.nil_append,Ex.flatL_cons,Ex.flatL_nil,List.append_nil,List.nil_append]
  | cons y t ih=>rw[List.cons_append,Ex.flatL_cons,Ex.flatL_cons,ih,List.append_assoc]
 exact key _
theorem sizeL_memT {l:List Ex} {x:Ex} (h:x∈l):x.size≤Ex.sizeL l:=by
 induction l with
 | nil=>cases h
 | cons y t ih =>
  rw[Ex.sizeL_cons]
  rcases List.mem_cons.1 h with rfl | h
  ·omega
  ·have:=ih h;omega
theorem sizeL_takeT {l:List Ex} (k:Nat):Ex.sizeL (l.take k)≤Ex.sizeL l:=by
 induction l generalizing k with
 | nil=>simp
 | cons y t ih =>
  cases k with
  | zero=>rw[List.take_zero,Ex.sizeL_nil];omega
  | succ k=>rw[List.take_succ_cons,Ex.sizeL_cons,Ex.sizeL_cons];have:=ih k;omega
def FlatOut (w w':World) (xs:List Ex) (n:Nat) (r:Ending):Prop:=(∃ g c,r=.returned (.slice (some ⟨g,0,none⟩) n c)∧w.heap.size≤g∧RowC w' g xs)∧Kp w w'
def RFlatAt (e:Ex):Prop:=∀ (B:Nat) (w:World),e.at w B→e.size≤1000→Calls Tryz.prog 90 #[.agg #[.int .i64 e.kind,.int .i64 e.rn,.int .i64 e.rd,.string e.name,.int .i64 e.pw,.slice e.a e.l.length e.c]] w fun r w'=>FlatOut w w' e.flat e.size r
theorem rflat_any:∀ e:Ex,RFlatAt e:=by
 refine Ex.ind fun e ih B w hat hd=>?_
 have k1:Kp w (w.alloc (.cells #[.int .i64 e.kind,.int .i64 e.rn,.int .i64 e.rd,.string e.name,.int .i64 e.pw,.slice e.a e.l.length e.c] 71)):=(Kp.refl w).alloc _
 have hS:((w.alloc (.cells #[.int .i64 e.kind,.int .i64 e.rn,.int .i64 e.rd,.string e.name,.int .i64 e.pw,.slice e.a e.l.length e.c] 71)).cell? ⟨w.heap.size,0,none⟩=some (.int .i64 e.kind)∧(w.alloc (.cells #[.int .i64 e.kind,.int .i64 e.rn,.int .i64 e.rd,.string e.name,.int .i64 e.pw,.slice e.a e.l.length e.c] 71)).cell? ⟨w.heap.size,1,none⟩=some (.int .i64 e.rn)∧(w.alloc (.cells #[.int .i64 e.kind,.int .i64 e.rn,.int .i64 e.rd,.string e.name,.int .i64 e.pw,.slice e.a e.l.length e.c] 71)).cell? ⟨w.heap.size,2,none⟩=some (.int .i64 e.rd)∧(w.alloc (.cells #[.int .i64 e.kind,.int .i64 e.rn,.int .i64 e.rd,.string e.name,.int .i64 e.pw,.slice e.a e.l.length e.c] 71)).cell? ⟨w.heap.size,3,none⟩=some (.string e.name)∧(w.alloc (.cells #[.int .i64 e.kind,.int .i64 e.rn,.int .i64 e.rd,.string e.name,.int .i64 e.pw,.slice e.a e.l.length e.c] 71)).cell? ⟨w.heap.size,4,none⟩=some (.int .i64 e.pw)∧(w.alloc (.cells #[.int .i64 e.kind,.int .i64 e.rn,.int .i64 e.rd,.string e.name,.int .i64 e.pw,.slice e.a e.l.length e.c] 71)).cell? ⟨w.heap.size,5,none⟩=some (.slice e.a e.l.length e.c)):=by simp
 obtain⟨⟨hlc,hcm,hnm,hl⟩,hrow,hch⟩:=Ex.at_iff.1 hat
 have HF:=hid e.flat_eq
 have HD:=hid e.size_eq
 have Hsz:=hid (show Ex.sizeL e.l≤1000 by have:=e.size_eq;omega)
 go_enter Tryz.func90,Tryz.ntmps90
 go_upto_region 1 with fail
 generalize w.alloc _=W at *
 have HR:=hid (hrow.kp k1)
 have HC:=hid fun x hx=>Ex.at_kp (hch x hx) k1
 have HI:=hid ih
 have K1:=hid k1
 have HO:=hid (OwnT.one W W (Kp.refl W) e)
 clear hrow hch ih k1 hat
 obtain⟨s0,s1,s2,s3,s4,s5⟩:=hS
 go_upto_region 3 with fail
 generalize W.alloc _=W2 at *
 clear s0 s1 s2 s3 s4
 go_loopw [3,4] (fun x y wr=>∃ k g c:Nat,k≤e.l.length∧x=.slice (some ⟨g,0,none⟩) (1+Ex.sizeL (e.l.take k)) c∧y=.int .i64 (k:Int)∧OwnT W wr (.slice (some ⟨g,0,none⟩) (1+Ex.sizeL (e.l.take k)) c) (e::Ex.flatL (e.l.take k))) (fun _ y _=>e.l.length-(intOf y).toNat)
 case atStart=>exact⟨0,W.heap.size,1,by omega,rfl,rfl,HO.out⟩
 case round =>
 obtain⟨k,g,c,hk,rfl,rfl,hown⟩:=hrel
 have hlen:(e::Ex.flatL (e.l.take k)).length=1+Ex.sizeL (e.l.take k):=by rw[List.length_cons,flatL_size,Nat.add_comm]
 have HL:=hid hlen;clear hlen
 have HW:=hid hown;clear hown
 have hkp:=HW.out.1
 have z5:=hkp.cell s5
 by_cases hlt:k<e.l.length
 rotate_left
 ·obtain rfl:k=e.l.length:=by omega
  have hf:Ex.flatL (e.l.take e.l.length)=Ex.flatL e.l:=by rw[List.take_length]
  have Hf:=hid hf;clear hf hkp
  go_wp2
  go_ret
  obtain⟨g',c',he,_,_,hg,hrow⟩:=HW.out.row (by rw[HL.out];omega)
  injection he with he1 he2 he3
  injection he1 with he1
  injection he1 with he1 _ _
  rw[Hf.out,← HF.out] at hrow
  have hl2:=HL.out
  rw[Hf.out,← HF.out,e.flat_len] at hl2
  subst he1
  exact⟨⟨g,c,ret_len hl2.symm,by have:=K1.out.size;omega,hrow⟩,K1.out.trans HW.out.1⟩
 obtain⟨x,hx⟩:∃ x,e.l[k]? = some x:=⟨_,List.getElem?_eq_getElem hlt⟩
 have Hst:=hid (flatL_step hx)
 have hxm:=List.mem_of_getElem? hx
 obtain⟨b,o,ha,hb,h0,h1,h2,h3,h4,h5⟩:=(HR.out.kp hkp) k x hx
 have Hxs:=hid (sizeL_memT hxm)
 have Htk:=hid (sizeL_takeT (l:=e.l) k)
 have HX:=hid (HI.out x hxm B wr (Ex.at_kp (HC.out x hxm) hkp) (by have:=Hsz.out;have:=Hxs.out;omega))
 have Hfl:=hid x.flat_len
 have Hps:=hid x.size_pos
 clear hx hxm hkp
 rw[ha] at z5 ⊢
 generalize hN:1+Ex.sizeL (e.l.take k)=n at *
 go_wp2_with (first
  | (go_at_call 90;go_fit HX.out;rintro r w2 ⟨⟨g2,c2,rfl,hg2,hrc⟩,k2⟩)
  | (at_builtin;refine wpList_append_tr rfl _ _ rfl W _ _ rfl (HW.out.kp k2) ⟨g2,0,none⟩ _ _ x.flat n x.size HL.out Hfl.out rfl (hrc.row (Nat.le_refl _)) (by have:=Hps.out;omega) (by have:=Htk.out;have:=Hsz.out;have:=Hxs.out;omega) ?_;intro g' c' w3 hO)
  | fail)
 go_roundw
 case measure=>simp[intOf];omega
 case rel =>
 have hz:n+x.size=1+Ex.sizeL (e.l.take (k+1)):=by
  have h6:=congrArg List.length Hst.out
  rw[List.length_append,flatL_size,flatL_size,Hfl.out] at h6
  omega
 refine⟨k+1,g',c',by omega,by rw[hz],by go_num,?_⟩
 rw[Hst.out,← hz]
 exact hO
end
section
open Go.RowKit Go.Sort
def OwnU (wb w:World) (v:Value) (xs:List ByteArray):Prop:=Kp wb w∧w.ownsRow wb.heap.size 9 1 v xs.length (xs.map Value.string)
theorem OwnU.kp {wb w w':World} {v:Value} {xs:List ByteArray} (h:OwnU wb w v xs) (k:Kp w w'):OwnU wb w' v xs:=⟨h.1.trans k,kp_owns h.2 k⟩
theorem OwnU.row {wb w:World} {v:Value} {xs:List ByteArray} (h:OwnU wb w v xs) (h0:0<xs.length):∃ g c,v=.slice (some ⟨g,0,none⟩) xs.length c∧xs.length≤c∧c≤maxLen∧wb.heap.size≤g∧RowS w (some ⟨g,0,none⟩) xs:=by
 obtain⟨_,⟨h2,h3⟩⟩:=h
 rcases h3 with ⟨rfl,h3⟩ | ⟨g,cap,cur,rfl,hb,hg,hn,hc,hs,ht⟩
 ·omega
 refine⟨g,cap,rfl,hn,hc,hb,fun i x hi=>⟨g,0,rfl,?_⟩⟩
 have hil:i<xs.length:=(List.getElem?_eq_some_iff.1 hi).1
 rw[Nat.zero_add,cell_of_row w g _ cur _ _ hg]
 have h5:(cur.toList.take (xs.length*1))[i]? = some (.string x):=by rw[ht,List.getElem?_map,hi];rfl
 rw[List.getElem?_take,if_pos (by omega)] at h5
 simpa using h5
theorem OwnU.empty (wb w:World) (k:Kp wb w):OwnU wb (w.alloc (.cells #[] 9)) (.slice (some ⟨w.heap.size,0,none⟩) 0 0) [] :=
 ⟨k.alloc _,World.ownsRow_lit w #[] 0 k.size (by decide) rfl⟩
theorem wpList_append_us {w:World} {ops:Array Oper} {rest:List Oper} {o:Oper} {a:Act} {Q:Exit→Act→World→Prop} (hgd:o.guard=none) (s x:Operand)
  (ho:o.op=.call { callee:=.builtin .append,args:=#[s,x],argTypes:=#[46,46] })
  (wb:World) (v:Value) (zs:List ByteArray) (hs:a.eval s=v) (hown:OwnU wb w v zs)
  (ad:Addr) (c:Nat) (ys:List ByteArray) (m:Nat) (hm:ys.length=m) (hx:a.eval x=.slice (some ad) m c)
  (hrow:∀ (i:Nat) (y:ByteArray),ys[i]? = some y→w.cell? (ad.add i)=some (.string y)) (hlen:zs.length+ys.length≤9000000)
  (h:∀ v' w',OwnU wb w' v' (zs++ys)→wpList Tryz.prog ops Q rest (a.put o.dst v') w') :
  wpList Tryz.prog ops Q (o::rest) a w:=by
 subst hm
 obtain⟨i0,hi,hz0,hz1,hz2⟩:=info_parts infoStr
 obtain⟨hk,hown1⟩:=hown
 refine wpList_append_own w hgd s x 46 ho wb.heap.size 9 i0 _ 1 16 Tryz.underlying46 hi hz0 hz1 hz2 rfl (by decide) v zs.length (zs.map Value.string) hs hown1
  ad ys.length c (ys.map Value.string) hx (by rw[List.length_map];omega) ?_ ?_ (by unfold maxLen;omega) (by omega) hk.size ?_
 ·intro j u hj
  rw[List.getElem?_map] at hj
  obtain⟨y,hy,rfl⟩:=Option.map_eq_some_iff.1 hj
  exact hrow j y hy
 ·intro u hu
  obtain⟨y,_,rfl⟩:=List.mem_map.1 hu
  rfl
 intro v' w' h1 h2 _
 have hb:Below wb.heap.size w w':=(Below.refl wb.heap.size w).grown h2 hk.size (fun k hk=>(hown1.lt k hk).1)
 refine h v' w' ⟨Below.trans hk hb,?_⟩
 rw[List.map_append,List.length_append]
 exact h1
theorem run_append_void {P:Program} (w:World) (t ty e:TypeId) (i:TypeInfo) (ht:P.underlying t=some (.slice e)) (hi:P.info? e=some i) (a:Addr) (n cap:Nat) (h:n≤cap) :
  (Builtin.append_ #[t,t] ty #[.slice (some a) n cap,.slice none 0 0]).run P w=.ok (.slice (some a) n cap) w:=by
 simp[Builtin.append_,run_underlying ht,sizeOf,typeInfo,hi,Builtin.lenOf,h,Builtin.firstCells,storeCells]
theorem wpList_append_void {w:World} {ops:Array Oper} {rest:List Oper} {o:Oper} {a:Act} {Q:Exit→Act→World→Prop} (hgd:o.guard=none) (s x:Operand)
  (ho:o.op=.call { callee:=.builtin .append,args:=#[s,x],argTypes:=#[46,46] })
  (ad:Addr) (n c:Nat) (hs:a.eval s=.slice (some ad) n c) (hc:n≤c) (hx:a.eval x=.slice none 0 0)
  (h:wpList Tryz.prog ops Q rest (a.put o.dst (.slice (some ad) n c)) w) :
  wpList Tryz.prog ops Q (o::rest) a w:=by
 obtain⟨i0,hi,hz0,hz1,hz2⟩:=info_parts infoStr
 have hr:=run_append_void w 46 o.type 9 i0 Tryz.underlying46 hi ad n c hc
 refine wpList_plain hgd fun K hK=>?_
 unfold Oper.wp execOp
 simp only[ho,resolve,invoke,builtin,Sem.run_bind,Sem.run_pure,Result.andThen_ok,List.map_toArray,List.map_cons,List.map_nil,hs,hx,hr]
 exact hK _ _ h
theorem rowS_one (w:World) (g:Nat) (s:ByteArray) (h:w.cell? ⟨g,0,none⟩=some (.string s)):∀ (i:Nat) (y:ByteArray),[s][i]? = some y→w.cell? ((⟨g,0,none⟩:Addr).add i)=some (.string y):=by
 intro i y hy
 match i,hy with
 | 0,hy=>cases hy;exact h
 | i+1,hy=>simp at hy
theorem insS_pre {s:ByteArray}:∀ {l:List ByteArray} (i:Nat),(∀ x∈l.take i,blt x s=true)→insS l s=l.take i++insS (l.drop i) s
 | l,0,_=>by simp
 | [],i+1,_=>by simp
 | x::t,i+1,h=>by
  rw[List.take_succ_cons,List.drop_succ_cons,List.cons_append,← insS_pre i fun y hy=>h y (by rw[List.take_succ_cons];exact .tail _ hy)]
  show (if blt x s=true then x::insS t s else _)=_
  rw[if_pos (h x (by rw[List.take_succ_cons];exact .head _))]
theorem insS_len (l:List ByteArray) (s:ByteArray):(insS l s).length≤l.length+1:=by
 induction l with
 | nil=>unfold insS;simp
 | cons x t ih =>
  unfold insS
  split
  ·rw[List.length_cons,List.length_cons];omega
  ·split <;> simp
theorem insS_pos (l:List ByteArray) (s:ByteArray):0<(insS l s).length:=by
 cases l with
 | nil=>unfold insS;simp
 | cons x t =>
 unfold insS
 split
 ·simp
 split <;> simp
def SlU (w:World) (a:Option Addr) (n c:Nat) (ss:List ByteArray):Prop:=ss.length=n∧RowS w a ss∧((ss=[]∧a=none∧c=0)∨(0<n∧n≤c∧c≤maxLen∧∃ b o,a=some ⟨b,o,none⟩))
def InsOut (w w':World) (ss:List ByteArray) (r:Ending):Prop:=(∃ a n c,r=.returned (.slice a n c)∧SlU w' a n c ss)∧Kp w w'
theorem rins_nil (s:ByteArray) (w:World):Calls Tryz.prog 197 #[.slice none 0 0,.string s] w fun r w'=>InsOut w w' [s] r:=by
 go_enter Tryz.func197,Tryz.ntmps197
 go_wp2
 go_loopw [5] (fun x wr=>x=.int .i64 0∧wr=w) (fun _ _=>0)
 case atStart=>exact⟨rfl,rfl⟩
 case round =>
 obtain⟨rfl,rfl⟩:=hrel
 have hE:=hid (OwnU.empty wr wr (Kp.refl wr))
 go_upto_region 6 with fail
 go_upto_region 7 with (at_builtin;refine wpList_append_void rfl _ _ rfl ⟨wr.heap.size,0,none⟩ 0 0 rfl (by decide) rfl ?_)
 go_upto_region 8 with (at_builtin;refine wpList_append_us rfl _ _ rfl wr _ [] rfl (hE.out.kp ((Kp.refl _).alloc _)) ⟨wr.heap.size+1,0,none⟩ 1 [s] 1 rfl rfl (rowS_one _ _ _ (by simp)) (by simp) ?_;intro v' w3 hO;obtain⟨g,c,rfl,hc1,hc2,hg,hrow⟩:=hO.row (by simp);replace hc1:1≤c:=hc1)
 go_wp2_with (at_builtin;refine wpList_append_void rfl _ _ rfl ⟨g,0,none⟩ 1 c rfl hc1 rfl ?_)
 go_ret
 exact⟨⟨_,1,c,rfl,rfl,hrow,.inr ⟨by decide,hc1,hc2,_,_,rfl⟩⟩,hO.1⟩
theorem rins_any (ss:List ByteArray) (s:ByteArray) (b o n c:Nat) (w:World) (hlen:ss.length=n) (hrow:RowS w (some ⟨b,o,none⟩) ss) (hn0:0<n) (hnc:n≤c) (hcm:c≤maxLen) (hn:n≤1000) :
  Calls Tryz.prog 197 #[.slice (some ⟨b,o,none⟩) n c,.string s] w fun r w'=>InsOut w w' (insS ss s) r:=by
 have HR:=hid fun (i:Nat) (y:ByteArray) (h:ss[i]? = some y)=>show w.cell? ⟨b,o+i,none⟩=some (.string y) from by
  obtain⟨b',o',e,hc⟩:=hrow i y h
  injection e with e;injection e with e1 e2 _
  rw[e1,e2];exact hc
 have HW:=hid hrow
 have HL:=hid hlen
 clear hrow hlen
 go_enter Tryz.func197,Tryz.ntmps197
 go_wp2
 go_loopw [5] (fun x wr=>∃ i:Nat,i≤n∧x=.int .i64 (i:Int)∧(∀ y∈ss.take i,blt y s=true)∧wr=w) (fun x _=>n-(intOf x).toNat)
 case atStart=>exact⟨0,by omega,rfl,fun y h=>by simp at h,rfl⟩
 case round =>
 obtain⟨i,hi,rfl,hz,rfl⟩:=hrel
 have Hz:=hid hz;clear hz
 by_cases hlt:i<n
 rotate_left
 ·obtain rfl:i=n:=by omega
  have hT:ss.take i=ss:=List.take_of_length_le (by rw[HL.out];exact Nat.le_refl _)
  have hI:insS ss s=ss++[s]:=by
   rw[insS_pre i Hz.out,hT,List.drop_of_length_le (by rw[HL.out];exact Nat.le_refl _)]
   rfl
  have HI:=hid hI;clear hI hT
  have HRT:=hid (show ∀ (j:Nat) (z:ByteArray),ss[j]? = some z→(wr.alloc (.cells #[] 9)).cell? ((⟨b,o,none⟩:Addr).add j)=some (.string z) from fun j z hj=>by
   rw[Addr.add_lit]
   exact ((Kp.refl wr).alloc _).cell (HR.out j z hj))
  go_upto_region 6 with fail
  go_upto_region 7 with (at_builtin;refine wpList_append_us rfl _ _ rfl wr _ [] rfl (OwnU.empty wr wr (Kp.refl wr)) ⟨b,o,none⟩ c ss i HL.out rfl HRT.out (by rw[HL.out];simp;omega) ?_;rw[List.nil_append];intro v1 w1 hO1)
  have HO1:=hid hO1;clear hO1
  go_upto_region 8 with (at_builtin;refine wpList_append_us rfl _ _ rfl wr _ ss rfl (HO1.out.kp ((Kp.refl _).alloc _)) ⟨w1.heap.size,0,none⟩ 1 [s] 1 rfl rfl (rowS_one _ _ _ (by simp)) (by rw[HL.out];simp;omega) ?_;intro v2 w2 hO2)
  have HO2:=hid hO2;clear hO2
  by_cases hci:c=i
  ·have hss:(ss++[s]).length=c+1:=by rw[List.length_append,HL.out,hci];rfl
   subst hci
   go_wp2_with (at_builtin;refine wpList_append_us rfl _ _ rfl wr _ (ss++[s]) rfl HO2.out ⟨b,o,none⟩ _ [] 0 rfl rfl (fun j z hj=>by simp at hj) (by rw[List.length_append,HL.out];simp;omega) ?_;rw[List.append_nil,← HI.out];intro v3 w3 hO3;obtain⟨g,c3,rfl,hc1,hc2,hg,hrow⟩:=hO3.row (insS_pos ss s))
   go_ret
   exact⟨⟨_,_,c3,rfl,rfl,hrow,.inr ⟨insS_pos ss s,hc1,hc2,_,_,rfl⟩⟩,hO3.1⟩
  have hss:(ss++[s]).length=i+1:=by rw[List.length_append,HL.out];rfl
  go_wp2_with (at_builtin;refine wpList_append_us rfl _ _ rfl wr _ (ss++[s]) rfl HO2.out ⟨b,o+i,none⟩ _ [] 0 rfl rfl (fun j z hj=>by simp at hj) (by rw[List.length_append,HL.out];simp;omega) ?_;rw[List.append_nil,← HI.out];intro v3 w3 hO3;obtain⟨g,c3,rfl,hc1,hc2,hg,hrow⟩:=hO3.row (insS_pos ss s))
  go_ret
  exact⟨⟨_,_,c3,rfl,rfl,hrow,.inr ⟨insS_pos ss s,hc1,hc2,_,_,rfl⟩⟩,hO3.1⟩
 obtain⟨y,hy⟩:∃ y,ss[i]? = some y:=⟨_,List.getElem?_eq_getElem (by rw[HL.out];exact hlt)⟩
 have h0:=HR.out i y hy
 have Hy:=hid hy
 clear hy
 cases hb:Op.bytesLess y.toList s.toList with
 | true =>
  have Hb:=hid hb
  go_wp2
  go_roundw
  case measure=>simp[intOf];omega
  case rel =>
  refine⟨i+1,by omega,by go_num,fun z hz=>?_,by trivial⟩
  rw[List.take_add_one,Hy.out] at hz
  rcases List.mem_append.1 hz with hz | hz
  ·exact Hz.out z hz
  simp at hz;subst hz;exact Hb.out
 | false =>
 have Hb:=hid hb
 have Hins:=hid (insS_pre i Hz.out)
 have Hd:=hid (show ss.drop i=y::ss.drop (i+1) from (List.drop_eq_getElem_cons (List.getElem?_eq_some_iff.1 Hy.out).1).trans (by rw[(List.getElem?_eq_some_iff.1 Hy.out).2]))
 cases hq:(y.toList==s.toList) with
 | true =>
  have Hq:=hid hq
  go_wp2
  go_ret
  have hys:y=s:=by
   have h1:y.toList=s.toList:=by simpa using Hq.out
   rw[ByteArray.toList_eq,ByteArray.toList_eq] at h1
   exact Go.WideShapes.bytes_inj h1
  have hI:insS ss s=ss:=by
   rw[Hins.out,Hd.out]
   show ss.take i++(if blt y s=true then _ else if y=s then y::ss.drop (i+1) else _)=ss
   rw[if_neg (by rw[show blt y s=false from Hb.out];decide),if_pos hys,← Hd.out,List.take_append_drop]
  rw[hI]
  exact⟨⟨_,n,c,rfl,HL.out,HW.out,.inr ⟨hn0,hnc,hcm,_,_,rfl⟩⟩,.refl _⟩
 | false =>
 have Hq:=hid hq
 have hI:insS ss s=(ss.take i++[s])++ss.drop i:=by
  rw[Hins.out,Hd.out]
  show ss.take i++(if blt y s=true then _ else if y=s then _ else s::y::ss.drop (i+1))=_
  rw[if_neg (by rw[show blt y s=false from Hb.out];decide),if_neg (fun e=>by have:=Hq.out;rw[e] at this;simp at this)]
  simp
 have HI:=hid hI;clear hI
 have HT:=hid (show (ss.take i).length=i by rw[List.length_take,HL.out];omega)
 have HRT:=hid (show ∀ (j:Nat) (z:ByteArray),(ss.take i)[j]? = some z→(wr.alloc (.cells #[] 9)).cell? ((⟨b,o,none⟩:Addr).add j)=some (.string z) from fun j z hj=>by
  rw[List.getElem?_take] at hj
  rw[Addr.add_lit]
  split at hj
  ·exact ((Kp.refl wr).alloc _).cell (HR.out j z hj)
  ·cases hj)
 have HDL:=hid (show (ss.drop i).length=n-i by rw[List.length_drop,HL.out])
 have HRD:=hid (show ∀ (j:Nat) (z:ByteArray),(ss.drop i)[j]? = some z→wr.cell? ((⟨b,o+i,none⟩:Addr).add j)=some (.string z) from fun j z hj=>by
  rw[List.getElem?_drop] at hj
  have:=HR.out (i+j) z hj
  rw[← Nat.add_assoc] at this
  rw[Addr.add_lit]
  exact this)
 go_upto_region 6 with fail
 go_upto_region 7 with (at_builtin;refine wpList_append_us rfl _ _ rfl wr _ [] rfl (OwnU.empty wr wr (Kp.refl wr)) ⟨b,o,none⟩ c (ss.take i) i HT.out rfl HRT.out (by rw[HT.out];simp;omega) ?_;rw[List.nil_append];intro v1 w1 hO1)
 have HO1:=hid hO1;clear hO1
 go_upto_region 8 with (at_builtin;refine wpList_append_us rfl _ _ rfl wr _ (ss.take i) rfl (HO1.out.kp ((Kp.refl _).alloc _)) ⟨w1.heap.size,0,none⟩ 1 [s] 1 rfl rfl (rowS_one _ _ _ (by simp)) (by rw[HT.out];simp;omega) ?_;intro v2 w2 hO2)
 have HO2:=hid hO2;clear hO2
 go_wp2_with (at_builtin;refine wpList_append_us rfl _ _ rfl wr _ (ss.take i++[s]) rfl HO2.out ⟨b,o+i,none⟩ _ (ss.drop i) _ HDL.out rfl (fun j z hj=>HO2.out.1.cell (HRD.out j z hj)) (by rw[List.length_append,HT.out,HDL.out];simp;omega) ?_;intro v3 w3 hO3;rw[← HI.out] at hO3;obtain⟨g,c3,rfl,hc1,hc2,hg,hrow⟩:=hO3.row (insS_pos ss s))
 go_ret
 exact⟨⟨_,_,c3,rfl,rfl,hrow,.inr ⟨insS_pos ss s,hc1,hc2,_,_,rfl⟩⟩,hO3.1⟩
def nmU (xs:List Ex):List ByteArray:=namesL ((xs.filter fun x=>decide (x.kind=2)).map Ex.name)
theorem nmU_snoc (xs:List Ex) (x:Ex):nmU (xs++[x])=if x.kind=2 then insS (nmU xs) x.name else nmU xs:=by
 unfold nmU namesL
 rw[List.filter_append,List.map_append,List.foldl_append]
 by_cases h:x.kind=2
 ·rw[if_pos h,List.filter_cons,if_pos (decide_eq_true h)];rfl
 rw[if_neg h,List.filter_cons,if_neg (by rw[decide_eq_false h];decide)];rfl
theorem nmU_len (xs:List Ex):(nmU xs).length≤xs.length:=by
 have key:∀ (vs l:List ByteArray),(vs.foldl insS l).length≤l.length+vs.length:=by
  intro vs
  induction vs with
  | nil=>intro l;simp
  | cons v vs ih =>
   intro l
   rw[List.foldl_cons,List.length_cons]
   have:=ih (insS l v)
   have:=insS_len l v
   omega
 unfold nmU namesL
 have h1:=key ((xs.filter fun x=>decide (x.kind=2)).map Ex.name) []
 rw[List.length_map] at h1
 have h2:=List.length_filter_le (fun x:Ex=>decide (x.kind=2)) xs
 simp at h1
 omega
theorem rins_sl (ss:List ByteArray) (s:ByteArray) (a:Option Addr) (n c:Nat) (w:World) (h:SlU w a n c ss) (hn:n≤1000) :
  Calls Tryz.prog 197 #[.slice a n c,.string s] w fun r w'=>InsOut w w' (insS ss s) r:=by
 obtain⟨h1,h2,⟨rfl,rfl,rfl⟩ | ⟨h3,h4,h5,b,o,rfl⟩⟩:=h
 ·subst h1
  exact rins_nil s w
 exact rins_any ss s b o n c w h1 h2 h3 h4 h5 hn
theorem rnames_any (e:Ex) (B:Nat) (w:World) (hat:e.at w B) (hsz:e.size≤1000):Calls Tryz.prog 152 #[.agg #[.int .i64 e.kind,.int .i64 e.rn,.int .i64 e.rd,.string e.name,.int .i64 e.pw,.slice e.a e.l.length e.c]] w fun r w'=>InsOut w w' (nmU e.flat) r:=by
 have k1:Kp w (w.alloc (.cells #[.int .i64 e.kind,.int .i64 e.rn,.int .i64 e.rd,.string e.name,.int .i64 e.pw,.slice e.a e.l.length e.c] 71)):=(Kp.refl w).alloc _
 have hS:((w.alloc (.cells #[.int .i64 e.kind,.int .i64 e.rn,.int .i64 e.rd,.string e.name,.int .i64 e.pw,.slice e.a e.l.length e.c] 71)).cell? ⟨w.heap.size,0,none⟩=some (.int .i64 e.kind)∧(w.alloc (.cells #[.int .i64 e.kind,.int .i64 e.rn,.int .i64 e.rd,.string e.name,.int .i64 e.pw,.slice e.a e.l.length e.c] 71)).cell? ⟨w.heap.size,1,none⟩=some (.int .i64 e.rn)∧(w.alloc (.cells #[.int .i64 e.kind,.int .i64 e.rn,.int .i64 e.rd,.string e.name,.int .i64 e.pw,.slice e.a e.l.length e.c] 71)).cell? ⟨w.heap.size,2,none⟩=some (.int .i64 e.rd)∧(w.alloc (.cells #[.int .i64 e.kind,.int .i64 e.rn,.int .i64 e.rd,.string e.name,.int .i64 e.pw,.slice e.a e.l.length e.c] 71)).cell? ⟨w.heap.size,3,none⟩=some (.string e.name)∧(w.alloc (.cells #[.int .i64 e.kind,.int .i64 e.rn,.int .i64 e.rd,.string e.name,.int .i64 e.pw,.slice e.a e.l.length e.c] 71)).cell? ⟨w.heap.size,4,none⟩=some (.int .i64 e.pw)∧(w.alloc (.cells #[.int .i64 e.kind,.int .i64 e.rn,.int .i64 e.rd,.string e.name,.int .i64 e.pw,.slice e.a e.l.length e.c] 71)).cell? ⟨w.heap.size,5,none⟩=some (.slice e.a e.l.length e.c)):=by simp
 have hfl:=hid e.flat_len
 go_enter Tryz.func152,Tryz.ntmps152
 go_upto_region 1 with fail
 generalize w.alloc _=W at *
 have HF:=hid (rflat_any e B W (Ex.at_kp hat k1) hsz)
 have K1:=hid k1
 clear k1 hat
 obtain⟨s0,s1,s2,s3,s4,s5⟩:=hS
 go_upto_region 3 with (go_at_call 90;go_fit HF.out;rintro r w2 ⟨⟨g,c,rfl,hg,hrow⟩,k2⟩)
 clear s0 s1 s2 s3 s4 s5
 generalize hn:e.size=n at *
 generalize hL:e.flat=L at *
 have HR:=hid hrow.1
 have K2:=hid (K1.out.trans k2)
 clear hrow k2
 go_wp2
 go_loopw [3,5] (fun x y wr=>∃ (k m c':Nat) (a:Option Addr),k≤n∧x=.slice a m c'∧y=.int .i64 (k:Int)∧SlU wr a m c' (nmU (L.take k))∧m≤1000∧Kp w2 wr) (fun _ y _=>n-(intOf y).toNat)
 case atStart=>exact⟨0,0,0,none,by omega,rfl,rfl,⟨rfl,fun i s h=>by simp[nmU,namesL] at h,.inl ⟨rfl,rfl,rfl⟩⟩,by omega,.refl _⟩
 case round =>
 obtain⟨k,m,c',a,hk,rfl,rfl,hsl,hm,hkp⟩:=hrel
 have Hs:=hid hsl;clear hsl
 by_cases hlt:k<n
 rotate_left
 ·obtain rfl:k=n:=by omega
  have hT:L.take k=L:=List.take_of_length_le (by rw[hfl.out];exact Nat.le_refl _)
  rw[hT] at Hs
  clear hT
  go_wp2
  go_ret
  exact⟨⟨a,m,c',rfl,by rw[hL];exact Hs.out⟩,K2.out.trans hkp⟩
 obtain⟨x,hx⟩:∃ x,L[k]? = some x:=⟨_,List.getElem?_eq_getElem (by rw[hfl.out];exact hlt)⟩
 have Ht:=hid (show L.take (k+1)=L.take k++[x] by rw[List.take_add_one,hx];rfl)
 obtain⟨h0,h1,h2,h3,h4,h5⟩:=HR.out k x hx
 have HX:=hid (rins_sl (nmU (L.take k)) x.name a m c' wr Hs.out hm)
 have x0:=hkp.cell h0
 have x3:=hkp.cell h3
 have Hkp:=hid hkp
 have Hle:=hid (nmU_len (L.take (k+1)))
 clear hx h0 h1 h2 h3 h4 h5 hkp
 by_cases hk2:x.kind=2
 rotate_left
 ·have e2:(x.kind==2)=false:=beq_eq_false_iff_ne.2 hk2
  have Hk2:=hid hk2
  clear hk2
  go_wp2_with fail
  go_roundw
  case measure=>simp[intOf];omega
  case rel =>
  have hsn:=nmU_snoc (L.take k) x
  rw[if_neg Hk2.out,← Ht.out] at hsn
  refine⟨k+1,m,c',a,by omega,rfl,by go_num,by rw[hsn];exact Hs.out,hm,Hkp.out⟩
 have Hk2:=hid hk2
 rw[hk2] at x0
 clear hk2
 go_wp2_with (go_at_call 197;go_fit HX.out;rintro r w3 ⟨⟨a2,m2,c2,rfl,hsl2⟩,k3⟩)
 go_roundw
 case measure=>simp[intOf];omega
 case rel =>
 have hsn:=nmU_snoc (L.take k) x
 rw[if_pos Hk2.out,← Ht.out] at hsn
 rw[← hsn] at hsl2
 refine⟨k+1,m2,c2,a2,by omega,rfl,by go_num,hsl2,?_,Hkp.out.trans k3⟩
 have h1:=hsl2.1
 have h2:=Hle.out
 rw[List.length_take] at h2
 omega
end
end Go.Proofs.YteidgoldnllabaaGreatDoor
