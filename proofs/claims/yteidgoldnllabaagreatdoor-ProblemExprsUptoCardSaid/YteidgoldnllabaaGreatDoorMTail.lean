/-
  A region that draws its order, whose last operations wait for all others: the others first, then these.
-/
import Derived.Test.YteidgoldnllabaaGreatDoorMRCoN
namespace Go.Proofs.YteidgoldnllabaaGreatDoor
open Go.RowKit
section
section
variable {P:Program} {ops:Array Oper} {Q:Exit→Act→World→Prop} {md:Region.Mode} {S:World→Prop}
theorem wpAny_more:∀ (fuel:Nat) (listed:Array Bool) (a:Act) (w:World),wpAny P md ops Q fuel listed a w→wpAny P md ops Q (fuel+1) listed a w
 | 0,_,_,_,h=>⟨fun _=>h.2,fun i hi=>by rw[h.1] at hi;cases hi⟩
 | fuel+1,_,_,_,h=>⟨h.1,fun i hi=>wpOp_mono (fun a' w' h'=>wpAny_more fuel _ a' w' h') (h.2 i hi)⟩
theorem wpAny_adds {fuel:Nat} {listed:Array Bool} {a:Act} {w:World} (h:wpAny P md ops Q fuel listed a w):∀ k,wpAny P md ops Q (fuel+k) listed a w
 | 0=>h
 | k+1=>wpAny_more _ _ _ _ (wpAny_adds h k)
theorem wpAnyH_true:∀ (fuel:Nat) (listed:Array Bool) (a:Act) (w:World),wpAny P md ops Q fuel listed a w→wpAnyH P md ops Q (fun _=>True) fuel listed a w
 | 0,_,_,_,h=>h
 | fuel+1,_,_,_,h=>⟨h.1,fun i hi=>wpOp_mono (fun a' w' h'=>⟨trivial,wpAnyH_true fuel _ a' w' h'⟩) (h.2 i hi)⟩
def upTo (n z:Nat):Array Bool:=((List.range n).map fun i=>decide (i<z)).toArray
theorem upTo_size (n z:Nat):(upTo n z).size=n:=by unfold upTo;simp
theorem upTo_getD {n z i:Nat} (hi:i<n) (c:Bool):(upTo n z).getD i c=decide (i<z):=by
 unfold upTo
 simp[hi]
def TailQ (P:Program) (md:Region.Mode) (ops:Array Oper) (z:Nat) (Q:Exit→Act→World→Prop):Exit→Act→World→Prop
 | .normal,a,w=>wpAny P md ops Q (ops.size-z) (upTo ops.size z) a w
 | e,a,w=>Q e a w
theorem wpOp_tail {i:Nat} {K:Act→World→Prop} {a:Act} {w:World} {z:Nat} (h:wpOp P ops (TailQ P md ops z Q) i K a w):wpOp P ops Q i K a w:=by
 unfold wpOp at *
 split
 ·rename_i ho;simpa [ho] using h
 rename_i o ho
 simp only[ho] at h
 split
 ·rename_i hw
  simp only[hw,if_true] at h
  refine h.imp (fun h=>?_) (fun h=>h)
  unfold Oper.wp at *
  generalize (execOp a.eval o).run P w=r at *
  cases r with
  | halt x w'=>cases x <;> simp only[Oper.upon] at h ⊢ <;> exact h
  | ok n w' =>
  cases n <;> simp only[Oper.upon] at h ⊢ <;> first | exact h | exact Calls.mono h (fun e w'' he=>by cases e <;> exact he)
 rename_i hw;simp only[hw] at h;exact h
def tailIs (md:Region.Mode) (ops:Array Oper) (z:Nat):Bool :=
 decide (z<ops.size) &&
 ((List.range ops.size).all fun i=>((ops[i]?).map fun o=>o.after.all fun e=>!Region.binds md e||decide (e.on<i)).getD false) &&
 ((List.range ops.size).all fun j=>!decide (z<j)||((ops[j]?).map fun o=>o.after.any fun e=>Region.binds md e&&decide (z≤e.on)).getD false)
theorem tailIs_spec {z:Nat} (h:tailIs md ops z=true) :
  z<ops.size∧(∀ i o,ops[i]? = some o→∀ e∈o.after,Region.binds md e=true→e.on<i) ∧
  (∀ j o,z<j→ops[j]? = some o→∃ e∈o.after,Region.binds md e=true∧z≤e.on):=by
 unfold tailIs at h
 simp only[Bool.and_eq_true,List.all_eq_true,List.mem_range,decide_eq_true_eq] at h
 obtain⟨⟨h1,h2⟩,h3⟩:=h
 refine⟨h1,fun i o ho e he hb=>?_,fun j o hj ho=>?_⟩
 ·have:=h2 i (Array.getElem?_eq_some_iff.1 ho).1
  rw[ho] at this
  simp only[Option.map_some,Option.getD_some] at this
  have:=Array.all_eq_true_iff_forall_mem.1 this e he
  simpa [hb] using this
 have:=h3 j (Array.getElem?_eq_some_iff.1 ho).1
 rw[ho,decide_eq_true hj] at this
 simp only[Option.map_some,Option.getD_some,Bool.not_true,Bool.false_or] at this
 obtain⟨e,he,hb⟩:=Array.any_eq_true'.1 this
 simp only[Bool.and_eq_true,decide_eq_true_eq] at hb
 exact⟨e,he,hb.1,hb.2⟩
def tailAt (md:Region.Mode) (ops:Array Oper) (z:Nat) (listed:Array Bool):Bool :=
 (listed.size==ops.size) &&
 ((List.range ops.size).all fun j=>!listed.getD j true||((ops[j]?).map fun o=>o.after.all fun e=>!Region.binds md e||listed.getD e.on false).getD false) &&
 ((List.range ops.size).all fun j=>decide (j<z)||!listed.getD j true) &&
 ((List.range z).all fun i=>listed.getD i true||(List.range ops.size).any fun j=>decide (i<j)&&(decide (j≤z)&&((ops[j]?).map fun o=>o.after.any fun e=>Region.binds md e&&(e.on==i)).getD false))
theorem tailAt_spec {z:Nat} {listed:Array Bool} (h:tailAt md ops z listed=true) :
  listed.size=ops.size∧Down md ops listed∧(∀ j,z≤j→j<ops.size→listed.getD j true=false) ∧
  (∀ i,i<z→listed.getD i true=false→∃ j o,i<j∧j≤z∧ops[j]? = some o∧∃ e∈o.after,Region.binds md e=true∧e.on=i):=by
 unfold tailAt at h
 simp only[Bool.and_eq_true,beq_iff_eq,List.all_eq_true,List.mem_range] at h
 obtain⟨⟨⟨h1,h2⟩,h3⟩,h4⟩:=h
 refine⟨h1,fun j o ho hl e he hb=>?_,fun j hj hn=>?_,fun i hi hl=>?_⟩
 ·have:=h2 j (Array.getElem?_eq_some_iff.1 ho).1
  rw[ho,hl] at this
  simp only[Option.map_some,Option.getD_some,Bool.not_true,Bool.false_or] at this
  have:=Array.all_eq_true_iff_forall_mem.1 this e he
  simpa [hb] using this
 ·have:=h3 j hn
  rw[decide_eq_false (by omega)] at this
  simpa using this
 have:=h4 i hi
 rw[hl] at this
 simp only[Bool.false_or,List.any_eq_true,List.mem_range,Bool.and_eq_true,decide_eq_true_eq] at this
 obtain⟨j,hj,hij,hjz,hx⟩:=this
 cases ho:ops[j]? with
 | none=>rw[ho] at hx;simp at hx
 | some o =>
 rw[ho] at hx
 simp only[Option.map_some,Option.getD_some] at hx
 obtain⟨e,he,hb⟩:=Array.any_eq_true'.1 hx
 simp only[Bool.and_eq_true,beq_iff_eq] at hb
 exact⟨j,o,hij,hjz,ho,e,he,hb.1,hb.2⟩
def withTail (n z:Nat) (listed:Array Bool):Array Bool:=((List.range n).map fun i=>listed.getD i true||decide (z≤i)).toArray
theorem withTail_size (n z:Nat) (listed:Array Bool):(withTail n z listed).size=n:=by unfold withTail;simp
theorem withTail_getD {n z i:Nat} {listed:Array Bool} (hi:i<n) (c:Bool):(withTail n z listed).getD i c=(listed.getD i true||decide (z≤i)):=by
 unfold withTail
 simp[hi]
theorem withTail_set {n z j:Nat} {listed:Array Bool} (hs:listed.size=n) (hj:j<n):withTail n z (listed.setIfInBounds j true)=(withTail n z listed).setIfInBounds j true:=by
 refine Array.ext (by simp[withTail]) fun i h1 h2=>?_
 have hi:i<n:=by simpa [withTail] using h1
 have key (A:Array Bool) (h:i<A.size):A[i]=A.getD i true:=by simp[h]
 rw[key _ h1,key _ h2,withTail_getD hi]
 by_cases e:j=i
 ·subst e
  simp[hs,hj,withTail_size]
 rw[getD_set_ne true e,getD_set_ne true e,withTail_getD hi]
theorem ready_some2 {listed:Array Bool} (h2:∀ i o,ops[i]? = some o→∀ e∈o.after,Region.binds md e=true→e.on<i) (hs:listed.size=ops.size) (hz:∃ z,z<ops.size∧listed.getD z true=false):Region.ready md ops listed≠[]:=by
 obtain⟨z,hzn,hz⟩:=hz
 have key:∀ n i,i≤n→i<ops.size→listed.getD i true=false→∃ k,k∈Region.ready md ops listed:=by
  intro n
  induction n with
  | zero =>
   intro i hi hl hu
   obtain rfl:i=0:=by omega
   refine⟨0,mem_ready.2 ⟨hu,ops[0],by simp[hl],fun e he hb=>?_⟩⟩
   have:=h2 0 ops[0] (by simp[hl]) e he hb
   omega
  | succ n ih =>
   intro i hi hl hu
   by_cases hx:∃ e∈(ops[i]).after,Region.binds md e=true∧listed.getD e.on false=false
   ·obtain⟨e,he,hb,hf⟩:=hx
    have hlt:=h2 i ops[i] (by simp[hl]) e he hb
    exact ih e.on (by omega) (by omega) (by rw[getD_sz (by omega) true false];exact hf)
   ·refine⟨i,mem_ready.2 ⟨hu,ops[i],by simp[hl],fun e he hb=>?_⟩⟩
    cases hf:listed.getD e.on false with
    | true=>rfl
    | false=>exact absurd ⟨e,he,hb,hf⟩ hx
 obtain⟨k,hk⟩:=key z z (Nat.le_refl _) hzn hz
 intro h0
 rw[h0] at hk
 cases hk
theorem wpAny_tail {z:Nat} (h:tailIs md ops z=true):∀ (fuel:Nat) (listed:Array Bool) (a:Act) (w:World),
  listed.size=ops.size→Down md ops listed→(∀ j,z≤j→j<ops.size→listed.getD j true=false) →
  (∀ i,i<z→listed.getD i true=false→∃ j o,i<j∧j≤z∧ops[j]? = some o∧∃ e∈o.after,Region.binds md e=true∧e.on=i) →
  wpAny P md ops (TailQ P md ops z Q) fuel (withTail ops.size z listed) a w→wpAny P md ops Q (fuel+(ops.size-z)) listed a w:=by
 obtain⟨h1,h2,h3⟩:=tailIs_spec h
 have all_of (listed:Array Bool) (hd:Down md ops listed) (hw:∀ i,i<z→listed.getD i true=false→∃ j o,i<j∧j≤z∧ops[j]? = some o∧∃ e∈o.after,Region.binds md e=true∧e.on=i)
   (hz:∃ o,ops[z]? = some o∧∀ e∈o.after,Region.binds md e=true→listed.getD e.on false=true) (hs:listed.size=ops.size):∀ i,i<z→listed.getD i true=true:=by
  have key:∀ n i,i<z→z-i≤n→listed.getD i true=true:=by
   intro n
   induction n with
   | zero=>intro i hi hn;omega
   | succ n ih =>
    intro i hi hn
    cases hl:listed.getD i true with
    | true=>rfl
    | false =>
     obtain⟨j,o,hij,hjz,ho,e,he,hb,hon⟩:=hw i hi hl
     have hfalse:listed.getD i false=true:=by
      by_cases hjz2:j=z
      ·subst hjz2
       obtain⟨o',ho',hall⟩:=hz
       rw[ho] at ho'
       cases ho'
       have:=hall e he hb
       rwa [hon] at this
      ·have:=hd j o ho (ih j (by omega) (by omega)) e he hb
       rwa [hon] at this
     rw[getD_sz (by omega) false true,hl] at hfalse
     cases hfalse
  exact fun i hi=>key _ i hi (Nat.le_refl _)
 intro fuel
 induction fuel with
 | zero =>
  intro listed a w hs hd ht hw H
  by_cases hall:∀ i,i<z→listed.getD i true=true
  ·have hl:listed=upTo ops.size z:=by
    refine Array.ext (by rw[upTo_size,hs]) fun i g1 g2=>?_
    have key (A:Array Bool) (h:i<A.size):A[i]=A.getD i true:=by simp[h]
    rw[key _ g1,key _ g2,upTo_getD (by omega)]
    by_cases e:i<z
    ·rw[hall i e,decide_eq_true e]
    ·rw[ht i (by omega) (by omega),decide_eq_false e]
   rw[hl,Nat.zero_add]
   exact H.2
  ·exfalso
   obtain⟨i,hi,hu⟩:∃ i,i<z∧listed.getD i true=false:=by
    refine Classical.byContradiction fun k=>hall fun i hi=>?_
    cases hl:listed.getD i true with
    | true=>rfl
    | false=>exact absurd ⟨i,hi,hl⟩ k
   have key:∀ n i,i≤n→i<z→listed.getD i true=false→∃ k,k∈Region.ready md ops (withTail ops.size z listed):=by
    intro n
    induction n with
    | zero =>
     intro i hi hl hu
     obtain rfl:i=0:=by omega
     have hlt:0<ops.size:=by omega
     refine⟨0,mem_ready.2 ⟨by rw[withTail_getD hlt,hu,decide_eq_false (by omega)];rfl,ops[0],by simp[hlt],fun e he hb=>?_⟩⟩
     have:=h2 0 ops[0] (by simp[hlt]) e he hb
     omega
    | succ n ih =>
     intro i hi hl hu
     have hlt:i<ops.size:=by omega
     by_cases hx:∃ e∈(ops[i]).after,Region.binds md e=true∧listed.getD e.on true=false
     ·obtain⟨e,he,hb,hf⟩:=hx
      have hlt2:=h2 i ops[i] (by simp[hlt]) e he hb
      exact ih e.on (by omega) (by omega) hf
     ·refine⟨i,mem_ready.2 ⟨by rw[withTail_getD hlt,hu,decide_eq_false (by omega)];rfl,ops[i],by simp[hlt],fun e he hb=>?_⟩⟩
      have hlt2:=h2 i ops[i] (by simp[hlt]) e he hb
      rw[withTail_getD (by omega)]
      cases hf:listed.getD e.on true with
      | true=>rfl
      | false=>exact absurd ⟨e,he,hb,hf⟩ hx
   obtain⟨k,hk⟩:=key i i (Nat.le_refl _) hi hu
   rw[H.1] at hk
   cases hk
 | succ fuel ih =>
  intro listed a w hs hd ht hw H
  by_cases hall:∀ i,i<z→listed.getD i true=true
  ·have hl:listed=upTo ops.size z:=by
    refine Array.ext (by rw[upTo_size,hs]) fun i g1 g2=>?_
    have key (A:Array Bool) (h:i<A.size):A[i]=A.getD i true:=by simp[h]
    rw[key _ g1,key _ g2,upTo_getD (by omega)]
    by_cases e:i<z
    ·rw[hall i e,decide_eq_true e]
    ·rw[ht i (by omega) (by omega),decide_eq_false e]
   have hn:Region.ready md ops (withTail ops.size z listed)=[]:=by
    refine List.eq_nil_iff_forall_not_mem.2 fun j hj=>?_
    obtain⟨hu,o,ho,_⟩:=mem_ready.1 hj
    have hjl:=(Array.getElem?_eq_some_iff.1 ho).1
    rw[withTail_getD hjl] at hu
    by_cases e:j<z
    ·rw[hall j e] at hu;cases hu
    ·rw[decide_eq_true (by omega:z≤j),Bool.or_true] at hu;cases hu
   have:=wpAny_adds (H.1 hn) (fuel+1)
   rw[hl,Nat.add_comm]
   exact this
  ·rw[Nat.add_right_comm]
   have low:∀ j,j∈Region.ready md ops listed→j<z:=by
    intro j hj
    obtain⟨hu,o,ho,hp⟩:=mem_ready.1 hj
    have hjl:=(Array.getElem?_eq_some_iff.1 ho).1
    refine Classical.byContradiction fun k=>?_
    by_cases e:j=z
    ·subst e
     exact hall (all_of listed hd hw ⟨o,ho,hp⟩ hs)
    ·obtain⟨e2,he,hb,hon⟩:=h3 j o (by omega) ho
     have:=hp e2 he hb
     have hlt:=h2 j o ho e2 he hb
     rw[getD_sz (by omega) false true,ht e2.on hon (by omega)] at this
     cases this
   have toT:∀ j,j∈Region.ready md ops listed→j∈Region.ready md ops (withTail ops.size z listed):=by
    intro j hj
    have hjz:=low j hj
    obtain⟨hu,o,ho,hp⟩:=mem_ready.1 hj
    have hjl:=(Array.getElem?_eq_some_iff.1 ho).1
    refine mem_ready.2 ⟨by rw[withTail_getD hjl,hu,decide_eq_false (by omega)];rfl,o,ho,fun e he hb=>?_⟩
    have hlt:=h2 j o ho e he hb
    rw[withTail_getD (by omega),getD_sz (by omega) true false,hp e he hb];rfl
   refine⟨fun h0=>absurd h0 (ready_some2 h2 hs (by
    refine Classical.byContradiction fun k=>hall fun i hi=>?_
    cases hl:listed.getD i true with
    | true=>rfl
    | false=>exact absurd ⟨i,by omega,hl⟩ k)),fun j hj=>?_⟩
   have h4:=H.2 j (toT j hj)
   obtain⟨hju,oj,hoj,hallj⟩:=mem_ready.1 hj
   have hjl:=(Array.getElem?_eq_some_iff.1 hoj).1
   have hjz:=low j hj
   refine wpOp_mono (fun a' w' h5=>ih (listed.setIfInBounds j true) a' w' (by simpa using hs) ?_ ?_ ?_ ?_) (wpOp_tail h4)
   ·intro k o hk hl e he hb
    by_cases hkj:k=j
    ·subst hkj
     rw[hoj] at hk
     cases hk
     exact getD_set_true (hallj e he hb)
    ·rw[getD_set_ne true (Ne.symm hkj)] at hl
     exact getD_set_true (hd k o hk hl e he hb)
   ·intro k hk hkn
    rw[getD_set_ne true (by omega)];exact ht k hk hkn
   ·intro i hi hu
    by_cases e:j=i
    ·subst e
     simp[hs,hjl] at hu
    ·rw[getD_set_ne true e] at hu;exact hw i hi hu
   ·rw[withTail_set hs hjl];exact h5
theorem wp_region_free {id:Nat} {a:Act} {w:World} (hm:P.follows .mixedOrders=true) (h:(fun _:World=>True) w.drew→wpAnyH P .any ops Q (fun _=>True) ops.size (Array.replicate ops.size false) a w.drew):(Code.region id ops true).wp P Q a w :=
 wp_region_held (S:=fun _=>True) hm (h trivial)
theorem wpAnyH_tail {z f fuel:Nat} {listed:Array Bool} {a:Act} {w:World} (S:World→Prop) (hz:tailIs md ops z=true) (hl:tailAt md ops z listed=true) (hf:fuel=f+(ops.size-z)) (hS:S w)
  (h:S w→wpAnyH P md ops (TailQ P md ops z Q) S f (withTail ops.size z listed) a w):wpAnyH P md ops Q (fun _=>True) fuel listed a w:=by
 obtain⟨a1,a2,a3,a4⟩:=tailAt_spec hl
 subst hf
 exact wpAnyH_true _ _ _ _ (wpAny_tail hz f listed a w a1 a2 a3 a4 (wpAny_of_held _ _ _ _ (h hS)))
theorem tailQ_held {z k:Nat} {a:Act} {w:World} (hk:ops.size-z=k) (h:(fun _:World=>True) w→wpAnyH P md ops Q (fun _=>True) k (upTo ops.size z) a w):TailQ P md ops z Q .normal a w:=by
 show wpAny P md ops Q (ops.size-z) (upTo ops.size z) a w
 rw[hk]
 exact wpAny_of_held _ _ _ _ (h trivial)
end
end
section
section
variable {P:Program} {ops:Array Oper} {Q:Exit→Act→World→Prop} {md:Region.Mode} {S:World→Prop}
theorem tk (i:Nat) {oi:Oper} {v:Value} {fuel:Nat} {l:Array Bool} {a:Act} {w:World} (h:wpAnyH P md ops Q S fuel (l.setIfInBounds i true) (a.put oi.dst v) w)
  (hi:ops[i]? = some oi:=by rfl) (hs:Region.noSelect ops=true:=by kernel_rfl) (hf:Region.free md ops l i=true:=by kernel_rfl) (hr:(Region.ready md ops l).contains i=true:=by kernel_rfl)
  (hQ:∀ c a w,Q (.panic c) (a.put oi.dst v) w→Q (.panic c) a w:=by exact fun _ _ _ h=>h)
  (hy:YieldsIf P ops S oi v a:=by refine Or.inl ⟨by kernel_rfl,?_⟩;intro w hSw;(try dsimp only at hSw);go_simp;(try with_reducible rfl)) (hS:S w:=by assumption):wpAnyH P md ops Q S (fuel+1) l a w :=
 wpAnyH_take hi hs hf hr hQ hy hS h
theorem cm (i:Nat) {o:Oper} {fuel:Nat} {l:Array Bool} {a:Act} {w:World}
  (h:∀ K':Act→World→Prop,Shut (∀ a w,S w→(S w→wpAnyH P md ops Q S fuel (l.setIfInBounds i true) a w)→K' a w)→if Region.wanted o (yielded ops a.tmps)=true then Oper.wp P o a w K' Q else K' (a.put o.dst undef) w)
  (ho:ops[i]? = some o:=by rfl) (hr:Region.ready md ops l=[i]:=by kernel_rfl):wpAnyH P md ops Q S (fuel+1) l a w :=
 wpAnyH_ready (rs:=[i]) hr (by simp) (AllReadyH.cons ho h AllReadyH.nil)
end
end
end Go.Proofs.YteidgoldnllabaaGreatDoor
