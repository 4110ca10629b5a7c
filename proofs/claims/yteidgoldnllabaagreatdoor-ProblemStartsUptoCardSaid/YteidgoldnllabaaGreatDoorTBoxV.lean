/-
  Memory: a box of neighbouring cells.
-/
import Derived.Test.YteidgoldnllabaaGreatDoorTModN
import Derived.Lib.AppendZeros
set_option maxHeartbeats 4000000
namespace Go.Proofs.YteidgoldnllabaaGreatDoor
open Go.RowKit
open Lib (hid)
section
open Go.RowKit Go.Sort
theorem cellV_ne {w:World} {g i:Nat} {p:Addr} {v:Value} (h:(⟨g,i,none⟩:Addr)≠p):(w.setCell ⟨g,i,none⟩ v).cell? p=w.cell? p:=by
 rw[World.cell?_setCell_other];exact h
theorem cellV_eq {w:World} {g i:Nat} {v u:Value} (h:w.cell? ⟨g,i,none⟩=some u):(w.setCell ⟨g,i,none⟩ v).cell? ⟨g,i,none⟩=some v:=by
 apply World.cell?_setCell_same;exact h
def BoxV (w:World) (g:Nat) (vs:List Value):Prop:=CellsV w g 0 vs∧(∀ i,w.frozen? ⟨g,i,none⟩=false)∧g<w.heap.size
theorem BoxV.kp {w w':World} {g:Nat} {vs:List Value} (h:BoxV w g vs) (k:Kp w w'):BoxV w' g vs :=
 ⟨h.1.kp k,fun i=>(frozen_kpT k h.2.2).trans (h.2.1 i),Nat.lt_of_lt_of_le h.2.2 k.size⟩
theorem BoxV.new (u:World) (vs:List Value) (t:TypeId) (s:Nat) (h:u.heap.size=s):BoxV (u.alloc (.cells vs.toArray t)) s vs :=
 ⟨CellsV.new u vs t s h,fun i=>newF u _ _ s i h,by subst h;simp⟩
theorem BoxV.other {w:World} {g k i:Nat} {vs:List Value} (h:BoxV w g vs) (hn:g≠k) (v:Value):BoxV (w.setCell ⟨k,i,none⟩ v) g vs :=
 ⟨fun j x hj=>by rw[cellV_ne (fun e=>hn (by injection e with e1;exact e1.symm))];exact h.1 j x hj,fun j=>by rw[World.frozen?_setCell];exact h.2.1 j,by simpa using h.2.2⟩
theorem BoxV.set {w:World} {g i:Nat} {vs:List Value} (h:BoxV w g vs) (hi:i<vs.length) (v:Value):BoxV (w.setCell ⟨g,i,none⟩ v) g (vs.set i v):=by
 refine⟨fun j x hj=>?_,fun j=>by rw[World.frozen?_setCell];exact h.2.1 j,by simpa using h.2.2⟩
 obtain⟨u,hu⟩:∃ u,vs[i]? = some u:=⟨_,List.getElem?_eq_getElem hi⟩
 have hc:=h.1 i u hu
 rw[Nat.zero_add] at hc ⊢
 by_cases e:j=i
 ·subst e
  rw[List.getElem?_set_self hi] at hj
  cases hj
  exact cellV_eq hc
 rw[List.getElem?_set_ne (Ne.symm e)] at hj
 rw[cellV_ne (fun e2=>e (by injection e2 with _ e1;exact e1.symm))]
 have:=h.1 j x hj
 rwa [Nat.zero_add] at this
theorem BoxV.cell {w:World} {g:Nat} {vs:List Value} (h:BoxV w g vs) (i:Nat) {v:Value} (hv:vs[i]? = some v):w.cell? ⟨g,i,none⟩=some v:=by
 have:=h.1 i v hv
 rwa [Nat.zero_add] at this
theorem OwnU.box {wb w:World} {v:Value} {xs:List ByteArray} (h:OwnU wb w v xs) {k i:Nat} (hk:wb.heap.size≤k) (hv:v.ownBlock≠some k) (y:Value):OwnU wb (w.setCell ⟨k,i,none⟩ y) v xs :=
 ⟨h.1.set hk y,ownsRow_setCell_other h.2 hv y⟩
theorem wpList_append_usg {w:World} {ops:Array Oper} {rest:List Oper} {o:Oper} {a:Act} {Q:Exit→Act→World→Prop} (hgd:o.guard=none) (s x:Operand)
  (ho:o.op=.call { callee:=.builtin .append,args:=#[s,x],argTypes:=#[46,46] })
  (wb:World) (v:Value) (zs:List ByteArray) (hs:a.eval s=v) (hown:OwnU wb w v zs)
  (ad:Addr) (c:Nat) (ys:List ByteArray) (m:Nat) (hm:ys.length=m) (hx:a.eval x=.slice (some ad) m c)
  (hrow:∀ (i:Nat) (y:ByteArray),ys[i]? = some y→w.cell? (ad.add i)=some (.string y)) (hlen:zs.length+ys.length≤9000000)
  (h:∀ v' w',OwnU wb w' v' (zs++ys)→w.grownBy w' v.ownBlock→(v'.ownBlock=v.ownBlock∨v'.ownBlock=some w.heap.size)→wpList Tryz.prog ops Q rest (a.put o.dst v') w') :
  wpList Tryz.prog ops Q (o::rest) a w:=by
 subst hm
 obtain⟨i0,hi,hz0,hz1,hz2⟩:=info_parts infoStr
 obtain⟨hk,hown1⟩:=hown
 refine wpList_append_own_at w hgd s x 46 ho wb.heap.size 9 i0 _ 1 16 Tryz.underlying46 hi hz0 hz1 hz2 rfl (by decide) v zs.length (zs.map Value.string) hs hown1
  ad ys.length c (ys.map Value.string) hx (by rw[List.length_map];omega) ?_ ?_ (by unfold maxLen;omega) (by omega) hk.size ?_
 ·intro j u hj
  rw[List.getElem?_map] at hj
  obtain⟨y,hy,rfl⟩:=Option.map_eq_some_iff.1 hj
  exact hrow j y hy
 ·intro u hu
  obtain⟨y,_,rfl⟩:=List.mem_map.1 hu
  rfl
 intro v' w' h1 h2 _ h4
 have hb:Below wb.heap.size w w':=(Below.refl wb.heap.size w).grown h2 hk.size (fun k hk=>(hown1.lt k hk).1)
 refine h v' w' ⟨Below.trans hk hb,?_⟩ h2 h4
 rw[List.map_append,List.length_append]
 exact h1
theorem OwnU.cap {wb w:World} {v:Value} {xs:List ByteArray} (h:OwnU wb w v xs):∃ a c,v=.slice a xs.length c∧RowS w a xs∧xs.length≤c:=by
 cases xs with
 | cons s t =>
  obtain⟨g,c,h1,h2,_,_,h5⟩:=h.row (by simp)
  exact⟨_,c,h1,h5,h2⟩
 | nil =>
 obtain⟨a,c,e,r⟩:=h.sl
 exact⟨a,c,e,r,Nat.zero_le _⟩
def apV (v u:Value):Prop:=∀ b,v.ownBlock=some b→u.ownBlock≠some b
theorem apV.sym {v u:Value} (h:apV v u):apV u v:=fun b hb e=>h b e hb
theorem apV.far {v v' u:Value} {N:Nat} (h:apV v u) (hn:v'.ownBlock=v.ownBlock∨v'.ownBlock=some N) (hu:∀ g,u.ownBlock=some g→g<N):apV v' u:=fun b hb=>by
 rcases hn with e | e
 ·exact h b (by rw[← e];exact hb)
 ·rw[e] at hb;injection hb with hb;intro e2;have:=hu _ e2;omega
theorem ownV_far {v v':Value} {g N:Nat} (h:v.ownBlock≠some g) (hn:v'.ownBlock=v.ownBlock∨v'.ownBlock=some N) (hg:g<N):v'.ownBlock≠some g:=by
 rcases hn with e | e
 ·rw[e];exact h
 rw[e];intro e;injection e with e;omega
theorem OwnU.apart {wb w w':World} {v u:Value} {xs:List ByteArray} (h:OwnU wb w u xs) (hap:apV v u) (hg:w.grownBy w' v.ownBlock) (k:Kp wb w'):OwnU wb w' u xs:=by
 refine⟨k,h.2.kept hg ?_⟩
 cases hu:u.ownBlock with
 | some g=>exact .inr fun e=>hap g e.symm hu
 | none=>exact .inl rfl
theorem OwnU.new {wb w:World} {v:Value} {xs:List ByteArray} (h:OwnU wb w v xs):∀ g,v.ownBlock=some g→g<w.heap.size:=fun g hg=>(h.2.lt g hg).2
theorem BoxV.grown {w w':World} {g:Nat} {vs:List Value} {v:Value} (h:BoxV w g vs) (hg:w.grownBy w' v.ownBlock) (hn:v.ownBlock≠some g):BoxV w' g vs:=by
 have hb:=hg.block g h.2.2 (fun e=>hn e.symm)
 refine⟨fun j x hj=>?_,fun i=>?_,Nat.lt_of_lt_of_le h.2.2 hg.size⟩
 ·have:=h.1 j x hj
  unfold World.cell? at *
  rw[hb];exact this
 have:=h.2.1 i
 unfold World.frozen? at *
 rw[hb];exact this
structure LkO (wb w:World) (vs vn vm:Value) (S N M:List ByteArray):Prop where
 box:BoxV w wb.heap.size [vs,vn,vm]
 os:OwnU wb w vs S
 on:OwnU wb w vn N
 om:OwnU wb w vm M
 bs:vs.ownBlock≠some wb.heap.size
 bn:vn.ownBlock≠some wb.heap.size
 bm:vm.ownBlock≠some wb.heap.size
 d1:apV vs vn
 d2:apV vs vm
 d3:apV vn vm
theorem LkO.kp {wb w w':World} {vs vn vm:Value} {S N M:List ByteArray} (h:LkO wb w vs vn vm S N M) (k:Kp w w'):LkO wb w' vs vn vm S N M :=
 ⟨h.box.kp k,h.os.kp k,h.on.kp k,h.om.kp k,h.bs,h.bn,h.bm,h.d1,h.d2,h.d3⟩
theorem LkO.new (wb:World) (t:TypeId):LkO wb (wb.alloc (.cells #[.slice none 0 0,.slice none 0 0,.slice none 0 0] t)) (.slice none 0 0) (.slice none 0 0) (.slice none 0 0) [] [] []:=by
 have k:=(Kp.refl wb).alloc (.cells #[.slice none 0 0,.slice none 0 0,.slice none 0 0] t)
 have n:apV (.slice none 0 0) (.slice none 0 0):=fun b h=>by simp[Value.ownBlock] at h
 have z:(Value.slice none 0 0).ownBlock≠some wb.heap.size:=by simp[Value.ownBlock]
 exact⟨BoxV.new wb [_,_,_] t _ rfl,OwnU.nil k,OwnU.nil k,OwnU.nil k,z,z,z,n,n,n⟩
theorem LkO.s {wb w w':World} {vs vn vm v':Value} {S N M S':List ByteArray} (h:LkO wb w vs vn vm S N M) (ho:OwnU wb w' v' S') (hg:w.grownBy w' vs.ownBlock) (hn:v'.ownBlock=vs.ownBlock∨v'.ownBlock=some w.heap.size):LkO wb (w'.setCell ⟨wb.heap.size,0,none⟩ v') v' vn vm S' N M:=by
 have hb:=ownV_far h.bs hn h.box.2.2
 exact⟨(h.box.grown hg h.bs).set (by simp) v',ho.box (Nat.le_refl _) hb _,(h.on.apart h.d1 hg ho.1).box (Nat.le_refl _) h.bn _,(h.om.apart h.d2 hg ho.1).box (Nat.le_refl _) h.bm _,hb,h.bn,h.bm,h.d1.far hn h.on.new,h.d2.far hn h.om.new,h.d3⟩
theorem LkO.n {wb w w':World} {vs vn vm v':Value} {S N M N':List ByteArray} (h:LkO wb w vs vn vm S N M) (ho:OwnU wb w' v' N') (hg:w.grownBy w' vn.ownBlock) (hn:v'.ownBlock=vn.ownBlock∨v'.ownBlock=some w.heap.size):LkO wb (w'.setCell ⟨wb.heap.size,1,none⟩ v') vs v' vm S N' M:=by
 have hb:=ownV_far h.bn hn h.box.2.2
 exact⟨(h.box.grown hg h.bn).set (by simp) v',(h.os.apart h.d1.sym hg ho.1).box (Nat.le_refl _) h.bs _,ho.box (Nat.le_refl _) hb _,(h.om.apart h.d3 hg ho.1).box (Nat.le_refl _) h.bm _,h.bs,hb,h.bm,(h.d1.sym.far hn h.os.new).sym,h.d2,h.d3.far hn h.om.new⟩
theorem LkO.m {wb w w':World} {vs vn vm v':Value} {S N M M':List ByteArray} (h:LkO wb w vs vn vm S N M) (ho:OwnU wb w' v' M') (hg:w.grownBy w' vm.ownBlock) (hn:v'.ownBlock=vm.ownBlock∨v'.ownBlock=some w.heap.size):LkO wb (w'.setCell ⟨wb.heap.size,2,none⟩ v') vs vn v' S N M':=by
 have hb:=ownV_far h.bm hn h.box.2.2
 exact⟨(h.box.grown hg h.bm).set (by simp) v',(h.os.apart h.d2.sym hg ho.1).box (Nat.le_refl _) h.bs _,(h.on.apart h.d3.sym hg ho.1).box (Nat.le_refl _) h.bn _,ho.box (Nat.le_refl _) hb _,h.bs,h.bn,hb,h.d1,(h.d2.sym.far hn h.os.new).sym,(h.d3.sym.far hn h.on.new).sym⟩
theorem OwnU.at {wb w:World} {a:Option Addr} {n c:Nat} {xs:List ByteArray} (h:OwnU wb w (.slice a n c) xs):RowS w a xs∧xs.length≤c:=by
 obtain⟨a2,c2,e,r,l⟩:=h.cap
 cases e
 exact⟨r,l⟩
theorem OwnU.base {wb w w':World} {v:Value} {xs:List ByteArray} (h:OwnU w w' v xs) (k:Kp wb w):OwnU wb w' v xs:=by
 obtain⟨h1,h2,h3⟩:=h
 refine⟨k.trans h1,h2,?_⟩
 rcases h3 with h3 | ⟨g,cap,cur,e,hb,r⟩
 ·exact .inl h3
 exact .inr ⟨g,cap,cur,e,Nat.le_trans k.size hb,r⟩
theorem LkO.n0 {wb w w':World} {vs vm v:Value} {S M N':List ByteArray} (h:LkO wb w vs (.slice none 0 0) vm S [] M) (k:Kp w w') (ho:OwnU w w' v N'):LkO wb (w'.setCell ⟨wb.heap.size,1,none⟩ v) vs v vm S N' M:=by
 have h2:=h.kp k
 have hb:v.ownBlock≠some wb.heap.size:=fun e=>by
  have:=(ho.2.lt _ e).1
  have:=h.box.2.2
  omega
 have d1:apV vs v:=fun b hb e=>by
  have:=(ho.2.lt _ e).1
  have:=h.os.new _ hb
  omega
 have d3:apV vm v:=fun b hb e=>by
  have:=(ho.2.lt _ e).1
  have:=h.om.new _ hb
  omega
 exact⟨h2.box.set (by simp) v,h2.os.box (Nat.le_refl _) h.bs _,(ho.base h.os.1).box (Nat.le_refl _) hb _,h2.om.box (Nat.le_refl _) h.bm _,h.bs,hb,h.bm,d1,h.d2,d3.sym⟩
end
section
open Go.RowKit Go.Sort
theorem addr_add (b o i:Nat):(⟨b,o,none⟩:Addr).add i=⟨b,o+i,none⟩:=by
 unfold Addr.add
 split
 ·rename_i h;subst h;rfl
 rfl
theorem nil_str (w:World) (a:Option Addr) (n c n' c':Nat):(binOp .eql 46 (.slice a n c) (.slice none n' c')).run Tryz.prog w=.ok (.bool a.isNone) w :=
 Lib.run_eql_slice_nil w _ _ a n c n' c' Tryz.underlying46
theorem cloneS_any (a:Option Addr) (c:Nat) (ss:List ByteArray) (w:World) (h:RowS w a ss) (h0:0<ss.length) (hl:ss.length≤1100000) :
  Calls Tryz.prog 63 #[.slice a ss.length c] w fun e w'=>∃ v,e=.returned v∧OwnU w w' v ss∧Kp w w':=by
 have hn:=nil_str
 obtain⟨s,hs⟩:∃ s,ss[0]? = some s:=⟨_,List.getElem?_eq_getElem h0⟩
 obtain⟨b,o,rfl,_⟩:=h 0 s hs
 have HL:=hid (show ∃ n,ss.length=n from ⟨_,rfl⟩)
 have hE:=OwnU.empty w w (Kp.refl w)
 have hR:∀ (i:Nat) (y:ByteArray),ss[i]? = some y→(w.alloc (.cells #[] 9)).cell? ((⟨b,o,none⟩:Addr).add i)=some (.string y):=fun i y hy=>by
  obtain⟨b2,o2,e,hc⟩:=h i y hy
  cases e
  have:=((Kp.refl w).alloc (.cells #[] 9)).cell hc
  rwa [addr_add]
 have HE:=hid hE
 have HR:=hid hR
 clear hE hR
 go_enter Tryz.func63,Tryz.ntmps63
 go_wp2_with (at_builtin;refine wpList_append_us rfl _ _ rfl w _ [] rfl HE.out ⟨b,o,none⟩ c ss ss.length rfl rfl HR.out (by simp only[List.length_nil];omega) ?_;rw[List.nil_append];intro v w1 hO)
 go_ret
 exact⟨v,rfl,hO,hO.1⟩
theorem flatV_at {α:Type} (cells:α→List Value) (k:Nat) (hk:∀ x,(cells x).length=k):∀ (zs:List α) (i r:Nat) (x:α),zs[i]? = some x→r<k→(zs.flatMap cells)[i*k+r]? = (cells x)[r]?
 | [],i,r,x,h,_=>by simp at h
 | z::t,0,r,x,h,hr=>by
  simp only[List.getElem?_cons_zero,Option.some.injEq] at h
  subst h
  rw[List.flatMap_cons,List.getElem?_append_left (by rw[hk];omega)]
  simp
 | z::t,i+1,r,x,h,hr=>by
  rw[List.flatMap_cons,List.getElem?_append_right (by rw[hk,Nat.add_mul];omega),hk]
  have:=flatV_at cells k hk t i r x (by simpa using h) hr
  rw[← this]
  congr 1
  rw[Nat.add_mul];omega
theorem flatV_len {α:Type} (cells:α→List Value) (k:Nat) (hk:∀ x,(cells x).length=k):∀ zs:List α,(zs.flatMap cells).length=zs.length*k
 | []=>by simp
 | z::t=>by rw[List.flatMap_cons,List.length_append,hk,flatV_len cells k hk t,List.length_cons,Nat.add_mul];omega
theorem flatV_of {α:Type} (cells:α→List Value) (k:Nat) (hk:∀ x,(cells x).length=k) (h0:0<k) (zs:List α) (j:Nat) (u:Value) (h:(zs.flatMap cells)[j]? = some u):∃ i r x,zs[i]? = some x∧r<k∧(cells x)[r]? = some u∧j=i*k+r:=by
 have hj:=(List.getElem?_eq_some_iff.1 h).1
 rw[flatV_len cells k hk] at hj
 have hi:j/k<zs.length:=Nat.div_lt_of_lt_mul (by rw[Nat.mul_comm];exact hj)
 obtain⟨x,hx⟩:∃ x,zs[j/k]? = some x:=⟨_,List.getElem?_eq_getElem hi⟩
 have e:j=j/k*k+j % k:=by rw[Nat.mul_comm];exact (Nat.div_add_mod j k).symm
 refine⟨j/k,j % k,x,hx,Nat.mod_lt _ h0,?_,e⟩
 rw[← flatV_at cells k hk zs (j/k) (j % k) x hx (Nat.mod_lt _ h0),← e]
 exact h
def OwnV {α:Type} (cells:α→List Value) (k:Nat) (T:TypeId) (wb w:World) (v:Value) (zs:List α):Prop:=Kp wb w∧w.ownsRow wb.heap.size T k v zs.length (zs.flatMap cells)
theorem OwnV.kp {α:Type} {cells:α→List Value} {k:Nat} {T:TypeId} {wb w w':World} {v:Value} {zs:List α} (h:OwnV cells k T wb w v zs) (q:Kp w w'):OwnV cells k T wb w' v zs:=⟨h.1.trans q,kp_owns h.2 q⟩
theorem OwnV.nil {α:Type} {cells:α→List Value} {k:Nat} {T:TypeId} {wb w:World} (q:Kp wb w):OwnV cells k T wb w (.slice none 0 0) []:=⟨q,World.ownsRow_nil _ _ _ _⟩
theorem OwnV.row {α:Type} {cells:α→List Value} {k:Nat} (hk:∀ x,(cells x).length=k) (_h1:∀ x,∀ u∈cells x,u.oneCell'=true) {T:TypeId} {wb w:World} {v:Value} {zs:List α} (h:OwnV cells k T wb w v zs):∃ a c,v=.slice a zs.length c∧zs.length≤c∧RowV cells k w w.heap.size a zs:=by
 obtain⟨_,⟨h2,h3⟩⟩:=h
 rcases h3 with ⟨rfl,h3⟩ | ⟨g,cap,cur,rfl,hb,hg,hn,hc,hs,ht⟩
 ·have:zs=[]:=List.length_eq_zero_iff.1 h3
  subst this
  exact⟨none,0,rfl,Nat.le_refl _,fun i x hx=>by simp at hx⟩
 refine⟨_,cap,rfl,hn,fun i x hx=>⟨g,0,rfl,(Array.getElem?_eq_some_iff.1 hg).1,fun j u hj=>?_⟩⟩
 have hil:i<zs.length:=(List.getElem?_eq_some_iff.1 hx).1
 have hjk:j<k:=by rw[← hk x];exact (List.getElem?_eq_some_iff.1 hj).1
 rw[Nat.zero_add,cell_of_row w g _ cur _ _ hg]
 have hlt:i*k+j<zs.length*k:=by
  have:(i+1)*k≤zs.length*k:=Nat.mul_le_mul_right _ hil
  rw[Nat.add_mul] at this;omega
 have h5:(cur.toList.take (zs.length*k))[i*k+j]? = some u:=by
  rw[ht,flatV_at cells k hk zs i j x hx hjk];exact hj
 rw[List.getElem?_take,if_pos hlt] at h5
 simpa using h5
theorem wpList_append_vs {α:Type} {cells:α→List Value} {k:Nat} (hk:∀ x,(cells x).length=k) (h0:0<k) (h1:∀ x,∀ u∈cells x,u.oneCell'=true) {w:World} {ops:Array Oper} {rest:List Oper} {o:Oper} {a:Act} {Q:Exit→Act→World→Prop} (hgd:o.guard=none) (s x:Operand) (t T:TypeId)
  (ho:o.op=.call { callee:=.builtin .append,args:=#[s,x],argTypes:=#[t,t] }) (i0:TypeInfo) (z:Value) (bytes:Nat) (ht:Tryz.prog.underlying t=some (.slice T)) (hi:Tryz.prog.info? T=some i0) (hz:i0.zero=some z) (hsz:i0.size=k) (hby:i0.bytes=bytes) (hzs:z.cells.size=k)
  (wb:World) (v:Value) (zs:List α) (hs:a.eval s=v) (hown:OwnV cells k T wb w v zs)
  (ad:Addr) (c:Nat) (ys:List α) (m:Nat) (hm:ys.length=m) (hx:a.eval x=.slice (some ad) m c)
  (hrow:∀ (i:Nat) (y:α),ys[i]? = some y→∀ (j:Nat) (u:Value),(cells y)[j]? = some u→w.cell? (ad.add (i*k+j))=some u) (hlen:zs.length+ys.length≤9000000) (hbl:(zs.length+ys.length)*bytes≤140737488355328)
  (h:∀ v' w',OwnV cells k T wb w' v' (zs++ys)→w.grownBy w' v.ownBlock→(v'.ownBlock=v.ownBlock∨v'.ownBlock=some w.heap.size)→wpList Tryz.prog ops Q rest (a.put o.dst v') w') :
  wpList Tryz.prog ops Q (o::rest) a w:=by
 subst hm
 obtain⟨hkk,hown1⟩:=hown
 refine wpList_append_own_at w hgd s x t ho wb.heap.size T i0 z k bytes ht hi hz hsz hby hzs h0 v zs.length (zs.flatMap cells) hs hown1
  ad ys.length c (ys.flatMap cells) hx (by rw[flatV_len cells k hk]) ?_ ?_ (by unfold maxLen;omega) (by omega) hkk.size ?_
 ·intro j u hj
  obtain⟨i,r,y,hy,_,hr,rfl⟩:=flatV_of cells k hk h0 ys j u hj
  exact hrow i y hy r u hr
 ·intro u hu
  obtain⟨y,_,hy⟩:=List.mem_flatMap.1 hu
  exact h1 y u hy
 intro v' w' g1 g2 _ g4
 have hb:Below wb.heap.size w w':=(Below.refl wb.heap.size w).grown g2 hkk.size (fun k hk=>(hown1.lt k hk).1)
 refine h v' w' ⟨Below.trans hkk hb,?_⟩ g2 g4
 rw[List.flatMap_append,List.length_append]
 exact g1
theorem run_append_voidV {P:Program} (w:World) (t ty e:TypeId) (i:TypeInfo) (ht:P.underlying t=some (.slice e)) (hi:P.info? e=some i) (a:Addr) (n cap m c:Nat) (hm:m=0) (h:n≤cap) :
  (Builtin.append_ #[t,t] ty #[.slice (some a) n cap,.slice none m c]).run P w=.ok (.slice (some a) n cap) w:=by
 subst hm
 simp[Builtin.append_,run_underlying ht,sizeOf,typeInfo,hi,Builtin.lenOf,h,Builtin.firstCells,storeCells]
theorem infoDecl:(Tryz.prog.info? 68).map (fun i=>(i.zero,i.size,i.bytes))=some (some (.agg #[.string ⟨#[]⟩,.int .i64 0,.int .i64 0,.int .i64 0,.int .i64 0]),5,48):=by kernel_rfl
theorem de_len (d:De):d.cells.length=5:=rfl
theorem de_one (d:De):∀ u∈d.cells,u.oneCell'=true:=by
 intro u hu
 simp only[De.cells,List.mem_cons,List.not_mem_nil,or_false] at hu
 rcases hu with rfl | rfl | rfl | rfl | rfl <;> rfl
abbrev OwnDe (wb w:World) (v:Value) (zs:List De):Prop:=OwnV De.cells 5 68 wb w v zs
theorem growDe_any (n:Nat) (w:World) (h0:0<n) (hn:n≤3000000) :
  Calls Tryz.prog 128 #[.slice none 0 0,.int .i64 (n:Int)] w fun e w'=>∃ g c,e=.returned (.slice (some ⟨g,0,none⟩) 0 c)∧OwnDe w w' (.slice (some ⟨g,0,none⟩) 0 c) []:=by
 obtain⟨i0,hi,hz0,hz1,hz2⟩:=info_parts infoDecl
 have hrun:=Lib.run_append_nil_zeros (P:=Tryz.prog) w 22 3 22 68 i0 _ .i64 .i64 Tryz.underlying22 Tryz.underlying3 hi hz0 n h0 (by rw[hz1];decide) (by omega) (by rw[hz2];omega)
 have hg:¬ (n:Int)<0:=by omega
 have hg2:(0:Int)<(n:Int):=by omega
 go_enter Tryz.func128,Tryz.ntmps128
 go_wp2_with (at_builtin;refine Lib.wpList_append_run _ rfl _ _ _ _ rfl _ _ rfl rfl _ _ hrun ?_)
 go_ret
 refine⟨w.heap.size,_,rfl,((Kp.refl w).alloc _).drew,kp_owns (World.ownsRow_made w _ (grownCap w n 0 68) (Nat.le_refl _) (grownCap_le_maxLen w n 0 _ (by unfold maxLen;omega)) ?_) (Kp.refl _).drew⟩
 have h1:=grownCap_ge w n 0 68
 rw[Array.size_append,size_zeroCells,size_zeroCells]
 show n*5+(grownCap w n 0 68-n)*5=grownCap w n 0 68*5
 omega
theorem concatDe_any (ss ps:List De) (sa pa:Option Addr) (sc pc cp B:Nat) (g:Nat) (w:World) (h0:0<ss.length) (hs:ss.length≤1100000) (hp:ps.length≤1100000) (hrs:RowV De.cells 5 w B sa ss) (hrp:RowV De.cells 5 w B pa ps)
  (hc:w.cell? ⟨g,0,none⟩=some (.slice sa ss.length sc)∧w.cell? ⟨g,1,none⟩=some (.slice pa ps.length pc)) :
  Calls Tryz.prog 65 #[.slice (some ⟨g,0,none⟩) 2 cp] w fun e w'=>∃ v,e=.returned v∧OwnDe w w' v (ss++ps)∧Kp w w':=by
 obtain⟨i0,hi,hz0,hz1,hz2⟩:=info_parts infoDecl
 have HG:=hid (growDe_any (ss.length+ps.length) w (by omega) (by omega))
 rw[Int.natCast_add] at HG
 have HC:=hid hc
 obtain⟨c0,c1⟩:=hc
 go_enter Tryz.func65,Tryz.ntmps65
 go_upto_region 3 with fail
 go_loopw [3,11] (fun y x wr=>∃ k:Nat,k≤2∧x=.int .i64 k∧y=.int .i64 (if k=0 then 0 else if k=1 then (ss.length:Int) else (ss.length:Int)+(ps.length:Int))∧wr=w) (fun _ x _=>2-(intOf x).toNat)
 case atStart=>exact⟨0,by omega,rfl,rfl,rfl⟩
 case round =>
 obtain⟨k,hk,rfl,rfl,rfl⟩:=hrel
 match k,hk with
 | 0,_ =>
  have g1:¬ (ss.length:Int)<0:=by omega
  go_wp2
  go_roundw
  case measure=>simp only[intOf];omega
  case rel=>exact⟨1,by omega,rfl,by simp⟩
 | 1,_ =>
  have g1:¬ (ss.length:Int)+(ps.length:Int)<0:=by omega
  go_wp2
  go_roundw
  case measure=>simp only[intOf];omega
  case rel=>exact⟨2,by omega,rfl,by simp⟩
 | 2,_ =>
  obtain⟨V,hV⟩:∃ V:World,V=wr:=⟨_,rfl⟩
  subst hV
  clear c0 c1
  go_upto_region 11 with (first | (go_at_call 128;go_fit HG.out;rintro r w1 ⟨g1,cg,rfl,hO1⟩) | fail)
  have HO1:=hid hO1
  clear hO1
  go_loopw [6,27] (fun y x wr=>∃ k:Nat,k≤2∧x=.int .i64 k∧OwnDe V wr y (if k=0 then [] else if k=1 then ss else ss++ps)∧∃ a n c,y=.slice (some a) n c∧n≤c) (fun _ x _=>2-(intOf x).toNat)
  case atStart=>exact⟨0,by omega,rfl,HO1.out,_,_,_,rfl,Nat.zero_le _⟩
  case round =>
  obtain⟨k,hk,rfl,hO,ya,yn,yc,rfl,hyc⟩:=hrel
  have c0:=hO.1.cell HC.out.1
  have c1:=hO.1.cell HC.out.2
  match k,hk with
  | 0,_ =>
   simp only[if_true] at hO
   obtain⟨s0,hs0⟩:∃ s0,ss[0]? = some s0:=⟨_,List.getElem?_eq_getElem h0⟩
   obtain⟨b,o,rfl,_,_⟩:=hrs 0 s0 hs0
   have hR:∀ (i:Nat) (y:De),ss[i]? = some y→∀ (j:Nat) (u:Value),y.cells[j]? = some u→wr.cell? ((⟨b,o,none⟩:Addr).add (i*5+j))=some u:=fun i y hy j u hj=>by
    obtain⟨b2,o2,e,_,hcc⟩:=hrs i y hy
    cases e
    have:=hO.1.cell (hcc j u hj)
    rw[addr_add,← Nat.add_assoc];exact this
   have HR:=hid hR
   have HO:=hid hO
   clear hO hR
   go_wp2_with (at_builtin;refine wpList_append_vs de_len (by decide) de_one rfl _ _ _ _ rfl i0 _ 48 Tryz.underlying22 hi hz0 hz1 hz2 rfl V _ [] rfl HO.out ⟨b,o,none⟩ sc ss ss.length rfl rfl HR.out (by simp only[List.length_nil];omega) (by simp only[List.length_nil];omega) ?_;rw[List.nil_append];intro v2 w2 hO2 _ _;obtain⟨a2,c2,rfl,hl2,hr2⟩:=hO2.row de_len de_one;obtain⟨b2,o2,rfl,_,_⟩:=hr2 0 s0 hs0)
   go_roundw
   case measure=>simp only[intOf];omega
   case rel=>exact⟨1,by omega,rfl,hO2,_,_,_,rfl,hl2⟩
  | 1,_ =>
   simp only[if_true,if_neg (show ¬ (1:Nat)=0 by decide)] at hO
   obtain⟨s0,hs0⟩:∃ s0,ss[0]? = some s0:=⟨_,List.getElem?_eq_getElem h0⟩
   have HO:=hid hO
   by_cases hp0:ps=[]
   rotate_left
   ·have hp1:0<ps.length:=List.length_pos_iff.2 hp0
    obtain⟨p0,hps0⟩:∃ p0,ps[0]? = some p0:=⟨_,List.getElem?_eq_getElem hp1⟩
    obtain⟨b,o,rfl,_,_⟩:=hrp 0 p0 hps0
    have hR:∀ (i:Nat) (y:De),ps[i]? = some y→∀ (j:Nat) (u:Value),y.cells[j]? = some u→wr.cell? ((⟨b,o,none⟩:Addr).add (i*5+j))=some u:=fun i y hy j u hj=>by
     obtain⟨b2,o2,e,_,hcc⟩:=hrp i y hy
     cases e
     have:=hO.1.cell (hcc j u hj)
     rw[addr_add,← Nat.add_assoc];exact this
    have HR:=hid hR
    clear hO hR hp0 hp1
    go_wp2_with (at_builtin;refine wpList_append_vs de_len (by decide) de_one rfl _ _ _ _ rfl i0 _ 48 Tryz.underlying22 hi hz0 hz1 hz2 rfl V _ ss rfl HO.out ⟨b,o,none⟩ pc ps ps.length rfl rfl HR.out (by omega) (by omega) ?_;intro v2 w2 hO2 _ _;obtain⟨a2,c2,rfl,hl2,hr2⟩:=hO2.row de_len de_one;obtain⟨b2,o2,rfl,_,_⟩:=hr2 0 s0 (by rw[List.getElem?_append_left h0];exact hs0);rw[List.length_append] at hO2 hl2)
    go_roundw
    case measure=>simp only[intOf];omega
    case rel=>exact⟨2,by omega,rfl,hO2,_,_,_,rfl,hl2⟩
   have hpl:ps.length=0:=by rw[hp0];rfl
   have HP0:=hid hp0
   have HPL:=hid hpl
   cases pa with
   | some ad =>
    clear hO hp0 hpl
    go_wp2_with (at_builtin;refine wpList_append_vs de_len (by decide) de_one rfl _ _ _ _ rfl i0 _ 48 Tryz.underlying22 hi hz0 hz1 hz2 rfl V _ ss rfl HO.out ad pc [] ps.length HPL.out.symm rfl (fun i y hy=>by simp at hy) (by simp only[List.length_nil];omega) (by simp only[List.length_nil];omega) ?_;rw[List.append_nil];intro v2 w2 hO2 _ _;obtain⟨a2,c2,rfl,hl2,hr2⟩:=hO2.row de_len de_one;obtain⟨b2,o2,rfl,_,_⟩:=hr2 0 s0 hs0)
    go_roundw
    case measure=>simp only[intOf];omega
    case rel=>exact⟨2,by omega,rfl,by show OwnDe _ _ _ (ss++ps);rw[HP0.out,List.append_nil];exact hO2,_,_,_,rfl,hl2⟩
   | none =>
   have hrun:=run_append_voidV (P:=Tryz.prog) wr 22 22 68 i0 Tryz.underlying22 hi ya yn yc ps.length pc hpl hyc
   have HRun:=hid hrun
   clear hO hrun hp0 hpl
   go_wp2_with (at_builtin;refine Lib.wpList_append_run _ rfl _ _ _ _ rfl _ _ rfl rfl _ _ HRun.out ?_)
   go_roundw
   case measure=>simp only[intOf];omega
   case rel=>exact⟨2,by omega,rfl,by show OwnDe _ _ _ (ss++ps);rw[HP0.out,List.append_nil];exact HO.out,_,_,_,rfl,hyc⟩
  | 2,_ =>
   simp only[if_neg (show ¬ (2:Nat)=0 by decide),if_neg (show ¬ (2:Nat)=1 by decide)] at hO
   have HO:=hid hO
   clear hO
   go_wp2
   go_ret
   exact⟨_,rfl,HO.out,HO.out.1⟩
end
end Go.Proofs.YteidgoldnllabaaGreatDoor
