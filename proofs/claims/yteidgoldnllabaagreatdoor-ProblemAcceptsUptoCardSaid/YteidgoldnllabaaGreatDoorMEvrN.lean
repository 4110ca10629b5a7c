/-
  Walks: tree.every at trees, with a function that changes what it holds.
-/
import Derived.Test.YteidgoldnllabaaGreatDoorMIdxX
import Derived.Shelf.Abstract
import Derived.RangeFuncNested
import Derived.RangeFuncBound
import Derived.RangeFuncCalls
import Derived.RangeFuncLeaves
import Derived.Shelf.RegionOpen
import Derived.OwnWalkIn
import Derived.TacticsInMore
import Derived.LoopNIn
import Derived.LoopIn
namespace Go.Proofs.YteidgoldnllabaaGreatDoor
open Go.RowKit
open Lib (hid)
section
open Go.RowKit Go.Sort
def SoX (P:Program) (g:FuncId) (cap:Array Value) (l:List Ex) (J R:Nat→World→Prop):Prop :=
 Enters P g∧∀ (k:Nat) (x:Ex),l[k]? = some x→∀ W,J k W→Calls P g (#[.agg #[.int .i64 x.kind,.int .i64 x.rn,.int .i64 x.rd,.string x.name,.int .i64 x.pw,.slice x.a x.l.length x.c]]++cap) W fun e W'=>(e=.returned (.bool true)∧J (k+1) W')∨(e=.returned (.bool false)∧R k W')
set_option maxHeartbeats 2000000 in
set_option maxRecDepth 20000 in
theorem every1_any (x:Ex) (g:FuncId) (cap:Array Value) (sb:Nat) (w:World) (Q:Ending→World→Prop) (hb:w.cell? ⟨sb,0,none⟩=some (.func (.func g) #[] cap)) (hE:Enters Tryz.prog g)
  (h:∀ W,Kp w W→Calls Tryz.prog g (#[.agg #[.int .i64 x.kind,.int .i64 x.rn,.int .i64 x.rd,.string x.name,.int .i64 x.pw,.slice x.a x.l.length x.c]]++cap) W fun e W'=>(e=.returned (.bool true)∧Q (.returned (.bool false)) W')∨(e=.returned (.bool false)∧Q (.returned (.bool true)) W')) :
  Calls Tryz.prog 259 #[.agg #[.int .i64 x.kind,.int .i64 x.rn,.int .i64 x.rd,.string x.name,.int .i64 x.pw,.slice x.a x.l.length x.c],.pointer (some ⟨sb,0,none⟩)] w Q:=by
 have k1:Kp w (w.alloc (.cells #[.int .i64 x.kind,.int .i64 x.rn,.int .i64 x.rd,.string x.name,.int .i64 x.pw,.slice x.a x.l.length x.c] 71)):=(Kp.refl w).alloc _
 have hS:((w.alloc (.cells #[.int .i64 x.kind,.int .i64 x.rn,.int .i64 x.rd,.string x.name,.int .i64 x.pw,.slice x.a x.l.length x.c] 71)).cell? ⟨w.heap.size,0,none⟩=some (.int .i64 x.kind)∧(w.alloc (.cells #[.int .i64 x.kind,.int .i64 x.rn,.int .i64 x.rd,.string x.name,.int .i64 x.pw,.slice x.a x.l.length x.c] 71)).cell? ⟨w.heap.size,1,none⟩=some (.int .i64 x.rn)∧(w.alloc (.cells #[.int .i64 x.kind,.int .i64 x.rn,.int .i64 x.rd,.string x.name,.int .i64 x.pw,.slice x.a x.l.length x.c] 71)).cell? ⟨w.heap.size,2,none⟩=some (.int .i64 x.rd)∧(w.alloc (.cells #[.int .i64 x.kind,.int .i64 x.rn,.int .i64 x.rd,.string x.name,.int .i64 x.pw,.slice x.a x.l.length x.c] 71)).cell? ⟨w.heap.size,3,none⟩=some (.string x.name)∧(w.alloc (.cells #[.int .i64 x.kind,.int .i64 x.rn,.int .i64 x.rd,.string x.name,.int .i64 x.pw,.slice x.a x.l.length x.c] 71)).cell? ⟨w.heap.size,4,none⟩=some (.int .i64 x.pw)∧(w.alloc (.cells #[.int .i64 x.kind,.int .i64 x.rn,.int .i64 x.rd,.string x.name,.int .i64 x.pw,.slice x.a x.l.length x.c] 71)).cell? ⟨w.heap.size,5,none⟩=some (.slice x.a x.l.length x.c)):=by simp
 have hgo:∀ args w,(callFunc g args).run Tryz.prog w=.ok (.enter g args) w:=hE
 go_enter Tryz.func259,Tryz.ntmps259
 go_upto_region 1 with fail
 generalize w.alloc _=W at *
 have hb1:=k1.cell hb
 have HX:=hid (h W k1)
 clear h hb k1
 obtain⟨q0,q1,q2,q3,q4,q5⟩:=hS
 go_wp2_with (refine HX.out.mono ?_;rintro e w2 (⟨rfl,hq⟩ | ⟨rfl,hq⟩))
 ·exact hq
 exact hq
set_option maxHeartbeats 2000000 in
set_option maxRecDepth 20000 in
theorem every_any (a:Option Addr) (l:List Ex) (c:Nat) (g:FuncId) (cap:Array Value) (w:World) (Q:Ending→World→Prop) (hm:l.length≤1100000)
  (h:∀ W sb,Kp w W→w.heap.size≤sb→W.heap[sb]? = some (.cells #[.func (.func g) #[] cap] 76 (0,0))→∃ (B:Nat) (J R:Nat→World→Prop),J 0 W ∧
   (∀ k W,J k W→RowX W B a l∧W.cell? ⟨sb,0,none⟩=some (.func (.func g) #[] cap))∧(∀ k W W',J k W→Kp W W'→J k W')∧SoX Tryz.prog g cap l J R ∧
   (∀ W,J l.length W→Q (.returned (.bool true)) W)∧∀ k W,R k W→Q (.returned (.bool false)) W) :
  Calls Tryz.prog 227 #[.slice a l.length c,.func (.func g) #[] cap] w Q:=by
 have H:=hid (h (w.alloc (.cells #[.func (.func g) #[] cap] 76)) w.heap.size ((Kp.refl w).alloc _) (Nat.le_refl _) (heap_alloc_new _ _))
 clear h
 go_enter Tryz.func227,Tryz.ntmps227
 go_upto_region 1 with fail
 generalize w.alloc _=W at *
 obtain⟨B,J,R,h0,hrow,hkp,hso,hT,hF⟩:=H.out
 have HC:=hid (containsX a l c B 259 #[.pointer (some ⟨w.heap.size,0,none⟩)] W J R hm (fun k W h=>(hrow k W h).1) h0
  ⟨fun _ _=>by kernel_rfl,fun k x hx W hW=>every1_any x g cap w.heap.size W _ (hrow k W hW).2 hso.1 fun W' k'=>(hso.2 k x hx W' (hkp k W W' hW k')).mono fun e W2 h=>h.elim
   (fun ⟨e1,h1⟩=>.inl ⟨e1,.inr ⟨rfl,h1⟩⟩) (fun ⟨e1,h1⟩=>.inr ⟨e1,.inl ⟨rfl,h1⟩⟩)⟩)
 have HT:=hid hT
 have HF:=hid hF
 clear H h0 hrow hkp hso hT hF
 go_wp2_with (go_at_call 91;go_fit HC.out;rintro r w2 (⟨rfl,k,hk,hr⟩ | ⟨rfl,hj⟩))
 ·exact HF.out _ _ hr
 exact HT.out _ hj
end
section
open Go.RowKit Go.Sort Go.Shelf
def CellsAt (W:World) (k:Nat):Prop:=∃ vs t fr,W.heap[k]? = some (.cells vs t fr)
theorem cellsAt_of {W:World} {b i:Nat} {v:Value} (h:W.cell? ⟨b,i,none⟩=some v):CellsAt W b:=by
 unfold World.cell? at h
 cases hb:W.heap[b]? with
 | none=>simp[hb] at h
 | some o =>
 cases o with
 | cells vs t fr=>exact⟨vs,t,fr,hb⟩
 | _=>simp[hb] at h
def CellKp (W W':World):Prop:=W.heap.size≤W'.heap.size∧∀ k,CellsAt W k→W'.heap[k]? = W.heap[k]?
structure Turf where
 X:World→Nat→Prop
 G:World→Prop
 lt:∀ W k,G W→X W k→k<W.heap.size
 kp':∀ W W',G W→CellKp W W'→G W'∧∀ k,X W' k→X W k
theorem CellsAt.lt {W:World} {k:Nat} (h:CellsAt W k):k<W.heap.size:=by
 obtain⟨_,_,_,h⟩:=h
 exact (Array.getElem?_eq_some_iff.1 h).1
theorem Kp.cells {W W':World} (k:Kp W W'):CellKp W W':=⟨k.size,fun j hj=>k.block j hj.lt⟩
theorem Turf.kp (T:Turf) (W W':World) (h:T.G W) (k:Kp W W'):T.G W'∧∀ j,T.X W' j→T.X W j:=T.kp' W W' h k.cells
structure Safe (T:Turf) (M:Nat→Prop) (W:World):Prop where
 g:T.G W
 cells:∀ k,M k→CellsAt W k
 off:∀ k,M k→¬ T.X W k
def Grown (T:Turf) (M:Nat→Prop) (W W':World):Prop:=Safe T M W'∧∀ k,M k→W'.heap[k]? = W.heap[k]?
def KpT (T:Turf) (W W':World):Prop:=∀ M,Safe T M W→Grown T M W W'
theorem Grown.refl {T:Turf} {M:Nat→Prop} {W:World} (h:Safe T M W):Grown T M W W:=⟨h,fun _ _=>rfl⟩
theorem Grown.trans {T:Turf} {M:Nat→Prop} {A B C:World} (h:Grown T M A B) (k:Grown T M B C):Grown T M A C:=⟨k.1,fun j hj=>(k.2 j hj).trans (h.2 j hj)⟩
theorem Safe.mono {T:Turf} {M M':Nat→Prop} {W:World} (h:Safe T M' W) (hm:∀ k,M k→M' k):Safe T M W:=⟨h.g,fun k hk=>h.cells k (hm k hk),fun k hk=>h.off k (hm k hk)⟩
theorem Grown.mono {T:Turf} {M M':Nat→Prop} {W W':World} (h:Grown T M' W W') (hm:∀ k,M k→M' k):Grown T M W W':=⟨h.1.mono hm,fun k hk=>h.2 k (hm k hk)⟩
theorem KpT.trans {T:Turf} {A B C:World} (h:KpT T A B) (k:KpT T B C):KpT T A C:=fun M hM=>(h M hM).trans (k M (h M hM).1)
theorem CellsAt.same {W W':World} {k:Nat} (h:CellsAt W k) (e:W'.heap[k]? = W.heap[k]?):CellsAt W' k:=by
 obtain⟨a,b,c,h⟩:=h
 exact⟨a,b,c,e.trans h⟩
theorem Safe.kp {T:Turf} {M:Nat→Prop} {W W':World} (h:Safe T M W) (k:Kp W W'):Grown T M W W':=by
 have e:∀ j,M j→W'.heap[j]? = W.heap[j]?:=fun j hj=>k.block j (h.cells j hj).lt
 exact⟨⟨(T.kp W W' h.g k).1,fun j hj=>(h.cells j hj).same (e j hj),fun j hj hx=>h.off j hj ((T.kp W W' h.g k).2 j hx)⟩,e⟩
theorem Safe.cellKp {T:Turf} {M:Nat→Prop} {W W':World} (h:Safe T M W) (k:CellKp W W'):Grown T M W W':=by
 have e:∀ j,M j→W'.heap[j]? = W.heap[j]?:=fun j hj=>k.2 j (h.cells j hj)
 exact⟨⟨(T.kp' W W' h.g k).1,fun j hj=>(h.cells j hj).same (e j hj),fun j hj hx=>h.off j hj ((T.kp' W W' h.g k).2 j hx)⟩,e⟩
theorem kpT_put {T:Turf} (W:World) (l:Nat) (o o':Obj) (hl:W.heap[l]? = some o) (ho:o.isCells=false):KpT T W (W.putObj l o'):=fun _ h =>
 h.cellKp ⟨by simp,fun k hk=>World.putObj_heap_other (fun e=>by
  subst e
  obtain⟨vs,t,fr,hc⟩:=hk
  rw[hl] at hc
  cases hc
  cases ho)⟩
theorem kpT_of {T:Turf} {W W':World} (_hs:W.heap.size≤W'.heap.size) (hc:∀ k,CellsAt W k→¬ T.X W k→W'.heap[k]? = W.heap[k]?) (hG:T.G W→T.G W') (hX:T.G W→∀ k,T.X W' k→T.X W k∨W.heap.size≤k):KpT T W W':=fun M h=>by
 have e:∀ j,M j→W'.heap[j]? = W.heap[j]?:=fun j hj=>hc j (h.cells j hj) (h.off j hj)
 refine⟨⟨hG h.g,fun j hj=>(h.cells j hj).same (e j hj),fun j hj hx=>?_⟩,e⟩
 rcases hX h.g j hx with h1 | h1
 ·exact h.off j hj h1
 ·have:=(h.cells j hj).lt;omega
theorem Kp.kpT {T:Turf} {W W':World} (k:Kp W W'):KpT T W W':=fun _ h=>h.kp k
theorem Safe.add {T:Turf} {M:Nat→Prop} {W W':World} (h:Safe T M W) (k:Kp W W') (N:Nat→Prop) (hN:∀ j,N j→W.heap.size≤j∧CellsAt W' j):Safe T (fun j=>M j∨N j) W':=by
 have h1:=(h.kp k).1
 refine⟨h1.g,fun j hj=>hj.elim (h1.cells j) fun hn=>(hN j hn).2,fun j hj=>hj.elim (h1.off j) fun hn hx=>?_⟩
 have:=T.lt W j h.g ((T.kp W W' h.g k).2 j hx)
 have:=(hN j hn).1
 omega
mutual
def Ex.inM (M:Nat→Prop):Ex→Prop | .mk _ _ _ _ _ a _ l=>(l=[]∨∃ b,a=some ⟨b,0,none⟩∧M b)∧Ex.inML M l
def Ex.inML (M:Nat→Prop):List Ex→Prop | []=>True | x::t=>x.inM M∧Ex.inML M t
end
theorem Ex.inML_iff {M:Nat→Prop} {l:List Ex}:Ex.inML M l↔∀ x∈l,x.inM M:=by
 induction l with
 | nil=>rw[Ex.inML];simp
 | cons x t ih =>
  rw[Ex.inML,ih]
  exact⟨fun h y hy=>(List.mem_cons.1 hy).elim (fun e=>e▸h.1) (h.2 y),fun h=>⟨h x (.head _),fun y hy=>h y (.tail _ hy)⟩⟩
theorem Ex.inM_iff {M:Nat→Prop} {e:Ex}:e.inM M↔(e.l=[]∨∃ b,e.a=some ⟨b,0,none⟩∧M b)∧∀ x∈e.l,x.inM M:=by
 cases e;rw[Ex.inM,Ex.inML_iff];exact Iff.rfl
theorem Ex.inM_mono {M M':Nat→Prop} (hm:∀ k,M k→M' k):∀ e:Ex,e.inM M→e.inM M':=by
 refine Ex.ind fun e ih h=>?_
 obtain⟨h1,h2⟩:=Ex.inM_iff.1 h
 exact Ex.inM_iff.2 ⟨h1.imp id fun ⟨b,e1,hb⟩=>⟨b,e1,hm b hb⟩,fun x hx=>ih x hx (h2 x hx)⟩
theorem cell_same {W W':World} {b:Nat} (h:W'.heap[b]? = W.heap[b]?) (i:Nat):W'.cell? ⟨b,i,none⟩=W.cell? ⟨b,i,none⟩:=by
 unfold World.cell?
 simp only[h]
theorem rowX_same {W W':World} {B:Nat} {l:List Ex} {a:Option Addr} (h:RowX W B a l) (ha:l=[]∨∃ b,a=some ⟨b,0,none⟩∧W'.heap[b]? = W.heap[b]?):RowX W' B a l:=by
 intro i x hx
 rcases ha with e | ⟨b,e,hb⟩
 ·rw[e] at hx;simp at hx
 obtain⟨b',o,e1,h0,c0,c1,c2,c3,c4,c5⟩:=h i x hx
 rw[e] at e1
 cases e1
 exact⟨b,0,e,h0,(cell_same hb _).trans c0,(cell_same hb _).trans c1,(cell_same hb _).trans c2,(cell_same hb _).trans c3,(cell_same hb _).trans c4,(cell_same hb _).trans c5⟩
theorem Ex.at_inM {M:Nat→Prop} {W W':World} {B:Nat} (hs:∀ k,M k→W'.heap[k]? = W.heap[k]?):∀ e:Ex,e.inM M→e.at W B→e.at W' B:=by
 refine Ex.ind fun e ih h hat=>?_
 obtain⟨h1,h2⟩:=Ex.inM_iff.1 h
 obtain⟨a1,a2,a3⟩:=Ex.at_iff.1 hat
 exact Ex.at_iff.2 ⟨a1,rowX_same a2 (h1.imp id fun ⟨b,e1,hb⟩=>⟨b,e1,hs b hb⟩),fun x hx=>ih x hx (h2 x hx) (a3 x hx)⟩
theorem inM_own {w:World} {B:Nat}:∀ (e:Ex) (lo hi:Nat),e.own w lo hi→e.at w B→e.inM (fun k=>lo≤k∧CellsAt w k):=by
 refine Ex.ind fun e ih lo hi ho hat=>?_
 obtain⟨_,ho2⟩:=Ex.own_iff.1 ho
 obtain⟨a1,a2,a3⟩:=Ex.at_iff.1 hat
 rcases ho2 with he | ⟨b,ha,hb,_,hL⟩
 ·exact Ex.inM_iff.2 ⟨.inl he,fun x hx=>by rw[he] at hx;cases hx⟩
 refine Ex.inM_iff.2 ⟨?_,fun x hx=>?_⟩
 ·cases hl:e.l with
  | nil=>exact .inl rfl
  | cons x t =>
  obtain⟨b',o,e1,_,c0,_⟩:=a2 0 x (by rw[hl];rfl)
  rw[ha] at e1
  cases e1
  exact .inr ⟨b,ha,hb,cellsAt_of c0⟩
 obtain⟨lo',hi',q1,q2,q3⟩:=ownL_mem hL hx
 exact Ex.inM_mono (fun k hk=>⟨by omega,hk.2⟩) x (ih x hx lo' hi' q3 (a3 x hx))
theorem grown_none {W W':World} (k:Kp W W'):W.grownBy W' none:=⟨k.os,k.tape,k.output,k.size,fun j hj _=>k.block j hj⟩
theorem abides_kp {β:Type} {B:Nat} {J:β→World→Prop} (h:AbidesFrom B J) {s:β} {W W':World} (hj:J s W) (k:Kp W W'):J s W':=h s W W' none hj (grown_none k) (fun r e=>by cases e)
end
section
open Go.RowKit Go.Sort Go.Shelf
attribute [local go_sem] Oper.semAt_some
def WalkOut (T:Turf) (M:Nat→Prop) (J Jx:List Ex→World→Prop) (pre ys:List Ex) (W:World) (r:Ending) (W':World):Prop :=
 (r=.returned (.bool true)∧J (pre++ys) W'∧Grown T M W W')∨(r=.returned (.bool false)∧∃ q,q <+: ys∧Jx (pre++q) W')
def WalkAt (l N _B0:Nat) (T:Turf) (J Jx:List Ex→World→Prop) (e:Ex):Prop :=
 ∀ (pre:List Ex) (W:World) (M:Nat→Prop) (B:Nat),e.at W B→e.inM M→Safe T M W→J pre W→pre.length+e.size≤N →
  Calls Tryz.prog 193 #[.agg #[.int .i64 e.kind,.int .i64 e.rn,.int .i64 e.rd,.string e.name,.int .i64 e.pw,.slice e.a e.l.length e.c],.func (.yield l) #[] #[]] W (WalkOut T M J Jx pre e.flat W)
set_option maxHeartbeats 2000000 in
set_option maxRecDepth 20000 in
theorem walk1_any (l N B0:Nat) (T:Turf) (J Jx:List Ex→World→Prop) (hJ:AbidesFrom B0 J) (x:Ex) (hx:WalkAt l N B0 T J Jx x) (pre:List Ex) (W:World) (M:Nat→Prop) (B yb:Nat) (hat:x.at W B) (hin:x.inM M) (hs:Safe T M W) (h0:J pre W) (hN:pre.length+x.size≤N)
  (hy:W.cell? ⟨yb,0,none⟩=some (.func (.yield l) #[] #[])) :
  Calls Tryz.prog 228 #[.agg #[.int .i64 x.kind,.int .i64 x.rn,.int .i64 x.rd,.string x.name,.int .i64 x.pw,.slice x.a x.l.length x.c],.pointer (some ⟨yb,0,none⟩)] W (WalkOut T M J Jx pre x.flat W):=by
 have k1:Kp W (W.alloc (.cells #[.int .i64 x.kind,.int .i64 x.rn,.int .i64 x.rd,.string x.name,.int .i64 x.pw,.slice x.a x.l.length x.c] 71)):=(Kp.refl W).alloc _
 have hS:((W.alloc (.cells #[.int .i64 x.kind,.int .i64 x.rn,.int .i64 x.rd,.string x.name,.int .i64 x.pw,.slice x.a x.l.length x.c] 71)).cell? ⟨W.heap.size,0,none⟩=some (.int .i64 x.kind)∧(W.alloc (.cells #[.int .i64 x.kind,.int .i64 x.rn,.int .i64 x.rd,.string x.name,.int .i64 x.pw,.slice x.a x.l.length x.c] 71)).cell? ⟨W.heap.size,1,none⟩=some (.int .i64 x.rn)∧(W.alloc (.cells #[.int .i64 x.kind,.int .i64 x.rn,.int .i64 x.rd,.string x.name,.int .i64 x.pw,.slice x.a x.l.length x.c] 71)).cell? ⟨W.heap.size,2,none⟩=some (.int .i64 x.rd)∧(W.alloc (.cells #[.int .i64 x.kind,.int .i64 x.rn,.int .i64 x.rd,.string x.name,.int .i64 x.pw,.slice x.a x.l.length x.c] 71)).cell? ⟨W.heap.size,3,none⟩=some (.string x.name)∧(W.alloc (.cells #[.int .i64 x.kind,.int .i64 x.rn,.int .i64 x.rd,.string x.name,.int .i64 x.pw,.slice x.a x.l.length x.c] 71)).cell? ⟨W.heap.size,4,none⟩=some (.int .i64 x.pw)∧(W.alloc (.cells #[.int .i64 x.kind,.int .i64 x.rn,.int .i64 x.rd,.string x.name,.int .i64 x.pw,.slice x.a x.l.length x.c] 71)).cell? ⟨W.heap.size,5,none⟩=some (.slice x.a x.l.length x.c)):=by simp
 go_enter Tryz.func228,Tryz.ntmps228
 go_upto_region 1 with fail
 generalize W.alloc _=V at *
 have HW:=hid (hx pre V M B (Ex.at_kp hat k1) hin (hs.kp k1).1 (abides_kp hJ h0 k1) hN)
 have HG:=hid (hs.kp k1)
 have y1:=k1.cell hy
 clear hx hat hin hs h0 k1 hy hJ
 obtain⟨q0,q1,q2,q3,q4,q5⟩:=hS
 go_wp2_with (go_at_call 193;go_fit HW.out;rintro r w2 (⟨rfl,h1,h2⟩ | ⟨rfl,h1⟩))
 ·go_ret
  exact .inl ⟨rfl,h1,HG.out.trans h2⟩
 go_ret
 exact .inr ⟨rfl,h1⟩
theorem flatL_take {l:List Ex} {k:Nat} {x:Ex} (hx:l[k]? = some x):Ex.flatL (l.take (k+1))=Ex.flatL (l.take k)++x.flat:=by
 rw[List.take_add_one,hx]
 have key:∀ t:List Ex,Ex.flatL (t++[x])=Ex.flatL t++x.flat:=by
  intro t
  induction t with
  | nil=>rw[List.nil_append,Ex.flatL_cons,Ex.flatL_nil,List.append_nil,List.nil_append]
  | cons y t ih=>rw[List.cons_append,Ex.flatL_cons,Ex.flatL_cons,ih,List.append_assoc]
 exact key _
theorem flatL_split {l:List Ex} {k:Nat} {x:Ex} (hx:l[k]? = some x):Ex.flatL l=Ex.flatL (l.take k)++(x.flat++Ex.flatL (l.drop (k+1))):=by
 have key:∀ (t u:List Ex),Ex.flatL (t++u)=Ex.flatL t++Ex.flatL u:=by
  intro t u
  induction t with
  | nil=>rw[List.nil_append,Ex.flatL_nil,List.nil_append]
  | cons y t ih=>rw[List.cons_append,Ex.flatL_cons,Ex.flatL_cons,ih,List.append_assoc]
 obtain⟨hk,hx⟩:=List.getElem?_eq_some_iff.1 hx
 conv=>lhs;rw[← List.take_append_drop k l,List.drop_eq_getElem_cons hk,hx]
 rw[key,Ex.flatL_cons]
theorem every_walk (l N B0:Nat) (T:Turf) (J Jx:List Ex→World→Prop) (e:Ex) (pre:List Ex) (W1 w2:World) (M:Nat→Prop) (B b0:Nat) (hat:e.at W1 B) (hin:e.inM M)
  (hM1:Safe T (fun j=>M j∨(j=b0∨j=b0+1)) W1) (hN:pre.length+e.size≤N) (hY1:W1.cell? ⟨b0+1,0,none⟩=some (.func (.yield l) #[] #[])) (hJ:AbidesFrom B0 J)
  (ih:∀ x∈e.l,WalkAt l N B0 T J Jx x) (hj2:J (pre++[e]) w2) (hk2:KpT T W1 w2) :
  Calls Tryz.prog 227 #[.slice e.a e.l.length e.c,.func (.func 228) #[] #[.pointer (some ⟨b0+1,0,none⟩)]] w2 fun r W' =>
   (r=.returned (.bool true)∧J (pre++e.flat) W'∧Grown T M W1 W')∨(r=.returned (.bool false)∧∃ q,q <+: e.flat∧Jx (pre++q) W'):=by
 obtain⟨⟨_,_,_,hl⟩,hrow,hch⟩:=Ex.at_iff.1 hat
 obtain⟨hin1,hin2⟩:=Ex.inM_iff.1 hin
 have g12:=hk2 _ hM1
 refine every_any e.a e.l e.c 228 #[.pointer (some ⟨b0+1,0,none⟩)] w2 _ (by omega) fun W3 sb k3 hsb hbox=>?_
 have hcb:CellsAt W3 sb:=⟨_,_,_,hbox⟩
 have hM3:Safe T (fun j=>(M j∨(j=b0∨j=b0+1))∨j=sb) W3:=g12.1.add k3 (fun j=>j=sb) fun j hj=>by subst hj;exact⟨hsb,hcb⟩
 have g13:Grown T (fun j=>M j∨(j=b0∨j=b0+1)) W1 W3:=g12.trans (g12.1.kp k3)
 have hJ3:J (pre++[e]) W3:=abides_kp hJ hj2 k3
 refine⟨B,fun k W=>J (pre++[e]++Ex.flatL (e.l.take k)) W∧Grown T (fun j=>(M j∨(j=b0∨j=b0+1))∨j=sb) W3 W,fun k W=>∃ q,q <+: e.flat∧Jx (pre++q) W,
  ⟨by rw[List.take_zero,Ex.flatL_nil,List.append_nil];exact hJ3,.refl hM3⟩,fun k W h=>⟨?_,?_⟩,fun k W W' h k'=>⟨abides_kp hJ h.1 k',h.2.trans (h.2.1.kp k')⟩,⟨fun _ _=>by kernel_rfl,fun k x hx W h=>?_⟩,fun W h=>.inl ⟨rfl,?_,?_⟩,fun k W h=>.inr ⟨rfl,h⟩⟩
 ·refine rowX_same hrow (hin1.imp id fun ⟨b,e1,hb⟩=>⟨b,e1,?_⟩)
  exact (h.2.2 b (.inl (.inl hb))).trans (g13.2 b (.inl hb))
 ·rw[cell_same (h.2.2 sb (.inr rfl)) 0]
  simp[World.cell?,hbox]
 ·have hxm:=List.mem_of_getElem? hx
  have hsp:=flatL_split hx
  have hlen:(Ex.flatL (e.l.take k)).length+x.size≤Ex.sizeL e.l:=by
   have h1:=flatL_len (l:=e.l) fun y _=>y.flat_len
   rw[hsp,List.length_append,List.length_append,x.flat_len] at h1
   omega
  have hsame:∀ j,M j→W.heap[j]? = W1.heap[j]?:=fun j hj=>(h.2.2 j (.inl (.inl hj))).trans (g13.2 j (.inl hj))
  have hy:W.cell? ⟨b0+1,0,none⟩=some (.func (.yield l) #[] #[]):=by
   rw[cell_same ((h.2.2 (b0+1) (.inl (.inr (.inr rfl)))).trans (g13.2 (b0+1) (.inr (.inr rfl)))) 0];exact hY1
  refine (walk1_any l N B0 T J Jx hJ x (ih x hxm) (pre++[e]++Ex.flatL (e.l.take k)) W (fun j=>(M j∨(j=b0∨j=b0+1))∨j=sb) B (b0+1) (Ex.at_inM hsame x (hin2 x hxm) (hch x hxm)) (Ex.inM_mono (fun j hj=>.inl (.inl hj)) x (hin2 x hxm)) h.2.1 h.1 ?_ hy).mono ?_
  ·have:=e.size_eq
   simp only[List.length_append,List.length_cons,List.length_nil]
   omega
  rintro r W' (⟨rfl,h1,h2⟩ | ⟨rfl,q,hq,h1⟩)
  ·refine .inl ⟨rfl,?_,h.2.trans h2⟩
   rw[flatL_take hx,← List.append_assoc];exact h1
  refine .inr ⟨rfl,[e]++Ex.flatL (e.l.take k)++q,?_,by simpa [List.append_assoc] using h1⟩
  obtain⟨t,ht⟩:=hq
  refine⟨t++Ex.flatL (e.l.drop (k+1)),?_⟩
  rw[e.flat_eq,hsp,← ht]
  simp
 ·have h1:=h.1
  rw[List.take_length] at h1
  rw[e.flat_eq]
  simpa [List.append_assoc] using h1
 exact (g13.mono fun j hj=>.inl hj).trans (h.2.mono fun j hj=>.inl (.inl hj))
set_option maxHeartbeats 4000000 in
set_option maxRecDepth 20000 in
theorem walk_any (n l N B0:Nat) (T:Turf) (J Jx:List Ex→World→Prop) (hJ:AbidesFrom B0 J)
  (hY:∀ m pre x W,J pre W→pre.length<N→YieldAt Fence.wide m Tryz.prog l #[.agg #[.int .i64 x.kind,.int .i64 x.rn,.int .i64 x.rd,.string x.name,.int .i64 x.pw,.slice x.a x.l.length x.c]] W fun e W'=>(e=.returned (.bool true)∧J (pre++[x]) W'∧KpT T W W')∨(e=.returned (.bool false)∧Jx (pre++[x]) W')) :
  ∀ e:Ex,WalkAt l N B0 T J Jx e:=by
 refine Ex.ind fun e ih pre w M B hat hin hsafe h0 hN=>?_
 have k1:Kp w ((w.alloc (.cells #[.int .i64 e.kind,.int .i64 e.rn,.int .i64 e.rd,.string e.name,.int .i64 e.pw,.slice e.a e.l.length e.c] 71)).alloc (.cells #[.func (.yield l) #[] #[]] 76)):=((Kp.refl w).alloc _).alloc _
 have hB1:BoxX ((w.alloc (.cells #[.int .i64 e.kind,.int .i64 e.rn,.int .i64 e.rd,.string e.name,.int .i64 e.pw,.slice e.a e.l.length e.c] 71)).alloc (.cells #[.func (.yield l) #[] #[]] 76)) w.heap.size e:=(BoxX.new w e _ rfl).kp ((Kp.refl _).alloc _)
 have hY1:((w.alloc (.cells #[.int .i64 e.kind,.int .i64 e.rn,.int .i64 e.rd,.string e.name,.int .i64 e.pw,.slice e.a e.l.length e.c] 71)).alloc (.cells #[.func (.yield l) #[] #[]] 76)).cell? ⟨w.heap.size+1,0,none⟩=some (.func (.yield l) #[] #[]):=new_cell _ _ _ _ (by simp)
 have hdd:∀ k:Nat,(Fence.wide.depth.isSome=true→1≤k):=fun k h=>by cases h
 refine (callsIn_wide (n:=n)).1 ?_
 refine callsIn_of_wp Tryz.func193 rfl trivial ?_ rfl
 simp only[Tryz.ntmps193,List.size_toArray,List.length_cons,List.length_nil,Nat.reduceAdd,Nat.reduceSub,Array.replicate_succ,Array.replicate_zero,List.push_toArray,List.append_toArray,List.nil_append,List.cons_append]
 generalize hW1:(w.alloc (.cells #[.int .i64 e.kind,.int .i64 e.rn,.int .i64 e.rd,.string e.name,.int .i64 e.pw,.slice e.a e.l.length e.c] 71)).alloc (.cells #[.func (.yield l) #[] #[]] 76)=W1 at *
 obtain⟨fn,tmps,assign,body,hy,hR⟩:=hY (n-1) pre e W1 (abides_kp hJ h0 k1) (by have:=e.size_pos;omega)
 have HS1:=hid (hsafe.kp k1)
 have HM1:=hid (hsafe.add k1 (fun j=>j=w.heap.size∨j=w.heap.size+1) (fun j hj=>hj.elim (fun h=>by subst h;exact⟨Nat.le_refl _,cellsAt_of hB1.1.1⟩) (fun h=>by subst h;exact⟨by omega,cellsAt_of hY1⟩)))
 have HA:=hid (Ex.at_kp hat k1)
 have HIN:=hid hin
 have HI:=hid ih
 have HJ:=hid hJ
 have HN:=hid hN
 have HB1:=hid hB1
 have HY1:=hid hY1
 obtain⟨⟨q0,q1,q2,q3,q4,q5⟩,_⟩:=hB1
 clear hsafe hat hin ih hJ h0 hN hY k1
 have HE:=hid fun (w2:World) (hj2:J (pre++[e]) w2) (hk2:KpT T W1 w2)=>every_walk l N B0 T J Jx e pre W1 w2 M B w.heap.size HA.out HIN.out HM1.out HN.out HY1.out HJ.out HI.out hj2 hk2
 subst hW1
 gi_wp2_with (first
  | ((try refine⟨hdd _,?_⟩);refine hR.mono ?_;clear hR;rintro r w2 (⟨rfl,hj2,hk2⟩ | ⟨rfl,hx2⟩) <;> (try have q52:=(cell_same ((hk2 _ HM1.out).2 _ (.inr (.inl rfl))) 5).trans q5))
  | fail)
 ·refine⟨trivial,hdd _,?_⟩
  refine (callsIn_wide.2 (HE.out _ hj2 hk2)).mono ?_
  rintro r w3 (⟨rfl,h1,h2⟩ | ⟨rfl,h1⟩)
  ·gi_wp2
   go_ret
   exact .inl ⟨rfl,h1,HS1.out.trans h2⟩
  gi_wp2
  go_ret
  exact .inr ⟨rfl,h1⟩
 refine⟨trivial,?_⟩
 gi_wp2
 go_ret
 exact .inr ⟨rfl,[e],by rw[Ex.flat_eq];exact⟨_,rfl⟩,hx2⟩
end
section
open Go.RowKit Go.Sort Go.Shelf
attribute [local go_sem] Oper.semAt_some
theorem Ex.er_flat:∀ e:Ex,e.er.flat=e.flat.map Ex.er:=by
 refine Ex.ind fun e ih=>?_
 rw[Ex.flat_eq,e.flat_eq,Ex.er_l,List.map_cons]
 congr 1
 have key:∀ l:List Ex,(∀ x∈l,x.er.flat=x.flat.map Ex.er)→Ex.flatL (l.map Ex.er)=(Ex.flatL l).map Ex.er:=by
  intro l
  induction l with
  | nil=>intro _;rw[List.map_nil,Ex.flatL_nil];rfl
  | cons x t iht=>intro h;rw[List.map_cons,Ex.flatL_cons,Ex.flatL_cons,List.map_append,h x (.head _),iht fun y hy=>h y (.tail _ hy)]
 exact key e.l ih
theorem flat_er {x y:Ex} (h:x.er=y.er):x.flat.map Ex.er=y.flat.map Ex.er:=by rw[← x.er_flat,← y.er_flat,h]
def flatE (e:Ex):List Ex:=if e.ok=true then e.flat.map Ex.er else []
theorem flatE_len {e:Ex} (h:e.ok=true):(flatE e).length=e.size:=by unfold flatE;rw[if_pos h,List.length_map,e.flat_len]
theorem ok_size {e:Ex} (h:e.ok=true):e.size≤200:=by
 unfold Ex.ok at h
 simp only[Bool.and_eq_true,decide_eq_true_eq] at h
 exact h.2.2
theorem flatE_le (e:Ex):(flatE e).length≤200:=by
 by_cases h:e.ok=true
 ·rw[flatE_len h];exact ok_size h
 unfold flatE;rw[if_neg h];exact Nat.zero_le _
theorem roomW {F:Fence} (hd:F.depth=none) (k:Nat):F.room k:=fun d h=>by rw[hd] at h;cases h
theorem yieldAny {m:Nat} (m':Nat) {P:Program} {l:Nat} {args:Array Value} {W:World} {R:Ending→World→Prop} (h:YieldAt Fence.wide m P l args W R):YieldAt Fence.wide m' P l args W R:=by
 obtain⟨fn,tmps,assign,body,hy,hR⟩:=h
 exact⟨fn,tmps,assign,body,hy,hR.1,fun c cs _=>hR.2 c cs (roomW rfl _)⟩
theorem safe_clone {T:Turf} {W w2 w3:World} {e e':Ex} (hG:T.G W) (k2:Kp W w2) (k3:Kp w2 w3) (he:e'.er=e.er) (hm:e'.made w2 w3):∃ M,Safe T M w3∧e'.inM M∧([]:List Ex).length+e'.size≤e.size:=by
 have hs0:Safe T (fun _=>False) w2:=⟨(T.kp _ _ hG k2).1,fun _ h=>h.elim,fun _ h=>h.elim⟩
 refine⟨_,hs0.add k3 (fun k=>w2.heap.size≤k∧CellsAt w3 k) (fun _ h=>h),Ex.inM_mono (fun _ h=>Or.inr h) e' (inM_own e' _ _ hm.2 hm.1),?_⟩
 rw[← e'.er_size,he,e.er_size,List.length_nil]
 omega
set_option maxHeartbeats 2000000 in
set_option maxRecDepth 20000 in
theorem walkc_stops (n:Nat) (e:Ex) (eb B:Nat) (w:World) (T:Turf) (hG:T.G w) (hat:e.at w B) (hB:B≤w.heap.size) (hb:BoxX w eb e) :
  SeqStopsK Fence.wide n Tryz.prog 192 #[.pointer (some ⟨eb,0,none⟩)] (fun x:Ex=>#[.agg #[.int .i64 x.kind,.int .i64 x.rn,.int .i64 x.rd,.string x.name,.int .i64 x.pw,.slice x.a x.l.length x.c]]) (KpT T) (fun xs=>xs.map Ex.er=flatE e) (fun pre=>pre.map Ex.er <+: flatE e) (flatE e).length w:=fun l J Jx W hW hJ hJx hY h0=>by
 refine callsIn_wide.2 ?_
 show Calls Tryz.prog 192 #[.func (.yield l) #[] #[],.pointer (some ⟨eb,0,none⟩)] W _
 have kW:Kp w W:=hW
 have hat1:=Ex.at_kp hat kW
 have hB1:=Nat.le_trans hB kW.size
 have hbW:=hb.kp kW
 have HGW:=hid (T.kp w W hG kW).1
 have HV:=hid (tvalid_any e B W hat1 hB1)
 have HC:=hid fun W' (k:Kp W W')=>clone_anyT e B W' (Ex.at_kp hat1 k) (Nat.le_trans hB1 k.size)
 have HF:=hid (show flatE e=_ from rfl)
 have HJ:=hid hJ
 have H0:=hid h0
 have HB:=hid hbW
 obtain⟨⟨q0,q1,q2,q3,q4,q5⟩,_⟩:=hbW
 have HY:=hid hY
 clear hY hJx hJ h0 hat1 hat hb hG kW hW
 rcases Bool.eq_false_or_eq_true e.ok with h1 | h1
 ·rw[h1] at HV
  have H1:=hid h1
  have HWk:=hid (walk_any n l e.size W.heap.size T J Jx HJ.out fun m pre x W1 hj hl=>yieldAny m (HY.out pre x W1 hj (by rw[flatE_len h1];exact hl)))
  clear h1 HY
  go_enter Tryz.func192,Tryz.ntmps192
  go_wp2_with (first
   | (go_at_call 93;go_fit HV.out;rintro r w2 ⟨rfl,k2⟩;obtain⟨⟨t0,t1,t2,t3,t4,t5⟩,_⟩:=HB.out.kp k2)
   | (go_at_call 158;go_loud (go_fit (HC.out _ k2);rintro r w3 ⟨e',rfl,he,k3,hm⟩;obtain⟨M,hs,hin,hsz⟩:=safe_clone HGW.out k2 k3 he hm))
   | (go_at_call 193;go_fit (HWk.out e' [] w3 M _ hm.1 hin hs (abides_kp HJ.out H0.out (k2.trans k3)) (hsz));rintro r w4 (⟨rfl,g1,g2⟩ | ⟨rfl,q,g1,g2⟩))
   | fail)
  ·go_end0
   exact⟨⟨_,rfl⟩,.inl ⟨e'.flat,by unfold flatE;rw[if_pos H1.out];exact flat_er he,by simpa using g1⟩⟩
  ·go_end0
   refine⟨⟨_,rfl⟩,.inr ⟨q,?_,by simpa using g2⟩⟩
   unfold flatE
   rw[if_pos H1.out,← flat_er he]
   exact g1.map Ex.er
 ·rw[h1] at HV
  have H1:=hid h1
  clear h1 HC HY
  go_enter Tryz.func192,Tryz.ntmps192
  go_wp2_with (go_at_call 93;go_fit HV.out;rintro r w2 ⟨rfl,k2⟩)
  go_end0
  exact⟨⟨_,rfl⟩,.inl ⟨[],by unfold flatE;rw[if_neg (by rw[H1.out];decide)];rfl,abides_kp HJ.out H0.out k2⟩⟩
set_option maxHeartbeats 1000000 in
theorem twalk_any (e:Ex) (w:World):Calls Tryz.prog 148 #[.agg #[.int .i64 e.kind,.int .i64 e.rn,.int .i64 e.rd,.string e.name,.int .i64 e.pw,.slice e.a e.l.length e.c]] w fun r w'=>r=.returned (.func (.func 192) #[] #[.pointer (some ⟨w.heap.size,0,none⟩)])∧w'=w.alloc (.cells #[.int .i64 e.kind,.int .i64 e.rn,.int .i64 e.rd,.string e.name,.int .i64 e.pw,.slice e.a e.l.length e.c] 71):=by
 go_enter Tryz.func148,Tryz.ntmps148
 go_wp2_with fail
 go_ret
 exact⟨rfl,rfl⟩
end
section
open Go.RowKit Go.Sort Go.Shelf
attribute [local go_sem] Oper.semAt_some
end
section
open Go.RowKit Go.Sort Go.Shelf
attribute [local go_sem] Oper.semAt_some
theorem boxX_kept {W W':World} {row:Option Nat} {g:Nat} {x:Ex} (h:BoxX W g x) (hg:W.grownBy W' row) (hrow:∀ r,row=some r→∃ o:Obj,W.heap[r]? = some o∧o.isCells=false):BoxX W' g x:=by
 obtain⟨⟨q0,q1,q2,q3,q4,q5⟩,hf,hl⟩:=h
 obtain⟨o,ho,hc⟩:=cells_of_cell q0
 have he:=grownBy_keeps_cells hg hrow ho hc
 exact⟨⟨cell_kept q0 hg hrow,cell_kept q1 hg hrow,cell_kept q2 hg hrow,cell_kept q3 hg hrow,cell_kept q4 hg hrow,cell_kept q5 hg hrow⟩,fun i=>(World.frozen?_of_block (a:=⟨g,i,none⟩) he).trans (hf i),Nat.lt_of_lt_of_le hl hg.size⟩
end
section
open Go.RowKit Go.Sort
theorem strNe {s t:ByteArray} (h:s≠t):(s.toList==t.toList)=false:=beq_eq_false_iff_ne.2 fun e=>h (by
 rw[ByteArray.toList_eq,ByteArray.toList_eq] at e
 exact Go.WideShapes.bytes_inj e)
end
section
open Go.RowKit Go.Sort
end
section
open Go.RowKit Go.Sort
def RowS (w:World) (a:Option Addr) (ss:List ByteArray):Prop:=∀ (i:Nat) (s:ByteArray),ss[i]? = some s→∃ b o,a=some ⟨b,o,none⟩∧w.cell? ⟨b,o+i,none⟩=some (.string s)
theorem RowS.kp {w w':World} {a:Option Addr} {ss:List ByteArray} (h:RowS w a ss) (k:Kp w w'):RowS w' a ss:=fun i s hs=>by
 obtain⟨b,o,e,hc⟩:=h i s hs
 exact⟨b,o,e,k.cell hc⟩
end
section
open Go.RowKit Go.Sort
end
end Go.Proofs.YteidgoldnllabaaGreatDoor
