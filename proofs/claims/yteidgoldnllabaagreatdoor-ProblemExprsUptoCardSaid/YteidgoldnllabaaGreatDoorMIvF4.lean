/-
  Walks: interval.four.
-/
import Derived.Deep.CutRange
import Derived.Deep.LoopGhost
import Derived.Laws.Rows
import Derived.Laws.Tables
import Derived.Test.YteidgoldnllabaaGreatDoorMProdP
import Derived.Test.YteidgoldnllabaaGreatDoorMRoE
import Derived.Test.YteidgoldnllabaaGreatDoorMTpoN
import Derived.Test.YteidgoldnllabaaGreatDoorMIvB
import Derived.Deep.AppendLies
namespace Go.Proofs.YteidgoldnllabaaGreatDoor
open Go.RowKit
theorem RowI.rd {w:World} {a:Option Addr} {zs:List RI} (h:RowI w a zs) {x:RI} (hx:x∈zs):x.rd w:=by
 obtain⟨i,hi⟩:=List.getElem?_of_mem hx
 obtain⟨_,_,_,hr,_⟩:=h i x hi
 exact hr
theorem Var7.upd {w W:World} {g g':Nat} (h:Var7 w g') (n:g'≠g) (u:Upd g w W):Var7 W g':=by
 obtain⟨⟨h0,h1,h2,h3,h4,h5,h6⟩,f0,f1,f2,f3,f4,f5,f6⟩:=h
 have e (j:Nat):W.cell? ⟨g',j,none⟩=w.cell? ⟨g',j,none⟩:=u.2.2.2.1 _ n
 have f (j:Nat):W.frozen? ⟨g',j,none⟩=w.frozen? ⟨g',j,none⟩:=u.1 _
 exact⟨⟨(e 0).trans h0,(e 1).trans h1,(e 2).trans h2,(e 3).trans h3,(e 4).trans h4,(e 5).trans h5,(e 6).trans h6⟩,
  (f 0).trans f0,(f 1).trans f1,(f 2).trans f2,(f 3).trans f3,(f 4).trans f4,(f 5).trans f5,(f 6).trans f6⟩
def RI.cells (x:RI):List Value:=[.bool x.lo.neg,.slice x.lo.a x.lo.xs.length x.lo.c,.int .i64 x.lo.e,.bool x.hi.neg,.slice x.hi.a x.hi.xs.length x.hi.c,.int .i64 x.hi.e,.bool x.all]
theorem RI.cells_len (x:RI):x.cells.length=7:=rfl
def OwnI (wb w:World) (v:Value) (zs:List RI):Prop :=
 ((∀ x,x∈zs→x.rd wb)∧Kp wb w)∧w.ownsRow wb.heap.size 115 7 v zs.length (zs.flatMap RI.cells)
theorem flat_get {zs:List RI} {i:Nat} {x:RI} (h:zs[i]? = some x) {j:Nat} (hj:j<7):(zs.flatMap RI.cells)[i*7+j]? = x.cells[j]?:=by
 induction zs generalizing i with
 | nil=>simp at h
 | cons z zs ih =>
  rw[List.flatMap_cons]
  cases i with
  | zero =>
   simp only[List.getElem?_cons_zero,Option.some.injEq] at h
   subst h
   rw[List.getElem?_append_left (by rw[RI.cells_len];omega),Nat.zero_mul,Nat.zero_add]
  | succ i =>
   rw[List.getElem?_cons_succ] at h
   rw[List.getElem?_append_right (by rw[RI.cells_len];omega),RI.cells_len,← ih h]
   congr 1;omega
theorem OwnI.nil {wb w:World} (k:Kp wb w):OwnI wb w (.slice none 0 0) []:=⟨⟨fun _ h=>by simp at h,k⟩,World.ownsRow_nil _ _ _ _⟩
theorem OwnI.value {wb w:World} {v:Value} {zs:List RI} (h:OwnI wb w v zs):∃ a c,v=.slice a zs.length c∧zs.length≤c∧c≤maxLen∧RowI w a zs:=by
 obtain⟨h1,h2,h3⟩:=h
 rcases h3 with ⟨rfl,h3⟩ | ⟨g,cap,cur,rfl,hb,hg,hn,hc,hs,ht⟩
 ·have h0:zs=[]:=List.length_eq_zero_iff.1 h3
  subst h0
  exact⟨none,0,rfl,Nat.le_refl _,by decide,fun i x hi=>by simp at hi⟩
 refine⟨_,_,rfl,hn,hc,fun i x hi=>⟨g,0,rfl,(h1.1 x (List.mem_of_getElem? hi)).kp h1.2,?_⟩⟩
 have hil:i<zs.length:=(List.getElem?_eq_some_iff.1 hi).1
 have key (j:Nat) (hj:j<7) (u:Value) (hu:x.cells[j]? = some u):w.cell? ⟨g,i*7+j,none⟩=some u:=by
  rw[cell_of_row w g _ cur _ _ hg]
  have h5:(cur.toList.take (zs.length*7))[i*7+j]? = some u:=by rw[ht,flat_get hi hj,hu]
  rw[List.getElem?_take,if_pos (by omega)] at h5
  simpa using h5
 simp only[Nat.zero_add]
 exact⟨key 0 (by decide) _ rfl,key 1 (by decide) _ rfl,key 2 (by decide) _ rfl,key 3 (by decide) _ rfl,key 4 (by decide) _ rfl,key 5 (by decide) _ rfl,key 6 (by decide) _ rfl⟩
theorem OwnI.kp {wb w w':World} {v:Value} {zs:List RI} (h:OwnI wb w v zs) (k:Kp w w'):OwnI wb w' v zs:=by
 refine⟨⟨h.1.1,h.1.2.trans k⟩,?_⟩
 obtain⟨_,h2,h3⟩:=h
 refine⟨h2,?_⟩
 rcases h3 with h3 | ⟨g,cap,cur,h4,hb,hg,hr⟩
 ·exact .inl h3
 exact .inr ⟨g,cap,cur,h4,hb,k.heap hg,hr⟩
theorem infoIvl:(Tryz.prog.info? 115).map (fun i=>(i.zero,i.size,i.bytes))=some (some (.agg #[.bool false,.slice none 0 0,.int .i64 0,.bool false,.slice none 0 0,.int .i64 0,.bool false]),7,88):=by kernel_rfl
end Go.Proofs.YteidgoldnllabaaGreatDoor
