/-
  Walks: bits.Mul of 1 and a small number; slices.Repeat of one interval.
-/
import Derived.Laws.IdiomCopy
import Derived.Deep.DeepFit
import Derived.Deep.RegionLaw
import Derived.Deep.LoopGhost
import Derived.Test.YtbhmhfnfceakoaaGreatDoorMIvMl
namespace Go.Proofs.YtbhmhfnfceakoaaGreatDoor
open Go.RowKit
theorem run_copy_7 {P:Program} (w:World) (dT sT ty elem:TypeId) (b o dLen dCap:Nat) (a:Addr) (sLen sCap m:Nat) (cs:List Value)
  (hu:P.underlying dT=some (.slice elem)) (hs:(P.info? elem).map (·.size)=some 7) (hm:Nat.min sLen dLen=m) (hn:cs.length=m*7)
  (hsrc:∀ j v,cs[j]? = some v→w.cell? (a.add j)=some v) (hc:∀ j,j<cs.length→(w.cell? ⟨b,o+j,none⟩).isSome=true) (hf:∀ j,j<cs.length→w.frozen? ⟨b,o+j,none⟩=false) (h1:∀ v∈cs,v.oneCell'=true) :
  (Builtin.copy_ #[dT,sT] ty #[.slice (some ⟨b,o,none⟩) dLen dCap,.slice (some a) sLen sCap]).run P w=.ok (goInt m) (w.setCells b o cs):=by
 have hl:=run_firstCells_some (P:=P) (w:=w) 7 m a sLen sCap cs hn hsrc
 have hst:=run_storeCells_cells (P:=P) b o cs 0 w (by simpa using hc) (by simpa using hf) h1
 cases hq:P.info? elem with
 | none=>simp[hq] at hs
 | some i =>
 have hi:i.size=7:=by simpa [hq] using hs
 simp[Builtin.copy_,run_underlying hu,Builtin.lenOf,sizeOf,typeInfo,hq,hi,hm,hl,hst]
def RepS (wb w:World) (g n k:Nat) (y:RI):Prop :=
 Kp wb w∧(wb.heap.size≤g∧g<w.heap.size∧k≤n)∧(∀ j,w.frozen? ⟨g,j,none⟩=false)∧(∀ j,j<n*7→(w.cell? ⟨g,j,none⟩).isSome=true)∧∀ j,j<k*7→w.cell? ⟨g,j,none⟩=some (y.cells.getD (j % 7) (.bool false))
def repC (y:RI) (m:Nat):List Value:=(List.range (m*7)).map fun j=>y.cells.getD (j % 7) (.bool false)
theorem repC_len (y:RI) (m:Nat):(repC y m).length=m*7:=by unfold repC;simp
theorem repC_at {y:RI} {m j:Nat} {v:Value} (h:(repC y m)[j]? = some v):j<m*7∧v=y.cells.getD (j % 7) (.bool false):=by
 have hj:j<m*7:=by have:=(List.getElem?_eq_some_iff.1 h).1;rwa [repC_len] at this
 refine⟨hj,?_⟩
 unfold repC at h
 rw[List.getElem?_map,List.getElem?_range hj] at h
 cases h;rfl
theorem cells7_one (y:RI) (j:Nat):(y.cells.getD (j % 7) (.bool false)).oneCell'=true:=by
 have h:j % 7<7:=Nat.mod_lt _ (by decide)
 generalize j % 7=i at h
 match i,h with
 | 0,_=>rfl
 | 1,_=>rfl
 | 2,_=>rfl
 | 3,_=>rfl
 | 4,_=>rfl
 | 5,_=>rfl
 | 6,_=>rfl
 | i+7,h=>omega
theorem kp_setCells {a:World} {g:Nat} (hg:a.heap.size≤g):∀ (cs:List Value) (o:Nat) (w:World),Kp a w→Kp a (w.setCells g o cs)
 | [],_,_,h=>h
 | v::r,o,w,h=>by
  rw[World.setCells]
  exact kp_setCells hg r (o+1) _ (h.set hg v)
theorem size_setCells (g:Nat):∀ (cs:List Value) (o:Nat) (w:World),(w.setCells g o cs).heap.size=w.heap.size
 | [],_,_=>rfl
 | v::r,o,w=>by
  rw[World.setCells,size_setCells g r]
  simp
theorem RepS.more {wb w:World} {g n k m:Nat} {y:RI} (h:RepS wb w g n k y) (hm:k+m≤n):RepS wb (w.setCells g (k*7) (repC y m)) g n (k+m) y:=by
 obtain⟨h1,⟨h2,h3,h4⟩,h5,h6,h7⟩:=h
 have hin0:=World.cell?_setCells_in g (repC y m) (k*7) w (fun j hj=>h6 _ (by rw[repC_len] at hj;omega))
 have hin:∀ j,j<m*7→(w.setCells g (k*7) (repC y m)).cell? ⟨g,k*7+j,none⟩=some (y.cells.getD (j % 7) (.bool false)):=fun j hj=>by
  have hj':j<(repC y m).length:=by rw[repC_len];exact hj
  rw[hin0 j hj',(repC_at (List.getElem?_eq_getElem hj')).2]
 have hout:=World.cell?_setCells_out g (repC y m) (k*7) w
 rw[repC_len] at hout
 refine⟨kp_setCells h2 _ _ _ h1,⟨h2,by rw[size_setCells];exact h3,hm⟩,fun j=>by rw[World.frozen?_setCells];exact h5 j,fun j hj=>?_,fun j hj=>?_⟩
 ·by_cases hc:k*7≤j∧j<k*7+m*7
  ·have:=hin (j-k*7) (by omega)
   rw[show k*7+(j-k*7)=j by omega] at this
   rw[this];rfl
  rw[hout ⟨g,j,none⟩ (fun _ _=>by show j<_∨_≤j;omega)]
  exact h6 j hj
 by_cases hc:k*7≤j
 ·have:=hin (j-k*7) (by omega)
  rw[show k*7+(j-k*7)=j by omega] at this
  rw[this,show (j-k*7) % 7=j % 7 by omega]
 rw[hout ⟨g,j,none⟩ (fun _ _=>by show j<_∨_≤j;omega)]
 exact h7 j (by omega)
theorem RepS.kp {wb w w':World} {g n k:Nat} {y:RI} (h:RepS wb w g n k y) (hk:Kp w w'):RepS wb w' g n k y:=by
 obtain⟨h1,⟨h2,h3,h4⟩,h5,h6,h7⟩:=h
 refine⟨h1.trans hk,⟨h2,by have:=hk.size;omega,h4⟩,fun j=>by rw[hk.below.frozen h3];exact h5 j,fun j hj=>?_,fun j hj=>hk.cell (h7 j hj)⟩
 obtain⟨u,hu⟩:=Option.isSome_iff_exists.1 (h6 j hj)
 rw[hk.cell hu];rfl
theorem RepS.src {wb w:World} {g n k m:Nat} {y:RI} (h:RepS wb w g n k y) (hm:m≤k) (j:Nat) (hj:j<m*7):w.cell? ((⟨g,0,none⟩:Addr).add j)=some (y.cells.getD (j % 7) (.bool false)):=by
 have hadd:(⟨g,0,none⟩:Addr).add j=⟨g,0+j,none⟩:=by unfold Addr.add;split <;> simp_all
 rw[hadd,Nat.zero_add]
 exact h.2.2.2.2 j (by omega)
theorem RepS.row {wb w:World} {g n:Nat} {y:RI} (h:RepS wb w g n n y) (hy:y.rd wb):RowI w (some ⟨g,0,none⟩) (List.replicate n y):=by
 obtain⟨h1,_,_,_,h7⟩:=h
 intro i x hi
 rw[List.getElem?_replicate] at hi
 split at hi
 ·next hin =>
  cases hi
  refine⟨g,0,rfl,hy.kp h1,?_⟩
  rw[Nat.zero_add]
  have c (q:Nat) (hq:q<7):w.cell? ⟨g,i*7+q,none⟩=some (y.cells.getD q (.bool false)):=by
   have:=h7 (i*7+q) (by omega)
   rwa [show (i*7+q) % 7=q by omega] at this
  exact⟨c 0 (by decide),c 1 (by decide),c 2 (by decide),c 3 (by decide),c 4 (by decide),c 5 (by decide),c 6 (by decide)⟩
 cases hi
theorem infoIvl7:(Tryz.prog.info? 44).map (·.size)=some 7:=by kernel_rfl
theorem step_copy7 {w:World} {ops:Array Oper} {o:Oper} {a:Act} {K:Act→World→Prop} {Q:Exit→Act→World→Prop} {E:Prop} (hgd:o.guard=none) (d s:Operand)
  (ho:o.op=.call { callee:=.builtin .copy,args:=#[d,s],argTypes:=#[24,24] })
  (wb:World) (y:RI) (g n k m off dLen dCap sLen sCap:Nat) (sa:Addr) (hd:a.eval d=.slice (some ⟨g,off,none⟩) dLen dCap) (hs:a.eval s=.slice (some sa) sLen sCap)
  (hS:RepS wb w g n k y) (hoff:off=k*7) (hm:Nat.min sLen dLen=m) (hfit:k+m≤n) (hsrc:∀ j,j<m*7→w.cell? (sa.add j)=some (y.cells.getD (j % 7) (.bool false)))
  (h:∀ w',RepS wb w' g n (k+m) y→K (a.put o.dst (goInt m)) w') :
  if Region.wanted o (yielded ops a.tmps)=true then Oper.wp Tryz.prog o a w K Q else E:=by
 have hw:Region.wanted o (yielded ops a.tmps)=true:=by simp[Region.wanted,hgd]
 rw[if_pos hw]
 have hrun:=run_copy_7 (P:=Tryz.prog) w 24 24 o.type 44 g off dLen dCap sa sLen sCap m (repC y m) Tryz.underlying24 infoIvl7 hm (repC_len y m)
  (fun j v hj=>by obtain⟨h1,h2⟩:=repC_at hj;rw[h2];exact hsrc j h1) (fun j hj=>hS.2.2.2.1 _ (by rw[repC_len] at hj;omega)) (fun j _=>hS.2.2.1 _) (fun v hv=>by
   obtain⟨j,hj⟩:=List.getElem?_of_mem hv
   rw[(repC_at hj).2];exact cells7_one y j)
 unfold Oper.wp
 simp[execOp,ho,resolve,invoke,builtin,hd,hs,hrun,Result.andThen]
 refine h _ ?_
 rw[hoff];exact hS.more hfit
theorem make_ivs (i:Int) (n:Nat) (e:i=n) (hn:n≤900000) (u:World):(Instr.makeSlice 24 (.int .i64 i) (.int .i64 i)).run Tryz.prog u =
  .ok (.slice (some ⟨u.heap.size,0,none⟩) n n) (u.alloc (.cells (madeCells #[.bool false,.slice none 0 0,.int .i64 0,.bool false,.slice none 0 0,.int .i64 0,.bool false] (n*7)) 44)):=by
 subst e
 obtain⟨i0,hi,hz0,hz1,hz2⟩:=info_parts infoIvl
 have h:=run_make (P:=Tryz.prog) u 24 44 i0 (.agg #[.bool false,.slice none 0 0,.int .i64 0,.bool false,.slice none 0 0,.int .i64 0,.bool false]) Tryz.underlying24 hi hz0 .i64 .i64 (n:Int) (n:Int) (by omega) (Int.le_refl _) (by rw[hz2];omega) (by omega)
 simpa [hz1,Value.cells] using h
theorem RepS.made (w:World) (n:Nat) (t:TypeId) (y:RI):RepS w (w.alloc (.cells (madeCells #[.bool false,.slice none 0 0,.int .i64 0,.bool false,.slice none 0 0,.int .i64 0,.bool false] (n*7)) t)) w.heap.size n 0 y:=by
 have hg:=heap_alloc_new w (.cells (madeCells #[.bool false,.slice none 0 0,.int .i64 0,.bool false,.slice none 0 0,.int .i64 0,.bool false] (n*7)) t)
 refine⟨(Kp.refl w).alloc _,⟨Nat.le_refl _,by simp,Nat.zero_le _⟩,fun j=>frozen_of_row _ _ _ _ _ hg,fun j hj=>?_,fun j hj=>by omega⟩
 rw[cell_of_row _ _ _ _ _ _ hg]
 unfold madeCells
 simp[hj]
end Go.Proofs.YtbhmhfnfceakoaaGreatDoor
