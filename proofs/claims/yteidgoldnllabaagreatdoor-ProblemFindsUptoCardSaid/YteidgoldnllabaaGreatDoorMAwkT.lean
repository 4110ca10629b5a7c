/-
  Walks: slices.Equal at texts; the law's v, num, op.
-/
import Derived.Test.YteidgoldnllabaaGreatDoorMWalN
import Derived.Deep.RegionHeld3
namespace Go.Proofs.YteidgoldnllabaaGreatDoor
open Go.RowKit
section
open Go.RowKit Go.Sort Go.Shelf
theorem rowS_cells {w:World} {a:Option Addr} {ss:List ByteArray} (h:RowS w a ss) (hn:ss≠[]):∃ b o,a=some ⟨b,o,none⟩∧∀ j,j<ss.length→w.cell? ⟨b,o+j,none⟩=some (.string (ss.getD j ByteArray.empty)):=by
 cases ss with
 | nil=>exact absurd rfl hn
 | cons s t =>
 obtain⟨b,o,e,_⟩:=h 0 s rfl
 refine⟨b,o,e,fun j hj=>?_⟩
 obtain⟨b',o',e',hc⟩:=h j _ (List.getElem?_eq_getElem hj)
 rw[e] at e'
 cases e'
 rw[hc,List.getD_eq_getElem?_getD,List.getElem?_eq_getElem hj]
 rfl
theorem eqS_any (a1 a2:Option Addr) (c1 c2:Nat) (xs ys:List ByteArray) (w:World) (h1:RowS w a1 xs) (h2:RowS w a2 ys) (hx:xs.length≤1100000) (hy:ys.length≤1100000) :
  Calls Tryz.prog 20 #[.slice a1 xs.length c1,.slice a2 ys.length c2] w fun e w'=>e=.returned (.bool (decide (xs=ys)))∧Kp w w':=by
 by_cases hl:xs.length=ys.length
 rotate_left
 ·refine (Any.slices_Equal_string_lens lays193 a1 a2 xs.length c1 ys.length c2 w hl).mono fun e w' hh=>?_
  obtain⟨e1,e2⟩:=hh
  subst e2
  exact⟨e1.trans (ret_bool (by rw[decide_eq_false (fun e=>hl (by rw[e]))])),.refl _⟩
 by_cases hx0:xs=[]
 ·subst hx0
  have hy0:ys=[]:=List.length_eq_zero_iff.1 hl.symm
  subst hy0
  refine (Any.slices_Equal_string_empty lays193 a1 a2 c1 0 c2 w (by omega)).mono fun e w' hh=>?_
  obtain⟨e1,e2⟩:=hh
  subst e2
  exact⟨e1.trans (ret_bool (by simp)),.refl _⟩
 have hy0:ys≠[]:=fun e=>hx0 (by rw[e] at hl;exact List.length_eq_zero_iff.1 hl)
 obtain⟨b1,o1,rfl,hc1⟩:=rowS_cells h1 hx0
 obtain⟨b2,o2,rfl,hc2⟩:=rowS_cells h2 hy0
 refine (Any.slices_Equal_string lays193 b1 o1 xs.length c1 b2 o2 ys.length c2 xs ys w (Nat.le_refl _) (Nat.le_refl _) (by omega) (by omega) hc1 hc2).mono fun e w' hh=>?_
 obtain⟨e1,q,e2⟩:=hh
 subst e2
 rw[List.take_length,List.take_length] at e1
 exact⟨e1,(Kp.refl w).drewN q⟩
theorem rowS_own {w:World} {base:Nat} {v:Value} {ss:List ByteArray} (h:OwnS w base v (ss.map (·.data.toList))):∃ a c,v=.slice a ss.length c∧RowS w a ss:=by
 have hn:(ss.map (·.data.toList)).length=ss.length:=List.length_map _
 rcases h.2 with ⟨rfl,h3⟩ | ⟨g,cap,cur,rfl,hb,hg,hn2,hc,hs,ht⟩
 ·have h0:ss=[]:=List.length_eq_zero_iff.1 (by rw[← hn];exact h3)
  subst h0
  exact⟨none,0,rfl,fun i s hs=>by simp at hs⟩
 refine⟨_,cap,by rw[hn],fun i s hs=>⟨g,0,rfl,?_⟩⟩
 have hil:i<ss.length:=(List.getElem?_eq_some_iff.1 hs).1
 rw[Nat.zero_add,cell_of_row w g _ cur _ _ hg]
 have h5:(cur.toList.take ((ss.map (·.data.toList)).length*1))[i]? = some (.string s):=by
  rw[ht,Lib.map_encStr,List.getElem?_map,hs];rfl
 rw[List.getElem?_take,if_pos (by rw[hn];omega)] at h5
 simpa using h5
end
section
def nX:ByteArray:=⟨#[120]⟩
def nY:ByteArray:=⟨#[121]⟩
theorem nX_name:nameB nX=true:=by kernel_rfl
theorem nY_name:nameB nY=true:=by kernel_rfl
end
section
open Go.RowKit Go.Sort Go.Shelf
abbrev rowYc:Obj:=.cells #[.int .i64 2,.int .i64 0,.int .i64 0,.string ⟨#[121]⟩,.int .i64 0,.slice none 0 0] 71
abbrev zeroXc:Obj:=.cells #[.int .i64 0,.int .i64 0,.int .i64 0,.string ⟨#[]⟩,.int .i64 0,.slice none 0 0] 71
end
end Go.Proofs.YteidgoldnllabaaGreatDoor
