/-
  Walks: slices.Equal at texts; the law's v, num, op.
-/
import Derived.Test.YteidgoldnllabaaGreatDoorMWalN
import Derived.Deep.RegionHeld3
namespace Go.Proofs.YteidgoldnllabaaGreatDoor
open Go.RowKit
section
open Go.RowKit Go.Sort Go.Shelf
theorem rowS_cells {w:World} {a:Option Addr} {ss:List ByteArray} (h:RowS w a ss) (hn:ss≠[]):∃ b o,a=some ⟨b,o,none⟩∧∀ j,j<ss.length→w.cell? ⟨b,o+j,none⟩=some (.string (ss.getD j ByteArray.empty)):=by
 cases ss with
 | nil=>exact absurd rfl hn
 | cons s t =>
 obtain⟨b,o,e,_⟩:=h 0 s rfl
 refine⟨b,o,e,fun j hj=>?_⟩
 obtain⟨b',o',e',hc⟩:=h j _ (List.getElem?_eq_getElem hj)
 rw[e] at e'
 cases e'
 rw[hc,List.getD_eq_getElem?_getD,List.getElem?_eq_getElem hj]
 rfl
theorem rowS_own {w:World} {base:Nat} {v:Value} {ss:List ByteArray} (h:OwnS w base v (ss.map (·.data.toList))):∃ a c,v=.slice a ss.length c∧RowS w a ss:=by
 have hn:(ss.map (·.data.toList)).length=ss.length:=List.length_map _
 rcases h.2 with ⟨rfl,h3⟩ | ⟨g,cap,cur,rfl,hb,hg,hn2,hc,hs,ht⟩
 ·have h0:ss=[]:=List.length_eq_zero_iff.1 (by rw[← hn];exact h3)
  subst h0
  exact⟨none,0,rfl,fun i s hs=>by simp at hs⟩
 refine⟨_,cap,by rw[hn],fun i s hs=>⟨g,0,rfl,?_⟩⟩
 have hil:i<ss.length:=(List.getElem?_eq_some_iff.1 hs).1
 rw[Nat.zero_add,cell_of_row w g _ cur _ _ hg]
 have h5:(cur.toList.take ((ss.map (·.data.toList)).length*1))[i]? = some (.string s):=by
  rw[ht,Lib.map_encStr,List.getElem?_map,hs];rfl
 rw[List.getElem?_take,if_pos (by rw[hn];omega)] at h5
 simpa using h5
end
section
def nX:ByteArray:=⟨#[120]⟩
def nY:ByteArray:=⟨#[121]⟩
theorem nX_name:nameB nX=true:=by kernel_rfl
theorem nY_name:nameB nY=true:=by kernel_rfl
end
section
open Go.RowKit Go.Sort Go.Shelf
abbrev rowYc:Obj:=.cells #[.int .i64 2,.int .i64 0,.int .i64 0,.string ⟨#[121]⟩,.int .i64 0,.slice none 0 0] 71
abbrev zeroXc:Obj:=.cells #[.int .i64 0,.int .i64 0,.int .i64 0,.string ⟨#[]⟩,.int .i64 0,.slice none 0 0] 71
end
end Go.Proofs.YteidgoldnllabaaGreatDoor
