/-
  Walks: ref13.Flat.
-/
import Derived.Laws.OwnMore
import Derived.Test.YteidgoldnllabaaGreatDoorMRequN
import Derived.Test.YteidgoldnllabaaGreatDoorMIdxX
import Derived.Test.YteidgoldnllabaaGreatDoorMWalN
namespace Go.Proofs.YteidgoldnllabaaGreatDoor
open Go.RowKit
section
open Go.RowKit Go.Sort
theorem kp_owns {wb w w':World} {e:TypeId} {size n:Nat} {xs:List Value} {v:Value} (h:w.ownsRow wb.heap.size e size v n xs) (k:Kp w w'):w'.ownsRow wb.heap.size e size v n xs:=by
 refine⟨h.1,?_⟩
 rcases h.2 with h3 | ⟨g,cap,cur,h4,hb,hg,hr⟩
 ·exact .inl h3
 exact .inr ⟨g,cap,cur,h4,hb,by rw[k.below.block g (Array.getElem?_eq_some_iff.1 hg).1];exact hg,hr⟩
def OwnT (wb w:World) (v:Value) (xs:List Ex):Prop:=Kp wb w∧w.ownsRow wb.heap.size 71 6 v xs.length (xs.flatMap Ex.cells)
theorem OwnT.kp {wb w w':World} {v:Value} {xs:List Ex} (h:OwnT wb w v xs) (k:Kp w w'):OwnT wb w' v xs:=⟨h.1.trans k,kp_owns h.2 k⟩
theorem OwnT.row {wb w:World} {v:Value} {xs:List Ex} (h:OwnT wb w v xs) (h0:0<xs.length):∃ g c,v=.slice (some ⟨g,0,none⟩) xs.length c∧xs.length≤c∧c≤maxLen∧wb.heap.size≤g∧RowC w g xs:=by
 obtain⟨a,c,rfl,h1,h2,h3⟩:=rowC_of h.2 rfl
 rcases h3 with h3 | ⟨g,rfl,hg,hr⟩
 ·rw[h3] at h0;exact absurd h0 (Nat.lt_irrefl 0)
 exact⟨g,c,rfl,h1,h2,hg,hr⟩
end
section
open Go.RowKit Go.Sort
def OwnU (wb w:World) (v:Value) (xs:List ByteArray):Prop:=Kp wb w∧w.ownsRow wb.heap.size 9 1 v xs.length (xs.map Value.string)
theorem OwnU.kp {wb w w':World} {v:Value} {xs:List ByteArray} (h:OwnU wb w v xs) (k:Kp w w'):OwnU wb w' v xs:=⟨h.1.trans k,kp_owns h.2 k⟩
theorem OwnU.row {wb w:World} {v:Value} {xs:List ByteArray} (h:OwnU wb w v xs) (h0:0<xs.length):∃ g c,v=.slice (some ⟨g,0,none⟩) xs.length c∧xs.length≤c∧c≤maxLen∧wb.heap.size≤g∧RowS w (some ⟨g,0,none⟩) xs:=by
 obtain⟨_,⟨h2,h3⟩⟩:=h
 rcases h3 with ⟨rfl,h3⟩ | ⟨g,cap,cur,rfl,hb,hg,hn,hc,hs,ht⟩
 ·omega
 refine⟨g,cap,rfl,hn,hc,hb,fun i x hi=>⟨g,0,rfl,?_⟩⟩
 have hil:i<xs.length:=(List.getElem?_eq_some_iff.1 hi).1
 rw[Nat.zero_add,cell_of_row w g _ cur _ _ hg]
 have h5:(cur.toList.take (xs.length*1))[i]? = some (.string x):=by rw[ht,List.getElem?_map,hi];rfl
 rw[List.getElem?_take,if_pos (by omega)] at h5
 simpa using h5
theorem OwnU.empty (wb w:World) (k:Kp wb w):OwnU wb (w.alloc (.cells #[] 9)) (.slice (some ⟨w.heap.size,0,none⟩) 0 0) [] :=
 ⟨k.alloc _,World.ownsRow_lit w #[] 0 k.size (by decide) rfl⟩
theorem wpList_append_us {w:World} {ops:Array Oper} {rest:List Oper} {o:Oper} {a:Act} {Q:Exit→Act→World→Prop} (hgd:o.guard=none) (s x:Operand)
  (ho:o.op=.call { callee:=.builtin .append,args:=#[s,x],argTypes:=#[46,46] })
  (wb:World) (v:Value) (zs:List ByteArray) (hs:a.eval s=v) (hown:OwnU wb w v zs)
  (ad:Addr) (c:Nat) (ys:List ByteArray) (m:Nat) (hm:ys.length=m) (hx:a.eval x=.slice (some ad) m c)
  (hrow:∀ (i:Nat) (y:ByteArray),ys[i]? = some y→w.cell? (ad.add i)=some (.string y)) (hlen:zs.length+ys.length≤9000000)
  (h:∀ v' w',OwnU wb w' v' (zs++ys)→wpList Tryz.prog ops Q rest (a.put o.dst v') w') :
  wpList Tryz.prog ops Q (o::rest) a w:=by
 subst hm
 obtain⟨i0,hi,hz0,hz1,hz2⟩:=info_parts infoStr
 obtain⟨hk,hown1⟩:=hown
 refine wpList_append_own w hgd s x 46 ho wb.heap.size 9 i0 _ 1 16 Tryz.underlying46 hi hz0 hz1 hz2 rfl (by decide) v zs.length (zs.map Value.string) hs hown1
  ad ys.length c (ys.map Value.string) hx (by rw[List.length_map];omega) ?_ ?_ (by unfold maxLen;omega) (by omega) hk.size ?_
 ·intro j u hj
  rw[List.getElem?_map] at hj
  obtain⟨y,hy,rfl⟩:=Option.map_eq_some_iff.1 hj
  exact hrow j y hy
 ·intro u hu
  obtain⟨y,_,rfl⟩:=List.mem_map.1 hu
  rfl
 intro v' w' h1 h2 _
 have hb:Below wb.heap.size w w':=(Below.refl wb.heap.size w).grown h2 hk.size (fun k hk=>(hown1.lt k hk).1)
 refine h v' w' ⟨Below.trans hk hb,?_⟩
 rw[List.map_append,List.length_append]
 exact h1
theorem rowS_one (w:World) (g:Nat) (s:ByteArray) (h:w.cell? ⟨g,0,none⟩=some (.string s)):∀ (i:Nat) (y:ByteArray),[s][i]? = some y→w.cell? ((⟨g,0,none⟩:Addr).add i)=some (.string y):=by
 intro i y hy
 match i,hy with
 | 0,hy=>cases hy;exact h
 | i+1,hy=>simp at hy
def SlU (w:World) (a:Option Addr) (n c:Nat) (ss:List ByteArray):Prop:=ss.length=n∧RowS w a ss∧((ss=[]∧a=none∧c=0)∨(0<n∧n≤c∧c≤maxLen∧∃ b o,a=some ⟨b,o,none⟩))
theorem SlU.kp {w w':World} {a:Option Addr} {n c:Nat} {ss:List ByteArray} (h:SlU w a n c ss) (k:Kp w w'):SlU w' a n c ss:=⟨h.1,h.2.1.kp k,h.2.2⟩
end
end Go.Proofs.YteidgoldnllabaaGreatDoor
