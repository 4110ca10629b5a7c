/-
  Walks: box.Inside, Interior, Equal.
-/
import Derived.Test.YteidgoldnllabaaGreatDoorTIncP
import Derived.Test.YteidgoldnllabaaGreatDoorTRoE
import Derived.Deep.AppendLies
import Derived.Test.YteidgoldnllabaaGreatDoorTIvA
import Derived.OneCell
import Derived.Deep.DeepFit
import Derived.Laws.EntriesVeiled
import Derived.Test.YteidgoldnllabaaGreatDoorTAwk4
namespace Go.Proofs.YteidgoldnllabaaGreatDoor
open Go.RowKit
def RI.cells (x:RI):List Value:=[.bool x.lo.neg,.slice x.lo.a x.lo.xs.length x.lo.c,.int .i64 x.lo.e,.bool x.hi.neg,.slice x.hi.a x.hi.xs.length x.hi.c,.int .i64 x.hi.e,.bool x.all]
theorem RI.cells_len (x:RI):x.cells.length=7:=rfl
theorem flat_get {zs:List RI} {i:Nat} {x:RI} (h:zs[i]? = some x) {j:Nat} (hj:j<7):(zs.flatMap RI.cells)[i*7+j]? = x.cells[j]?:=by
 induction zs generalizing i with
 | nil=>simp at h
 | cons z zs ih =>
  rw[List.flatMap_cons]
  cases i with
  | zero =>
   simp only[List.getElem?_cons_zero,Option.some.injEq] at h
   subst h
   rw[List.getElem?_append_left (by rw[RI.cells_len];omega),Nat.zero_mul,Nat.zero_add]
  | succ i =>
   rw[List.getElem?_cons_succ] at h
   rw[List.getElem?_append_right (by rw[RI.cells_len];omega),RI.cells_len,← ih h]
   congr 1;omega
theorem infoIvl:(Tryz.prog.info? 115).map (fun i=>(i.zero,i.size,i.bytes))=some (some (.agg #[.bool false,.slice none 0 0,.int .i64 0,.bool false,.slice none 0 0,.int .i64 0,.bool false]),7,88):=by kernel_rfl
def AllC (p:Value→Prop) (w:World) (v:Value):Prop:=∀ g,v.ownBlock=some g→∀ j u,w.cell? ⟨g,j,none⟩=some u→p u
theorem AllC.nil (p:Value→Prop) (w:World):AllC p w (.slice none 0 0):=fun g h=>by simp[Value.ownBlock] at h
theorem zeros_mem {z:Array Value} {n:Nat} {u:Value} (hz:0<z.size) (h:u∈Builtin.zeroCells z n):u∈z:=by
 unfold Builtin.zeroCells at h
 rw[Array.mem_map] at h
 obtain⟨i,_,rfl⟩:=h
 have:i % z.size<z.size:=Nat.mod_lt _ hz
 rw[getElem!_pos z _ this]
 exact Array.getElem_mem this
theorem append_all {P:Program} (w:World) (p:Value→Prop) (t ty:TypeId) (base:Nat) (e:TypeId) (i:TypeInfo) (z:Value) (size bytes:Nat) (ht:P.underlying t=some (.slice e)) (hi:P.info? e=some i) (hz:i.zero=some z)
  (hsize:i.size=size) (hby:i.bytes=bytes) (hzs:z.cells.size=size) (hsz:0<size)
  (v:Value) (n:Nat) (xs:List Value) (hown:w.ownsRow base e size v n xs)
  (ad:Addr) (m c:Nat) (news:List Value) (hl:news.length=m*size) (hnews:∀ j u,news[j]? = some u→w.cell? (ad.add j)=some u) (h1:∀ u∈news,u.oneCell'=true)
  (hm:0<m) (h63:n+m≤maxLen) (hbytes:(n+m)*bytes≤140737488355328) (hbase:base≤w.heap.size)
  (hp:AllC p w v) (hpn:∀ u∈news,p u) (hpz:∀ u∈z.cells,p u) :
  ∃ g cap w',(Builtin.append_ #[t,t] ty #[v,.slice (some ad) m c]).run P w=.ok (.slice (some ⟨g,0,none⟩) (n+m) cap) w' ∧
   w'.ownsRow base e size (.slice (some ⟨g,0,none⟩) (n+m) cap) (n+m) (xs++news)∧w.grownBy w' v.ownBlock∧(v.ownBlock=some g∨g=w.heap.size)∧AllC p w' (.slice (some ⟨g,0,none⟩) (n+m) cap):=by
 obtain⟨g,cap,w',hr,h2,h3,h4,h5⟩:=run_append_lies (P:=P) w t ty base e i z size bytes ht hi hz hsize hby hzs hsz v n xs hown ad m c news hl hnews h1 hm h63 hbytes hbase w.heap.size rfl
 refine⟨g,cap,w',hr,h2,h3,h4,?_⟩
 intro g' hg' j u hu
 have hgg:g=g':=by simpa [Value.ownBlock] using hg'
 subst hgg
 subst hsize
 subst hby
 have hsmall:n+m≤9223372036854775807:=by simp only[maxLen] at h63;omega
 have zc:∀ k,∀ u∈Builtin.zeroCells z.cells k,p u:=fun k u hu=>hpz u (zeros_mem (by omega) hu)
 rcases hown.2 with ⟨rfl,rfl⟩ | ⟨g0,cap0,cur,rfl,hbg,hg,hnc,hcm,hcs,htake⟩
 ·have hr2:=run_append_nil (P:=P) w t ty e i z ht hi hz ad m c news hl hnews hm (by omega) (by have hb:=hbytes;simp only[Nat.zero_add] at hb;omega)
  rw[hr2] at hr
  injection hr with e1 e2
  subst e2
  have e3:w.heap.size=g:=by simp at e1;exact e1.1
  subst e3
  have hh:(w.drew.alloc (.cells (news.toArray++Builtin.zeroCells z.cells (grownCap w m 0 e-m)) e)).heap[w.heap.size]? = some _:=heap_alloc_new w.drew _
  rw[cell_of_row _ _ j _ _ _ hh] at hu
  rcases Array.mem_append.1 (Array.mem_of_getElem? hu) with h | h
  ·exact hpn u (by simpa using h)
  exact zc _ u h
 have hpx:∀ u∈xs,p u:=fun u hu=>by
  obtain⟨j,hj⟩:=List.getElem?_of_mem hu
  have h6:=hown.cells (g:=g0) rfl j u hj
  have hadd:(⟨g0,0,none⟩:Addr).add j=⟨g0,j,none⟩:=by unfold Addr.add;split <;> simp_all
  rw[hadd] at h6
  exact hp g0 rfl j u h6
 by_cases hroom:n+m≤cap0
 rotate_left
 ·have holds:∀ j u,xs[j]? = some u→w.cell? ((⟨g0,0,none⟩:Addr).add j)=some u:=hown.cells (g:=g0) rfl
  have hr2:=run_append_grow (P:=P) w t ty e i z ht hi hz ⟨g0,0,none⟩ n cap0 xs hown.1 holds ad m c news hl hnews (by omega) (by omega) (growslice_fits (by omega) hbytes)
  rw[hr2] at hr
  injection hr with e1 e2
  subst e2
  have e3:w.heap.size=g:=by simp at e1;exact e1.1
  subst e3
  have hh:(w.drew.alloc (.cells (xs.toArray++news.toArray++Builtin.zeroCells z.cells (grownCap w (n+m) cap0 e-(n+m))) e)).heap[w.heap.size]? = some _:=heap_alloc_new w.drew _
  rw[cell_of_row _ _ j _ _ _ hh] at hu
  rcases Array.mem_append.1 (Array.mem_of_getElem? hu) with h | h
  ·rcases Array.mem_append.1 h with h | h
   ·exact hpx u (by simpa using h)
   exact hpn u (by simpa using h)
  exact zc _ u h
 have hfit:n*i.size+news.length≤cur.size:=by rw[hl,hcs,← Nat.add_mul];exact Nat.mul_le_mul_right _ hroom
 have hr2:=run_append_room (P:=P) w t ty e i ht hi g0 n cap0 cur hg ad m c news hl hnews h1 hroom hfit
 rw[hr2] at hr
 injection hr with e1 e2
 subst e2
 have e3:g0=g:=by simp at e1;exact e1.1
 subst e3
 rw[cell_of_row _ _ j _ _ _ (setRow_heap w g0 cur _ e _ hg)] at hu
 have hc:∀ u∈cur.toList,p u:=fun u hu=>by
  obtain⟨k,hk⟩:=List.getElem?_of_mem hu
  exact hp g0 rfl k u (by rw[cell_of_row w g0 k cur _ _ hg];simpa using hk)
 have hmem:u∈cur.toList.take (n*i.size)++news++cur.toList.drop (n*i.size+news.length):=by
  have:=Array.mem_of_getElem? hu
  simpa using this
 rcases List.mem_append.1 hmem with h | h
 ·rcases List.mem_append.1 h with h | h
  ·exact hc u (List.mem_of_mem_take h)
  exact hpn u h
 exact hc u (List.mem_of_mem_drop h)
theorem wpList_append_all {P:Program} (w:World) (p:Value→Prop) {ops:Array Oper} {rest:List Oper} {o:Oper} {a:Act} {Q:Exit→Act→World→Prop} (hgd:o.guard=none) (s x:Operand) (t:TypeId)
  (ho:o.op=.call { callee:=.builtin .append,args:=#[s,x],argTypes:=#[t,t] })
  (base:Nat) (e:TypeId) (i:TypeInfo) (z:Value) (size bytes:Nat) (ht:P.underlying t=some (.slice e)) (hi:P.info? e=some i) (hz:i.zero=some z)
  (hsize:i.size=size) (hby:i.bytes=bytes) (hzs:z.cells.size=size) (hsz:0<size)
  (v:Value) (n:Nat) (xs:List Value) (hs:a.eval s=v) (hown:w.ownsRow base e size v n xs)
  (ad:Addr) (m c:Nat) (news:List Value) (hx:a.eval x=.slice (some ad) m c) (hl:news.length=m*size) (hnews:∀ j u,news[j]? = some u→w.cell? (ad.add j)=some u) (h1:∀ u∈news,u.oneCell'=true)
  (hm:0<m) (h63:n+m≤maxLen) (hbytes:(n+m)*bytes≤140737488355328) (hbase:base≤w.heap.size)
  (hp:AllC p w v) (hpn:∀ u∈news,p u) (hpz:∀ u∈z.cells,p u)
  (h:∀ g cap w',w'.ownsRow base e size (.slice (some ⟨g,0,none⟩) (n+m) cap) (n+m) (xs++news)→w.grownBy w' v.ownBlock→(v.ownBlock=some g∨g=w.heap.size)→AllC p w' (.slice (some ⟨g,0,none⟩) (n+m) cap)→wpList P ops Q rest (a.put o.dst (.slice (some ⟨g,0,none⟩) (n+m) cap)) w') :
  wpList P ops Q (o::rest) a w:=by
 obtain⟨g,cap,w',hr,h2,h3,h4,h5⟩:=append_all (P:=P) w p t o.type base e i z size bytes ht hi hz hsize hby hzs hsz v n xs hown ad m c news hl hnews h1 hm h63 hbytes hbase hp hpn hpz
 refine wpList_plain hgd fun K hK=>?_
 unfold Oper.wp execOp
 simp only[ho,resolve,invoke,builtin,Sem.run_bind,Sem.run_pure,Result.andThen_ok,List.map_toArray,List.map_cons,List.map_nil,hs,hx,hr]
 exact hK _ _ (h g cap w' h2 h3 h4 h5)
def NoU (u:Value):Prop:=∀ x,u≠.int .u32 x
theorem rd_far {w w':World} {v:Value} {a:Option Addr} {xs:List Nat} (h:Rd w a xs) (hg:w.grownBy w' v.ownBlock) (hn:AllC NoU w v):Rd w' a xs:=by
 refine⟨h.1,?_⟩
 rcases h.2 with h0 | ⟨b',o',e,hc⟩
 ·exact .inl h0
 refine .inr ⟨b',o',e,fun i hi=>?_⟩
 have h3:=hc i hi
 have hlt:b'<w.heap.size:=by
  rcases Nat.lt_or_ge b' w.heap.size with h | h
  ·exact h
  ·simp[World.cell?,Array.getElem?_eq_none h] at h3
 rw[hg.cell_far _ hlt (fun e=>hn b' e.symm _ _ h3 _ rfl)]
 exact h3
theorem RD.rd.far {w w':World} {v:Value} {x:RD} (h:x.rd w) (hg:w.grownBy w' v.ownBlock) (hn:AllC NoU w v):x.rd w':=⟨rd_far h.1 hg hn,h.2⟩
theorem RI.rd.far {w w':World} {v:Value} {x:RI} (h:x.rd w) (hg:w.grownBy w' v.ownBlock) (hn:AllC NoU w v):x.rd w':=⟨h.1.far hg hn,h.2.far hg hn⟩
theorem AllC.kp {p:Value→Prop} {w w':World} {base:Nat} {e:TypeId} {size n:Nat} {xs:List Value} {v:Value} (h:AllC p w v) (ho:w.ownsRow base e size v n xs) (k:Kp w w'):AllC p w' v:=by
 intro g hg j u hu
 rcases ho.2 with ⟨rfl,h3⟩ | ⟨g',cap,cur,rfl,hb,hgg,hr⟩
 ·simp[Value.ownBlock] at hg
 have e1:g'=g:=by simpa [Value.ownBlock] using hg
 subst e1
 refine h g' hg j u ?_
 rw[cell_of_row _ _ j _ _ _ hgg]
 rw[cell_of_row _ _ j _ _ _ (k.heap hgg)] at hu
 exact hu
theorem Kp.owns {wb w w':World} {e:TypeId} {size n:Nat} {xs:List Value} {v:Value} (h:w.ownsRow wb.heap.size e size v n xs) (k:Kp w w'):w'.ownsRow wb.heap.size e size v n xs:=by
 refine⟨h.1,?_⟩
 rcases h.2 with h3 | ⟨g,cap,cur,h4,hb,hg,hr⟩
 ·exact .inl h3
 exact .inr ⟨g,cap,cur,h4,hb,k.heap hg,hr⟩
def OwnN (wb w:World) (v:Value) (zs:List RI):Prop :=
 Kp wb w∧w.ownsRow wb.heap.size 115 7 v zs.length (zs.flatMap RI.cells)∧AllC NoU w v∧∀ x,x∈zs→x.rd w
theorem OwnN.nil {wb w:World} (k:Kp wb w):OwnN wb w (.slice none 0 0) []:=⟨k,World.ownsRow_nil _ _ _ _,AllC.nil _ _,fun x h=>by simp at h⟩
theorem OwnN.kp {wb w w':World} {v:Value} {zs:List RI} (h:OwnN wb w v zs) (k:Kp w w'):OwnN wb w' v zs :=
 ⟨h.1.trans k,Kp.owns h.2.1 k,h.2.2.1.kp h.2.1 k,fun x hx=>(h.2.2.2 x hx).kp k⟩
theorem OwnN.value {wb w:World} {v:Value} {zs:List RI} (h:OwnN wb w v zs):∃ a c,v=.slice a zs.length c∧zs.length≤c∧c≤maxLen∧RowI w a zs:=by
 obtain⟨h1,⟨h2,h3⟩,h6,h4⟩:=h
 rcases h3 with ⟨rfl,h3⟩ | ⟨g,cap,cur,rfl,hb,hg,hn,hc,hs,ht⟩
 ·have h0:zs=[]:=List.length_eq_zero_iff.1 h3
  subst h0
  exact⟨none,0,rfl,Nat.le_refl _,by decide,fun i x hi=>by simp at hi⟩
 refine⟨_,_,rfl,hn,hc,fun i x hi=>⟨g,0,rfl,h4 x (List.mem_of_getElem? hi),?_⟩⟩
 have hil:i<zs.length:=(List.getElem?_eq_some_iff.1 hi).1
 have key (j:Nat) (hj:j<7) (u:Value) (hu:x.cells[j]? = some u):w.cell? ⟨g,i*7+j,none⟩=some u:=by
  rw[cell_of_row w g _ cur _ _ hg]
  have h5:(cur.toList.take (zs.length*7))[i*7+j]? = some u:=by rw[ht,flat_get hi hj,hu]
  rw[List.getElem?_take,if_pos (by omega)] at h5
  simpa using h5
 simp only[Nat.zero_add]
 exact⟨key 0 (by decide) _ rfl,key 1 (by decide) _ rfl,key 2 (by decide) _ rfl,key 3 (by decide) _ rfl,key 4 (by decide) _ rfl,key 5 (by decide) _ rfl,key 6 (by decide) _ rfl⟩
theorem noU_cells {x:RI}:∀ u∈x.cells,NoU u:=by
 intro u hu y e
 simp only[RI.cells,List.mem_cons,List.not_mem_nil,or_false] at hu
 rcases hu with rfl | rfl | rfl | rfl | rfl | rfl | rfl <;> cases e
theorem wpList_append_ivn {w:World} {ops:Array Oper} {rest:List Oper} {o:Oper} {a:Act} {Q:Exit→Act→World→Prop} (hgd:o.guard=none) (s x:Operand)
  (ho:o.op=.call { callee:=.builtin .append,args:=#[s,x],argTypes:=#[58,58] })
  (wb:World) (v:Value) (zs:List RI) (hs:a.eval s=v) (hown:OwnN wb w v zs)
  (g c:Nat) (hx:a.eval x=.slice (some ⟨g,0,none⟩) 1 c) (y:RI) (hy:y.rd w)
  (hcell:w.cell? ⟨g,0,none⟩=some (.bool y.lo.neg)∧w.cell? ⟨g,1,none⟩=some (.slice y.lo.a y.lo.xs.length y.lo.c)∧w.cell? ⟨g,2,none⟩=some (.int .i64 y.lo.e)∧w.cell? ⟨g,3,none⟩=some (.bool y.hi.neg)∧w.cell? ⟨g,4,none⟩=some (.slice y.hi.a y.hi.xs.length y.hi.c)∧w.cell? ⟨g,5,none⟩=some (.int .i64 y.hi.e)∧w.cell? ⟨g,6,none⟩=some (.bool y.all)) (hlen:zs.length+1≤9000000)
  (h:∀ a' c' w',OwnN wb w' (.slice a' (zs.length+1) c') (zs++[y])→Below wb.heap.size w w'→wpList Tryz.prog ops Q rest (a.put o.dst (.slice a' (zs.length+1) c')) w') :
  wpList Tryz.prog ops Q (o::rest) a w:=by
 obtain⟨i0,hi,hz0,hz1,hz2⟩:=info_parts infoIvl
 obtain⟨hk,hown1,hall,hrows⟩:=hown
 refine wpList_append_all w NoU hgd s x 58 ho wb.heap.size 115 i0 (.agg #[.bool false,.slice none 0 0,.int .i64 0,.bool false,.slice none 0 0,.int .i64 0,.bool false]) 7 88 Tryz.underlying58 hi hz0 hz1 hz2 rfl (by decide) v zs.length (zs.flatMap RI.cells) hs hown1
  ⟨g,0,none⟩ 1 c y.cells hx rfl ?_ ?_ (by decide) (by unfold maxLen;omega) (by omega) hk.size hall noU_cells ?_ ?_
 ·intro j u hj
  obtain⟨h0,h1,h2,h3,h4,h5,h6⟩:=hcell
  match j,hj with
  | 0,hj=>cases hj;simpa [Addr.add] using h0
  | 1,hj=>cases hj;simpa [Addr.add] using h1
  | 2,hj=>cases hj;simpa [Addr.add] using h2
  | 3,hj=>cases hj;simpa [Addr.add] using h3
  | 4,hj=>cases hj;simpa [Addr.add] using h4
  | 5,hj=>cases hj;simpa [Addr.add] using h5
  | 6,hj=>cases hj;simpa [Addr.add] using h6
  | j+7,hj=>simp[RI.cells] at hj
 ·intro u hu
  simp only[RI.cells,List.mem_cons,List.not_mem_nil,or_false] at hu
  rcases hu with rfl | rfl | rfl | rfl | rfl | rfl | rfl <;> rfl
 ·intro u hu y e
  simp[Value.cells] at hu
  rcases hu with rfl | rfl | rfl | rfl | rfl | rfl | rfl <;> cases e
 intro g' cap w' h1 h2 h3 h6
 have hb:Below wb.heap.size w w':=(Below.refl wb.heap.size w).grown h2 hk.size (fun k hk=>(hown1.lt k hk).1)
 refine h _ _ w' ⟨Below.trans hk hb,?_,h6,fun q hq=>?_⟩ hb
 ·rw[List.flatMap_append,List.length_append]
  simpa using h1
 rcases List.mem_append.1 hq with hq | hq
 ·exact (hrows q hq).far h2 hall
 simp only[List.mem_singleton] at hq
 subst hq
 exact hy.far h2 hall
theorem RowI.rdI {w:World} {a:Option Addr} {zs:List RI} (h:RowI w a zs) {x:RI} (hx:x∈zs):x.rd w:=by
 obtain⟨i,hi⟩:=List.getElem?_of_mem hx
 obtain⟨_,_,_,hr,_⟩:=h i x hi
 exact hr
end Go.Proofs.YteidgoldnllabaaGreatDoor
