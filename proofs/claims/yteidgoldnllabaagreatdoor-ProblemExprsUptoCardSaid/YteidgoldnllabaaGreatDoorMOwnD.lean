/-
  The call's own slice of numbers, and of slices of numbers, and append to these.
-/
import Derived.Test.YteidgoldnllabaaGreatDoorMIvF4
import Derived.Test.YteidgoldnllabaaGreatDoorMIvB
import Derived.OneCell
import Derived.Deep.DeepFit
import Derived.Laws.EntriesVeiled
import Derived.Test.YteidgoldnllabaaGreatDoorMProdP
import Derived.Deep.CutRange
import Derived.Deep.LoopGhost
import Derived.Deep.RegionWith
import Derived.Test.YteidgoldnllabaaGreatDoorMRoSq
import Derived.Test.YteidgoldnllabaaGreatDoorMEqU
import Derived.Test.YteidgoldnllabaaGreatDoorMRoE
import Derived.Test.YteidgoldnllabaaGreatDoorMTpoN
namespace Go.Proofs.YteidgoldnllabaaGreatDoor
open Go.RowKit
open Lib (hid)
def RD.cells (x:RD):List Value:=[.bool x.neg,.slice x.a x.xs.length x.c,.int .i64 x.e]
theorem RD.cells_len (x:RD):x.cells.length=3:=rfl
def OwnD (wb w:World) (v:Value) (zs:List RD):Prop :=
 ((∀ x,x∈zs→x.rd wb)∧Kp wb w)∧w.ownsRow wb.heap.size 113 3 v zs.length (zs.flatMap RD.cells)
theorem flatD_get {zs:List RD} {i:Nat} {x:RD} (h:zs[i]? = some x) {j:Nat} (hj:j<3):(zs.flatMap RD.cells)[i*3+j]? = x.cells[j]?:=by
 induction zs generalizing i with
 | nil=>simp at h
 | cons z zs ih =>
  rw[List.flatMap_cons]
  cases i with
  | zero =>
   simp only[List.getElem?_cons_zero,Option.some.injEq] at h
   subst h
   rw[List.getElem?_append_left (by rw[RD.cells_len];omega),Nat.zero_mul,Nat.zero_add]
  | succ i =>
   rw[List.getElem?_cons_succ] at h
   rw[List.getElem?_append_right (by rw[RD.cells_len];omega),RD.cells_len,← ih h]
   congr 1;omega
theorem OwnD.nil {wb w:World} (k:Kp wb w):OwnD wb w (.slice none 0 0) []:=⟨⟨fun _ h=>by simp at h,k⟩,World.ownsRow_nil _ _ _ _⟩
theorem OwnD.value {wb w:World} {v:Value} {zs:List RD} (h:OwnD wb w v zs):∃ a c,v=.slice a zs.length c∧zs.length≤c∧c≤maxLen∧RowD w a zs:=by
 obtain⟨h1,h2,h3⟩:=h
 rcases h3 with ⟨rfl,h3⟩ | ⟨g,cap,cur,rfl,hb,hg,hn,hc,hs,ht⟩
 ·have h0:zs=[]:=List.length_eq_zero_iff.1 h3
  subst h0
  exact⟨none,0,rfl,Nat.le_refl _,by decide,fun i x hi=>by simp at hi⟩
 refine⟨_,_,rfl,hn,hc,fun i x hi=>⟨g,0,rfl,(h1.1 x (List.mem_of_getElem? hi)).kp h1.2,?_⟩⟩
 have hil:i<zs.length:=(List.getElem?_eq_some_iff.1 hi).1
 have key (j:Nat) (hj:j<3) (u:Value) (hu:x.cells[j]? = some u):w.cell? ⟨g,i*3+j,none⟩=some u:=by
  rw[cell_of_row w g _ cur _ _ hg]
  have h5:(cur.toList.take (zs.length*3))[i*3+j]? = some u:=by rw[ht,flatD_get hi hj,hu]
  rw[List.getElem?_take,if_pos (by omega)] at h5
  simpa using h5
 simp only[Nat.zero_add]
 exact⟨key 0 (by decide) _ rfl,key 1 (by decide) _ rfl,key 2 (by decide) _ rfl⟩
theorem OwnD.block {wb w:World} {v:Value} {zs:List RD} (h:OwnD wb w v zs) (hpos:0<zs.length):∃ g c,v=.slice (some ⟨g,0,none⟩) zs.length c∧wb.heap.size≤g∧g<w.heap.size∧RowD w (some ⟨g,0,none⟩) zs:=by
 obtain⟨a,c,e,_,_,hr⟩:=h.value
 obtain⟨h1,h2,h3⟩:=h
 rcases h3 with ⟨rfl,h3⟩ | ⟨g,cap,cur,h4,hb,hg,hn,hc,hs,ht⟩
 ·omega
 rw[h4] at e
 cases e
 exact⟨g,c,h4,hb,(Array.getElem?_eq_some_iff.1 hg).1,hr⟩
theorem OwnD.kp {wb w w':World} {v:Value} {zs:List RD} (h:OwnD wb w v zs) (k:Kp w w'):OwnD wb w' v zs:=by
 refine⟨⟨h.1.1,h.1.2.trans k⟩,?_⟩
 obtain⟨_,h2,h3⟩:=h
 refine⟨h2,?_⟩
 rcases h3 with h3 | ⟨g,cap,cur,h4,hb,hg,hr⟩
 ·exact .inl h3
 exact .inr ⟨g,cap,cur,h4,hb,k.heap hg,hr⟩
def OwnR (wb w:World) (v:Value) (us:List Value) (rows:List (List RD)):Prop :=
 (us.length=rows.length∧Kp wb w)∧w.ownsRow wb.heap.size 291 1 v us.length us ∧
 ∀ (i:Nat) (r:List RD),rows[i]? = some r→(∀ x,x∈r→x.rd wb)∧∃ (g c:Nat),us[i]? = some (Value.slice (some ⟨g,0,none⟩) r.length c)∧RowD w (some ⟨g,0,none⟩) r∧v.ownBlock≠some g∧g<w.heap.size
theorem OwnR.nil {wb w:World} (k:Kp wb w):OwnR wb w (.slice none 0 0) [] []:=⟨⟨rfl,k⟩,World.ownsRow_nil _ _ _ _,fun i r h=>by simp at h⟩
theorem OwnR.kp {wb w w':World} {v:Value} {us:List Value} {rows:List (List RD)} (h:OwnR wb w v us rows) (k:Kp w w'):OwnR wb w' v us rows:=by
 obtain⟨h1,⟨h2,h3⟩,h4⟩:=h
 refine⟨⟨h1.1,h1.2.trans k⟩,⟨h2,?_⟩,fun i r hi=>?_⟩
 ·rcases h3 with h3 | ⟨g,cap,cur,h4,hb,hg,hr⟩
  ·exact .inl h3
  exact .inr ⟨g,cap,cur,h4,hb,k.heap hg,hr⟩
 obtain⟨h5,g,c,h6,h7,h8,h9⟩:=h4 i r hi
 exact⟨h5,g,c,h6,h7.kp k,h8,Nat.lt_of_lt_of_le h9 k.size⟩
theorem RowD.far {w w':World} {row:Option Nat} {g:Nat} {r:List RD} (h:RowD w (some ⟨g,0,none⟩) r) (hg:w.grownBy w' row) (hlt:g<w.heap.size) (hne:some g≠row) (hr:∀ x,x∈r→x.rd w'):RowD w' (some ⟨g,0,none⟩) r:=by
 intro i x hi
 obtain⟨b,o,e,_,h0,h1,h2⟩:=h i x hi
 cases e
 refine⟨g,0,rfl,hr x (List.mem_of_getElem? hi),?_,?_,?_⟩
 ·rw[hg.cell_far _ hlt hne];exact h0
 ·rw[hg.cell_far _ hlt hne];exact h1
 rw[hg.cell_far _ hlt hne];exact h2
theorem OwnR.value {wb w:World} {v:Value} {us:List Value} {rows:List (List RD)} (h:OwnR wb w v us rows) (hpos:0<rows.length):∃ b c,v=.slice (some ⟨b,0,none⟩) rows.length c∧∀ (i:Nat) (r:List RD),rows[i]? = some r→∃ g c1,w.cell? ⟨b,i,none⟩=some (.slice (some ⟨g,0,none⟩) r.length c1)∧RowD w (some ⟨g,0,none⟩) r:=by
 obtain⟨⟨hl,hk⟩,⟨_,h3⟩,h4⟩:=h
 rcases h3 with ⟨_,h3⟩ | ⟨b,cap,cur,rfl,hb,hg,hn,hc,hs,ht⟩
 ·omega
 refine⟨b,cap,by rw[hl],fun i r hi=>?_⟩
 obtain⟨_,g,c1,h6,h7,_⟩:=h4 i r hi
 refine⟨g,c1,?_,h7⟩
 have hil:i<us.length:=(List.getElem?_eq_some_iff.1 h6).1
 rw[cell_of_row w b _ cur _ _ hg]
 have h5:(cur.toList.take (us.length*1))[i]? = some (.slice (some ⟨g,0,none⟩) r.length c1):=by rw[ht];exact h6
 rw[List.getElem?_take,if_pos (by omega)] at h5
 simpa using h5
def AllC (p:Value→Prop) (w:World) (v:Value):Prop:=∀ g,v.ownBlock=some g→∀ j u,w.cell? ⟨g,j,none⟩=some u→p u
theorem AllC.nil (p:Value→Prop) (w:World):AllC p w (.slice none 0 0):=fun g h=>by simp[Value.ownBlock] at h
theorem zeros_mem {z:Array Value} {n:Nat} {u:Value} (hz:0<z.size) (h:u∈Builtin.zeroCells z n):u∈z:=by
 unfold Builtin.zeroCells at h
 rw[Array.mem_map] at h
 obtain⟨i,_,rfl⟩:=h
 have:i % z.size<z.size:=Nat.mod_lt _ hz
 rw[getElem!_pos z _ this]
 exact Array.getElem_mem this
theorem append_all {P:Program} (w:World) (p:Value→Prop) (t ty:TypeId) (base:Nat) (e:TypeId) (i:TypeInfo) (z:Value) (size bytes:Nat) (ht:P.underlying t=some (.slice e)) (hi:P.info? e=some i) (hz:i.zero=some z)
  (hsize:i.size=size) (hby:i.bytes=bytes) (hzs:z.cells.size=size) (hsz:0<size)
  (v:Value) (n:Nat) (xs:List Value) (hown:w.ownsRow base e size v n xs)
  (ad:Addr) (m c:Nat) (news:List Value) (hl:news.length=m*size) (hnews:∀ j u,news[j]? = some u→w.cell? (ad.add j)=some u) (h1:∀ u∈news,u.oneCell'=true)
  (hm:0<m) (h63:n+m≤maxLen) (hbytes:(n+m)*bytes≤140737488355328) (hbase:base≤w.heap.size)
  (hp:AllC p w v) (hpn:∀ u∈news,p u) (hpz:∀ u∈z.cells,p u) :
  ∃ g cap w',(Builtin.append_ #[t,t] ty #[v,.slice (some ad) m c]).run P w=.ok (.slice (some ⟨g,0,none⟩) (n+m) cap) w' ∧
   w'.ownsRow base e size (.slice (some ⟨g,0,none⟩) (n+m) cap) (n+m) (xs++news)∧w.grownBy w' v.ownBlock∧(v.ownBlock=some g∨g=w.heap.size)∧AllC p w' (.slice (some ⟨g,0,none⟩) (n+m) cap):=by
 obtain⟨g,cap,w',hr,h2,h3,h4,h5⟩:=run_append_lies (P:=P) w t ty base e i z size bytes ht hi hz hsize hby hzs hsz v n xs hown ad m c news hl hnews h1 hm h63 hbytes hbase w.heap.size rfl
 refine⟨g,cap,w',hr,h2,h3,h4,?_⟩
 intro g' hg' j u hu
 have hgg:g=g':=by simpa [Value.ownBlock] using hg'
 subst hgg
 subst hsize
 subst hby
 have hsmall:n+m≤9223372036854775807:=by simp only[maxLen] at h63;omega
 have zc:∀ k,∀ u∈Builtin.zeroCells z.cells k,p u:=fun k u hu=>hpz u (zeros_mem (by omega) hu)
 rcases hown.2 with ⟨rfl,rfl⟩ | ⟨g0,cap0,cur,rfl,hbg,hg,hnc,hcm,hcs,htake⟩
 ·have hr2:=run_append_nil (P:=P) w t ty e i z ht hi hz ad m c news hl hnews hm (by omega) (by have hb:=hbytes;simp only[Nat.zero_add] at hb;omega)
  rw[hr2] at hr
  injection hr with e1 e2
  subst e2
  have e3:w.heap.size=g:=by simp at e1;exact e1.1
  subst e3
  have hh:(w.drew.alloc (.cells (news.toArray++Builtin.zeroCells z.cells (grownCap w m 0 e-m)) e)).heap[w.heap.size]? = some _:=heap_alloc_new w.drew _
  rw[cell_of_row _ _ j _ _ _ hh] at hu
  rcases Array.mem_append.1 (Array.mem_of_getElem? hu) with h | h
  ·exact hpn u (by simpa using h)
  exact zc _ u h
 have hpx:∀ u∈xs,p u:=fun u hu=>by
  obtain⟨j,hj⟩:=List.getElem?_of_mem hu
  have h6:=hown.cells (g:=g0) rfl j u hj
  have hadd:(⟨g0,0,none⟩:Addr).add j=⟨g0,j,none⟩:=by unfold Addr.add;split <;> simp_all
  rw[hadd] at h6
  exact hp g0 rfl j u h6
 by_cases hroom:n+m≤cap0
 rotate_left
 ·have holds:∀ j u,xs[j]? = some u→w.cell? ((⟨g0,0,none⟩:Addr).add j)=some u:=hown.cells (g:=g0) rfl
  have hr2:=run_append_grow (P:=P) w t ty e i z ht hi hz ⟨g0,0,none⟩ n cap0 xs hown.1 holds ad m c news hl hnews (by omega) (by omega) (growslice_fits (by omega) hbytes)
  rw[hr2] at hr
  injection hr with e1 e2
  subst e2
  have e3:w.heap.size=g:=by simp at e1;exact e1.1
  subst e3
  have hh:(w.drew.alloc (.cells (xs.toArray++news.toArray++Builtin.zeroCells z.cells (grownCap w (n+m) cap0 e-(n+m))) e)).heap[w.heap.size]? = some _:=heap_alloc_new w.drew _
  rw[cell_of_row _ _ j _ _ _ hh] at hu
  rcases Array.mem_append.1 (Array.mem_of_getElem? hu) with h | h
  ·rcases Array.mem_append.1 h with h | h
   ·exact hpx u (by simpa using h)
   exact hpn u (by simpa using h)
  exact zc _ u h
 have hfit:n*i.size+news.length≤cur.size:=by rw[hl,hcs,← Nat.add_mul];exact Nat.mul_le_mul_right _ hroom
 have hr2:=run_append_room (P:=P) w t ty e i ht hi g0 n cap0 cur hg ad m c news hl hnews h1 hroom hfit
 rw[hr2] at hr
 injection hr with e1 e2
 subst e2
 have e3:g0=g:=by simp at e1;exact e1.1
 subst e3
 rw[cell_of_row _ _ j _ _ _ (setRow_heap w g0 cur _ e _ hg)] at hu
 have hc:∀ u∈cur.toList,p u:=fun u hu=>by
  obtain⟨k,hk⟩:=List.getElem?_of_mem hu
  exact hp g0 rfl k u (by rw[cell_of_row w g0 k cur _ _ hg];simpa using hk)
 have hmem:u∈cur.toList.take (n*i.size)++news++cur.toList.drop (n*i.size+news.length):=by
  have:=Array.mem_of_getElem? hu
  simpa using this
 rcases List.mem_append.1 hmem with h | h
 ·rcases List.mem_append.1 h with h | h
  ·exact hc u (List.mem_of_mem_take h)
  exact hpn u h
 exact hc u (List.mem_of_mem_drop h)
theorem wpList_append_all {P:Program} (w:World) (p:Value→Prop) {ops:Array Oper} {rest:List Oper} {o:Oper} {a:Act} {Q:Exit→Act→World→Prop} (hgd:o.guard=none) (s x:Operand) (t:TypeId)
  (ho:o.op=.call { callee:=.builtin .append,args:=#[s,x],argTypes:=#[t,t] })
  (base:Nat) (e:TypeId) (i:TypeInfo) (z:Value) (size bytes:Nat) (ht:P.underlying t=some (.slice e)) (hi:P.info? e=some i) (hz:i.zero=some z)
  (hsize:i.size=size) (hby:i.bytes=bytes) (hzs:z.cells.size=size) (hsz:0<size)
  (v:Value) (n:Nat) (xs:List Value) (hs:a.eval s=v) (hown:w.ownsRow base e size v n xs)
  (ad:Addr) (m c:Nat) (news:List Value) (hx:a.eval x=.slice (some ad) m c) (hl:news.length=m*size) (hnews:∀ j u,news[j]? = some u→w.cell? (ad.add j)=some u) (h1:∀ u∈news,u.oneCell'=true)
  (hm:0<m) (h63:n+m≤maxLen) (hbytes:(n+m)*bytes≤140737488355328) (hbase:base≤w.heap.size)
  (hp:AllC p w v) (hpn:∀ u∈news,p u) (hpz:∀ u∈z.cells,p u)
  (h:∀ g cap w',w'.ownsRow base e size (.slice (some ⟨g,0,none⟩) (n+m) cap) (n+m) (xs++news)→w.grownBy w' v.ownBlock→(v.ownBlock=some g∨g=w.heap.size)→AllC p w' (.slice (some ⟨g,0,none⟩) (n+m) cap)→wpList P ops Q rest (a.put o.dst (.slice (some ⟨g,0,none⟩) (n+m) cap)) w') :
  wpList P ops Q (o::rest) a w:=by
 obtain⟨g,cap,w',hr,h2,h3,h4,h5⟩:=append_all (P:=P) w p t o.type base e i z size bytes ht hi hz hsize hby hzs hsz v n xs hown ad m c news hl hnews h1 hm h63 hbytes hbase hp hpn hpz
 refine wpList_plain hgd fun K hK=>?_
 unfold Oper.wp execOp
 simp only[ho,resolve,invoke,builtin,Sem.run_bind,Sem.run_pure,Result.andThen_ok,List.map_toArray,List.map_cons,List.map_nil,hs,hx,hr]
 exact hK _ _ (h g cap w' h2 h3 h4 h5)
def NoU (u:Value):Prop:=∀ x,u≠.int .u32 x
theorem rd_far {w w':World} {v:Value} {a:Option Addr} {xs:List Nat} (h:Rd w a xs) (hg:w.grownBy w' v.ownBlock) (hn:AllC NoU w v):Rd w' a xs:=by
 refine⟨h.1,?_⟩
 rcases h.2 with h0 | ⟨b',o',e,hc⟩
 ·exact .inl h0
 refine .inr ⟨b',o',e,fun i hi=>?_⟩
 have h3:=hc i hi
 have hlt:b'<w.heap.size:=by
  rcases Nat.lt_or_ge b' w.heap.size with h | h
  ·exact h
  ·simp[World.cell?,Array.getElem?_eq_none h] at h3
 rw[hg.cell_far _ hlt (fun e=>hn b' e.symm _ _ h3 _ rfl)]
 exact h3
theorem RD.rd.far {w w':World} {v:Value} {x:RD} (h:x.rd w) (hg:w.grownBy w' v.ownBlock) (hn:AllC NoU w v):x.rd w':=⟨rd_far h.1 hg hn,h.2⟩
theorem RI.rd.far {w w':World} {v:Value} {x:RI} (h:x.rd w) (hg:w.grownBy w' v.ownBlock) (hn:AllC NoU w v):x.rd w':=⟨h.1.far hg hn,h.2.far hg hn⟩
theorem AllC.kp {p:Value→Prop} {w w':World} {base:Nat} {e:TypeId} {size n:Nat} {xs:List Value} {v:Value} (h:AllC p w v) (ho:w.ownsRow base e size v n xs) (k:Kp w w'):AllC p w' v:=by
 intro g hg j u hu
 rcases ho.2 with ⟨rfl,h3⟩ | ⟨g',cap,cur,rfl,hb,hgg,hr⟩
 ·simp[Value.ownBlock] at hg
 have e1:g'=g:=by simpa [Value.ownBlock] using hg
 subst e1
 refine h g' hg j u ?_
 rw[cell_of_row _ _ j _ _ _ hgg]
 rw[cell_of_row _ _ j _ _ _ (k.heap hgg)] at hu
 exact hu
theorem Kp.owns {wb w w':World} {e:TypeId} {size n:Nat} {xs:List Value} {v:Value} (h:w.ownsRow wb.heap.size e size v n xs) (k:Kp w w'):w'.ownsRow wb.heap.size e size v n xs:=by
 refine⟨h.1,?_⟩
 rcases h.2 with h3 | ⟨g,cap,cur,h4,hb,hg,hr⟩
 ·exact .inl h3
 exact .inr ⟨g,cap,cur,h4,hb,k.heap hg,hr⟩
def OwnN (wb w:World) (v:Value) (zs:List RI):Prop :=
 Kp wb w∧w.ownsRow wb.heap.size 115 7 v zs.length (zs.flatMap RI.cells)∧AllC NoU w v∧∀ x,x∈zs→x.rd w
theorem OwnN.nil {wb w:World} (k:Kp wb w):OwnN wb w (.slice none 0 0) []:=⟨k,World.ownsRow_nil _ _ _ _,AllC.nil _ _,fun x h=>by simp at h⟩
theorem OwnN.kp {wb w w':World} {v:Value} {zs:List RI} (h:OwnN wb w v zs) (k:Kp w w'):OwnN wb w' v zs :=
 ⟨h.1.trans k,Kp.owns h.2.1 k,h.2.2.1.kp h.2.1 k,fun x hx=>(h.2.2.2 x hx).kp k⟩
theorem OwnN.value {wb w:World} {v:Value} {zs:List RI} (h:OwnN wb w v zs):∃ a c,v=.slice a zs.length c∧zs.length≤c∧c≤maxLen∧RowI w a zs:=by
 obtain⟨h1,⟨h2,h3⟩,h6,h4⟩:=h
 rcases h3 with ⟨rfl,h3⟩ | ⟨g,cap,cur,rfl,hb,hg,hn,hc,hs,ht⟩
 ·have h0:zs=[]:=List.length_eq_zero_iff.1 h3
  subst h0
  exact⟨none,0,rfl,Nat.le_refl _,by decide,fun i x hi=>by simp at hi⟩
 refine⟨_,_,rfl,hn,hc,fun i x hi=>⟨g,0,rfl,h4 x (List.mem_of_getElem? hi),?_⟩⟩
 have hil:i<zs.length:=(List.getElem?_eq_some_iff.1 hi).1
 have key (j:Nat) (hj:j<7) (u:Value) (hu:x.cells[j]? = some u):w.cell? ⟨g,i*7+j,none⟩=some u:=by
  rw[cell_of_row w g _ cur _ _ hg]
  have h5:(cur.toList.take (zs.length*7))[i*7+j]? = some u:=by rw[ht,flat_get hi hj,hu]
  rw[List.getElem?_take,if_pos (by omega)] at h5
  simpa using h5
 simp only[Nat.zero_add]
 exact⟨key 0 (by decide) _ rfl,key 1 (by decide) _ rfl,key 2 (by decide) _ rfl,key 3 (by decide) _ rfl,key 4 (by decide) _ rfl,key 5 (by decide) _ rfl,key 6 (by decide) _ rfl⟩
theorem noU_cells {x:RI}:∀ u∈x.cells,NoU u:=by
 intro u hu y e
 simp only[RI.cells,List.mem_cons,List.not_mem_nil,or_false] at hu
 rcases hu with rfl | rfl | rfl | rfl | rfl | rfl | rfl <;> cases e
theorem wpList_append_ivn {w:World} {ops:Array Oper} {rest:List Oper} {o:Oper} {a:Act} {Q:Exit→Act→World→Prop} (hgd:o.guard=none) (s x:Operand)
  (ho:o.op=.call { callee:=.builtin .append,args:=#[s,x],argTypes:=#[58,58] })
  (wb:World) (v:Value) (zs:List RI) (hs:a.eval s=v) (hown:OwnN wb w v zs)
  (g c:Nat) (hx:a.eval x=.slice (some ⟨g,0,none⟩) 1 c) (y:RI) (hy:y.rd w)
  (hcell:w.cell? ⟨g,0,none⟩=some (.bool y.lo.neg)∧w.cell? ⟨g,1,none⟩=some (.slice y.lo.a y.lo.xs.length y.lo.c)∧w.cell? ⟨g,2,none⟩=some (.int .i64 y.lo.e)∧w.cell? ⟨g,3,none⟩=some (.bool y.hi.neg)∧w.cell? ⟨g,4,none⟩=some (.slice y.hi.a y.hi.xs.length y.hi.c)∧w.cell? ⟨g,5,none⟩=some (.int .i64 y.hi.e)∧w.cell? ⟨g,6,none⟩=some (.bool y.all)) (hlen:zs.length+1≤9000000)
  (h:∀ a' c' w',OwnN wb w' (.slice a' (zs.length+1) c') (zs++[y])→Below wb.heap.size w w'→wpList Tryz.prog ops Q rest (a.put o.dst (.slice a' (zs.length+1) c')) w') :
  wpList Tryz.prog ops Q (o::rest) a w:=by
 obtain⟨i0,hi,hz0,hz1,hz2⟩:=info_parts infoIvl
 obtain⟨hk,hown1,hall,hrows⟩:=hown
 refine wpList_append_all w NoU hgd s x 58 ho wb.heap.size 115 i0 (.agg #[.bool false,.slice none 0 0,.int .i64 0,.bool false,.slice none 0 0,.int .i64 0,.bool false]) 7 88 Tryz.underlying58 hi hz0 hz1 hz2 rfl (by decide) v zs.length (zs.flatMap RI.cells) hs hown1
  ⟨g,0,none⟩ 1 c y.cells hx rfl ?_ ?_ (by decide) (by unfold maxLen;omega) (by omega) hk.size hall noU_cells ?_ ?_
 ·intro j u hj
  obtain⟨h0,h1,h2,h3,h4,h5,h6⟩:=hcell
  match j,hj with
  | 0,hj=>cases hj;simpa [Addr.add] using h0
  | 1,hj=>cases hj;simpa [Addr.add] using h1
  | 2,hj=>cases hj;simpa [Addr.add] using h2
  | 3,hj=>cases hj;simpa [Addr.add] using h3
  | 4,hj=>cases hj;simpa [Addr.add] using h4
  | 5,hj=>cases hj;simpa [Addr.add] using h5
  | 6,hj=>cases hj;simpa [Addr.add] using h6
  | j+7,hj=>simp[RI.cells] at hj
 ·intro u hu
  simp only[RI.cells,List.mem_cons,List.not_mem_nil,or_false] at hu
  rcases hu with rfl | rfl | rfl | rfl | rfl | rfl | rfl <;> rfl
 ·intro u hu y e
  simp[Value.cells] at hu
  rcases hu with rfl | rfl | rfl | rfl | rfl | rfl | rfl <;> cases e
 intro g' cap w' h1 h2 h3 h6
 have hb:Below wb.heap.size w w':=(Below.refl wb.heap.size w).grown h2 hk.size (fun k hk=>(hown1.lt k hk).1)
 refine h _ _ w' ⟨Below.trans hk hb,?_,h6,fun q hq=>?_⟩ hb
 ·rw[List.flatMap_append,List.length_append]
  simpa using h1
 rcases List.mem_append.1 hq with hq | hq
 ·exact (hrows q hq).far h2 hall
 simp only[List.mem_singleton] at hq
 subst hq
 exact hy.far h2 hall
def OwnE (wb w:World) (v:Value) (zs:List RD):Prop :=
 Kp wb w∧w.ownsRow wb.heap.size 113 3 v zs.length (zs.flatMap RD.cells)∧AllC NoU w v∧∀ x,x∈zs→x.rd w
theorem OwnE.nil {wb w:World} (k:Kp wb w):OwnE wb w (.slice none 0 0) []:=⟨k,World.ownsRow_nil _ _ _ _,AllC.nil _ _,fun x h=>by simp at h⟩
theorem OwnE.kp {wb w w':World} {v:Value} {zs:List RD} (h:OwnE wb w v zs) (k:Kp w w'):OwnE wb w' v zs :=
 ⟨h.1.trans k,Kp.owns h.2.1 k,h.2.2.1.kp h.2.1 k,fun x hx=>(h.2.2.2 x hx).kp k⟩
theorem OwnE.value {wb w:World} {v:Value} {zs:List RD} (h:OwnE wb w v zs):∃ a c,v=.slice a zs.length c∧zs.length≤c∧c≤maxLen∧RowD w a zs:=by
 obtain⟨h1,⟨h2,h3⟩,h6,h4⟩:=h
 rcases h3 with ⟨rfl,h3⟩ | ⟨g,cap,cur,rfl,hb,hg,hn,hc,hs,ht⟩
 ·have h0:zs=[]:=List.length_eq_zero_iff.1 h3
  subst h0
  exact⟨none,0,rfl,Nat.le_refl _,by decide,fun i x hi=>by simp at hi⟩
 refine⟨_,_,rfl,hn,hc,fun i x hi=>⟨g,0,rfl,h4 x (List.mem_of_getElem? hi),?_⟩⟩
 have hil:i<zs.length:=(List.getElem?_eq_some_iff.1 hi).1
 have key (j:Nat) (hj:j<3) (u:Value) (hu:x.cells[j]? = some u):w.cell? ⟨g,i*3+j,none⟩=some u:=by
  rw[cell_of_row w g _ cur _ _ hg]
  have h5:(cur.toList.take (zs.length*3))[i*3+j]? = some u:=by rw[ht,flatD_get hi hj,hu]
  rw[List.getElem?_take,if_pos (by omega)] at h5
  simpa using h5
 simp only[Nat.zero_add]
 exact⟨key 0 (by decide) _ rfl,key 1 (by decide) _ rfl,key 2 (by decide) _ rfl⟩
def Two (wb w:World) (v u:Value) (L M:List RD):Prop:=OwnE wb w v L∧OwnE wb w u M∧∀ g,v.ownBlock=some g→u.ownBlock≠some g
theorem Two.nil {wb w:World} (k:Kp wb w):Two wb w (.slice none 0 0) (.slice none 0 0) [] []:=⟨.nil k,.nil k,fun g h=>by simp[Value.ownBlock] at h⟩
theorem Two.kp {wb w w':World} {v u:Value} {L M:List RD} (h:Two wb w v u L M) (k:Kp w w'):Two wb w' v u L M:=⟨h.1.kp k,h.2.1.kp k,h.2.2⟩
theorem OwnE.lt {wb w:World} {v:Value} {L:List RD} (h:OwnE wb w v L):∀ g,v.ownBlock=some g→g<w.heap.size:=fun g hg=>(h.2.1.lt g hg).2
theorem OwnE.far {wb w w':World} {v u:Value} {L M:List RD} (h:OwnE wb w u M) (hv:OwnE wb w v L) (hap:∀ g,v.ownBlock=some g→u.ownBlock≠some g) (hg:w.grownBy w' v.ownBlock) (k:Kp wb w'):OwnE wb w' u M:=by
 obtain⟨h1,h2,h3,h4⟩:=h
 have hne:u.ownBlock=none∨u.ownBlock≠v.ownBlock:=by
  cases hu:u.ownBlock with
  | none=>exact .inl rfl
  | some g=>exact .inr fun e=>hap g e.symm hu
 refine⟨k,h2.kept hg hne,?_,fun x hx=>(h4 x hx).far hg hv.2.2.1⟩
 intro g hg' j val hc
 have hlt:=(h2.lt g hg').2
 have hne2:some g≠v.ownBlock:=fun e=>hap g e.symm hg'
 exact h3 g hg' j val (by rw[← hg.cell_far ⟨g,j,none⟩ hlt hne2];exact hc)
def RowM (w:World) (a:Option Addr) (m:List (List RI)):Prop :=
 ∀ i r,m[i]? = some r→∃ b o ra rc,a=some ⟨b,o,none⟩∧w.cell? ⟨b,o+i,none⟩=some (.slice ra r.length rc)∧RowI w ra r∧r.length≤1100000
theorem RowM.kp {w w':World} {a:Option Addr} {m:List (List RI)} (h:RowM w a m) (k:Kp w w'):RowM w' a m:=by
 intro i r hi
 obtain⟨b,o,ra,rc,h1,h2,h3,h4⟩:=h i r hi
 exact⟨b,o,ra,rc,h1,k.cell h2,h3.kp k,h4⟩
def Off (v:Value) (a:Option Addr) (w:World):Prop:=∀ p,a=some p→v.ownBlock≠some p.block∧p.block<w.heap.size
theorem Off.kp {v:Value} {a:Option Addr} {w w':World} (h:Off v a w) (k:w.heap.size≤w'.heap.size):Off v a w':=fun p hp=>⟨(h p hp).1,Nat.lt_of_lt_of_le (h p hp).2 k⟩
theorem RowI.rdI {w:World} {a:Option Addr} {zs:List RI} (h:RowI w a zs) {x:RI} (hx:x∈zs):x.rd w:=by
 obtain⟨i,hi⟩:=List.getElem?_of_mem hx
 obtain⟨_,_,_,hr,_⟩:=h i x hi
 exact hr
theorem RowI.far {w w':World} {v:Value} {a:Option Addr} {r:List RI} (h:RowI w a r) (hg:w.grownBy w' v.ownBlock) (hn:AllC NoU w v) (ho:Off v a w):RowI w' a r:=by
 intro i x hi
 obtain⟨b,o,e,hr,h0,h1,h2,h3,h4,h5,h6⟩:=h i x hi
 obtain⟨hne,_⟩:=ho _ e
 have hne':∀ j,some (⟨b,j,none⟩:Addr).block≠v.ownBlock:=fun j e=>hne e.symm
 exact⟨b,o,e,hr.far hg hn,hg.cell h0 (hne' _),hg.cell h1 (hne' _),hg.cell h2 (hne' _),hg.cell h3 (hne' _),hg.cell h4 (hne' _),hg.cell h5 (hne' _),hg.cell h6 (hne' _)⟩
theorem Off.far {w w':World} {v u:Value} {a:Option Addr} (h:Off v a w) (hs:w.heap.size≤w'.heap.size) (hu:v.ownBlock=u.ownBlock∨u.ownBlock=some w.heap.size):Off u a w':=by
 intro p hp
 obtain⟨h1,h2⟩:=h p hp
 refine⟨?_,by omega⟩
 rcases hu with hu | hu
 ·rw[← hu];exact h1
 rw[hu];intro e;injection e with e;omega
theorem RowI.store {w:World} {a:Option Addr} {r:List RI} (h:RowI w a r) {g i:Nat} {u:Value} (hc:w.cell? ⟨g,i,none⟩=some u) (hu:NoU u) (ha:∀ p,a=some p→p.block≠g) (v:Value):RowI (w.setCell ⟨g,i,none⟩ v) a r:=by
 intro j x hj
 obtain⟨b,o,e,hr,h0,h1,h2,h3,h4,h5,h6⟩:=h j x hj
 have hb:=ha _ e
 have d (k:Nat):(⟨g,i,none⟩:Addr)≠⟨b,k,none⟩:=fun e=>hb (by injection e with e1;exact e1.symm)
 have hd (y:RD) (hy:y.rd w):y.rd (w.setCell ⟨g,i,none⟩ v):=⟨hy.1.other hc hu,hy.2⟩
 refine⟨b,o,e,⟨hd _ hr.1,hd _ hr.2⟩,?_,?_,?_,?_,?_,?_,?_⟩ <;> (rw[cell_set_ne (d _)];assumption)
theorem OwnN.store {wb w:World} {v:Value} {zs:List RI} (h:OwnN wb w v zs) {g i:Nat} {u:Value} (hg:wb.heap.size≤g) (hc:w.cell? ⟨g,i,none⟩=some u) (hu:NoU u) (hv:v.ownBlock≠some g) (y:Value):OwnN wb (w.setCell ⟨g,i,none⟩ y) v zs:=by
 obtain⟨h1,h2,h3,h4⟩:=h
 refine⟨h1.set hg y,ownsRow_setCell_other h2 hv y,fun b hb j z hz=>?_,fun x hx=>?_⟩
 ·rw[cell_set_ne (fun e=>by injection e with e1;subst e1;exact hv hb)] at hz
  exact h3 b hb j z hz
 have hd (q:RD) (hq:q.rd w):q.rd (w.setCell ⟨g,i,none⟩ y):=⟨hq.1.other hc hu,hq.2⟩
 exact⟨hd _ (h4 x hx).1,hd _ (h4 x hx).2⟩
theorem OwnN.new {wb w:World} {v:Value} {zs:List RI} (h:OwnN wb w v zs):∀ g,v.ownBlock=some g→g<w.heap.size:=fun g hg=>(h.2.1.lt g hg).2
def OutM (wb w:World) (g n:Nat) (R:List (List RI)) (v:Value) (cur:List RI):Prop :=
 (wb.heap.size≤g∧g<w.heap.size∧R.length<n∧v.ownBlock≠some g)∧OwnN wb w v cur∧w.cell? ⟨g,R.length,none⟩=some v ∧
 (∀ i,i<n→w.frozen? ⟨g,i,none⟩=false)∧(∀ i,R.length<i→i<n→w.cell? ⟨g,i,none⟩=some (.slice none 0 0)) ∧
 ∀ i r,R[i]? = some r→r.length≤1100000∧∃ ra rc,w.cell? ⟨g,i,none⟩=some (.slice ra r.length rc)∧RowI w ra r∧Off v ra w∧∀ p,ra=some p→p.block≠g
def OutH (wb w:World) (g n:Nat) (R:List (List RI)):Prop :=
 (wb.heap.size≤g∧g<w.heap.size∧R.length≤n)∧Kp wb w ∧
 (∀ i,i<n→w.frozen? ⟨g,i,none⟩=false)∧(∀ i,R.length≤i→i<n→w.cell? ⟨g,i,none⟩=some (.slice none 0 0)) ∧
 ∀ i r,R[i]? = some r→r.length≤1100000∧∃ ra rc,w.cell? ⟨g,i,none⟩=some (.slice ra r.length rc)∧RowI w ra r∧∀ p,ra=some p→p.block≠g∧p.block<w.heap.size
theorem OutH.kp {wb w w':World} {g n:Nat} {R:List (List RI)} (h:OutH wb w g n R) (k:Kp w w'):OutH wb w' g n R:=by
 obtain⟨⟨h1,h2,h3⟩,hk,hf,hz,hr⟩:=h
 have hs:=k.size
 refine⟨⟨h1,by omega,h3⟩,hk.trans k,fun i hi=>?_,fun i h h'=>k.cell (hz i h h'),fun i r hi=>?_⟩
 ·rw[k.below.frozen h2];exact hf i hi
 obtain⟨q1,ra,rc,q2,q3,q4⟩:=hr i r hi
 exact⟨q1,ra,rc,k.cell q2,q3.kp k,fun p hp=>⟨(q4 p hp).1,by have:=(q4 p hp).2;omega⟩⟩
theorem OutM.kp {wb w w':World} {g n:Nat} {R:List (List RI)} {v:Value} {cur:List RI} (h:OutM wb w g n R v cur) (k:Kp w w'):OutM wb w' g n R v cur:=by
 obtain⟨⟨h1,h2,h3,h4⟩,ho,hv,hf,hz,hr⟩:=h
 have hs:=k.size
 refine⟨⟨h1,by omega,h3,h4⟩,ho.kp k,k.cell hv,fun i hi=>?_,fun i h h'=>k.cell (hz i h h'),fun i r hi=>?_⟩
 ·rw[k.below.frozen h2];exact hf i hi
 obtain⟨q1,ra,rc,q2,q3,q4,q5⟩:=hr i r hi
 exact⟨q1,ra,rc,k.cell q2,q3.kp k,q4.kp hs,q5⟩
theorem OutM.step {wb w w':World} {g n:Nat} {R:List (List RI)} {v v':Value} {cur:List RI} {x:RI} (h:OutM wb w g n R v cur)
  (ho:OwnN wb w' v' (cur++[x])) (hg:w.grownBy w' v.ownBlock) (hv:v.ownBlock=v'.ownBlock∨v'.ownBlock=some w.heap.size) (hn:NoU v) :
  OutM wb (w'.setCell ⟨g,R.length,none⟩ v') g n R v' (cur++[x]):=by
 obtain⟨⟨h1,h2,h3,h4⟩,ho0,hv0,hf,hz,hr⟩:=h
 have hs:w.heap.size≤w'.heap.size:=hg.size
 have hgn:v'.ownBlock≠some g:=by
  rcases hv with hv | hv
  ·rw[← hv];exact h4
  ·rw[hv];intro e;injection e with e;omega
 have keep (i:Nat) (u:Value) (hc:w.cell? ⟨g,i,none⟩=some u):w'.cell? ⟨g,i,none⟩=some u:=hg.cell hc (fun e=>h4 e.symm)
 have hv1:=keep _ _ hv0
 refine⟨⟨h1,by simpa using (by omega:g<w'.heap.size),h3,hgn⟩,ho.store h1 hv1 hn hgn v',cell_set_eq hv1,fun i hi=>?_,fun i h h'=>?_,fun i r hi=>?_⟩
 ·have hfi:w'.frozen? ⟨g,i,none⟩=false:=by
   have:=hg.block g h2 (fun e=>h4 e.symm)
   have hh:=hf i hi
   unfold World.frozen? at hh ⊢
   rw[this];exact hh
  simpa using hfi
 ·rw[cell_set_ne (fun e=>by injection e with _ e2;omega)]
  exact keep _ _ (hz i h h')
 obtain⟨q1,ra,rc,q2,q3,q4,q5⟩:=hr i r hi
 have hir:=(List.getElem?_eq_some_iff.1 hi).1
 refine⟨q1,ra,rc,?_,(q3.far hg ho0.2.2.1 q4).store hv1 hn q5 v',(q4.far hs hv).kp (by simp),q5⟩
 rw[cell_set_ne (fun e=>by injection e with _ e2;omega)]
 exact keep _ _ q2
def OwnM (wb w:World) (v:Value) (us:List Value) (R:List (List RI)):Prop :=
 Kp wb w∧w.ownsRow wb.heap.size 58 1 v us.length us∧AllC NoU w v∧us.length=R.length ∧
 ∀ (i:Nat) (r:List RI),R[i]? = some r→r.length≤1100000∧∃ ra rc,us[i]? = some (Value.slice ra r.length rc)∧RowI w ra r∧Off v ra w
theorem OwnM.nil {wb w:World} (k:Kp wb w):OwnM wb w (.slice none 0 0) [] []:=⟨k,World.ownsRow_nil _ _ _ _,AllC.nil _ _,rfl,fun i r h=>by simp at h⟩
theorem OwnM.kp {wb w w':World} {v:Value} {us:List Value} {R:List (List RI)} (h:OwnM wb w v us R) (k:Kp w w'):OwnM wb w' v us R:=by
 obtain⟨h1,h2,h3,h4,h5⟩:=h
 refine⟨h1.trans k,Kp.owns h2 k,h3.kp h2 k,h4,fun i r hi=>?_⟩
 obtain⟨q1,ra,rc,q2,q3,q4⟩:=h5 i r hi
 exact⟨q1,ra,rc,q2,q3.kp k,q4.kp k.size⟩
theorem OwnM.value {wb w:World} {v:Value} {us:List Value} {R:List (List RI)} (h:OwnM wb w v us R):∃ a c,v=.slice a R.length c∧R.length≤c∧c≤maxLen∧RowM w a R:=by
 obtain⟨h1,⟨h2,h3⟩,h6,h4,h5⟩:=h
 rcases h3 with ⟨rfl,h3⟩ | ⟨g,cap,cur,rfl,hb,hg,hn,hc,hs,ht⟩
 ·have h0:R=[]:=List.length_eq_zero_iff.1 (by omega)
  subst h0
  exact⟨none,0,rfl,Nat.le_refl _,by decide,fun i x hi=>by simp at hi⟩
 rw[h4]
 refine⟨_,_,rfl,by omega,hc,fun i r hi=>?_⟩
 obtain⟨q1,ra,rc,q2,q3,q4⟩:=h5 i r hi
 have hil:i<us.length:=(List.getElem?_eq_some_iff.1 q2).1
 refine⟨g,0,ra,rc,rfl,?_,q3,q1⟩
 rw[Nat.zero_add,cell_of_row w g _ cur _ _ hg]
 have h7:(cur.toList.take (us.length*1))[i]? = some (.slice ra r.length rc):=by rw[ht];exact q2
 rw[List.getElem?_take,if_pos (by omega)] at h7
 simpa using h7
theorem OwnN.off {w wo w':World} {v u:Value} {zs:List RI} {a:Option Addr} {n c:Nat} (h:OwnN wo w v zs) (hv:v=.slice a n c) (hu:∀ g,u.ownBlock=some g→g<wo.heap.size) (hs:w.heap.size≤w'.heap.size):Off u a w':=by
 intro p hp
 subst hp
 subst hv
 have hl:=h.new
 obtain⟨_,⟨_,hq⟩,_⟩:=h
 rcases hq with ⟨e,_⟩ | ⟨b,cap,cu,e,hb,_⟩
 ·cases e
 cases e
 have:=hl b rfl
 exact⟨fun e=>by have h9:b<wo.heap.size:=hu _ e;omega,by show b<_;omega⟩
theorem OwnM.new {wb w:World} {v:Value} {us:List Value} {R:List (List RI)} (h:OwnM wb w v us R):∀ g,v.ownBlock=some g→g<w.heap.size:=fun g hg=>(h.2.1.lt g hg).2
def BoxI (w:World) (g:Nat) (z:RI):Prop:=Box7 w g (.bool z.lo.neg) (.slice z.lo.a z.lo.xs.length z.lo.c) (.int .i64 z.lo.e) (.bool z.hi.neg) (.slice z.hi.a z.hi.xs.length z.hi.c) (.int .i64 z.hi.e) (.bool z.all)∧Frz w g
theorem BoxI.kp {w w':World} {g:Nat} {z:RI} (h:BoxI w g z) (k:Kp w w'):BoxI w' g z:=⟨h.1.kp k,h.2.kp h.1 k⟩
def HasI (w0 w:World) (g:Nat) (X:PI):Prop:=∃ z:RI,BoxI w g z∧z.rd w∧z.pl=X∧z.vl=true∧Kp w0 w∧w0.heap.size≤g
theorem HasI.kp {w0 w w':World} {g:Nat} {X:PI} (h:HasI w0 w g X) (k:Kp w w'):HasI w0 w' g X:=by
 obtain⟨z,h1,h2,h3,h4,h5,h6⟩:=h
 exact⟨z,h1.kp k,h2.kp k,h3,h4,h5.trans k,h6⟩
theorem stored3 {w:World} {g:Nat} {y0 y1 y2:Value} (h:Box3 w g y0 y1 y2) (n0:∀ n:Int,y0≠.int .u32 n) (n1:∀ n:Int,y1≠.int .u32 n) (n2:∀ n:Int,y2≠.int .u32 n) (x0 x1 x2:Value) {W:World}
  (hW:(((w.setCell ⟨g,0,none⟩ x0).setCell ⟨g,1,none⟩ x1).setCell ⟨g,2,none⟩ x2)=W):Box3 W g x0 x1 x2∧Upd g w W:=by
 obtain⟨h0,h1,h2,f0,f1,f2⟩:=h
 have a1:=set_at (i:=0) (v:=x0) (by decide) h1
 have a2:=set_at (i:=1) (v:=x1) (by decide) (set_at (i:=0) (v:=x0) (by decide) h2)
 have U:=(((Upd.refl g w).step h0 n0 x0).step a1 n1 x1).step a2 n2 x2
 rw[← hW]
 exact⟨⟨set_at (by decide) (set_at (by decide) (cell_set_eq h0)),set_at (by decide) (cell_set_eq a1),cell_set_eq a2,(U.1 _).trans f0,(U.1 _).trans f1,(U.1 _).trans f2⟩,U⟩
def BoxD (w:World) (g:Nat) (x:RD):Prop:=Box3 w g (.bool x.neg) (.slice x.a x.xs.length x.c) (.int .i64 x.e)
theorem BoxD.kp {w w':World} {g:Nat} {x:RD} (h:BoxD w g x) (k:Kp w w'):BoxD w' g x:=Box3.kp h k
theorem BoxD.new (w:World) (x:RD) (t:TypeId):BoxD (w.alloc (.cells #[.bool x.neg,.slice x.a x.xs.length x.c,.int .i64 x.e] t)) w.heap.size x:=Box3.new _ _ _ _ _
theorem BoxD.store {w:World} {g:Nat} {x:RD} (h:BoxD w g x) (y:RD) {W:World} (hW:(((w.setCell ⟨g,0,none⟩ (.bool y.neg)).setCell ⟨g,1,none⟩ (.slice y.a y.xs.length y.c)).setCell ⟨g,2,none⟩ (.int .i64 y.e))=W):BoxD W g y∧Upd g w W :=
 stored3 h nofun nofun nofun _ _ _ hW
section
theorem bits_quo {a b:Nat} (hb:b≠0) (k:Nat) (h:bits b+k≤bits a) (hk:0<k):k≤bits (a/b):=by
 have ha:a≠0:=fun e=>by subst e;rw[bits_zero] at h;omega
 have h1:=two_pow_le_of_bits ha
 have h2:=lt_two_pow_bits b
 have h3:2 ^ (k-1)*b≤a:=by
  refine Nat.le_trans ?_ h1
  calc 2 ^ (k-1)*b≤2 ^ (k-1)*2 ^ bits b:=Nat.mul_le_mul_left _ (Nat.le_of_lt h2)
   _=2 ^ (k-1+bits b):=by rw[Nat.pow_add]
   _≤2 ^ (bits a-1):=Nat.pow_le_pow_right (by decide) (by omega)
 have h4:=(Nat.le_div_iff_mul_le (by omega:0<b)).2 h3
 have h5:=lt_bits.2 h4
 omega
def quoR (s:Bool) (m n:Nat) (e:Int) (p:Nat) (up:Bool) (K:Nat):Option Dy:=rndS s (m*2 ^ K/n) (e-K) (decide (0<bits (m*2 ^ K % n))) p up
theorem quo_more {m n K d:Nat} (hn:n≠0):m*2 ^ (K+d)/n/2 ^ d=m*2 ^ K/n∧((0<bits (m*2 ^ (K+d) % n)∨m*2 ^ (K+d)/n % 2 ^ d≠0)↔0<bits (m*2 ^ K % n)):=by
 have hp:=two_pow_pos d
 have e1:m*2 ^ (K+d)/n/2 ^ d=m*2 ^ K/n:=by
  rw[Nat.div_div_eq_div_mul,Nat.pow_add,← Nat.mul_assoc,Nat.mul_div_mul_right _ _ hp]
 refine⟨e1,?_⟩
 have b0 (x:Nat):0<bits x↔x≠0:=by
  constructor
  ·intro h h0;subst h0;rw[bits_zero] at h;omega
  ·exact bits_pos
 rw[b0,b0]
 have h1:=Nat.div_add_mod (m*2 ^ (K+d)) n
 have h2:=Nat.div_add_mod (m*2 ^ (K+d)/n) (2 ^ d)
 rw[e1] at h2
 have h3:=Nat.div_add_mod (m*2 ^ K) n
 have h4:m*2 ^ (K+d)=m*2 ^ K*2 ^ d:=by rw[Nat.pow_add,Nat.mul_assoc]
 have h5:=Nat.mod_lt (m*2 ^ K) (Nat.pos_of_ne_zero hn)
 generalize m*2 ^ (K+d)/n % 2 ^ d=f at *
 generalize m*2 ^ (K+d) % n=r at *
 generalize m*2 ^ (K+d)/n=Q at *
 generalize m*2 ^ K % n=r0 at *
 generalize m*2 ^ K/n=q at *
 have e2:n*f+r=r0*2 ^ d:=by
  have e3:n*Q=n*(2 ^ d*q)+n*f:=by rw[← Nat.mul_add,h2]
  have e4:m*2 ^ K*2 ^ d=n*q*2 ^ d+r0*2 ^ d:=by rw[← Nat.add_mul,h3]
  have e5:n*(2 ^ d*q)=n*q*2 ^ d:=by rw[Nat.mul_comm (2 ^ d),Nat.mul_assoc]
  omega
 constructor
 ·intro h h0
  rw[h0,Nat.zero_mul] at e2
  have h6:n*f=0:=by omega
  rcases Nat.mul_eq_zero.1 h6 with h7 | h7
  ·exact hn h7
  rcases h with h | h
  ·omega
  exact h h7
 intro h
 rcases Nat.eq_zero_or_pos r with h6 | h6
 ·refine .inr fun h7=>?_
  rw[h6,h7,Nat.mul_zero] at e2
  rcases Nat.mul_eq_zero.1 e2.symm with h8 | h8
  ·exact h h8
  omega
 exact .inl (by omega)
theorem quoR_more {s:Bool} {m n p K d:Nat} {e:Int} {up:Bool} (hm:m≠0) (hn:n≠0) (hp:0<p) (hK:p+1+bits n≤bits m+K):quoR s m n e p up (K+d)=quoR s m n e p up K:=by
 have hpd:=two_pow_pos d
 obtain⟨h1,h2⟩:=quo_more (m:=m) (K:=K) (d:=d) hn
 have hb:p<bits (m*2 ^ K/n):=by
  have:=bits_quo hn (p+1) (a:=m*2 ^ K) (by rw[bits_mul_pow hm];omega) (by omega)
  omega
 have hq0:m*2 ^ K/n≠0:=fun h=>by rw[h,bits_zero] at hb;omega
 have h3:=Nat.div_add_mod (m*2 ^ (K+d)/n) (2 ^ d)
 rw[h1] at h3
 have hf:=Nat.mod_lt (m*2 ^ (K+d)/n) hpd
 have hmore:(decide (0<bits (m*2 ^ (K+d) % n))||decide (m*2 ^ (K+d)/n % 2 ^ d≠0))=decide (0<bits (m*2 ^ K % n)):=by
  rw[← Bool.decide_or]
  exact decide_eq_decide.2 h2
 unfold quoR rndS sgnR
 have key (u:Bool):rcut (m*2 ^ (K+d)/n) (e-(K+d:Nat)) (decide (0<bits (m*2 ^ (K+d) % n))) p u=rcut (m*2 ^ K/n) (e-K) (decide (0<bits (m*2 ^ K % n))) p u:=by
  have:=rcut_more (m:=m*2 ^ K/n) (k:=d) (f:=m*2 ^ (K+d)/n % 2 ^ d) (p:=p) (e:=e-K) (more:=decide (0<bits (m*2 ^ (K+d) % n))) (up:=u) hq0 hf (fun _=>hb)
  rw[hmore,Nat.mul_comm (m*2 ^ K/n),h3] at this
  rw[this]
  congr 1
  omega
 rw[key]
end
section
section
variable {U V T x3 up P v1 w vp q r:Nat}
theorem knu_init (hU:U=(T*4294967296+x3)*P+up) (h3:x3<4294967296) (hup:up<P) (hV:V=(v1*4294967296+w)*P+vp) (hv:0<v1):U/V≤T/v1:=by
 have hP:0<P:=by omega
 have h1:v1*(4294967296*P)≤V:=by
  rw[hV,Nat.add_mul,← Nat.mul_assoc]
  have:=Nat.zero_le (w*P)
  omega
 have hpos:0<v1*(4294967296*P):=Nat.mul_pos hv (by omega)
 have h2:U<(T+1)*(4294967296*P):=by
  rw[hU]
  have h4:(T*4294967296+x3)*P+P≤(T*4294967296+4294967296)*P:=by
   have:=Nat.mul_le_mul_right P (show T*4294967296+x3+1≤T*4294967296+4294967296 by omega)
   rw[Nat.add_mul _ 1 P] at this
   omega
  have h5:(T+1)*(4294967296*P)=(T*4294967296+4294967296)*P:=by
   rw[← Nat.mul_assoc,Nat.add_mul,Nat.one_mul]
  rw[h5]
  omega
 have h6:U/(4294967296*P)≤T:=Nat.le_of_lt_succ ((Nat.div_lt_iff_lt_mul (by omega)).2 h2)
 calc U/V≤U/(v1*(4294967296*P)):=Nat.div_le_div_left h1 hpos
  _=U/(4294967296*P)/v1:=by rw[Nat.mul_comm v1,Nat.div_div_eq_div_mul]
  _≤T/v1:=Nat.div_le_div_right h6
theorem knu_mul (q T r v1 w:Nat) (h:q*v1+r=T):q*(v1*4294967296+w)+r*4294967296=T*4294967296+q*w:=by
 rw[← h,Nat.mul_add,Nat.add_mul,Nat.mul_assoc];omega
theorem knu_step (hU:U=(T*4294967296+x3)*P+up) (hup:up<P) (hV:V=(v1*4294967296+w)*P+vp) (hv:0<v1) (h:q*v1+r=T) (hgt:r*4294967296+x3<q*w):U/V<q:=by
 have hP:0<P:=by omega
 have hm:=knu_mul q T r v1 w h
 have h1:T*4294967296+x3+1≤q*(v1*4294967296+w):=by omega
 have h2:=Nat.mul_le_mul_right P h1
 rw[Nat.add_mul _ 1 P,Nat.one_mul] at h2
 have h3:q*(v1*4294967296+w)*P≤q*V:=by
  rw[hV,Nat.mul_assoc];exact Nat.mul_le_mul_left q (by omega)
 have hVp:0<V:=by
  rw[hV]
  have:0<(v1*4294967296+w)*P:=Nat.mul_pos (by omega) hP
  omega
 exact (Nat.div_lt_iff_lt_mul hVp).2 (by omega)
theorem knu_end (hU:U=(T*4294967296+x3)*P+up) (hV:V=(v1*4294967296+w)*P+vp) (hvp:vp<P) (hv:0<v1) (hq:q≤4294967296) (h:q*v1+r=T) (hle:q*w≤r*4294967296+x3):q≤U/V+1:=by
 have hP:0<P:=by omega
 have hm:=knu_mul q T r v1 w h
 have h1:q*(v1*4294967296+w)≤T*4294967296+x3:=by omega
 have h2:=Nat.mul_le_mul_right P h1
 have hVp:4294967296*P≤V:=by
  rw[hV]
  have:=Nat.mul_le_mul_right P (show 4294967296≤v1*4294967296+w by omega)
  omega
 have h3:q*vp≤4294967296*P:=Nat.mul_le_mul hq (Nat.le_of_lt hvp)
 have h4:q*V=q*(v1*4294967296+w)*P+q*vp:=by rw[hV,Nat.mul_add,Nat.mul_assoc]
 have h5:q*V≤U+V:=by omega
 have h6:(q-1)*V≤U:=by rw[Nat.sub_mul,Nat.one_mul];omega
 have:=(Nat.le_div_iff_mul_le (by omega:0<V)).2 h6
 omega
theorem knu_over (hU:U=(T*4294967296+x3)*P+up) (hV:V=(v1*4294967296+w)*P+vp) (hw:w<4294967296) (hvp:vp<P) (hv:0<v1) (hq:q≤4294967296) (h:q*v1+r=T) (hr:4294967296≤r):q≤U/V:=by
 have hP:0<P:=by omega
 have hVu:V≤(v1+1)*(4294967296*P):=by
  rw[hV,← Nat.mul_assoc,Nat.add_mul v1,Nat.one_mul]
  have:=Nat.mul_le_mul_right P (show v1*4294967296+w+1≤v1*4294967296+4294967296 by omega)
  rw[Nat.add_mul _ 1 P,Nat.one_mul] at this
  omega
 have hVp:0<V:=by
  rw[hV]
  have:0<(v1*4294967296+w)*P:=Nat.mul_pos (by omega) hP
  omega
 refine (Nat.le_div_iff_mul_le hVp).2 ?_
 have h1:q*V≤q*(v1+1)*(4294967296*P):=by rw[Nat.mul_assoc];exact Nat.mul_le_mul_left q hVu
 have h2:q*(v1+1)≤T:=by rw[Nat.mul_add,Nat.mul_one];omega
 have h3:=Nat.mul_le_mul_right (4294967296*P) h2
 have h4:T*(4294967296*P)≤U:=by
  rw[hU,← Nat.mul_assoc,Nat.add_mul]
  have:=Nat.zero_le (x3*P)
  omega
 omega
end
end
def digF (x3 v1 w1:Nat):Nat→Nat→Nat→Nat
 | 0,q,_=>q
 | n+1,q,r=>if r<4294967296∧r*4294967296+x3<q*w1 then digF x3 v1 w1 n (q-1) (r+v1) else q
theorem digF_end {x3 v1 w1 n q r:Nat} (h:¬ (r<4294967296∧r*4294967296+x3<q*w1)):digF x3 v1 w1 n q r=q:=by
 cases n with
 | succ n=>rw[digF,if_neg h]
 | zero=>rfl
theorem digF_spec {x3 v1 w1 L T:Nat} (hst:∀ q r,q*v1+r=T→r*4294967296+x3<q*w1→L<q) (n:Nat):∀ q r,q≤n→q*v1+r=T→L≤q →
  L≤digF x3 v1 w1 n q r∧digF x3 v1 w1 n q r≤q∧∃ s,digF x3 v1 w1 n q r*v1+s=T∧(4294967296≤s∨digF x3 v1 w1 n q r*w1≤s*4294967296+x3):=by
 induction n with
 | zero =>
  intro q r h1 h2 h3
  have h0:q=0:=by omega
  subst h0
  exact⟨h3,Nat.le_refl _,r,h2,.inr (by rw[digF,Nat.zero_mul];omega)⟩
 | succ n ih =>
  intro q r h1 h2 h3
  by_cases h:r<4294967296∧r*4294967296+x3<q*w1
  ·rw[digF,if_pos h]
   have h4:=hst q r h2 h.2
   have h5:(q-1)*v1+(r+v1)=T:=by
    rw[Nat.sub_mul,Nat.one_mul]
    have:v1≤q*v1:=Nat.le_mul_of_pos_left v1 (by omega)
    omega
   obtain⟨a,b,s,c,d⟩:=ih (q-1) (r+v1) (by omega) h5 (by omega)
   exact⟨a,by omega,s,c,d⟩
  ·rw[digF_end h]
   exact⟨h3,Nat.le_refl _,r,h2,by omega⟩
set_option maxRecDepth 100000 in
set_option maxHeartbeats 2000000 in
theorem digit_any (q0 r0 x3 v1 w1:Nat) (w:World) (hq:q0≤4294967295) (hr:r0<8589934592) (h3:x3<4294967296) (hv:v1<4294967296) (hw:w1<4294967296) :
  Calls Tryz.prog 307 #[.int .u64 (q0:Nat),.int .u64 (r0:Nat),.int .u32 (x3:Nat),.int .u32 (v1:Nat),.int .u32 (w1:Nat)] w fun e w'=>e=.returned (.int .u64 (digF x3 v1 w1 q0 q0 r0:Nat))∧w=w':=by
 obtain⟨D,hD⟩:∃ D,D=digF x3 v1 w1 q0 q0 r0:=⟨_,rfl⟩
 rw[← hD]
 have HD:=hid hD
 clear hD
 go_enter Tryz.func307,Tryz.ntmps307
 go_wp2_with fail
 go_loopw [0,1] (fun qv rv wr=>∃ n q r:Nat,qv=.int .u64 (q:Nat)∧rv=.int .u64 (r:Nat)∧q≤4294967295∧r<8589934592∧q≤n∧D=digF x3 v1 w1 n q r∧w=wr) (fun qv _ _=>(intOf qv).toNat)
 case atStart=>exact⟨q0,q0,r0,rfl,rfl,hq,hr,Nat.le_refl _,HD.out,rfl⟩
 case round =>
 obtain⟨n,q,r,rfl,rfl,hq1,hr1,hqn,hT,rfl⟩:=hrel
 have HT2:=hid hT
 clear hT HD
 by_cases hrb:r<4294967296
 rotate_left
 ·have hri:¬ (r:Int)<4294967296:=by omega
  have HG:=hid (show D=q by rw[HT2.out];exact digF_end fun h=>hrb h.1)
  clear hrb hr1
  go_wp2_with fail
  go_ret
  exact⟨ret_int (by rw[HG.out]),rfl⟩
 have hri:(r:Int)<4294967296:=by omega
 obtain⟨sm,hsm⟩:∃ sm,sm=x3+4294967296*r:=⟨_,rfl⟩
 have hor:=join64 h3 hrb
 rw[← hsm] at hor
 have HSM:=hid hsm
 clear hsm
 have hp1:(q:Int)*w1≤18446744065119617025:=by
  have:q*w1≤4294967295*4294967295:=Nat.mul_le_mul hq1 (by omega)
  have:((q*w1:Nat):Int)≤((4294967295*4294967295:Nat):Int):=by exact_mod_cast this
  simpa using this
 have hp0:0≤(q:Int)*w1:=Int.mul_nonneg (by omega) (by omega)
 by_cases hg:sm<q*w1
 rotate_left
 ·have hgi:¬ (sm:Int)<(q:Int)*w1:=by
   intro h
   have:(sm:Int)<((q*w1:Nat):Int):=by rwa [Int.natCast_mul]
   exact hg (by exact_mod_cast this)
  have HG:=hid (show D=q by
   rw[HT2.out];exact digF_end fun h=>hg (by have:=HSM.out;omega))
  clear hg hrb
  go_wp2_with fail
  go_ret
  exact⟨ret_int (by rw[HG.out]),rfl⟩
 have hgi:(sm:Int)<(q:Int)*w1:=by
  have:(sm:Int)<((q*w1:Nat):Int):=by exact_mod_cast hg
  rwa [Int.natCast_mul] at this
 have hq0:1≤q:=by
  rcases Nat.eq_zero_or_pos q with h | h
  ·subst h;simp at hg
  ·exact h
 obtain⟨k,rfl⟩:∃ k,n=k+1:=⟨n-1,by omega⟩
 have HG:=hid (show D=digF x3 v1 w1 k (q-1) (r+v1) by
  have e:=HT2.out
  rw[digF,if_pos ⟨hrb,by have:=HSM.out;omega⟩] at e
  exact e)
 clear hg hrb
 go_wp2_with fail
 go_roundw
 case measure=>simp[intOf];omega
 case rel=>exact⟨k,q-1,r+v1,by go_num,by go_num,by omega,by omega,by omega,HG.out,by first | rfl | trivial⟩
def guessF (top next x3 v1 w1:Nat):Nat :=
 if v1≤top then digF x3 v1 w1 4294967295 4294967295 ((top-v1)*4294967296+next+v1)
 else digF x3 v1 w1 ((top*4294967296+next)/v1) ((top*4294967296+next)/v1) ((top*4294967296+next) % v1)
set_option maxRecDepth 100000 in
set_option maxHeartbeats 2000000 in
theorem guess_any (top next x3 v1 w1:Nat) (w:World) (ht:top≤v1) (hn:next<4294967296) (h3:x3<4294967296) (hv:v1<4294967296) (hv0:0<v1) (hw:w1<4294967296) :
  Calls Tryz.prog 299 #[.int .u32 (top:Nat),.int .u32 (next:Nat),.int .u32 (x3:Nat),.int .u32 (v1:Nat),.int .u32 (w1:Nat)] w fun e w'=>e=.returned (.int .u64 (guessF top next x3 v1 w1:Nat))∧∃ n,w'=w.drewN n:=by
 by_cases he:top=v1
 ·have HD:=hid (digit_any 4294967295 (next+v1) x3 v1 w1 w (by decide) (by omega) h3 hv hw)
  have HG:=hid (show guessF top next x3 v1 w1=digF x3 v1 w1 4294967295 4294967295 (next+v1) by
   unfold guessF;rw[if_pos (by omega),show (top-v1)*4294967296+next+v1=next+v1 by omega])
  have hge:(v1:Int)≤(top:Int):=by omega
  have hsub:(top:Int)-v1=0:=by omega
  go_enter Tryz.func299,Tryz.ntmps299
  go_wp2_with fail
  have hD:=HD.out
  rw[show (((4294967295:Nat):Nat):Int)=4294967295 from rfl,Int.natCast_add] at hD
  refine hD.mono ?_
  rintro e w' ⟨rfl,rfl⟩
  go_wp2_with fail
  go_ret
  exact⟨ret_int (by rw[HG.out]),0,rfl⟩
 have hlt:top<v1:=by omega
 have hq:(top*4294967296+next)/v1<4294967296:=by
  rw[Nat.div_lt_iff_lt_mul hv0]
  have:(top+1)*4294967296≤v1*4294967296:=Nat.mul_le_mul_right _ hlt
  rw[Nat.mul_comm 4294967296]
  omega
 have hm:=Nat.mod_lt (top*4294967296+next) hv0
 have HD:=hid (fun W=>digit_any ((top*4294967296+next)/v1) ((top*4294967296+next) % v1) x3 v1 w1 W (by omega) (by omega) h3 hv hw)
 have HG:=hid (show guessF top next x3 v1 w1=digF x3 v1 w1 ((top*4294967296+next)/v1) ((top*4294967296+next)/v1) ((top*4294967296+next) % v1) by
  unfold guessF;rw[if_neg (by omega)])
 have hor:=join64 hn (show top<4294967296 by omega)
 have hge:¬ (v1:Int)≤(top:Int):=by omega
 have hwr:((top:Int)*4294967296) % 18446744073709551616=(top:Int)*4294967296:=by omega
 have hsum:next+4294967296*top=top*4294967296+next:=by omega
 rw[hsum] at hor
 have hTl:top*4294967296+next<18446744073709551616:=by omega
 generalize guessF top next x3 v1 w1=G at *
 generalize top*4294967296+next=T at *
 clear hq hm he hsum
 have HDI:=hid (fun W=>show Calls Tryz.prog 307 #[.int .u64 (IntKind.u64.wrap ((T:Int)/v1)),.int .u64 ((T:Int) % v1),.int .u32 (x3:Nat),.int .u32 (v1:Nat),.int .u32 (w1:Nat)] W (fun e w'=>e=.returned (.int .u64 (G:Nat))∧w'=W) by
  have h1:T/v1≤T:=Nat.div_le_self _ _
  have h2:((T/v1:Nat):Int)≤(T:Int):=by exact_mod_cast h1
  have hwq:IntKind.u64.wrap ((T:Int)/v1)=(T:Int)/v1:=by
   rw[IntKind.wrap_u64,← Int.natCast_ediv]
   generalize T/v1=z at *
   exact Int.emod_eq_of_lt (by omega) (by omega)
  rw[hwq]
  have:=HD.out W
  rw[Int.natCast_ediv,Int.natCast_emod,← HG.out] at this
  exact this.mono fun e w' ⟨h1,h2⟩=>⟨h1,h2.symm⟩)
 clear HD HG
 have hy0:(v1:Int)≠0:=by omega
 have hy1:((v1:Int)==0)=false:=beq_eq_false_iff_ne.2 hy0
 have hy2:((v1:Int) != 0)=true:=by rw[bne,hy1];rfl
 go_enter Tryz.func299,Tryz.ntmps299
 go_wp2_with fail
 go_quiet ((go_at_call 307;exact Calls.quiet_of_same (HDI.out _)))
 go_wp2_with fail
 go_ret
 exact⟨rfl,_,rfl⟩
def Pre (w:World) (g:Nat) (xs:List Nat):Prop :=
 ∃ cur:Array Value,w.heap[g]? = some (.cells cur 213 (0,0))∧cur.toList.take xs.length=xs.map u32v∧xs.length≤cur.size
theorem Pre.cell {w:World} {g:Nat} {xs:List Nat} (h:Pre w g xs) {i:Nat} (hi:i<xs.length):w.cell? ⟨g,i,none⟩=some (.int .u32 (nth xs i)):=by
 obtain⟨cur,h1,h2,_⟩:=h
 rw[cell_of_row w g _ cur _ _ h1]
 have h3:(cur.toList.take xs.length)[i]? = some (u32v (nth xs i)):=by rw[h2,List.getElem?_map,nth_get? hi];rfl
 rw[List.getElem?_take,if_pos hi] at h3
 simpa [u32v] using h3
theorem Pre.frozen {w:World} {g:Nat} {xs:List Nat} (h:Pre w g xs) (i:Nat):w.frozen? ⟨g,i,none⟩=false:=by
 obtain⟨cur,h1,_⟩:=h
 exact frozen_of_row w g _ _ _ h1
theorem Pre.rd {w:World} {g:Nat} {xs:List Nat} (h:Pre w g xs) (hl:Lt32 xs):Rd w (some ⟨g,0,none⟩) xs :=
 ⟨hl,.inr ⟨g,0,rfl,fun i hi=>by rw[Nat.zero_add];exact h.cell hi⟩⟩
theorem Pre.lt {w:World} {g:Nat} {xs:List Nat} (h:Pre w g xs):g<w.heap.size:=by
 obtain⟨cur,h1,_⟩:=h
 exact (Array.getElem?_eq_some_iff.1 h1).1
theorem Pre.kp {w w':World} {g:Nat} {xs:List Nat} (h:Pre w g xs) (k:Kp w w'):Pre w' g xs:=by
 obtain⟨cur,h1,h2⟩:=h
 exact⟨cur,k.heap h1,h2⟩
theorem Pre.set {w:World} {g:Nat} {xs:List Nat} (h:Pre w g xs) {i x:Nat} {e:Int} (he:e=x):Pre (w.setCell ⟨g,i,none⟩ (.int .u32 e)) g (xs.set i x):=by
 obtain⟨cur,h1,h2,h3⟩:=h
 subst he
 refine⟨cur.setIfInBounds i (.int .u32 (x:Int)),heap_setCell_same w g i _ _ _ h1,?_,by simpa using h3⟩
 rw[Array.toList_setIfInBounds,List.length_set,List.take_set,h2,List.map_set]
 rfl
theorem Pre.of {w:World} {base:Nat} {a:Option Addr} {n c:Nat} {xs:List Nat} (h:Own w base (.slice a n c) xs) (h0:xs≠[]):∃ g,a=some ⟨g,0,none⟩∧base≤g∧Pre w g xs:=by
 obtain⟨_,_,h3⟩:=h
 rcases h3 with ⟨_,h3⟩ | ⟨g,cap,cur,h4,hb,hg,hn,hc,hs,ht⟩
 ·exact absurd (List.length_eq_zero_iff.1 h3) h0
 injection h4 with e1 e2 e3
 exact⟨g,e1,hb,cur,hg,by rw[Nat.mul_one] at ht;exact ht,by omega⟩
theorem Pre.at {w:World} {g:Nat} {pre ws post:List Nat} (h:Pre w g (pre++ws++post)) {i:Nat} (hi:i<ws.length):w.cell? ⟨g,pre.length+i,none⟩=some (.int .u32 (nth ws i)):=by
 have:=h.cell (i:=pre.length+i) (by simp;omega)
 rwa [nth_append_left (by simp;omega),nth_append_right (by omega),Nat.add_sub_cancel_left] at this
theorem Pre.put {w:World} {g:Nat} {pre ws post:List Nat} (h:Pre w g (pre++ws++post)) {i x:Nat} (hi:i<ws.length) {e:Int} (he:e=x):Pre (w.setCell ⟨g,pre.length+i,none⟩ (.int .u32 e)) g (pre++ws.set i x++post):=by
 have:=h.set (i:=pre.length+i) he
 rwa [List.set_append_left _ _ (by simp;omega),List.set_append_right _ _ (by omega),Nat.add_sub_cancel_left] at this
def Mod (g:Nat) (w w':World):Prop:=w'.os=w.os∧w'.tape=w.tape∧w'.output=w.output∧w.heap.size≤w'.heap.size∧∀ k,k<w.heap.size→k≠g→w'.heap[k]? = w.heap[k]?
theorem Mod.refl (g:Nat) (w:World):Mod g w w:=⟨rfl,rfl,rfl,Nat.le_refl _,fun _ _ _=>rfl⟩
theorem Mod.trans {g:Nat} {a b c:World} (h:Mod g a b) (k:Mod g b c):Mod g a c :=
 ⟨k.1.trans h.1,k.2.1.trans h.2.1,k.2.2.1.trans h.2.2.1,Nat.le_trans h.2.2.2.1 k.2.2.2.1,fun i hi hn=>(k.2.2.2.2 i (by have:=h.2.2.2.1;omega) hn).trans (h.2.2.2.2 i hi hn)⟩
theorem Mod.kp {g:Nat} {a b c:World} (h:Mod g a b) (k:Kp b c):Mod g a c :=
 h.trans ⟨k.os,k.tape,k.output,k.size,fun i hi _=>k.block i hi⟩
theorem Mod.set {g:Nat} {a w:World} (h:Mod g a w) (i:Nat) (v:Value):Mod g a (w.setCell ⟨g,i,none⟩ v):=by
 have:=Below.setCell (Below.refl 0 w) (p:=⟨g,i,none⟩) (Nat.zero_le _) v
 exact h.trans ⟨this.os,this.tape,this.output,this.size,fun k _ hn=>heap_setCell_other w _ k v hn⟩
theorem Mod.drew {g:Nat} {a w:World} (h:Mod g a w):Mod g a w.drew:=h.kp (Kp.refl w).drew
theorem Mod.cell {g:Nat} {w w':World} (h:Mod g w w') {p:Addr} {v:Value} (hp:p.block≠g) (hc:w.cell? p=some v):w'.cell? p=some v :=
 (World.cell?_of_block (w:=w) (h.2.2.2.2 p.block (World.block_lt_of_cell? w p hc) hp)).trans hc
theorem Mod.rd {g b o:Nat} {w w':World} (h:Mod g w w') (hb:b≠g) {xs:List Nat} (hr:Rd w (some ⟨b,o,none⟩) xs):Rd w' (some ⟨b,o,none⟩) xs:=by
 refine⟨hr.1,?_⟩
 rcases hr.2 with h2 | ⟨b',o',e,h2⟩
 ·exact .inl h2
 cases e
 exact .inr ⟨b,o,rfl,fun i hi=>h.cell (p:=⟨b,o+i,none⟩) hb (h2 i hi)⟩
theorem Mod.blk {g b:Nat} {w w':World} (h:Mod g w w') (hb:b≠g) {xs:List Nat} (hr:Blk w b xs):Blk w' b xs:=(h.2.2.2.2 b hr.lt hb).trans hr
theorem Mod.pre {g b:Nat} {w w':World} (h:Mod g w w') (hb:b≠g) {xs:List Nat} (hr:Pre w b xs):Pre w' b xs:=by
 obtain⟨cur,h1,h2⟩:=hr
 exact⟨cur,(h.2.2.2.2 b (Array.getElem?_eq_some_iff.1 h1).1 hb).trans h1,h2⟩
theorem Mod.below {g:Nat} {a w w':World} (h:Mod g w w') (k:Kp a w) (hg:a.heap.size≤g):Kp a w' :=
 ⟨h.1.trans k.os,h.2.1.trans k.tape,h.2.2.1.trans k.output,Nat.le_trans k.size h.2.2.2.1,fun i hi=>(h.2.2.2.2 i (by have:=k.size;omega) (by omega)).trans (k.block i hi)⟩
end Go.Proofs.YteidgoldnllabaaGreatDoor
