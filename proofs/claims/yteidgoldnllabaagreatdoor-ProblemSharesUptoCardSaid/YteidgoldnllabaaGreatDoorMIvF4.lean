/-
  Walks: interval.four.
-/
import Derived.Deep.CutRange
import Derived.Deep.LoopGhost
import Derived.Laws.Rows
import Derived.Laws.Tables
import Derived.Test.YteidgoldnllabaaGreatDoorMProdP
import Derived.Test.YteidgoldnllabaaGreatDoorMRoE
import Derived.Test.YteidgoldnllabaaGreatDoorMTpoN
import Derived.Test.YteidgoldnllabaaGreatDoorMIvB
import Derived.Deep.AppendLies
namespace Go.Proofs.YteidgoldnllabaaGreatDoor
open Go.RowKit
open Lib (hid)
def firstI (p:RI→Bool) (zs:List RI):Int:=match zs.findIdx? p with | some i=>(i:Int) | none=>-1
theorem firstI_some {p:RI→Bool} {zs:List RI} {k:Nat} {x:RI} (hk:zs[k]? = some x) (hp:p x=true) (h:∀ i y,zs[i]? = some y→i<k→p y=false):firstI p zs=k:=by
 unfold firstI
 have:zs.findIdx? p=some k:=by
  rw[List.findIdx?_eq_some_iff_getElem]
  obtain⟨h1,h2⟩:=List.getElem?_eq_some_iff.1 hk
  refine⟨h1,by rw[h2];exact hp,fun j hj=>?_⟩
  rw[h j _ (List.getElem?_eq_getElem (by omega)) hj];decide
 rw[this]
theorem firstI_none {p:RI→Bool} {zs:List RI} (h:∀ (i:Nat) (y:RI),zs[i]? = some y→p y=false):firstI p zs=-1:=by
 unfold firstI
 have:zs.findIdx? p=none:=by
  rw[List.findIdx?_eq_none_iff]
  intro y hy
  obtain⟨i,hi⟩:=List.getElem?_of_mem hy
  exact h i y hi
 rw[this]
theorem firstI_any (p:RI→Bool) (zs:List RI):decide (0≤firstI p zs)=zs.any p:=by
 unfold firstI
 cases h:zs.findIdx? p with
 | none =>
  have hm:=List.findIdx?_eq_none_iff.1 h
  have:zs.any p=false:=by rw[List.any_eq_false];intro y hy;rw[hm y hy];decide
  rw[this];decide
 | some i =>
 have hm:=List.findIdx?_eq_some_iff_getElem.1 h
 obtain⟨h1,h2,_⟩:=hm
 have:zs.any p=true:=List.any_eq_true.2 ⟨_,List.getElem_mem h1,h2⟩
 rw[this];simp
def AnsI (P:Program) (g:FuncId) (cap:Array Value) (w:World) (zs:List RI) (p:RI→Bool):Prop :=
 Enters P g∧∀ x,x∈zs→∀ w1,Kp w w1→Calls P g (#[.agg #[.bool x.lo.neg,.slice x.lo.a x.lo.xs.length x.lo.c,.int .i64 x.lo.e,.bool x.hi.neg,.slice x.hi.a x.hi.xs.length x.hi.c,.int .i64 x.hi.e,.bool x.all]]++cap) w1 fun e w2=>e=.returned (.bool (p x))∧Kp w1 w2
set_option maxHeartbeats 4000000 in
theorem idxI (a:Option Addr) (zs:List RI) (c:Nat) (g:FuncId) (cap:Array Value) (w:World) (p:RI→Bool) (hm:zs.length≤1100000) (h:RowI w a zs) (hp:AnsI Tryz.prog g cap w zs p) :
  Calls Tryz.prog 109 #[.slice a zs.length c,.func (.func g) #[] cap] w fun e w'=>e=.returned (.int .i64 (firstI p zs))∧Kp w w':=by
 go_enter Tryz.func109,Tryz.ntmps109
 go_wp2
 go_loopw [8] (fun x wr=>∃ k:Nat,k≤zs.length∧x=.int .i64 k∧(∀ i y,zs[i]? = some y→i<k→p y=false)∧Kp w wr) (fun x _=>zs.length-(intOf x).toNat)
 case atStart=>exact⟨0,by omega,rfl,fun i y _ h1=>by omega,.refl _⟩
 case round =>
 obtain⟨k,hk,rfl,hz,hkp⟩:=hrel
 have Hz:=hid hz;clear hz
 by_cases hlt:k<zs.length
 rotate_left
 ·have Hthis:=hid (firstI_none (p:=p) (zs:=zs) (fun i y hy=>Hz.out i y hy (by have:=(List.getElem?_eq_some_iff.1 hy).1;omega)))
  go_wp2
  go_ret
  exact⟨ret_int Hthis.out.symm,hkp⟩
 obtain⟨b,o,rfl,hr,h0,h1,h2,h3,h4,h5,h6⟩:=(h.kp hkp) k (zs[k]) (List.getElem?_eq_getElem hlt)
 have Hg:=hid (List.getElem?_eq_getElem hlt)
 have hgo:∀ args w,(callFunc g args).run Tryz.prog w=.ok (.enter g args) w:=hp.1
 have hcall:=hp.2 _ (List.getElem_mem hlt) wr hkp
 clear hp h
 generalize zs[k]=x at *
 cases hq:p x with
 | true =>
  rw[hq] at hcall
  have Hc:=hid hcall
  have Hq:=hid (firstI_some Hg.out hq Hz.out)
  clear hcall hq
  go_wp2_with (refine Hc.out.mono ?_;rintro e w2 ⟨rfl,hk2⟩)
  go_ret
  exact⟨ret_int Hq.out.symm,hkp.trans hk2⟩
 | false =>
 rw[hq] at hcall
 have Hc:=hid hcall
 have Hq:=hid hq
 clear hcall hq
 go_wp2_with (refine Hc.out.mono ?_;rintro e w2 ⟨rfl,hk2⟩)
 go_roundw
 case measure=>simp[intOf];omega
 case rel =>
 refine⟨k+1,by omega,by go_num,fun i y hy hi=>?_,hkp.trans hk2⟩
 by_cases h:i=k
 ·subst h;rw[Hg.out] at hy;cases hy;exact Hq.out
 exact Hz.out i y hy (by omega)
set_option maxHeartbeats 400000 in
theorem containsI (a:Option Addr) (zs:List RI) (c:Nat) (g:FuncId) (cap:Array Value) (w:World) (p:RI→Bool) (hm:zs.length≤1100000) (h:RowI w a zs) (hp:AnsI Tryz.prog g cap w zs p) :
  Calls Tryz.prog 49 #[.slice a zs.length c,.func (.func g) #[] cap] w fun e w'=>e=.returned (.bool (zs.any p))∧Kp w w':=by
 have Hc:=hid (idxI a zs c g cap w p hm h hp)
 have Ha:=hid (firstI_any p zs)
 clear hp h
 go_enter Tryz.func49,Tryz.ntmps49
 go_wp2_with (refine Hc.out.mono ?_;rintro e w2 ⟨rfl,hk2⟩)
 go_ret
 exact⟨by rw[← Ha.out];rfl,hk2⟩
theorem RowI.rd {w:World} {a:Option Addr} {zs:List RI} (h:RowI w a zs) {x:RI} (hx:x∈zs):x.rd w:=by
 obtain⟨i,hi⟩:=List.getElem?_of_mem hx
 obtain⟨_,_,_,hr,_⟩:=h i x hi
 exact hr
def RI.cells (x:RI):List Value:=[.bool x.lo.neg,.slice x.lo.a x.lo.xs.length x.lo.c,.int .i64 x.lo.e,.bool x.hi.neg,.slice x.hi.a x.hi.xs.length x.hi.c,.int .i64 x.hi.e,.bool x.all]
theorem RI.cells_len (x:RI):x.cells.length=7:=rfl
def OwnI (wb w:World) (v:Value) (zs:List RI):Prop :=
 ((∀ x,x∈zs→x.rd wb)∧Kp wb w)∧w.ownsRow wb.heap.size 115 7 v zs.length (zs.flatMap RI.cells)
theorem flat_get {zs:List RI} {i:Nat} {x:RI} (h:zs[i]? = some x) {j:Nat} (hj:j<7):(zs.flatMap RI.cells)[i*7+j]? = x.cells[j]?:=by
 induction zs generalizing i with
 | nil=>simp at h
 | cons z zs ih =>
  rw[List.flatMap_cons]
  cases i with
  | zero =>
   simp only[List.getElem?_cons_zero,Option.some.injEq] at h
   subst h
   rw[List.getElem?_append_left (by rw[RI.cells_len];omega),Nat.zero_mul,Nat.zero_add]
  | succ i =>
   rw[List.getElem?_cons_succ] at h
   rw[List.getElem?_append_right (by rw[RI.cells_len];omega),RI.cells_len,← ih h]
   congr 1;omega
theorem OwnI.nil {wb w:World} (k:Kp wb w):OwnI wb w (.slice none 0 0) []:=⟨⟨fun _ h=>by simp at h,k⟩,World.ownsRow_nil _ _ _ _⟩
theorem OwnI.value {wb w:World} {v:Value} {zs:List RI} (h:OwnI wb w v zs):∃ a c,v=.slice a zs.length c∧zs.length≤c∧c≤maxLen∧RowI w a zs:=by
 obtain⟨h1,h2,h3⟩:=h
 rcases h3 with ⟨rfl,h3⟩ | ⟨g,cap,cur,rfl,hb,hg,hn,hc,hs,ht⟩
 ·have h0:zs=[]:=List.length_eq_zero_iff.1 h3
  subst h0
  exact⟨none,0,rfl,Nat.le_refl _,by decide,fun i x hi=>by simp at hi⟩
 refine⟨_,_,rfl,hn,hc,fun i x hi=>⟨g,0,rfl,(h1.1 x (List.mem_of_getElem? hi)).kp h1.2,?_⟩⟩
 have hil:i<zs.length:=(List.getElem?_eq_some_iff.1 hi).1
 have key (j:Nat) (hj:j<7) (u:Value) (hu:x.cells[j]? = some u):w.cell? ⟨g,i*7+j,none⟩=some u:=by
  rw[cell_of_row w g _ cur _ _ hg]
  have h5:(cur.toList.take (zs.length*7))[i*7+j]? = some u:=by rw[ht,flat_get hi hj,hu]
  rw[List.getElem?_take,if_pos (by omega)] at h5
  simpa using h5
 simp only[Nat.zero_add]
 exact⟨key 0 (by decide) _ rfl,key 1 (by decide) _ rfl,key 2 (by decide) _ rfl,key 3 (by decide) _ rfl,key 4 (by decide) _ rfl,key 5 (by decide) _ rfl,key 6 (by decide) _ rfl⟩
theorem OwnI.kp {wb w w':World} {v:Value} {zs:List RI} (h:OwnI wb w v zs) (k:Kp w w'):OwnI wb w' v zs:=by
 refine⟨⟨h.1.1,h.1.2.trans k⟩,?_⟩
 obtain⟨_,h2,h3⟩:=h
 refine⟨h2,?_⟩
 rcases h3 with h3 | ⟨g,cap,cur,h4,hb,hg,hr⟩
 ·exact .inl h3
 exact .inr ⟨g,cap,cur,h4,hb,k.heap hg,hr⟩
theorem infoIvl:(Tryz.prog.info? 115).map (fun i=>(i.zero,i.size,i.bytes))=some (some (.agg #[.bool false,.slice none 0 0,.int .i64 0,.bool false,.slice none 0 0,.int .i64 0,.bool false]),7,88):=by kernel_rfl
end Go.Proofs.YteidgoldnllabaaGreatDoor
