/-
  Plain: smaller arguments and more bits have smaller results: sums and products of intervals; no program in sight.
-/
import Derived.Test.YteidgoldnllabaaGreatDoorTAwk4
import Derived.Test.YteidgoldnllabaaGreatDoorTRoE
import Derived.Test.YteidgoldnllabaaGreatDoorTEqU
import Derived.Deep.DeepFit
import Derived.Test.YteidgoldnllabaaGreatDoorTIvA
import Derived.Test.YteidgoldnllabaaGreatDoorTPub
import Derived.Laws.Rows
import Derived.Laws.Tables
import Derived.Deep.CutRange
import Derived.Deep.LoopGhost
import Derived.Test.YteidgoldnllabaaGreatDoorTTpoN
set_option maxHeartbeats 4000000
namespace Go.Proofs.YteidgoldnllabaaGreatDoor
open Go.RowKit
open Lib (hid)
section
section
variable {K p q:Nat} {S T:Int}
end
end
theorem Upd.rdD {g:Nat} {w W:World} (h:Upd g w W) {x:RD} (hx:x.rd w):x.rd W:=⟨h.2.1 _ _ hx.1,hx.2⟩
theorem Upd.rdI {g:Nat} {w W:World} (h:Upd g w W) {x:RI} (hx:x.rd w):x.rd W:=⟨h.rdD hx.1,h.rdD hx.2⟩
def allII (p:RI→RI→Bool) (zs:List RI) (ys:List RI):Bool:=decide (zs.length=ys.length)&&(zs.zip ys).all fun q=>p q.1 q.2
theorem allII_true {p:RI→RI→Bool} {zs:List RI} {ys:List RI}:allII p zs ys=true↔zs.length=ys.length∧∀ (i:Nat) (x:RI) (y:RI),zs[i]? = some x→ys[i]? = some y→p x y=true:=by
 unfold allII
 rw[Bool.and_eq_true,decide_eq_true_eq,List.all_eq_true]
 refine and_congr_right fun hl=>⟨fun h i x y hx hy=>?_,fun h q hq=>?_⟩
 ·refine h (x,y) (List.mem_of_getElem? (i:=i) ?_)
  rw[List.getElem?_zip_eq_some];exact⟨hx,hy⟩
 obtain⟨i,hi⟩:=List.getElem?_of_mem hq
 have hi2:=List.getElem?_zip_eq_some.1 hi
 exact h i _ _ hi2.1 hi2.2
theorem allII_false {p:RI→RI→Bool} {zs:List RI} {ys:List RI} {i:Nat} {x:RI} {y:RI} (hx:zs[i]? = some x) (hy:ys[i]? = some y) (h:p x y=false):allII p zs ys=false:=by
 cases ha:allII p zs ys with
 | true=>rw[(allII_true.1 ha).2 i x y hx hy] at h;cases h
 | false=>rfl
def AnsII (P:Program) (g:FuncId) (cap:Array Value) (w:World) (zs:List RI) (ys:List RI) (p:RI→RI→Bool):Prop :=
 Enters P g∧∀ x,x∈zs→∀ y,y∈ys→∀ w1,Kp w w1→Calls P g (#[.agg #[.bool x.lo.neg,.slice x.lo.a x.lo.xs.length x.lo.c,.int .i64 x.lo.e,.bool x.hi.neg,.slice x.hi.a x.hi.xs.length x.hi.c,.int .i64 x.hi.e,.bool x.all],.agg #[.bool y.lo.neg,.slice y.lo.a y.lo.xs.length y.lo.c,.int .i64 y.lo.e,.bool y.hi.neg,.slice y.hi.a y.hi.xs.length y.hi.c,.int .i64 y.hi.e,.bool y.all]]++cap) w1 fun e w2=>e=.returned (.bool (p x y))∧Kp w1 w2
theorem eqfII (a b':Option Addr) (zs:List RI) (ys:List RI) (c d:Nat) (g:FuncId) (cap:Array Value) (w:World) (p:RI→RI→Bool) (hm:zs.length≤1100000) (h:RowI w a zs) (h':RowI w b' ys) (hp:AnsII Tryz.prog g cap w zs ys p) :
  Calls Tryz.prog 106 #[.slice a zs.length c,.slice b' ys.length d,.func (.func g) #[] cap] w fun e w'=>e=.returned (.bool (allII p zs ys))∧Kp w w':=by
 go_enter Tryz.func106,Tryz.ntmps106
 by_cases hlen:zs.length=ys.length
 rotate_left
 ·have hl2:((zs.length:Int)==(ys.length:Int))=false:=beq_eq_false_iff_ne.2 (by omega)
  have H:=hid (show allII p zs ys=false by unfold allII;rw[decide_eq_false hlen];rfl)
  clear hlen
  go_wp2
  go_ret
  exact⟨ret_bool H.out.symm,.refl _⟩
 have Hlen:=hid hlen
 rw[← hlen]
 clear hlen
 go_wp2
 go_loopw [17] (fun x wr=>∃ k:Nat,k≤zs.length∧x=.int .i64 k∧(∀ (i:Nat) (x:RI) (y:RI),zs[i]? = some x→ys[i]? = some y→i<k→p x y=true)∧Kp w wr) (fun x _=>zs.length-(intOf x).toNat)
 case atStart=>exact⟨0,by omega,rfl,fun i x y _ _ h1=>by omega,.refl _⟩
 case round =>
 obtain⟨k,hk,rfl,hz,hkp⟩:=hrel
 have Hz:=hid hz;clear hz
 by_cases hlt:k<zs.length
 rotate_left
 ·have Hthis:=hid (allII_true.2 ⟨Hlen.out,fun i x y hx hy=>Hz.out i x y hx hy (by have:=(List.getElem?_eq_some_iff.1 hx).1;omega)⟩)
  go_wp2
  go_ret
  exact⟨ret_bool Hthis.out.symm,hkp⟩
 have hlt2:k<ys.length:=by have:=Hlen.out;omega
 obtain⟨b,o,rfl,hr,h0,h1,h2,h3,h4,h5,h6⟩:=(h.kp hkp) k (zs[k]) (List.getElem?_eq_getElem hlt)
 obtain⟨b2,o2,rfl,hr2,j0,j1,j2,j3,j4,j5,j6⟩:=(h'.kp (hkp.alloc (.cells #[.bool zs[k].lo.neg,.slice zs[k].lo.a zs[k].lo.xs.length zs[k].lo.c,.int .i64 zs[k].lo.e,.bool zs[k].hi.neg,.slice zs[k].hi.a zs[k].hi.xs.length zs[k].hi.c,.int .i64 zs[k].hi.e,.bool zs[k].all] 115))) k (ys[k]) (List.getElem?_eq_getElem hlt2)
 have Hg:=hid (List.getElem?_eq_getElem hlt)
 have Hg2:=hid (List.getElem?_eq_getElem hlt2)
 have hgo:∀ args w,(callFunc g args).run Tryz.prog w=.ok (.enter g args) w:=hp.1
 have hcall:=fun w1 (hk1:Kp w w1)=>hp.2 _ (List.getElem_mem hlt) _ (List.getElem_mem hlt2) w1 hk1
 clear hp h h'
 generalize zs[k]=x at *
 generalize ys[k]=y at *
 clear hlt2
 cases hq:p x y with
 | false =>
  rw[hq] at hcall
  have Hc:=hid hcall
  have Hq:=hid (allII_false Hg.out Hg2.out hq)
  clear hcall hq
  go_wp2_with (refine (Hc.out _ ((hkp.alloc _).alloc _)).mono ?_;rintro e w2 ⟨rfl,hk2⟩)
  go_ret
  exact⟨ret_bool Hq.out.symm,((hkp.alloc _).alloc _).trans hk2⟩
 | true =>
 rw[hq] at hcall
 have Hc:=hid hcall
 have Hq:=hid hq
 clear hcall hq
 go_wp2_with (refine (Hc.out _ ((hkp.alloc _).alloc _)).mono ?_;rintro e w2 ⟨rfl,hk2⟩)
 go_roundw
 case measure=>simp[intOf];omega
 case rel =>
 refine⟨k+1,by omega,by go_num,fun i x' y' hx hy hi=>?_,((hkp.alloc _).alloc _).trans hk2⟩
 by_cases h:i=k
 ·subst h;rw[Hg.out] at hx;rw[Hg2.out] at hy;cases hx;cases hy;exact Hq.out
 exact Hz.out i x' y' hx hy (by omega)
end Go.Proofs.YteidgoldnllabaaGreatDoor
