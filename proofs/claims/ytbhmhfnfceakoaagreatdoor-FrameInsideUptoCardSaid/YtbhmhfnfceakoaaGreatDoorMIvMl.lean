/-
  Walks: interval.Mul of valid intervals.
-/
import Derived.Test.YtbhmhfnfceakoaaGreatDoorMIvF4
import Derived.Test.YtbhmhfnfceakoaaGreatDoorMOpen
import Derived.Test.YtbhmhfnfceakoaaGreatDoorMSig
import Derived.OneCell
import Derived.Deep.DeepFit
import Derived.Laws.EntriesVeiled
import Derived.Test.YtbhmhfnfceakoaaGreatDoorMRoAdd
namespace Go.Proofs.YtbhmhfnfceakoaaGreatDoor
open Go.RowKit
open Lib (hid)
set_option maxRecDepth 100000 in
set_option maxHeartbeats 8000000 in
theorem IMul_any (x y:RI) (p:Nat) (w:World) (hx:x.rd w) (hy:y.rd w) (vx:x.vl=true) (vy:y.vl=true) (h0:8≤p) (h1:p≤512) (hT:Tab w) :
  Calls Tryz.prog 197 #[.agg #[.bool x.lo.neg,.slice x.lo.a x.lo.xs.length x.lo.c,.int .i64 x.lo.e,.bool x.hi.neg,.slice x.hi.a x.hi.xs.length x.hi.c,.int .i64 x.hi.e,.bool x.all],.agg #[.bool y.lo.neg,.slice y.lo.a y.lo.xs.length y.lo.c,.int .i64 y.lo.e,.bool y.hi.neg,.slice y.hi.a y.hi.xs.length y.hi.c,.int .i64 y.hi.e,.bool y.all],.int .i64 p] w (IvOut w (pMul x.pl y.pl p)):=by
 have Hp:=hid (show preB (p:Int)=true from preB_iff.2 ⟨by omega,by omega⟩)
 go_enter Tryz.func197,Tryz.ntmps197
 go_wp2_with fail
 generalize hW3:(((w.alloc _).alloc _).alloc _)=W3 at *
 have hk3:Kp w W3:=hW3▸(((Kp.refl w).alloc _).alloc _).alloc _
 have hS3:(W3.cell? ⟨w.heap.size,0,none⟩=some (.bool x.lo.neg)∧W3.cell? ⟨w.heap.size,1,none⟩=some (.slice x.lo.a x.lo.xs.length x.lo.c)∧W3.cell? ⟨w.heap.size,2,none⟩=some (.int .i64 x.lo.e)∧W3.cell? ⟨w.heap.size,3,none⟩=some (.bool x.hi.neg)∧W3.cell? ⟨w.heap.size,4,none⟩=some (.slice x.hi.a x.hi.xs.length x.hi.c)∧W3.cell? ⟨w.heap.size,5,none⟩=some (.int .i64 x.hi.e)∧W3.cell? ⟨w.heap.size,6,none⟩=some (.bool x.all))∧W3.cell? ⟨w.heap.size+1,0,none⟩=some (.bool y.lo.neg)∧W3.cell? ⟨w.heap.size+1,1,none⟩=some (.slice y.lo.a y.lo.xs.length y.lo.c)∧W3.cell? ⟨w.heap.size+1,2,none⟩=some (.int .i64 y.lo.e)∧W3.cell? ⟨w.heap.size+1,3,none⟩=some (.bool y.hi.neg)∧W3.cell? ⟨w.heap.size+1,4,none⟩=some (.slice y.hi.a y.hi.xs.length y.hi.c)∧W3.cell? ⟨w.heap.size+1,5,none⟩=some (.int .i64 y.hi.e)∧W3.cell? ⟨w.heap.size+1,6,none⟩=some (.bool y.all):=by rw[← hW3];exact keep77 ((Kp.refl _).alloc _) (by simp)
 have hV3:Var7 W3 (w.heap.size+1+1):=hW3▸Var7.new2 _ _ _ _
 have hsz:W3.heap.size=w.heap.size+1+1+1:=by rw[← hW3];simp
 have hR:=rowI_twoR W3 x y (hx.kp hk3) (hy.kp hk3) 44
 rw[hsz] at hR
 have hk4:=(Kp.refl W3).alloc (.cells #[.bool x.lo.neg,.slice x.lo.a x.lo.xs.length x.lo.c,.int .i64 x.lo.e,.bool x.hi.neg,.slice x.hi.a x.hi.xs.length x.hi.c,.int .i64 x.hi.e,.bool x.all,.bool y.lo.neg,.slice y.lo.a y.lo.xs.length y.lo.c,.int .i64 y.lo.e,.bool y.hi.neg,.slice y.hi.a y.hi.xs.length y.hi.c,.int .i64 y.hi.e,.bool y.all] 44)
 generalize hW:W3.alloc _=W at *
 have hS:=keep77 hk4 hS3
 have hV:=hV3.kp hk4
 have hk:=hk3.trans hk4
 clear hW hW3 hS3 hV3 hk3 hk4 hsz
 refine (known_any _ [x,y] 2 _ hR (by simp)).mono ?_
 rintro e w1 ⟨rfl,hk1⟩
 have hS1:=keep77 hk1 hS
 have hV1:=hV.kp hk1
 have hk2:=(hk.trans hk1)
 have hT1:=hT.kp hk2
 have hx1:=hx.kp hk2
 have hy1:=hy.kp hk2
 clear hR hS hV hk hk1
 cases ha:x.all||y.all with
 | true =>
  have hg:[x,y].all goodI=false:=by
   simp only[List.all_cons,List.all_nil,Bool.and_true]
   rw[goodI_vl vx,goodI_vl vy]
   cases hxa:x.all <;> cases hya:y.all <;> simp_all
  have HP:=hid (show pMul x.pl y.pl p=.whole by unfold pMul;rw[if_pos (by exact ha)])
  rw[hg]
  clear hg ha hS1
  go_wp2_with fail
  refine (Whole_any _).mono ?_
  rintro e w2 ⟨rfl,hk3⟩
  have hk4:=hk2.trans hk3
  obtain⟨⟨q0,q1,q2,q3,q4,q5,q6⟩,f0,f1,f2,f3,f4,f5,f6⟩:=hV1.kp hk3
  go_wp2_with fail
  generalize hW9:((((((w2.setCell _ _).setCell _ _).setCell _ _).setCell _ _).setCell _ _).setCell _ _).setCell _ _=W9
  obtain⟨⟨s0,s1,s2,s3,s4,s5,s6⟩,hU⟩:=stored7 (show Box7 w2 _ _ _ _ _ _ _ _ from ⟨q0,q1,q2,q3,q4,q5,q6⟩) nofun nofun nofun nofun nofun nofun nofun _ _ _ _ _ _ _ hW9
  clear hW9 q0 q1 q2 q3 q4 q5 q6 f0 f1 f2 f3 f4 f5 f6
  refine bodyPost_ret (v:=.agg #[.bool false,.slice none 0 0,.int .i64 0,.bool false,.slice none 0 0,.int .i64 0,.bool true]) (by simp[results,Tryz.results197,go_sem,s0,s1,s2,s3,s4,s5,s6]) rfl ?_
  rw[HP.out]
  exact⟨wholeR,rfl,wholeR_rd _,rfl,rfl,hU.2.2.1 _ hk4 (by omega)⟩
 | false =>
 have hax:x.all=false:=by cases hxa:x.all <;> simp_all
 have hay:y.all=false:=by cases hya:y.all <;> simp_all
 have ox:=ok_of hx1 vx hax
 have oy:=ok_of hy1 vy hay
 have hg:[x,y].all goodI=true:=by simp[(goodI_ok ox.1).2 ox,(goodI_ok oy.1).2 oy]
 have HP:=hid (show pMul x.pl y.pl p=fourP (opP p) (restP x y 0) none by unfold pMul;rw[if_neg (by show ¬ (x.all||y.all)=true;rw[ha];decide)];rfl)
 have C1:=hid (fun (W:World) (k:Kp w1 W)=>four_any x y p W (ox.kp k) (oy.kp k) h0 h1 (hT1.kp k))
 rw[hax,hay] at hS1
 rw[hg]
 clear hg ha hax hay ox oy hx1 hy1
 go_wp2_with fail
 go_fit (permitted_any (p:Int) _)
 rintro e w2 ⟨rfl,rfl⟩
 rw[Hp.out]
 obtain⟨⟨s0,s1,s2,s3,s4,s5,s6⟩,t0,t1,t2,t3,t4,t5,t6⟩:=id hS1
 go_wp2_with fail
 go_fit (C1.out _ (.refl _))
 rintro e w5 ⟨Z,rfl,R3,Zp,Zv,k5⟩
 have R3:=hid R3
 have Zpv:=hid (And.intro Zp Zv)
 have hk5:=hk2.trans k5
 obtain⟨⟨q0,q1,q2,q3,q4,q5,q6⟩,f0,f1,f2,f3,f4,f5,f6⟩:=hV1.kp k5
 clear Zp Zv hS1 s0 s1 s2 s3 s4 s5 s6 t0 t1 t2 t3 t4 t5 t6
 go_wp2_with fail
 generalize hW9:((((((w5.setCell _ _).setCell _ _).setCell _ _).setCell _ _).setCell _ _).setCell _ _).setCell _ _=W9
 obtain⟨⟨s0,s1,s2,s3,s4,s5,s6⟩,hU⟩:=stored7 (show Box7 w5 _ _ _ _ _ _ _ _ from ⟨q0,q1,q2,q3,q4,q5,q6⟩) nofun nofun nofun nofun nofun nofun nofun _ _ _ _ _ _ _ hW9
 clear hW9 q0 q1 q2 q3 q4 q5 q6 f0 f1 f2 f3 f4 f5 f6
 refine bodyPost_ret (v:=.agg #[.bool Z.lo.neg,.slice Z.lo.a Z.lo.xs.length Z.lo.c,.int .i64 Z.lo.e,.bool Z.hi.neg,.slice Z.hi.a Z.hi.xs.length Z.hi.c,.int .i64 Z.hi.e,.bool Z.all]) (by simp[results,Tryz.results197,go_sem,s0,s1,s2,s3,s4,s5,s6]) rfl ?_
 rw[HP.out]
 exact⟨Z,rfl,hU.rdI R3.out,Zpv.out.1,Zpv.out.2,hU.2.2.1 _ hk5 (by omega)⟩
theorem RowI.rd {w:World} {a:Option Addr} {zs:List RI} (h:RowI w a zs) {x:RI} (hx:x∈zs):x.rd w:=by
 obtain⟨i,hi⟩:=List.getElem?_of_mem hx
 obtain⟨_,_,_,hr,_⟩:=h i x hi
 exact hr
def allII (p:RI→RI→Bool) (zs:List RI) (ys:List RI):Bool:=decide (zs.length=ys.length)&&(zs.zip ys).all fun q=>p q.1 q.2
theorem allII_true {p:RI→RI→Bool} {zs:List RI} {ys:List RI}:allII p zs ys=true↔zs.length=ys.length∧∀ (i:Nat) (x:RI) (y:RI),zs[i]? = some x→ys[i]? = some y→p x y=true:=by
 unfold allII
 rw[Bool.and_eq_true,decide_eq_true_eq,List.all_eq_true]
 refine and_congr_right fun hl=>⟨fun h i x y hx hy=>?_,fun h q hq=>?_⟩
 ·refine h (x,y) (List.mem_of_getElem? (i:=i) ?_)
  rw[List.getElem?_zip_eq_some];exact⟨hx,hy⟩
 obtain⟨i,hi⟩:=List.getElem?_of_mem hq
 have hi2:=List.getElem?_zip_eq_some.1 hi
 exact h i _ _ hi2.1 hi2.2
theorem allII_false {p:RI→RI→Bool} {zs:List RI} {ys:List RI} {i:Nat} {x:RI} {y:RI} (hx:zs[i]? = some x) (hy:ys[i]? = some y) (h:p x y=false):allII p zs ys=false:=by
 cases ha:allII p zs ys with
 | true=>rw[(allII_true.1 ha).2 i x y hx hy] at h;cases h
 | false=>rfl
def AnsII (P:Program) (g:FuncId) (cap:Array Value) (w:World) (zs:List RI) (ys:List RI) (p:RI→RI→Bool):Prop :=
 Enters P g∧∀ x,x∈zs→∀ y,y∈ys→∀ w1,Kp w w1→Calls P g (#[.agg #[.bool x.lo.neg,.slice x.lo.a x.lo.xs.length x.lo.c,.int .i64 x.lo.e,.bool x.hi.neg,.slice x.hi.a x.hi.xs.length x.hi.c,.int .i64 x.hi.e,.bool x.all],.agg #[.bool y.lo.neg,.slice y.lo.a y.lo.xs.length y.lo.c,.int .i64 y.lo.e,.bool y.hi.neg,.slice y.hi.a y.hi.xs.length y.hi.c,.int .i64 y.hi.e,.bool y.all]]++cap) w1 fun e w2=>e=.returned (.bool (p x y))∧Kp w1 w2
set_option maxHeartbeats 4000000 in
theorem eqfII (a b':Option Addr) (zs:List RI) (ys:List RI) (c d:Nat) (g:FuncId) (cap:Array Value) (w:World) (p:RI→RI→Bool) (hm:zs.length≤1100000) (h:RowI w a zs) (h':RowI w b' ys) (hp:AnsII Tryz.prog g cap w zs ys p) :
  Calls Tryz.prog 28 #[.slice a zs.length c,.slice b' ys.length d,.func (.func g) #[] cap] w fun e w'=>e=.returned (.bool (allII p zs ys))∧Kp w w':=by
 go_enter Tryz.func28,Tryz.ntmps28
 by_cases hlen:zs.length=ys.length
 rotate_left
 ·have hl2:((zs.length:Int)==(ys.length:Int))=false:=beq_eq_false_iff_ne.2 (by omega)
  have H:=hid (show allII p zs ys=false by unfold allII;rw[decide_eq_false hlen];rfl)
  clear hlen
  go_wp2
  go_ret
  exact⟨ret_bool H.out.symm,.refl _⟩
 have Hlen:=hid hlen
 rw[← hlen]
 clear hlen
 go_wp2
 go_loopw [17] (fun x wr=>∃ k:Nat,k≤zs.length∧x=.int .i64 k∧(∀ (i:Nat) (x:RI) (y:RI),zs[i]? = some x→ys[i]? = some y→i<k→p x y=true)∧Kp w wr) (fun x _=>zs.length-(intOf x).toNat)
 case atStart=>exact⟨0,by omega,rfl,fun i x y _ _ h1=>by omega,.refl _⟩
 case round =>
 obtain⟨k,hk,rfl,hz,hkp⟩:=hrel
 have Hz:=hid hz;clear hz
 by_cases hlt:k<zs.length
 rotate_left
 ·have Hthis:=hid (allII_true.2 ⟨Hlen.out,fun i x y hx hy=>Hz.out i x y hx hy (by have:=(List.getElem?_eq_some_iff.1 hx).1;omega)⟩)
  go_wp2
  go_ret
  exact⟨ret_bool Hthis.out.symm,hkp⟩
 have hlt2:k<ys.length:=by have:=Hlen.out;omega
 obtain⟨b,o,rfl,hr,h0,h1,h2,h3,h4,h5,h6⟩:=(h.kp hkp) k (zs[k]) (List.getElem?_eq_getElem hlt)
 obtain⟨b2,o2,rfl,hr2,j0,j1,j2,j3,j4,j5,j6⟩:=(h'.kp (hkp.alloc (.cells #[.bool zs[k].lo.neg,.slice zs[k].lo.a zs[k].lo.xs.length zs[k].lo.c,.int .i64 zs[k].lo.e,.bool zs[k].hi.neg,.slice zs[k].hi.a zs[k].hi.xs.length zs[k].hi.c,.int .i64 zs[k].hi.e,.bool zs[k].all] 44))) k (ys[k]) (List.getElem?_eq_getElem hlt2)
 have Hg:=hid (List.getElem?_eq_getElem hlt)
 have Hg2:=hid (List.getElem?_eq_getElem hlt2)
 have hgo:∀ args w,(callFunc g args).run Tryz.prog w=.ok (.enter g args) w:=hp.1
 have hcall:=fun w1 (hk1:Kp w w1)=>hp.2 _ (List.getElem_mem hlt) _ (List.getElem_mem hlt2) w1 hk1
 clear hp h h'
 generalize zs[k]=x at *
 generalize ys[k]=y at *
 clear hlt2
 cases hq:p x y with
 | false =>
  rw[hq] at hcall
  have Hc:=hid hcall
  have Hq:=hid (allII_false Hg.out Hg2.out hq)
  clear hcall hq
  go_wp2_with (refine (Hc.out _ ((hkp.alloc _).alloc _)).mono ?_;rintro e w2 ⟨rfl,hk2⟩)
  go_ret
  exact⟨ret_bool Hq.out.symm,((hkp.alloc _).alloc _).trans hk2⟩
 | true =>
 rw[hq] at hcall
 have Hc:=hid hcall
 have Hq:=hid hq
 clear hcall hq
 go_wp2_with (refine (Hc.out _ ((hkp.alloc _).alloc _)).mono ?_;rintro e w2 ⟨rfl,hk2⟩)
 go_roundw
 case measure=>simp[intOf];omega
 case rel =>
 refine⟨k+1,by omega,by go_num,fun i x' y' hx hy hi=>?_,((hkp.alloc _).alloc _).trans hk2⟩
 by_cases h:i=k
 ·subst h;rw[Hg.out] at hx;rw[Hg2.out] at hy;cases hx;cases hy;exact Hq.out
 exact Hz.out i x' y' hx hy (by omega)
def ShowsI (w:World) (zs:List RI) (e:Ending) (w':World):Prop :=
 ∃ a c,e=.returned (.slice a zs.length c)∧RowI w' a zs∧zs.length≤c∧c≤maxLen∧Kp w w'
def vlP (ys:List RD):Bool:=decide (1≤ys.length)&&(decide (ys.length≤8)&&ys.all RD.vl)
theorem vlP_iff {ys:List RD}:vlP ys=true↔1≤ys.length∧ys.length≤8∧ys.all RD.vl=true:=by
 unfold vlP;simp
theorem vlP_ok {w:World} {a:Option Addr} {zs:List RD} (h:RowD w a zs) (hv:vlP zs=true) {x:RD} (hx:x∈zs):x.ok w :=
 ⟨h.rd hx,List.all_eq_true.1 (vlP_iff.1 hv).2.2 x hx⟩
theorem enters_boxpoint1:Enters Tryz.prog 200:=fun _ _=>by kernel_rfl
set_option maxHeartbeats 4000000 in
theorem boxpoint1_raw (x:RD) (w:World) (h:x.rd w) :
  Calls Tryz.prog 200 #[.agg #[.bool x.neg,.slice x.a x.xs.length x.c,.int .i64 x.e]] w fun e w'=>e=.returned (.bool (!x.vl))∧Kp w w':=by
 go_enter Tryz.func200,Tryz.ntmps200
 go_wp2_with fail
 refine (Valid_raw x _ (h.kp ((Kp.refl w).alloc _))).mono ?_
 rintro e w2 ⟨rfl,hk2⟩
 go_wp2_with fail
 go_ret
 exact⟨ret_bool rfl,((Kp.refl w).alloc _).trans hk2⟩
set_option maxHeartbeats 4000000 in
theorem point_any (a:Option Addr) (zs:List RD) (c:Nat) (w:World) (h:RowD w a zs) (hl:zs.length≤1100000) :
  Calls Tryz.prog 159 #[.slice a zs.length c] w fun e w'=>e=.returned (.bool (vlP zs))∧Kp w w':=by
 have hc:=containsD a zs c 200 #[] w (fun x=>!x.vl) hl h ⟨enters_boxpoint1,fun x hx w1 hk=>boxpoint1_raw x w1 ((h.rd hx).kp hk)⟩
 have hany:(zs.any fun x=>!x.vl)=!zs.all RD.vl:=by
  rw[Bool.eq_iff_iff];simp
 rw[hany] at hc
 have Hc:=hid hc
 clear hc hany h
 have H:=hid (show vlP zs=(decide (1≤zs.length)&&(decide (zs.length≤8)&&zs.all RD.vl)) from rfl)
 go_enter Tryz.func159,Tryz.ntmps159
 by_cases h1:1≤zs.length
 rotate_left
 ·have d1:decide (1≤zs.length)=false:=decide_eq_false h1
  have e1:decide ((1:Int)≤(zs.length:Int))=false:=decide_eq_false (by omega)
  rw[d1] at H
  clear d1
  go_wp2_with fail
  go_ret
  exact⟨ret_bool (by rw[H.out];simp),.refl _⟩
 have d1:decide (1≤zs.length)=true:=decide_eq_true h1
 have e1:decide ((1:Int)≤(zs.length:Int))=true:=decide_eq_true (by omega)
 rw[d1] at H
 clear d1
 by_cases h2:zs.length≤8
 ·have d2:decide (zs.length≤8)=true:=decide_eq_true h2
  have e2:decide ((zs.length:Int)≤8)=true:=decide_eq_true (by omega)
  rw[d2] at H
  clear d2
  go_wp2_with (refine Hc.out.mono ?_;rintro e w2 ⟨rfl,hk2⟩)
  go_ret
  exact⟨ret_bool (by rw[H.out];simp),hk2⟩
 have d2:decide (zs.length≤8)=false:=decide_eq_false h2
 have e2:decide ((zs.length:Int)≤8)=false:=decide_eq_false (by omega)
 rw[d2] at H
 clear d2
 go_wp2_with fail
 go_ret
 exact⟨ret_bool (by rw[H.out];simp),.refl _⟩
set_option maxHeartbeats 4000000 in
theorem IPoint_ok (d:RD) (w:World) (hy:d.ok w) :
  Calls Tryz.prog 35 #[.agg #[.bool d.neg,.slice d.a d.xs.length d.c,.int .i64 d.e]] w fun e w'=>e=.returned (.agg #[.bool (RI.mk d d false).lo.neg,.slice (RI.mk d d false).lo.a (RI.mk d d false).lo.xs.length (RI.mk d d false).lo.c,.int .i64 (RI.mk d d false).lo.e,.bool (RI.mk d d false).hi.neg,.slice (RI.mk d d false).hi.a (RI.mk d d false).hi.xs.length (RI.mk d d false).hi.c,.int .i64 (RI.mk d d false).hi.e,.bool (RI.mk d d false).all])∧Kp w w':=by
 go_enter Tryz.func35,Tryz.ntmps35
 go_wp2_with fail
 generalize hW:((w.alloc _).alloc _)=W at *
 have hk:Kp w W:=hW▸((Kp.refl w).alloc _).alloc _
 have hS:W.cell? ⟨w.heap.size,0,none⟩=some (.bool d.neg)∧W.cell? ⟨w.heap.size,1,none⟩=some (.slice d.a d.xs.length d.c)∧W.cell? ⟨w.heap.size,2,none⟩=some (.int .i64 d.e):=by rw[← hW];simp
 have hV:Var7 W (w.heap.size+1):=by
  rw[← hW]
  have:=Var7.new (w.alloc (.cells #[.bool d.neg,.slice d.a d.xs.length d.c,.int .i64 d.e] 38)) 44
  rwa [World.size_alloc] at this
 clear hW
 refine (Valid_rok d _ (hy.kp hk)).mono ?_
 rintro e w1 ⟨rfl,hk1⟩
 have hS1:=keep3 hk1 hS
 have hV1:=hV.kp hk1
 have hk2:=hk.trans hk1
 clear hS hk hk1 hV
 obtain⟨⟨q0,q1,q2,q3,q4,q5,q6⟩,f0,f1,f2,f3,f4,f5,f6⟩:=hV1
 go_wp2_with fail
 generalize hW9:((((((w1.setCell _ _).setCell _ _).setCell _ _).setCell _ _).setCell _ _).setCell _ _).setCell _ _=W9
 obtain⟨⟨s0,s1,s2,s3,s4,s5,s6⟩,hU⟩:=stored7 (show Box7 w1 _ _ _ _ _ _ _ _ from ⟨q0,q1,q2,q3,q4,q5,q6⟩) nofun nofun nofun nofun nofun nofun nofun _ _ _ _ _ _ _ hW9
 clear hW9 q0 q1 q2 q3 q4 q5 q6 f0 f1 f2 f3 f4 f5 f6
 refine bodyPost_ret (v:=.agg #[.bool (RI.mk d d false).lo.neg,.slice (RI.mk d d false).lo.a (RI.mk d d false).lo.xs.length (RI.mk d d false).lo.c,.int .i64 (RI.mk d d false).lo.e,.bool (RI.mk d d false).hi.neg,.slice (RI.mk d d false).hi.a (RI.mk d d false).hi.xs.length (RI.mk d d false).hi.c,.int .i64 (RI.mk d d false).hi.e,.bool (RI.mk d d false).all]) (by simp[results,Tryz.results35,go_sem,s0,s1,s2,s3,s4,s5,s6]) rfl ?_
 exact⟨rfl,hU.2.2.1 _ hk2 (by omega)⟩
theorem wpList_append_ivl {w:World} {ops:Array Oper} {rest:List Oper} {o:Oper} {a:Act} {Q:Exit→Act→World→Prop} (hgd:o.guard=none) (s x:Operand)
  (ho:o.op=.call { callee:=.builtin .append,args:=#[s,x],argTypes:=#[24,24] })
  (wb:World) (v:Value) (zs:List RI) (hs:a.eval s=v) (hown:OwnI wb w v zs)
  (g c:Nat) (hx:a.eval x=.slice (some ⟨g,0,none⟩) 1 c) (y:RI) (hy:y.rd wb)
  (hcell:w.cell? ⟨g,0,none⟩=some (.bool y.lo.neg)∧w.cell? ⟨g,1,none⟩=some (.slice y.lo.a y.lo.xs.length y.lo.c)∧w.cell? ⟨g,2,none⟩=some (.int .i64 y.lo.e)∧w.cell? ⟨g,3,none⟩=some (.bool y.hi.neg)∧w.cell? ⟨g,4,none⟩=some (.slice y.hi.a y.hi.xs.length y.hi.c)∧w.cell? ⟨g,5,none⟩=some (.int .i64 y.hi.e)∧w.cell? ⟨g,6,none⟩=some (.bool y.all)) (hlen:zs.length+1≤9000000)
  (h:∀ a' c' w',OwnI wb w' (.slice a' (zs.length+1) c') (zs++[y])→Below wb.heap.size w w'→wpList Tryz.prog ops Q rest (a.put o.dst (.slice a' (zs.length+1) c')) w') :
  wpList Tryz.prog ops Q (o::rest) a w:=by
 obtain⟨i0,hi,hz0,hz1,hz2⟩:=info_parts infoIvl
 refine wpList_append_lies w hgd s x 24 ho wb.heap.size 44 i0 (.agg #[.bool false,.slice none 0 0,.int .i64 0,.bool false,.slice none 0 0,.int .i64 0,.bool false]) 7 88 Tryz.underlying24 hi hz0 hz1 hz2 rfl (by decide) v zs.length (zs.flatMap RI.cells) hs hown.2
  ⟨g,0,none⟩ 1 c y.cells hx rfl ?_ ?_ (by decide) (by unfold maxLen;omega) (by omega) hown.1.2.size w.heap.size rfl ?_
 ·intro j u hj
  obtain⟨h0,h1,h2,h3,h4,h5,h6⟩:=hcell
  match j,hj with
  | 0,hj=>cases hj;simpa [Addr.add] using h0
  | 1,hj=>cases hj;simpa [Addr.add] using h1
  | 2,hj=>cases hj;simpa [Addr.add] using h2
  | 3,hj=>cases hj;simpa [Addr.add] using h3
  | 4,hj=>cases hj;simpa [Addr.add] using h4
  | 5,hj=>cases hj;simpa [Addr.add] using h5
  | 6,hj=>cases hj;simpa [Addr.add] using h6
  | j+7,hj=>simp[RI.cells] at hj
 ·intro u hu
  simp only[RI.cells,List.mem_cons,List.not_mem_nil,or_false] at hu
  rcases hu with rfl | rfl | rfl | rfl | rfl | rfl | rfl <;> rfl
 intro g' cap w' h1 h2 _ _
 have hb:Below wb.heap.size w w':=(Below.refl wb.heap.size w).grown h2 hown.1.2.size (fun k hk=>(hown.2.lt k hk).1)
 refine h _ _ w' ⟨⟨fun x hx=>?_,Below.trans hown.1.2 hb⟩,?_⟩ hb
 ·rcases List.mem_append.1 hx with hx | hx
  ·exact hown.1.1 x hx
  simp only[List.mem_singleton] at hx;subst hx;exact hy
 rw[List.flatMap_append,List.length_append]
 simpa using h1
def ptI (d:RD):RI:=⟨d,d,false⟩
theorem IPoint_pt (d:RD) (w:World) (hy:d.ok w) :
  Calls Tryz.prog 35 #[.agg #[.bool d.neg,.slice d.a d.xs.length d.c,.int .i64 d.e]] w fun e w'=>e=.returned (.agg #[.bool (ptI d).lo.neg,.slice (ptI d).lo.a (ptI d).lo.xs.length (ptI d).lo.c,.int .i64 (ptI d).lo.e,.bool (ptI d).hi.neg,.slice (ptI d).hi.a (ptI d).hi.xs.length (ptI d).hi.c,.int .i64 (ptI d).hi.e,.bool (ptI d).all])∧Kp w w':=IPoint_ok d w hy
theorem ptI_rd {w:World} {d:RD} (h:d.rd w):(ptI d).rd w:=⟨h,h⟩
theorem ptI_ok {w:World} {d:RD} (h:d.ok w):(ptI d).ok w:=RI.ok_mk h h (Int.le_refl _)
def ptsB (ys:List RD):List RI:=if vlP ys then ys.map ptI else []
theorem map_snoc {α β:Type} {f:α→β} {zs:List α} {k:Nat} {x:α} (hx:zs[k]? = some x):(zs.take (k+1)).map f=(zs.take k).map f++[f x]:=by
 obtain⟨h1,rfl⟩:=List.getElem?_eq_some_iff.1 hx
 rw[List.take_succ_eq_append_getElem h1,List.map_append];rfl
set_option maxRecDepth 100000 in
set_option maxHeartbeats 4000000 in
theorem BPoints_any (b:Option Addr) (ys:List RD) (d:Nat) (w:World) (h':RowD w b ys) (hl':ys.length≤1100000) :
  Calls Tryz.prog 90 #[.slice b ys.length d] w (ShowsI w (ptsB ys)):=by
 have H:=hid (show ptsB ys=if vlP ys then ys.map ptI else [] from rfl)
 go_enter Tryz.func90,Tryz.ntmps90
 go_wp2_with fail
 refine (point_any b ys d _ h' hl').mono ?_
 rintro e w1 ⟨rfl,hk1⟩
 cases hz:vlP ys with
 | false =>
  rw[hz] at H
  clear hz
  go_wp2_with fail
  go_ret
  rw[H.out]
  exact⟨none,0,rfl,fun i x hi=>by simp at hi,Nat.le_refl _,by unfold maxLen;omega,hk1⟩
 | true =>
 rw[hz] at H
 have v1:=hid hz
 have hl8:=(vlP_iff.1 hz).2.1
 clear hz
 go_wp2_with fail
 go_loopw [3,11] (fun v x wr=>∃ k:Nat,k≤ys.length∧x=.int .i64 k∧OwnI w wr v ((ys.take k).map ptI)) (fun _ x _=>ys.length-(intOf x).toNat)
 case atStart=>exact⟨0,by omega,rfl,OwnI.nil hk1⟩
 case round =>
 obtain⟨k,hk,rfl,hown⟩:=hrel
 have hk2:=hown.1.2
 obtain⟨L,hL⟩:∃ L,L=(ys.take k).map ptI:=⟨_,rfl⟩
 rw[← hL] at hown
 have hlen8:L.length+1≤9000000:=by rw[hL];simp;omega
 have HL:=hid hL
 clear hL
 by_cases hlt:k<ys.length
 rotate_left
 ·obtain⟨a3,c3,rfl,h1,h2,h3⟩:=hown.value
  have Hz:=hid (show L=ptsB ys by
   rw[H.out,HL.out]
   simp only[if_true]
   rw[List.take_of_length_le (by omega)])
  go_wp2
  go_ret
  rw[← Hz.out]
  exact⟨a3,c3,rfl,h3,h1,h2,hk2⟩
 have hy:=(vlP_ok (h'.kp hk2) v1.out (List.getElem_mem hlt))
 obtain⟨b2,o2,rfl,hyw,_⟩:=h' k (ys[k]) (List.getElem?_eq_getElem hlt)
 obtain⟨_,_,e1,_,j0,j1,j2⟩:=(h'.kp hk2) k (ys[k]) (List.getElem?_eq_getElem hlt)
 cases e1
 have Hg:=hid (List.getElem?_eq_getElem hlt)
 generalize ys[k]=y at *
 have hi1:(0:Int)≤(k:Int):=by omega
 have hi2:(k:Int)<(ys.length:Int):=by omega
 have hzok:=ptI_rd hyw
 have Hs:=hid (map_snoc (f:=ptI) Hg.out)
 clear h'
 go_wp2_with fail
 have hk3:=(Kp.refl wr).alloc (.cells #[.bool y.neg,.slice y.a y.xs.length y.c,.int .i64 y.e] 38)
 refine (IPoint_pt y _ (hy.kp hk3)).mono ?_
 rintro e w4 ⟨rfl,hk4⟩
 have hown4:=hown.kp ((hk3.trans hk4).alloc (.cells #[.bool (ptI y).lo.neg,.slice (ptI y).lo.a (ptI y).lo.xs.length (ptI y).lo.c,.int .i64 (ptI y).lo.e,.bool (ptI y).hi.neg,.slice (ptI y).hi.a (ptI y).hi.xs.length (ptI y).hi.c,.int .i64 (ptI y).hi.e,.bool (ptI y).all] 44))
 go_wp2_with (at_builtin;refine wpList_append_ivl rfl _ _ rfl w _ _ rfl hown4 _ _ rfl (ptI y) hzok (by simp) hlen8 ?_;intro a' c' w5 hown5 hb5)
 go_roundw
 case measure=>simp[intOf];omega
 case rel=>exact⟨k+1,by omega,by go_num,by rw[Hs.out,← HL.out];exact hown5⟩
def RD.cells (x:RD):List Value:=[.bool x.neg,.slice x.a x.xs.length x.c,.int .i64 x.e]
theorem RD.cells_len (x:RD):x.cells.length=3:=rfl
def OwnD (wb w:World) (v:Value) (zs:List RD):Prop :=
 ((∀ x,x∈zs→x.rd wb)∧Kp wb w)∧w.ownsRow wb.heap.size 38 3 v zs.length (zs.flatMap RD.cells)
theorem flatD_get {zs:List RD} {i:Nat} {x:RD} (h:zs[i]? = some x) {j:Nat} (hj:j<3):(zs.flatMap RD.cells)[i*3+j]? = x.cells[j]?:=by
 induction zs generalizing i with
 | nil=>simp at h
 | cons z zs ih =>
  rw[List.flatMap_cons]
  cases i with
  | zero =>
   simp only[List.getElem?_cons_zero,Option.some.injEq] at h
   subst h
   rw[List.getElem?_append_left (by rw[RD.cells_len];omega),Nat.zero_mul,Nat.zero_add]
  | succ i =>
   rw[List.getElem?_cons_succ] at h
   rw[List.getElem?_append_right (by rw[RD.cells_len];omega),RD.cells_len,← ih h]
   congr 1;omega
theorem OwnD.nil {wb w:World} (k:Kp wb w):OwnD wb w (.slice none 0 0) []:=⟨⟨fun _ h=>by simp at h,k⟩,World.ownsRow_nil _ _ _ _⟩
theorem OwnD.value {wb w:World} {v:Value} {zs:List RD} (h:OwnD wb w v zs):∃ a c,v=.slice a zs.length c∧zs.length≤c∧c≤maxLen∧RowD w a zs:=by
 obtain⟨h1,h2,h3⟩:=h
 rcases h3 with ⟨rfl,h3⟩ | ⟨g,cap,cur,rfl,hb,hg,hn,hc,hs,ht⟩
 ·have h0:zs=[]:=List.length_eq_zero_iff.1 h3
  subst h0
  exact⟨none,0,rfl,Nat.le_refl _,by decide,fun i x hi=>by simp at hi⟩
 refine⟨_,_,rfl,hn,hc,fun i x hi=>⟨g,0,rfl,(h1.1 x (List.mem_of_getElem? hi)).kp h1.2,?_⟩⟩
 have hil:i<zs.length:=(List.getElem?_eq_some_iff.1 hi).1
 have key (j:Nat) (hj:j<3) (u:Value) (hu:x.cells[j]? = some u):w.cell? ⟨g,i*3+j,none⟩=some u:=by
  rw[cell_of_row w g _ cur _ _ hg]
  have h5:(cur.toList.take (zs.length*3))[i*3+j]? = some u:=by rw[ht,flatD_get hi hj,hu]
  rw[List.getElem?_take,if_pos (by omega)] at h5
  simpa using h5
 simp only[Nat.zero_add]
 exact⟨key 0 (by decide) _ rfl,key 1 (by decide) _ rfl,key 2 (by decide) _ rfl⟩
theorem OwnD.block {wb w:World} {v:Value} {zs:List RD} (h:OwnD wb w v zs) (hpos:0<zs.length):∃ g c,v=.slice (some ⟨g,0,none⟩) zs.length c∧wb.heap.size≤g∧g<w.heap.size∧RowD w (some ⟨g,0,none⟩) zs:=by
 obtain⟨a,c,e,_,_,hr⟩:=h.value
 obtain⟨h1,h2,h3⟩:=h
 rcases h3 with ⟨rfl,h3⟩ | ⟨g,cap,cur,h4,hb,hg,hn,hc,hs,ht⟩
 ·omega
 rw[h4] at e
 cases e
 exact⟨g,c,h4,hb,(Array.getElem?_eq_some_iff.1 hg).1,hr⟩
theorem OwnD.kp {wb w w':World} {v:Value} {zs:List RD} (h:OwnD wb w v zs) (k:Kp w w'):OwnD wb w' v zs:=by
 refine⟨⟨h.1.1,h.1.2.trans k⟩,?_⟩
 obtain⟨_,h2,h3⟩:=h
 refine⟨h2,?_⟩
 rcases h3 with h3 | ⟨g,cap,cur,h4,hb,hg,hr⟩
 ·exact .inl h3
 exact .inr ⟨g,cap,cur,h4,hb,k.heap hg,hr⟩
theorem infoDyd:(Tryz.prog.info? 38).map (fun i=>(i.zero,i.size,i.bytes))=some (some (.agg #[.bool false,.slice none 0 0,.int .i64 0]),3,40):=by kernel_rfl
def OwnR (wb w:World) (v:Value) (us:List Value) (rows:List (List RD)):Prop :=
 (us.length=rows.length∧Kp wb w)∧w.ownsRow wb.heap.size 22 1 v us.length us ∧
 ∀ (i:Nat) (r:List RD),rows[i]? = some r→(∀ x,x∈r→x.rd wb)∧∃ (g c:Nat),us[i]? = some (Value.slice (some ⟨g,0,none⟩) r.length c)∧RowD w (some ⟨g,0,none⟩) r∧v.ownBlock≠some g∧g<w.heap.size
theorem OwnR.nil {wb w:World} (k:Kp wb w):OwnR wb w (.slice none 0 0) [] []:=⟨⟨rfl,k⟩,World.ownsRow_nil _ _ _ _,fun i r h=>by simp at h⟩
theorem OwnR.kp {wb w w':World} {v:Value} {us:List Value} {rows:List (List RD)} (h:OwnR wb w v us rows) (k:Kp w w'):OwnR wb w' v us rows:=by
 obtain⟨h1,⟨h2,h3⟩,h4⟩:=h
 refine⟨⟨h1.1,h1.2.trans k⟩,⟨h2,?_⟩,fun i r hi=>?_⟩
 ·rcases h3 with h3 | ⟨g,cap,cur,h4,hb,hg,hr⟩
  ·exact .inl h3
  exact .inr ⟨g,cap,cur,h4,hb,k.heap hg,hr⟩
 obtain⟨h5,g,c,h6,h7,h8,h9⟩:=h4 i r hi
 exact⟨h5,g,c,h6,h7.kp k,h8,Nat.lt_of_lt_of_le h9 k.size⟩
theorem RowD.far {w w':World} {row:Option Nat} {g:Nat} {r:List RD} (h:RowD w (some ⟨g,0,none⟩) r) (hg:w.grownBy w' row) (hlt:g<w.heap.size) (hne:some g≠row) (hr:∀ x,x∈r→x.rd w'):RowD w' (some ⟨g,0,none⟩) r:=by
 intro i x hi
 obtain⟨b,o,e,_,h0,h1,h2⟩:=h i x hi
 cases e
 refine⟨g,0,rfl,hr x (List.mem_of_getElem? hi),?_,?_,?_⟩
 ·rw[hg.cell_far _ hlt hne];exact h0
 ·rw[hg.cell_far _ hlt hne];exact h1
 rw[hg.cell_far _ hlt hne];exact h2
theorem OwnR.value {wb w:World} {v:Value} {us:List Value} {rows:List (List RD)} (h:OwnR wb w v us rows) (hpos:0<rows.length):∃ b c,v=.slice (some ⟨b,0,none⟩) rows.length c∧∀ (i:Nat) (r:List RD),rows[i]? = some r→∃ g c1,w.cell? ⟨b,i,none⟩=some (.slice (some ⟨g,0,none⟩) r.length c1)∧RowD w (some ⟨g,0,none⟩) r:=by
 obtain⟨⟨hl,hk⟩,⟨_,h3⟩,h4⟩:=h
 rcases h3 with ⟨_,h3⟩ | ⟨b,cap,cur,rfl,hb,hg,hn,hc,hs,ht⟩
 ·omega
 refine⟨b,cap,by rw[hl],fun i r hi=>?_⟩
 obtain⟨_,g,c1,h6,h7,_⟩:=h4 i r hi
 refine⟨g,c1,?_,h7⟩
 have hil:i<us.length:=(List.getElem?_eq_some_iff.1 h6).1
 rw[cell_of_row w b _ cur _ _ hg]
 have h5:(cur.toList.take (us.length*1))[i]? = some (.slice (some ⟨g,0,none⟩) r.length c1):=by rw[ht];exact h6
 rw[List.getElem?_take,if_pos (by omega)] at h5
 simpa using h5
def AllC (p:Value→Prop) (w:World) (v:Value):Prop:=∀ g,v.ownBlock=some g→∀ j u,w.cell? ⟨g,j,none⟩=some u→p u
theorem AllC.nil (p:Value→Prop) (w:World):AllC p w (.slice none 0 0):=fun g h=>by simp[Value.ownBlock] at h
theorem zeros_mem {z:Array Value} {n:Nat} {u:Value} (hz:0<z.size) (h:u∈Builtin.zeroCells z n):u∈z:=by
 unfold Builtin.zeroCells at h
 rw[Array.mem_map] at h
 obtain⟨i,_,rfl⟩:=h
 have:i % z.size<z.size:=Nat.mod_lt _ hz
 rw[getElem!_pos z _ this]
 exact Array.getElem_mem this
theorem append_all {P:Program} (w:World) (p:Value→Prop) (t ty:TypeId) (base:Nat) (e:TypeId) (i:TypeInfo) (z:Value) (size bytes:Nat) (ht:P.underlying t=some (.slice e)) (hi:P.info? e=some i) (hz:i.zero=some z)
  (hsize:i.size=size) (hby:i.bytes=bytes) (hzs:z.cells.size=size) (hsz:0<size)
  (v:Value) (n:Nat) (xs:List Value) (hown:w.ownsRow base e size v n xs)
  (ad:Addr) (m c:Nat) (news:List Value) (hl:news.length=m*size) (hnews:∀ j u,news[j]? = some u→w.cell? (ad.add j)=some u) (h1:∀ u∈news,u.oneCell'=true)
  (hm:0<m) (h63:n+m≤maxLen) (hbytes:(n+m)*bytes≤140737488355328) (hbase:base≤w.heap.size)
  (hp:AllC p w v) (hpn:∀ u∈news,p u) (hpz:∀ u∈z.cells,p u) :
  ∃ g cap w',(Builtin.append_ #[t,t] ty #[v,.slice (some ad) m c]).run P w=.ok (.slice (some ⟨g,0,none⟩) (n+m) cap) w' ∧
   w'.ownsRow base e size (.slice (some ⟨g,0,none⟩) (n+m) cap) (n+m) (xs++news)∧w.grownBy w' v.ownBlock∧(v.ownBlock=some g∨g=w.heap.size)∧AllC p w' (.slice (some ⟨g,0,none⟩) (n+m) cap):=by
 obtain⟨g,cap,w',hr,h2,h3,h4,h5⟩:=run_append_lies (P:=P) w t ty base e i z size bytes ht hi hz hsize hby hzs hsz v n xs hown ad m c news hl hnews h1 hm h63 hbytes hbase w.heap.size rfl
 refine⟨g,cap,w',hr,h2,h3,h4,?_⟩
 intro g' hg' j u hu
 have hgg:g=g':=by simpa [Value.ownBlock] using hg'
 subst hgg
 subst hsize
 subst hby
 have hsmall:n+m≤9223372036854775807:=by simp only[maxLen] at h63;omega
 have zc:∀ k,∀ u∈Builtin.zeroCells z.cells k,p u:=fun k u hu=>hpz u (zeros_mem (by omega) hu)
 rcases hown.2 with ⟨rfl,rfl⟩ | ⟨g0,cap0,cur,rfl,hbg,hg,hnc,hcm,hcs,htake⟩
 ·have hr2:=run_append_nil (P:=P) w t ty e i z ht hi hz ad m c news hl hnews hm (by omega) (by have hb:=hbytes;simp only[Nat.zero_add] at hb;omega)
  rw[hr2] at hr
  injection hr with e1 e2
  subst e2
  have e3:w.heap.size=g:=by simp at e1;exact e1.1
  subst e3
  have hh:(w.drew.alloc (.cells (news.toArray++Builtin.zeroCells z.cells (grownCap w m 0 e-m)) e)).heap[w.heap.size]? = some _:=heap_alloc_new w.drew _
  rw[cell_of_row _ _ j _ _ _ hh] at hu
  rcases Array.mem_append.1 (Array.mem_of_getElem? hu) with h | h
  ·exact hpn u (by simpa using h)
  exact zc _ u h
 have hpx:∀ u∈xs,p u:=fun u hu=>by
  obtain⟨j,hj⟩:=List.getElem?_of_mem hu
  have h6:=hown.cells (g:=g0) rfl j u hj
  have hadd:(⟨g0,0,none⟩:Addr).add j=⟨g0,j,none⟩:=by unfold Addr.add;split <;> simp_all
  rw[hadd] at h6
  exact hp g0 rfl j u h6
 by_cases hroom:n+m≤cap0
 rotate_left
 ·have holds:∀ j u,xs[j]? = some u→w.cell? ((⟨g0,0,none⟩:Addr).add j)=some u:=hown.cells (g:=g0) rfl
  have hr2:=run_append_grow (P:=P) w t ty e i z ht hi hz ⟨g0,0,none⟩ n cap0 xs hown.1 holds ad m c news hl hnews (by omega) (by omega) (growslice_fits (by omega) hbytes)
  rw[hr2] at hr
  injection hr with e1 e2
  subst e2
  have e3:w.heap.size=g:=by simp at e1;exact e1.1
  subst e3
  have hh:(w.drew.alloc (.cells (xs.toArray++news.toArray++Builtin.zeroCells z.cells (grownCap w (n+m) cap0 e-(n+m))) e)).heap[w.heap.size]? = some _:=heap_alloc_new w.drew _
  rw[cell_of_row _ _ j _ _ _ hh] at hu
  rcases Array.mem_append.1 (Array.mem_of_getElem? hu) with h | h
  ·rcases Array.mem_append.1 h with h | h
   ·exact hpx u (by simpa using h)
   exact hpn u (by simpa using h)
  exact zc _ u h
 have hfit:n*i.size+news.length≤cur.size:=by rw[hl,hcs,← Nat.add_mul];exact Nat.mul_le_mul_right _ hroom
 have hr2:=run_append_room (P:=P) w t ty e i ht hi g0 n cap0 cur hg ad m c news hl hnews h1 hroom hfit
 rw[hr2] at hr
 injection hr with e1 e2
 subst e2
 have e3:g0=g:=by simp at e1;exact e1.1
 subst e3
 rw[cell_of_row _ _ j _ _ _ (setRow_heap w g0 cur _ e _ hg)] at hu
 have hc:∀ u∈cur.toList,p u:=fun u hu=>by
  obtain⟨k,hk⟩:=List.getElem?_of_mem hu
  exact hp g0 rfl k u (by rw[cell_of_row w g0 k cur _ _ hg];simpa using hk)
 have hmem:u∈cur.toList.take (n*i.size)++news++cur.toList.drop (n*i.size+news.length):=by
  have:=Array.mem_of_getElem? hu
  simpa using this
 rcases List.mem_append.1 hmem with h | h
 ·rcases List.mem_append.1 h with h | h
  ·exact hc u (List.mem_of_mem_take h)
  exact hpn u h
 exact hc u (List.mem_of_mem_drop h)
theorem wpList_append_all {P:Program} (w:World) (p:Value→Prop) {ops:Array Oper} {rest:List Oper} {o:Oper} {a:Act} {Q:Exit→Act→World→Prop} (hgd:o.guard=none) (s x:Operand) (t:TypeId)
  (ho:o.op=.call { callee:=.builtin .append,args:=#[s,x],argTypes:=#[t,t] })
  (base:Nat) (e:TypeId) (i:TypeInfo) (z:Value) (size bytes:Nat) (ht:P.underlying t=some (.slice e)) (hi:P.info? e=some i) (hz:i.zero=some z)
  (hsize:i.size=size) (hby:i.bytes=bytes) (hzs:z.cells.size=size) (hsz:0<size)
  (v:Value) (n:Nat) (xs:List Value) (hs:a.eval s=v) (hown:w.ownsRow base e size v n xs)
  (ad:Addr) (m c:Nat) (news:List Value) (hx:a.eval x=.slice (some ad) m c) (hl:news.length=m*size) (hnews:∀ j u,news[j]? = some u→w.cell? (ad.add j)=some u) (h1:∀ u∈news,u.oneCell'=true)
  (hm:0<m) (h63:n+m≤maxLen) (hbytes:(n+m)*bytes≤140737488355328) (hbase:base≤w.heap.size)
  (hp:AllC p w v) (hpn:∀ u∈news,p u) (hpz:∀ u∈z.cells,p u)
  (h:∀ g cap w',w'.ownsRow base e size (.slice (some ⟨g,0,none⟩) (n+m) cap) (n+m) (xs++news)→w.grownBy w' v.ownBlock→(v.ownBlock=some g∨g=w.heap.size)→AllC p w' (.slice (some ⟨g,0,none⟩) (n+m) cap)→wpList P ops Q rest (a.put o.dst (.slice (some ⟨g,0,none⟩) (n+m) cap)) w') :
  wpList P ops Q (o::rest) a w:=by
 obtain⟨g,cap,w',hr,h2,h3,h4,h5⟩:=append_all (P:=P) w p t o.type base e i z size bytes ht hi hz hsize hby hzs hsz v n xs hown ad m c news hl hnews h1 hm h63 hbytes hbase hp hpn hpz
 refine wpList_plain hgd fun K hK=>?_
 unfold Oper.wp execOp
 simp only[ho,resolve,invoke,builtin,Sem.run_bind,Sem.run_pure,Result.andThen_ok,List.map_toArray,List.map_cons,List.map_nil,hs,hx,hr]
 exact hK _ _ (h g cap w' h2 h3 h4 h5)
def NoU (u:Value):Prop:=∀ x,u≠.int .u32 x
theorem rd_far {w w':World} {v:Value} {a:Option Addr} {xs:List Nat} (h:Rd w a xs) (hg:w.grownBy w' v.ownBlock) (hn:AllC NoU w v):Rd w' a xs:=by
 refine⟨h.1,?_⟩
 rcases h.2 with h0 | ⟨b',o',e,hc⟩
 ·exact .inl h0
 refine .inr ⟨b',o',e,fun i hi=>?_⟩
 have h3:=hc i hi
 have hlt:b'<w.heap.size:=by
  rcases Nat.lt_or_ge b' w.heap.size with h | h
  ·exact h
  ·simp[World.cell?,Array.getElem?_eq_none h] at h3
 rw[hg.cell_far _ hlt (fun e=>hn b' e.symm _ _ h3 _ rfl)]
 exact h3
theorem RD.rd.far {w w':World} {v:Value} {x:RD} (h:x.rd w) (hg:w.grownBy w' v.ownBlock) (hn:AllC NoU w v):x.rd w':=⟨rd_far h.1 hg hn,h.2⟩
theorem RI.rd.far {w w':World} {v:Value} {x:RI} (h:x.rd w) (hg:w.grownBy w' v.ownBlock) (hn:AllC NoU w v):x.rd w':=⟨h.1.far hg hn,h.2.far hg hn⟩
theorem AllC.kp {p:Value→Prop} {w w':World} {base:Nat} {e:TypeId} {size n:Nat} {xs:List Value} {v:Value} (h:AllC p w v) (ho:w.ownsRow base e size v n xs) (k:Kp w w'):AllC p w' v:=by
 intro g hg j u hu
 rcases ho.2 with ⟨rfl,h3⟩ | ⟨g',cap,cur,rfl,hb,hgg,hr⟩
 ·simp[Value.ownBlock] at hg
 have e1:g'=g:=by simpa [Value.ownBlock] using hg
 subst e1
 refine h g' hg j u ?_
 rw[cell_of_row _ _ j _ _ _ hgg]
 rw[cell_of_row _ _ j _ _ _ (k.heap hgg)] at hu
 exact hu
theorem Kp.owns {wb w w':World} {e:TypeId} {size n:Nat} {xs:List Value} {v:Value} (h:w.ownsRow wb.heap.size e size v n xs) (k:Kp w w'):w'.ownsRow wb.heap.size e size v n xs:=by
 refine⟨h.1,?_⟩
 rcases h.2 with h3 | ⟨g,cap,cur,h4,hb,hg,hr⟩
 ·exact .inl h3
 exact .inr ⟨g,cap,cur,h4,hb,k.heap hg,hr⟩
def OwnN (wb w:World) (v:Value) (zs:List RI):Prop :=
 Kp wb w∧w.ownsRow wb.heap.size 44 7 v zs.length (zs.flatMap RI.cells)∧AllC NoU w v∧∀ x,x∈zs→x.rd w
theorem OwnN.nil {wb w:World} (k:Kp wb w):OwnN wb w (.slice none 0 0) []:=⟨k,World.ownsRow_nil _ _ _ _,AllC.nil _ _,fun x h=>by simp at h⟩
theorem OwnN.kp {wb w w':World} {v:Value} {zs:List RI} (h:OwnN wb w v zs) (k:Kp w w'):OwnN wb w' v zs :=
 ⟨h.1.trans k,Kp.owns h.2.1 k,h.2.2.1.kp h.2.1 k,fun x hx=>(h.2.2.2 x hx).kp k⟩
theorem OwnN.value {wb w:World} {v:Value} {zs:List RI} (h:OwnN wb w v zs):∃ a c,v=.slice a zs.length c∧zs.length≤c∧c≤maxLen∧RowI w a zs:=by
 obtain⟨h1,⟨h2,h3⟩,h6,h4⟩:=h
 rcases h3 with ⟨rfl,h3⟩ | ⟨g,cap,cur,rfl,hb,hg,hn,hc,hs,ht⟩
 ·have h0:zs=[]:=List.length_eq_zero_iff.1 h3
  subst h0
  exact⟨none,0,rfl,Nat.le_refl _,by decide,fun i x hi=>by simp at hi⟩
 refine⟨_,_,rfl,hn,hc,fun i x hi=>⟨g,0,rfl,h4 x (List.mem_of_getElem? hi),?_⟩⟩
 have hil:i<zs.length:=(List.getElem?_eq_some_iff.1 hi).1
 have key (j:Nat) (hj:j<7) (u:Value) (hu:x.cells[j]? = some u):w.cell? ⟨g,i*7+j,none⟩=some u:=by
  rw[cell_of_row w g _ cur _ _ hg]
  have h5:(cur.toList.take (zs.length*7))[i*7+j]? = some u:=by rw[ht,flat_get hi hj,hu]
  rw[List.getElem?_take,if_pos (by omega)] at h5
  simpa using h5
 simp only[Nat.zero_add]
 exact⟨key 0 (by decide) _ rfl,key 1 (by decide) _ rfl,key 2 (by decide) _ rfl,key 3 (by decide) _ rfl,key 4 (by decide) _ rfl,key 5 (by decide) _ rfl,key 6 (by decide) _ rfl⟩
theorem noU_cells {x:RI}:∀ u∈x.cells,NoU u:=by
 intro u hu y e
 simp only[RI.cells,List.mem_cons,List.not_mem_nil,or_false] at hu
 rcases hu with rfl | rfl | rfl | rfl | rfl | rfl | rfl <;> cases e
def OwnE (wb w:World) (v:Value) (zs:List RD):Prop :=
 Kp wb w∧w.ownsRow wb.heap.size 38 3 v zs.length (zs.flatMap RD.cells)∧AllC NoU w v∧∀ x,x∈zs→x.rd w
theorem OwnE.nil {wb w:World} (k:Kp wb w):OwnE wb w (.slice none 0 0) []:=⟨k,World.ownsRow_nil _ _ _ _,AllC.nil _ _,fun x h=>by simp at h⟩
theorem OwnE.kp {wb w w':World} {v:Value} {zs:List RD} (h:OwnE wb w v zs) (k:Kp w w'):OwnE wb w' v zs :=
 ⟨h.1.trans k,Kp.owns h.2.1 k,h.2.2.1.kp h.2.1 k,fun x hx=>(h.2.2.2 x hx).kp k⟩
theorem OwnE.value {wb w:World} {v:Value} {zs:List RD} (h:OwnE wb w v zs):∃ a c,v=.slice a zs.length c∧zs.length≤c∧c≤maxLen∧RowD w a zs:=by
 obtain⟨h1,⟨h2,h3⟩,h6,h4⟩:=h
 rcases h3 with ⟨rfl,h3⟩ | ⟨g,cap,cur,rfl,hb,hg,hn,hc,hs,ht⟩
 ·have h0:zs=[]:=List.length_eq_zero_iff.1 h3
  subst h0
  exact⟨none,0,rfl,Nat.le_refl _,by decide,fun i x hi=>by simp at hi⟩
 refine⟨_,_,rfl,hn,hc,fun i x hi=>⟨g,0,rfl,h4 x (List.mem_of_getElem? hi),?_⟩⟩
 have hil:i<zs.length:=(List.getElem?_eq_some_iff.1 hi).1
 have key (j:Nat) (hj:j<3) (u:Value) (hu:x.cells[j]? = some u):w.cell? ⟨g,i*3+j,none⟩=some u:=by
  rw[cell_of_row w g _ cur _ _ hg]
  have h5:(cur.toList.take (zs.length*3))[i*3+j]? = some u:=by rw[ht,flatD_get hi hj,hu]
  rw[List.getElem?_take,if_pos (by omega)] at h5
  simpa using h5
 simp only[Nat.zero_add]
 exact⟨key 0 (by decide) _ rfl,key 1 (by decide) _ rfl,key 2 (by decide) _ rfl⟩
theorem noU_cellsD {x:RD}:∀ u∈x.cells,NoU u:=by
 intro u hu y e
 simp only[RD.cells,List.mem_cons,List.not_mem_nil,or_false] at hu
 rcases hu with rfl | rfl | rfl <;> cases e
theorem wpList_append_dyn {w:World} {ops:Array Oper} {rest:List Oper} {o:Oper} {a:Act} {Q:Exit→Act→World→Prop} (hgd:o.guard=none) (s x:Operand)
  (ho:o.op=.call { callee:=.builtin .append,args:=#[s,x],argTypes:=#[22,22] })
  (wb:World) (v:Value) (zs:List RD) (hs:a.eval s=v) (hown:OwnE wb w v zs)
  (g c:Nat) (hx:a.eval x=.slice (some ⟨g,0,none⟩) 1 c) (y:RD) (hy:y.rd w)
  (hcell:w.cell? ⟨g,0,none⟩=some (.bool y.neg)∧w.cell? ⟨g,1,none⟩=some (.slice y.a y.xs.length y.c)∧w.cell? ⟨g,2,none⟩=some (.int .i64 y.e)) (hlen:zs.length+1≤9000000)
  (h:∀ a' c' w',OwnE wb w' (.slice a' (zs.length+1) c') (zs++[y])→Below wb.heap.size w w'→w.grownBy w' v.ownBlock→wpList Tryz.prog ops Q rest (a.put o.dst (.slice a' (zs.length+1) c')) w') :
  wpList Tryz.prog ops Q (o::rest) a w:=by
 obtain⟨i0,hi,hz0,hz1,hz2⟩:=info_parts infoDyd
 obtain⟨hk,hown1,hall,hrows⟩:=hown
 refine wpList_append_all w NoU hgd s x 22 ho wb.heap.size 38 i0 (.agg #[.bool false,.slice none 0 0,.int .i64 0]) 3 40 Tryz.underlying22 hi hz0 hz1 hz2 rfl (by decide) v zs.length (zs.flatMap RD.cells) hs hown1
  ⟨g,0,none⟩ 1 c y.cells hx rfl ?_ ?_ (by decide) (by unfold maxLen;omega) (by omega) hk.size hall noU_cellsD ?_ ?_
 ·intro j u hj
  obtain⟨h0,h1,h2⟩:=hcell
  match j,hj with
  | 0,hj=>cases hj;simpa [Addr.add] using h0
  | 1,hj=>cases hj;simpa [Addr.add] using h1
  | 2,hj=>cases hj;simpa [Addr.add] using h2
  | j+3,hj=>simp[RD.cells] at hj
 ·intro u hu
  simp only[RD.cells,List.mem_cons,List.not_mem_nil,or_false] at hu
  rcases hu with rfl | rfl | rfl <;> rfl
 ·intro u hu y e
  simp[Value.cells] at hu
  rcases hu with rfl | rfl | rfl <;> cases e
 intro g' cap w' h1 h2 h3 h6
 have hb:Below wb.heap.size w w':=(Below.refl wb.heap.size w).grown h2 hk.size (fun k hk=>(hown1.lt k hk).1)
 refine h _ _ w' ⟨Below.trans hk hb,?_,h6,fun q hq=>?_⟩ hb h2
 ·rw[List.flatMap_append,List.length_append]
  simpa using h1
 rcases List.mem_append.1 hq with hq | hq
 ·exact (hrows q hq).far h2 hall
 simp only[List.mem_singleton] at hq
 subst hq
 exact hy.far h2 hall
def Two (wb w:World) (v u:Value) (L M:List RD):Prop:=OwnE wb w v L∧OwnE wb w u M∧∀ g,v.ownBlock=some g→u.ownBlock≠some g
theorem Two.nil {wb w:World} (k:Kp wb w):Two wb w (.slice none 0 0) (.slice none 0 0) [] []:=⟨.nil k,.nil k,fun g h=>by simp[Value.ownBlock] at h⟩
theorem Two.kp {wb w w':World} {v u:Value} {L M:List RD} (h:Two wb w v u L M) (k:Kp w w'):Two wb w' v u L M:=⟨h.1.kp k,h.2.1.kp k,h.2.2⟩
theorem OwnE.lt {wb w:World} {v:Value} {L:List RD} (h:OwnE wb w v L):∀ g,v.ownBlock=some g→g<w.heap.size:=fun g hg=>(h.2.1.lt g hg).2
theorem OwnE.far {wb w w':World} {v u:Value} {L M:List RD} (h:OwnE wb w u M) (hv:OwnE wb w v L) (hap:∀ g,v.ownBlock=some g→u.ownBlock≠some g) (hg:w.grownBy w' v.ownBlock) (k:Kp wb w'):OwnE wb w' u M:=by
 obtain⟨h1,h2,h3,h4⟩:=h
 have hne:u.ownBlock=none∨u.ownBlock≠v.ownBlock:=by
  cases hu:u.ownBlock with
  | none=>exact .inl rfl
  | some g=>exact .inr fun e=>hap g e.symm hu
 refine⟨k,h2.kept hg hne,?_,fun x hx=>(h4 x hx).far hg hv.2.2.1⟩
 intro g hg' j val hc
 have hlt:=(h2.lt g hg').2
 have hne2:some g≠v.ownBlock:=fun e=>hap g e.symm hg'
 exact h3 g hg' j val (by rw[← hg.cell_far ⟨g,j,none⟩ hlt hne2];exact hc)
def Off (v:Value) (a:Option Addr) (w:World):Prop:=∀ p,a=some p→v.ownBlock≠some p.block∧p.block<w.heap.size
theorem Off.kp {v:Value} {a:Option Addr} {w w':World} (h:Off v a w) (k:w.heap.size≤w'.heap.size):Off v a w':=fun p hp=>⟨(h p hp).1,Nat.lt_of_lt_of_le (h p hp).2 k⟩
theorem RowI.rdI {w:World} {a:Option Addr} {zs:List RI} (h:RowI w a zs) {x:RI} (hx:x∈zs):x.rd w:=by
 obtain⟨i,hi⟩:=List.getElem?_of_mem hx
 obtain⟨_,_,_,hr,_⟩:=h i x hi
 exact hr
theorem RowI.far {w w':World} {v:Value} {a:Option Addr} {r:List RI} (h:RowI w a r) (hg:w.grownBy w' v.ownBlock) (hn:AllC NoU w v) (ho:Off v a w):RowI w' a r:=by
 intro i x hi
 obtain⟨b,o,e,hr,h0,h1,h2,h3,h4,h5,h6⟩:=h i x hi
 obtain⟨hne,_⟩:=ho _ e
 have hne':∀ j,some (⟨b,j,none⟩:Addr).block≠v.ownBlock:=fun j e=>hne e.symm
 exact⟨b,o,e,hr.far hg hn,hg.cell h0 (hne' _),hg.cell h1 (hne' _),hg.cell h2 (hne' _),hg.cell h3 (hne' _),hg.cell h4 (hne' _),hg.cell h5 (hne' _),hg.cell h6 (hne' _)⟩
theorem Off.far {w w':World} {v u:Value} {a:Option Addr} (h:Off v a w) (hs:w.heap.size≤w'.heap.size) (hu:v.ownBlock=u.ownBlock∨u.ownBlock=some w.heap.size):Off u a w':=by
 intro p hp
 obtain⟨h1,h2⟩:=h p hp
 refine⟨?_,by omega⟩
 rcases hu with hu | hu
 ·rw[← hu];exact h1
 rw[hu];intro e;injection e with e;omega
theorem RowI.store {w:World} {a:Option Addr} {r:List RI} (h:RowI w a r) {g i:Nat} {u:Value} (hc:w.cell? ⟨g,i,none⟩=some u) (hu:NoU u) (ha:∀ p,a=some p→p.block≠g) (v:Value):RowI (w.setCell ⟨g,i,none⟩ v) a r:=by
 intro j x hj
 obtain⟨b,o,e,hr,h0,h1,h2,h3,h4,h5,h6⟩:=h j x hj
 have hb:=ha _ e
 have d (k:Nat):(⟨g,i,none⟩:Addr)≠⟨b,k,none⟩:=fun e=>hb (by injection e with e1;exact e1.symm)
 have hd (y:RD) (hy:y.rd w):y.rd (w.setCell ⟨g,i,none⟩ v):=⟨hy.1.other hc hu,hy.2⟩
 refine⟨b,o,e,⟨hd _ hr.1,hd _ hr.2⟩,?_,?_,?_,?_,?_,?_,?_⟩ <;> (rw[cell_set_ne (d _)];assumption)
theorem OwnN.store {wb w:World} {v:Value} {zs:List RI} (h:OwnN wb w v zs) {g i:Nat} {u:Value} (hg:wb.heap.size≤g) (hc:w.cell? ⟨g,i,none⟩=some u) (hu:NoU u) (hv:v.ownBlock≠some g) (y:Value):OwnN wb (w.setCell ⟨g,i,none⟩ y) v zs:=by
 obtain⟨h1,h2,h3,h4⟩:=h
 refine⟨h1.set hg y,ownsRow_setCell_other h2 hv y,fun b hb j z hz=>?_,fun x hx=>?_⟩
 ·rw[cell_set_ne (fun e=>by injection e with e1;subst e1;exact hv hb)] at hz
  exact h3 b hb j z hz
 have hd (q:RD) (hq:q.rd w):q.rd (w.setCell ⟨g,i,none⟩ y):=⟨hq.1.other hc hu,hq.2⟩
 exact⟨hd _ (h4 x hx).1,hd _ (h4 x hx).2⟩
theorem wpList_append_ivg {w:World} {ops:Array Oper} {rest:List Oper} {o:Oper} {a:Act} {Q:Exit→Act→World→Prop} (hgd:o.guard=none) (s x:Operand)
  (ho:o.op=.call { callee:=.builtin .append,args:=#[s,x],argTypes:=#[24,24] })
  (wb:World) (v:Value) (zs:List RI) (hs:a.eval s=v) (hown:OwnN wb w v zs)
  (g c:Nat) (hx:a.eval x=.slice (some ⟨g,0,none⟩) 1 c) (y:RI) (hy:y.rd w)
  (hcell:w.cell? ⟨g,0,none⟩=some (.bool y.lo.neg)∧w.cell? ⟨g,1,none⟩=some (.slice y.lo.a y.lo.xs.length y.lo.c)∧w.cell? ⟨g,2,none⟩=some (.int .i64 y.lo.e)∧w.cell? ⟨g,3,none⟩=some (.bool y.hi.neg)∧w.cell? ⟨g,4,none⟩=some (.slice y.hi.a y.hi.xs.length y.hi.c)∧w.cell? ⟨g,5,none⟩=some (.int .i64 y.hi.e)∧w.cell? ⟨g,6,none⟩=some (.bool y.all)) (hlen:zs.length+1≤9000000)
  (h:∀ a' c' w',OwnN wb w' (.slice a' (zs.length+1) c') (zs++[y])→w.grownBy w' v.ownBlock→(v.ownBlock=(Value.slice a' (zs.length+1) c').ownBlock∨(Value.slice a' (zs.length+1) c').ownBlock=some w.heap.size)→wpList Tryz.prog ops Q rest (a.put o.dst (.slice a' (zs.length+1) c')) w') :
  wpList Tryz.prog ops Q (o::rest) a w:=by
 obtain⟨i0,hi,hz0,hz1,hz2⟩:=info_parts infoIvl
 obtain⟨hk,hown1,hall,hrows⟩:=hown
 refine wpList_append_all w NoU hgd s x 24 ho wb.heap.size 44 i0 (.agg #[.bool false,.slice none 0 0,.int .i64 0,.bool false,.slice none 0 0,.int .i64 0,.bool false]) 7 88 Tryz.underlying24 hi hz0 hz1 hz2 rfl (by decide) v zs.length (zs.flatMap RI.cells) hs hown1
  ⟨g,0,none⟩ 1 c y.cells hx rfl ?_ ?_ (by decide) (by unfold maxLen;omega) (by omega) hk.size hall noU_cells ?_ ?_
 ·intro j u hj
  obtain⟨h0,h1,h2,h3,h4,h5,h6⟩:=hcell
  match j,hj with
  | 0,hj=>cases hj;simpa [Addr.add] using h0
  | 1,hj=>cases hj;simpa [Addr.add] using h1
  | 2,hj=>cases hj;simpa [Addr.add] using h2
  | 3,hj=>cases hj;simpa [Addr.add] using h3
  | 4,hj=>cases hj;simpa [Addr.add] using h4
  | 5,hj=>cases hj;simpa [Addr.add] using h5
  | 6,hj=>cases hj;simpa [Addr.add] using h6
  | j+7,hj=>simp[RI.cells] at hj
 ·intro u hu
  simp only[RI.cells,List.mem_cons,List.not_mem_nil,or_false] at hu
  rcases hu with rfl | rfl | rfl | rfl | rfl | rfl | rfl <;> rfl
 ·intro u hu y e
  simp[Value.cells] at hu
  rcases hu with rfl | rfl | rfl | rfl | rfl | rfl | rfl <;> cases e
 intro g' cap w' h1 h2 h3 h6
 have hb:Below wb.heap.size w w':=(Below.refl wb.heap.size w).grown h2 hk.size (fun k hk=>(hown1.lt k hk).1)
 refine h _ _ w' ⟨Below.trans hk hb,?_,h6,fun q hq=>?_⟩ h2 ?_
 ·rw[List.flatMap_append,List.length_append]
  simpa using h1
 ·rcases List.mem_append.1 hq with hq | hq
  ·exact (hrows q hq).far h2 hall
  simp only[List.mem_singleton] at hq
  subst hq
  exact hy.far h2 hall
 rcases h3 with h3 | h3
 ·exact .inl h3
 subst h3;exact .inr rfl
theorem OwnN.new {wb w:World} {v:Value} {zs:List RI} (h:OwnN wb w v zs):∀ g,v.ownBlock=some g→g<w.heap.size:=fun g hg=>(h.2.1.lt g hg).2
def OutM (wb w:World) (g n:Nat) (R:List (List RI)) (v:Value) (cur:List RI):Prop :=
 (wb.heap.size≤g∧g<w.heap.size∧R.length<n∧v.ownBlock≠some g)∧OwnN wb w v cur∧w.cell? ⟨g,R.length,none⟩=some v ∧
 (∀ i,i<n→w.frozen? ⟨g,i,none⟩=false)∧(∀ i,R.length<i→i<n→w.cell? ⟨g,i,none⟩=some (.slice none 0 0)) ∧
 ∀ i r,R[i]? = some r→r.length≤1100000∧∃ ra rc,w.cell? ⟨g,i,none⟩=some (.slice ra r.length rc)∧RowI w ra r∧Off v ra w∧∀ p,ra=some p→p.block≠g
def OutH (wb w:World) (g n:Nat) (R:List (List RI)):Prop :=
 (wb.heap.size≤g∧g<w.heap.size∧R.length≤n)∧Kp wb w ∧
 (∀ i,i<n→w.frozen? ⟨g,i,none⟩=false)∧(∀ i,R.length≤i→i<n→w.cell? ⟨g,i,none⟩=some (.slice none 0 0)) ∧
 ∀ i r,R[i]? = some r→r.length≤1100000∧∃ ra rc,w.cell? ⟨g,i,none⟩=some (.slice ra r.length rc)∧RowI w ra r∧∀ p,ra=some p→p.block≠g∧p.block<w.heap.size
theorem OutH.open {wb w:World} {g n:Nat} {R:List (List RI)} (h:OutH wb w g n R) (hn:R.length<n):OutM wb w g n R (.slice none 0 0) []:=by
 obtain⟨⟨h1,h2,h3⟩,hk,hf,hz,hr⟩:=h
 refine⟨⟨h1,h2,hn,by simp[Value.ownBlock]⟩,.nil hk,hz _ (Nat.le_refl _) hn,hf,fun i h h'=>hz i (by omega) h',fun i r hi=>?_⟩
 obtain⟨q1,ra,rc,q2,q3,q4⟩:=hr i r hi
 exact⟨q1,ra,rc,q2,q3,fun p hp=>⟨by simp[Value.ownBlock],(q4 p hp).2⟩,fun p hp=>(q4 p hp).1⟩
theorem OutM.close {wb w:World} {g n:Nat} {R:List (List RI)} {v:Value} {cur:List RI} (h:OutM wb w g n R v cur) (hc:cur.length≤1100000):OutH wb w g n (R++[cur]):=by
 obtain⟨⟨h1,h2,h3,h4⟩,ho,hv,hf,hz,hr⟩:=h
 refine⟨⟨h1,h2,by simp;omega⟩,ho.1,hf,fun i h h'=>hz i (by simp at h;omega) h',fun i r hi=>?_⟩
 by_cases hi2:i<R.length
 ·rw[List.getElem?_append_left hi2] at hi
  obtain⟨q1,ra,rc,q2,q3,q4,q5⟩:=hr i r hi
  exact⟨q1,ra,rc,q2,q3,fun p hp=>⟨q5 p hp,(q4 p hp).2⟩⟩
 rw[List.getElem?_append_right (by omega)] at hi
 have hi3:i=R.length:=by
  have:=(List.getElem?_eq_some_iff.1 hi).1
  simp at this;omega
 subst hi3
 simp at hi
 subst hi
 obtain⟨a,c,e,_,_,hrow⟩:=ho.value
 subst e
 refine⟨hc,a,c,hv,hrow,fun p hp=>?_⟩
 subst hp
 have hown:=ho.new
 obtain⟨_,⟨_,hq⟩,_⟩:=ho
 rcases hq with ⟨e,_⟩ | ⟨b,cap,cu,e,_⟩
 ·cases e
 cases e
 refine⟨fun e=>h4 (by rw[← e];rfl),hown _ rfl⟩
theorem OutH.kp {wb w w':World} {g n:Nat} {R:List (List RI)} (h:OutH wb w g n R) (k:Kp w w'):OutH wb w' g n R:=by
 obtain⟨⟨h1,h2,h3⟩,hk,hf,hz,hr⟩:=h
 have hs:=k.size
 refine⟨⟨h1,by omega,h3⟩,hk.trans k,fun i hi=>?_,fun i h h'=>k.cell (hz i h h'),fun i r hi=>?_⟩
 ·rw[k.below.frozen h2];exact hf i hi
 obtain⟨q1,ra,rc,q2,q3,q4⟩:=hr i r hi
 exact⟨q1,ra,rc,k.cell q2,q3.kp k,fun p hp=>⟨(q4 p hp).1,by have:=(q4 p hp).2;omega⟩⟩
theorem OutM.kp {wb w w':World} {g n:Nat} {R:List (List RI)} {v:Value} {cur:List RI} (h:OutM wb w g n R v cur) (k:Kp w w'):OutM wb w' g n R v cur:=by
 obtain⟨⟨h1,h2,h3,h4⟩,ho,hv,hf,hz,hr⟩:=h
 have hs:=k.size
 refine⟨⟨h1,by omega,h3,h4⟩,ho.kp k,k.cell hv,fun i hi=>?_,fun i h h'=>k.cell (hz i h h'),fun i r hi=>?_⟩
 ·rw[k.below.frozen h2];exact hf i hi
 obtain⟨q1,ra,rc,q2,q3,q4,q5⟩:=hr i r hi
 exact⟨q1,ra,rc,k.cell q2,q3.kp k,q4.kp hs,q5⟩
theorem OutM.step {wb w w':World} {g n:Nat} {R:List (List RI)} {v v':Value} {cur:List RI} {x:RI} (h:OutM wb w g n R v cur)
  (ho:OwnN wb w' v' (cur++[x])) (hg:w.grownBy w' v.ownBlock) (hv:v.ownBlock=v'.ownBlock∨v'.ownBlock=some w.heap.size) (hn:NoU v) :
  OutM wb (w'.setCell ⟨g,R.length,none⟩ v') g n R v' (cur++[x]):=by
 obtain⟨⟨h1,h2,h3,h4⟩,ho0,hv0,hf,hz,hr⟩:=h
 have hs:w.heap.size≤w'.heap.size:=hg.size
 have hgn:v'.ownBlock≠some g:=by
  rcases hv with hv | hv
  ·rw[← hv];exact h4
  ·rw[hv];intro e;injection e with e;omega
 have keep (i:Nat) (u:Value) (hc:w.cell? ⟨g,i,none⟩=some u):w'.cell? ⟨g,i,none⟩=some u:=hg.cell hc (fun e=>h4 e.symm)
 have hv1:=keep _ _ hv0
 refine⟨⟨h1,by simpa using (by omega:g<w'.heap.size),h3,hgn⟩,ho.store h1 hv1 hn hgn v',cell_set_eq hv1,fun i hi=>?_,fun i h h'=>?_,fun i r hi=>?_⟩
 ·have hfi:w'.frozen? ⟨g,i,none⟩=false:=by
   have:=hg.block g h2 (fun e=>h4 e.symm)
   have hh:=hf i hi
   unfold World.frozen? at hh ⊢
   rw[this];exact hh
  simpa using hfi
 ·rw[cell_set_ne (fun e=>by injection e with _ e2;omega)]
  exact keep _ _ (hz i h h')
 obtain⟨q1,ra,rc,q2,q3,q4,q5⟩:=hr i r hi
 have hir:=(List.getElem?_eq_some_iff.1 hi).1
 refine⟨q1,ra,rc,?_,(q3.far hg ho0.2.2.1 q4).store hv1 hn q5 v',(q4.far hs hv).kp (by simp),q5⟩
 rw[cell_set_ne (fun e=>by injection e with _ e2;omega)]
 exact keep _ _ q2
theorem OutH.rowM {wb w:World} {g n:Nat} {R:List (List RI)} (h:OutH wb w g n R):RowM w (some ⟨g,0,none⟩) R:=by
 obtain⟨_,_,_,_,hr⟩:=h
 intro i r hi
 obtain⟨q1,ra,rc,q2,q3,_⟩:=hr i r hi
 exact⟨g,0,ra,rc,rfl,by rw[Nat.zero_add];exact q2,q3,q1⟩
theorem infoSlI:(Tryz.prog.info? 24).map (fun i=>(i.zero,i.size,i.bytes))=some (some (.slice none 0 0),1,24):=by kernel_rfl
def OwnM (wb w:World) (v:Value) (us:List Value) (R:List (List RI)):Prop :=
 Kp wb w∧w.ownsRow wb.heap.size 24 1 v us.length us∧AllC NoU w v∧us.length=R.length ∧
 ∀ (i:Nat) (r:List RI),R[i]? = some r→r.length≤1100000∧∃ ra rc,us[i]? = some (Value.slice ra r.length rc)∧RowI w ra r∧Off v ra w
theorem OwnM.nil {wb w:World} (k:Kp wb w):OwnM wb w (.slice none 0 0) [] []:=⟨k,World.ownsRow_nil _ _ _ _,AllC.nil _ _,rfl,fun i r h=>by simp at h⟩
theorem OwnM.kp {wb w w':World} {v:Value} {us:List Value} {R:List (List RI)} (h:OwnM wb w v us R) (k:Kp w w'):OwnM wb w' v us R:=by
 obtain⟨h1,h2,h3,h4,h5⟩:=h
 refine⟨h1.trans k,Kp.owns h2 k,h3.kp h2 k,h4,fun i r hi=>?_⟩
 obtain⟨q1,ra,rc,q2,q3,q4⟩:=h5 i r hi
 exact⟨q1,ra,rc,q2,q3.kp k,q4.kp k.size⟩
theorem OwnM.value {wb w:World} {v:Value} {us:List Value} {R:List (List RI)} (h:OwnM wb w v us R):∃ a c,v=.slice a R.length c∧R.length≤c∧c≤maxLen∧RowM w a R:=by
 obtain⟨h1,⟨h2,h3⟩,h6,h4,h5⟩:=h
 rcases h3 with ⟨rfl,h3⟩ | ⟨g,cap,cur,rfl,hb,hg,hn,hc,hs,ht⟩
 ·have h0:R=[]:=List.length_eq_zero_iff.1 (by omega)
  subst h0
  exact⟨none,0,rfl,Nat.le_refl _,by decide,fun i x hi=>by simp at hi⟩
 rw[h4]
 refine⟨_,_,rfl,by omega,hc,fun i r hi=>?_⟩
 obtain⟨q1,ra,rc,q2,q3,q4⟩:=h5 i r hi
 have hil:i<us.length:=(List.getElem?_eq_some_iff.1 q2).1
 refine⟨g,0,ra,rc,rfl,?_,q3,q1⟩
 rw[Nat.zero_add,cell_of_row w g _ cur _ _ hg]
 have h7:(cur.toList.take (us.length*1))[i]? = some (.slice ra r.length rc):=by rw[ht];exact q2
 rw[List.getElem?_take,if_pos (by omega)] at h7
 simpa using h7
theorem wpList_append_rowi {w:World} {ops:Array Oper} {rest:List Oper} {o:Oper} {a:Act} {Q:Exit→Act→World→Prop} (hgd:o.guard=none) (s x:Operand)
  (ho:o.op=.call { callee:=.builtin .append,args:=#[s,x],argTypes:=#[27,27] })
  (wb:World) (v:Value) (us:List Value) (R:List (List RI)) (hs:a.eval s=v) (hown:OwnM wb w v us R)
  (g c:Nat) (hx:a.eval x=.slice (some ⟨g,0,none⟩) 1 c) (ra:Option Addr) (rc:Nat) (r:List RI) (hr:RowI w ra r) (hoff:Off v ra w) (hrl:r.length≤1100000)
  (hcell:w.cell? ⟨g,0,none⟩=some (.slice ra r.length rc)) (hlen:R.length+1≤9000000)
  (h:∀ v' us' w',OwnM wb w' v' us' (R++[r])→wpList Tryz.prog ops Q rest (a.put o.dst v') w') :
  wpList Tryz.prog ops Q (o::rest) a w:=by
 obtain⟨i0,hi,hz0,hz1,hz2⟩:=info_parts infoSlI
 obtain⟨hk,hown1,hall,hle,hrows⟩:=hown
 refine wpList_append_all w NoU hgd s x 27 ho wb.heap.size 24 i0 (.slice none 0 0) 1 24 Tryz.underlying27 hi hz0 hz1 hz2 rfl (by decide) v us.length us hs hown1
  ⟨g,0,none⟩ 1 c [.slice ra r.length rc] hx rfl ?_ ?_ (by decide) (by unfold maxLen;omega) (by omega) hk.size hall ?_ ?_ ?_
 ·intro j u hj
  match j,hj with
  | 0,hj=>cases hj;simpa [Addr.add] using hcell
  | j+1,hj=>simp at hj
 ·intro u hu
  simp only[List.mem_cons,List.not_mem_nil,or_false] at hu
  subst hu;rfl
 ·intro u hu y e
  simp only[List.mem_cons,List.not_mem_nil,or_false] at hu
  subst hu;cases e
 ·intro u hu y e
  simp[Value.cells] at hu
  subst hu;cases e
 intro g' cap w' h1 h2 h3 h6
 have hb:Below wb.heap.size w w':=(Below.refl wb.heap.size w).grown h2 hk.size (fun k hk=>(hown1.lt k hk).1)
 have hv:v.ownBlock=(Value.slice (some ⟨g',0,none⟩) (us.length+1) cap).ownBlock∨(Value.slice (some ⟨g',0,none⟩) (us.length+1) cap).ownBlock=some w.heap.size:=by
  rcases h3 with h3 | h3
  ·exact .inl h3
  ·subst h3;exact .inr rfl
 refine h _ (us++[.slice ra r.length rc]) w' ⟨Below.trans hk hb,?_,h6,by simp[hle],fun i q hq=>?_⟩
 ·rw[List.length_append];simpa using h1
 by_cases hi2:i<R.length
 ·rw[List.getElem?_append_left hi2] at hq
  obtain⟨q1,pa,pc,q2,q3,q4⟩:=hrows i q hq
  refine⟨q1,pa,pc,?_,q3.far h2 hall q4,q4.far h2.size hv⟩
  rw[List.getElem?_append_left (by omega)];exact q2
 rw[List.getElem?_append_right (by omega)] at hq
 have hi3:i=R.length:=by
  have:=(List.getElem?_eq_some_iff.1 hq).1
  simp at this;omega
 subst hi3
 simp at hq
 subst hq
 refine⟨hrl,ra,rc,?_,hr.far h2 hall hoff,hoff.far h2.size hv⟩
 rw[List.getElem?_append_right (by omega),hle];simp
theorem OwnN.off {w wo w':World} {v u:Value} {zs:List RI} {a:Option Addr} {n c:Nat} (h:OwnN wo w v zs) (hv:v=.slice a n c) (hu:∀ g,u.ownBlock=some g→g<wo.heap.size) (hs:w.heap.size≤w'.heap.size):Off u a w':=by
 intro p hp
 subst hp
 subst hv
 have hl:=h.new
 obtain⟨_,⟨_,hq⟩,_⟩:=h
 rcases hq with ⟨e,_⟩ | ⟨b,cap,cu,e,hb,_⟩
 ·cases e
 cases e
 have:=hl b rfl
 exact⟨fun e=>by have h9:b<wo.heap.size:=hu _ e;omega,by show b<_;omega⟩
theorem OwnM.new {wb w:World} {v:Value} {us:List Value} {R:List (List RI)} (h:OwnM wb w v us R):∀ g,v.ownBlock=some g→g<w.heap.size:=fun g hg=>(h.2.1.lt g hg).2
theorem mprecise_any (p:Int) (w:World) :
  Calls Tryz.prog 146 #[.int .i64 p] w fun e w'=>e=.returned (.bool (preB p))∧w=w':=by
 by_cases h1:8≤p
 rotate_left
 ·have H:=hid (show preB p=false from decide_eq_false (by omega))
  go_enter Tryz.func146,Tryz.ntmps146
  go_wp2_with fail
  go_ret
  exact⟨ret_bool (by first | exact H.out.symm | (rw[H.out];simp;omega)),rfl⟩
 by_cases h2:p≤512
 ·have H:=hid (show preB p=true from decide_eq_true ⟨h1,h2⟩)
  go_enter Tryz.func146,Tryz.ntmps146
  go_wp2_with fail
  go_ret
  exact⟨ret_bool (by first | exact H.out.symm | (rw[H.out];simp;omega)),rfl⟩
 have H:=hid (show preB p=false from decide_eq_false (by omega))
 go_enter Tryz.func146,Tryz.ntmps146
 go_wp2_with fail
 go_ret
 exact⟨ret_bool (by first | exact H.out.symm | (rw[H.out];simp;omega)),rfl⟩
theorem enters_IValid:Enters Tryz.prog 20:=fun _ _=>by kernel_rfl
theorem storeF (a:Addr) (f:Fn) (ts cap:Array Value) (m:Mode) (w:World):(store a (.func f ts cap) m).run Tryz.prog w=Go.stored Tryz.prog w a (.func f ts cap) m:=run_store _ w a _ m rfl
set_option maxHeartbeats 2000000 in
theorem rect11_any (x:RI) (b:Nat) (w:World) (hx:x.rd w) (hf:w.cell? ⟨b,0,none⟩=some (.func (.func 20) #[] #[])) :
  Calls Tryz.prog 137 #[.agg #[.bool x.lo.neg,.slice x.lo.a x.lo.xs.length x.lo.c,.int .i64 x.lo.e,.bool x.hi.neg,.slice x.hi.a x.hi.xs.length x.hi.c,.int .i64 x.hi.e,.bool x.all],.pointer (some ⟨b,0,none⟩)] w fun e w'=>e=.returned (.bool (!x.vl))∧Kp w w':=by
 have hgo:∀ args w,(callFunc 20 args).run Tryz.prog w=.ok (.enter 20 args) w:=enters_IValid
 have k1:=(Kp.refl w).alloc (.cells #[.bool x.lo.neg,.slice x.lo.a x.lo.xs.length x.lo.c,.int .i64 x.lo.e,.bool x.hi.neg,.slice x.hi.a x.hi.xs.length x.hi.c,.int .i64 x.hi.e,.bool x.all] 44)
 have hf1:=k1.cell hf
 have hlt:=World.block_lt_of_cell? w _ hf
 clear hf
 go_enter Tryz.func137,Tryz.ntmps137
 go_wp2_with fail
 go_fit (IValid_raw x _ (hx.kp k1))
 rintro e w1 ⟨rfl,k2⟩
 cases hv:x.vl with
 | false =>
  go_wp2_with fail
  go_ret
  exact⟨ret_bool (by rw[hv];rfl),k1.trans k2⟩
 | true =>
 go_wp2_with fail
 go_ret
 exact⟨ret_bool (by rw[hv];rfl),k1.trans k2⟩
def badR (m:List (List RI)) (r:List RI):Bool:=decide (r.length≠colsM m)||r.any fun x=>!x.vl
theorem vlM_any (m:List (List RI)):vlM m=(decide (1≤m.length∧m.length≤8)&&(decide (1≤colsM m∧colsM m≤8)&&!m.any (badR m))):=by
 unfold vlM
 congr 2
 rw[List.not_any_eq_all_not]
 congr 1
 funext r
 unfold badR
 rw[Bool.not_or,List.not_any_eq_all_not]
 simp
set_option maxHeartbeats 4000000 in
theorem rect1_any (m:List (List RI)) (r:List RI) (a ra:Option Addr) (c rc bm bo:Nat) (w:World) (hm:RowM w a m) (hm0:0<m.length) (hl:m.length≤1100000) (hr:RowI w ra r) (hrl:r.length≤1100000)
  (h1:w.cell? ⟨bm,0,none⟩=some (.slice a m.length c)) (h2:w.cell? ⟨bo,0,none⟩=some (.func (.func 20) #[] #[])) :
  Calls Tryz.prog 136 #[.slice ra r.length rc,.pointer (some ⟨bm,0,none⟩),.pointer (some ⟨bo,0,none⟩)] w fun e w'=>e=.returned (.bool (badR m r))∧Kp w w':=by
 obtain⟨r0,h0⟩:∃ r0,m[0]? = some r0:=⟨_,List.getElem?_eq_getElem hm0⟩
 have hc0:colsM m=r0.length:=by
  unfold colsM
  cases m with
  | nil=>simp at hm0
  | cons x t=>simp at h0;subst h0;rfl
 obtain⟨b,o,ra0,rc0,rfl,hcell,_,hl0⟩:=hm 0 r0 h0
 rw[Nat.add_zero] at hcell
 have HB:=hid (show badR m r=(decide (r.length≠r0.length)||r.any fun x=>!x.vl) by unfold badR;rw[hc0])
 have hp:AnsI Tryz.prog 137 #[.pointer (some ⟨bo,0,none⟩)] w r (fun x=>!x.vl):=⟨fun _ _=>by kernel_rfl,fun x hx w1 k=>rect11_any x bo w1 ((hr.rdI hx).kp k) (k.cell h2)⟩
 have hcn:=containsI ra r rc _ _ w _ hrl hr hp
 have HC:=hid hcn
 have hi0:(0:Int)<(m.length:Int):=by omega
 clear hm hm0 hc0 h0 hp hcn hr
 by_cases hlen:r.length=r0.length
 rotate_left
 ·have hne:((r.length:Int) != (r0.length:Int))=true:=by simpa using (by omega:¬ (r.length:Int)=(r0.length:Int))
  have HB2:=hid (show badR m r=true by rw[HB.out,decide_eq_true (by simpa using hlen)];rfl)
  clear hlen HB
  go_enter Tryz.func136,Tryz.ntmps136
  go_wp2_with fail
  go_ret
  exact⟨ret_bool HB2.out.symm,.refl _⟩
 have hne:((r.length:Int) != (r0.length:Int))=false:=by rw[hlen];simp
 have HB2:=hid (show badR m r=r.any (fun x=>!x.vl) by rw[HB.out,decide_eq_false (by simpa using hlen)];rfl)
 clear hlen HB
 go_enter Tryz.func136,Tryz.ntmps136
 go_wp2_with fail
 go_fit HC.out
 rintro e w1 ⟨rfl,k1⟩
 go_wp2_with fail
 go_ret
 exact⟨ret_bool HB2.out.symm,k1⟩
set_option maxHeartbeats 4000000 in
theorem rect_any (a:Option Addr) (m:List (List RI)) (c:Nat) (w:World) (hm:RowM w a m) (hl:m.length≤1100000) :
  Calls Tryz.prog 69 #[.slice a m.length c,.func (.func 20) #[] #[]] w fun e w'=>e=.returned (.bool (vlM m))∧Kp w w':=by
 have HV:=hid (vlM_any m)
 have hsf:=storeF
 rcases Nat.eq_zero_or_pos m.length with hz | hpos
 ·have H:=hid (show vlM m=false by rw[HV.out,hz];rfl)
  rw[hz]
  clear hz HV
  go_enter Tryz.func69,Tryz.ntmps69
  go_wp2_with fail
  go_ret
  exact⟨ret_bool H.out.symm,((Kp.refl w).alloc _).alloc _⟩
 have hn1:¬ (m.length:Int)<1:=by omega
 by_cases h8:8<m.length
 ·have H:=hid (show vlM m=false by rw[HV.out,decide_eq_false (by omega)];rfl)
  have hn2:(8:Int)<(m.length:Int):=by omega
  clear h8 HV hpos
  go_enter Tryz.func69,Tryz.ntmps69
  go_wp2_with fail
  go_ret
  exact⟨ret_bool H.out.symm,((Kp.refl w).alloc _).alloc _⟩
 have hn2:¬ (8:Int)<(m.length:Int):=by omega
 have hn3:(0:Int)<(m.length:Int):=by omega
 obtain⟨r0,h0⟩:∃ r0,m[0]? = some r0:=⟨_,List.getElem?_eq_getElem hpos⟩
 have hc0:colsM m=r0.length:=by
  unfold colsM
  cases m with
  | nil=>simp at hpos
  | cons x t=>simp at h0;subst h0;rfl
 obtain⟨b,o,ra0,rc0,rfl,hcell,_,hl0⟩:=hm 0 r0 h0
 rw[Nat.add_zero] at hcell
 have HV1:=hid (show vlM m=(decide (1≤r0.length∧r0.length≤8)&&!m.any (badR m)) by rw[HV.out,hc0,decide_eq_true (by omega)];rfl)
 have hk2:=((Kp.refl w).alloc (.cells #[.slice (some ⟨b,o,none⟩) m.length c] 27)).alloc (.cells #[.func (.func 20) #[] #[]] 51)
 have hcl:=hk2.cell hcell
 have hlt:=World.block_lt_of_cell? w _ hcell
 by_cases hz:r0.length=0
 ·have H:=hid (show vlM m=false by rw[HV1.out,decide_eq_false (by omega)];rfl)
  have g1:(r0.length:Int)<1:=by omega
  clear HV HV1 h0 hc0 hm hpos h8 hz
  go_enter Tryz.func69,Tryz.ntmps69
  go_wp2_with fail
  go_ret
  exact⟨ret_bool H.out.symm,((Kp.refl w).alloc _).alloc _⟩
 have g1:¬ (r0.length:Int)<1:=by omega
 by_cases h9:8<r0.length
 ·have H:=hid (show vlM m=false by rw[HV1.out,decide_eq_false (by omega)];rfl)
  have g2:(8:Int)<(r0.length:Int):=by omega
  clear HV HV1 h0 hc0 hm hpos h8 hz h9
  go_enter Tryz.func69,Tryz.ntmps69
  go_wp2_with fail
  go_ret
  exact⟨ret_bool H.out.symm,((Kp.refl w).alloc _).alloc _⟩
 have g2:¬ (8:Int)<(r0.length:Int):=by omega
 have H:=hid (show vlM m=!m.any (badR m) by rw[HV1.out,decide_eq_true (by omega)];rfl)
 have HM:=hid hm
 have Hpos:=hid hpos
 clear HV HV1 h0 hc0 hpos h8 hz h9 hm
 go_enter Tryz.func69,Tryz.ntmps69
 go_wp2_with fail
 have hA:AnsR Tryz.prog 136 #[.pointer (some ⟨w.heap.size,0,none⟩),.pointer (some ⟨w.heap.size+1,0,none⟩)] ((w.alloc (.cells #[.slice (some ⟨b,o,none⟩) m.length c] 27)).alloc (.cells #[.func (.func 20) #[] #[]] 51)) m (badR m):=⟨fun _ _=>by kernel_rfl,fun r hr ra rc w1 k hrow=>rect1_any m r _ ra c rc _ _ w1 ((HM.out.kp hk2).kp k) Hpos.out hl hrow.1 hrow.2 (k.cell (by simp)) (k.cell (by simp))⟩
 go_fit (containsR _ m c _ _ _ (badR m) hl (HM.out.kp hk2) hA)
 rintro e w1 ⟨rfl,k1⟩
 go_wp2_with fail
 go_ret
 exact⟨ret_bool H.out.symm,hk2.trans k1⟩
set_option maxHeartbeats 1000000 in
theorem mvalid_any (a:Option Addr) (m:List (List RI)) (c:Nat) (w:World) (hm:RowM w a m) (hl:m.length≤1100000) :
  Calls Tryz.prog 17 #[.slice a m.length c] w fun e w'=>e=.returned (.bool (vlM m))∧Kp w w':=by
 have H:=hid (rect_any a m c w hm hl)
 clear hm
 go_enter Tryz.func17,Tryz.ntmps17
 go_wp2_with fail
 go_fit H.out
 rintro e w1 ⟨rfl,k1⟩
 go_wp2_with fail
 go_ret
 exact⟨rfl,k1⟩
end Go.Proofs.YtbhmhfnfceakoaaGreatDoor
