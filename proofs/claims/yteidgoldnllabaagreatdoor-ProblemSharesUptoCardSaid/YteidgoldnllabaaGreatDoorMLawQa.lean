/-
  Walks: the problem law's awake.
-/
import Derived.Test.YteidgoldnllabaaGreatDoorMAwkQ
import Derived.Test.YteidgoldnllabaaGreatDoorMIdxX
import Derived.Test.YteidgoldnllabaaGreatDoorMBoxV
import Derived.Test.YteidgoldnllabaaGreatDoorMModN
import Derived.Test.YteidgoldnllabaaGreatDoorMIvlN
import Derived.Deep.CutRange
import Derived.Test.YteidgoldnllabaaGreatDoorMGr7
namespace Go.Proofs.YteidgoldnllabaaGreatDoor
open Go.RowKit
open Lib (hid)
section
open Go.RowKit Go.Sort
theorem eqop_self (a a':Option Addr) (zs ys:List Opn) (n c d B B':Nat) (w:World) (hn:zs.length=n) (hm:zs.length≤1100000) (h:RowV Opn.cells 6 w B a zs) (h':RowV Opn.cells 6 w B' a' ys) (e:zs=ys) :
  Calls Tryz.prog 59 #[.slice a n c,.slice a' n d] w fun e w'=>e=.returned (.bool true)∧Kp w w':=by
 subst hn e
 refine (eqop_any a a' zs zs c d B B' w hm hm h h').mono fun r w' hh=>?_
 rw[decide_eq_true rfl] at hh
 exact hh
theorem eqint_self (a a':Option Addr) (zs ys:List Int) (n c d B B':Nat) (w:World) (hn:zs.length=n) (hm:zs.length≤1100000) (h:RowV numC 1 w B a zs) (h':RowV numC 1 w B' a' ys) (e:zs=ys) :
  Calls Tryz.prog 58 #[.slice a n c,.slice a' n d] w fun e w'=>e=.returned (.bool true)∧Kp w w':=by
 subst hn e
 refine (eqint_any a a' zs zs c d B B' w hm hm h h').mono fun r w' hh=>?_
 rw[decide_eq_true rfl] at hh
 exact hh
def SyqOut (w:World) (r:Ending) (w':World):Prop:=∃ oa oc ua uc pa pc,r=.returned (.tuple #[.agg #[.int .i64 2,.slice oa 2 oc,.slice ua 2 uc,.int .i64 2,.slice pa 0 pc],.int .i64 0])∧RowV Opn.cells 6 w' w'.heap.size oa [⟨5,0,0,0,0,0⟩,⟨7,2,0,0,0,0⟩]∧RowV numC 1 w' w'.heap.size ua [1,3]∧Kp w w'
theorem system_ex (sa ma fa a1 a2:Option Addr) (w:World) (hat:(exP sa ma fa a1 a2).at w w.heap.size) (hT:Tab w) :
  Calls Tryz.prog 28 #[.agg #[.slice sa 2 2,.slice none 0 0,.slice ma 1 1,.int .i64 1,.int .i64 1],.string ⟨#[114,117,110]⟩,.int .i64 60] w (SyqOut w):=by
 refine (system_any (exP sa ma fa a1 a2) nRun 60 w w.heap.size hat (Nat.le_refl _) hT).mono ?_
 rintro r w' ⟨x,rfl,⟨h1,h2,_,_⟩,hv,k,_⟩
 rw[exP_sysE]
 rw[exP_sysV] at hv
 obtain⟨ins,oa,oc,ops,ua,uc,outs,st,pa,pc,ps⟩:=x
 simp only[Sy.val,Prod.mk.injEq,List.map_eq_nil_iff] at hv
 obtain⟨rfl,rfl,rfl,rfl,rfl⟩:=hv
 exact⟨oa,oc,ua,uc,pa,pc,rfl,h1,h2,k⟩
theorem rowQ_ints (w:World) (T:TypeId) {w':World} (g:Nat) (hg:w.heap.size=g) (k:Kp (w.alloc (.cells #[.int .i64 1,.int .i64 3] T)) w'):RowV numC 1 w' w'.heap.size (some ⟨g,0,none⟩) [1,3]:=rowV_newg (cells:=numC) (k:=1) (fun _=>rfl) (by decide) g hg [1,3] k
theorem rowQ_ops (w:World) (T:TypeId) {w':World} (g:Nat) (hg:w.heap.size=g) (k:Kp (w.alloc (.cells #[.int .i64 5,.int .i64 0,.int .i64 0,.int .i64 0,.int .i64 0,.int .i64 0,.int .i64 7,.int .i64 2,.int .i64 0,.int .i64 0,.int .i64 0,.int .i64 0] T)) w'):RowV Opn.cells 6 w' w'.heap.size (some ⟨g,0,none⟩) [⟨5,0,0,0,0,0⟩,⟨7,2,0,0,0,0⟩]:=rowV_newg (cells:=Opn.cells) (k:=6) (fun _=>rfl) (by decide) g hg [⟨5,0,0,0,0,0⟩,⟨7,2,0,0,0,0⟩] k
set_option maxHeartbeats 8000000 in
set_option maxRecDepth 20000 in
theorem awakeq_any (w:World) (hT:Tab w):Calls Tryz.prog 13 #[] w fun r w'=>r=.returned (.bool true)∧Kp w w':=by
 have HT:=hid hT
 clear hT
 go_enter Tryz.func13,Tryz.ntmps13
 go_upto_region 2 with (first
  | (go_at_call 57;go_fit (exampleq_any _);rintro r w1 ⟨sa,ma,fa,a1,a2,rfl,hat,k1⟩)
  | (go_at_call 28;go_fit (system_ex sa ma fa a1 a2 w1 hat (HT.out.kp k1));rintro r w2 ⟨oa,oc,ua,uc,pa,pc,rfl,ho,hu,k2⟩)
  | fail)
 have kA:=(Kp.refl w2).alloc (.cells #[.int .i64 2,.slice oa 2 oc,.slice ua 2 uc,.int .i64 2,.slice pa 0 pc] 60)
 have hB:BoxV (w2.alloc (.cells #[.int .i64 2,.slice oa 2 oc,.slice ua 2 uc,.int .i64 2,.slice pa 0 pc] 60)) w2.heap.size [.int .i64 2,.slice oa 2 oc,.slice ua 2 uc,.int .i64 2,.slice pa 0 pc]:=BoxV.new w2 [_,_,_,_,_] _ _ rfl
 have HO:=hid (ho.kpB kA)
 have HU:=hid (hu.kpB kA)
 have HK:=hid (k1.trans (k2.trans kA))
 clear ho hu k1 k2 kA hat
 generalize w2.alloc _=W at *
 have HB:=hid hB
 have c0:=hB.cell 0 rfl;have c1:=hB.cell 1 rfl;have c2:=hB.cell 2 rfl;have c3:=hB.cell 3 rfl;have c4:=hB.cell 4 rfl
 clear hB
 go_wp2_with (first
  | (go_at_call 58;go_fit (eqint_self ua _ [1,3] [1,3] 2 uc _ _ _ _ rfl (by decide) (HU.out.kpB ((Kp.refl _).alloc _)) (rowQ_ints W _ _ rfl (Kp.refl _)) rfl);rintro r w3 ⟨rfl,k3⟩;have HK3:=hid (((Kp.refl W).alloc _).trans k3);clear k3 c0 c1 c2 c3 c4;have hB:=HB.out.kp HK3.out;have c1:=hB.cell 1 rfl;have c0:=hB.cell 0 rfl;clear hB)
  | (go_at_call 59;go_fit (eqop_self oa _ [⟨5,0,0,0,0,0⟩,⟨7,2,0,0,0,0⟩] [⟨5,0,0,0,0,0⟩,⟨7,2,0,0,0,0⟩] 2 oc _ _ _ _ rfl (by decide) (HO.out.kpB (HK3.out.alloc _)) (rowQ_ops w3 _ _ rfl (Kp.refl _)) rfl);rintro r w4 ⟨rfl,k4⟩)
  | fail)
 go_ret
 exact⟨rfl,HK.out.trans ((HK3.out.alloc _).trans k4)⟩
end
section
open Go.RowKit Go.Sort
def CntQ (w:World) (g:Nat) (n:Int) (r:Ending) (w':World):Prop :=
 ∃ (b:Bool) (m:Int),r=.returned (.bool b)∧(b=true→0≤m∧m≤n)∧Kp (w.setCell ⟨g,0,none⟩ (.int .i64 m)) w'
def CountQ (e:Ex):Prop:=∀ (dp B g:Nat) (n:Int) (w:World),e.at w B→B≤g→w.cell? ⟨g,0,none⟩=some (.int .i64 n)→w.frozen? ⟨g,0,none⟩=false→dp≤41→0≤n→n≤300 →
 Calls Tryz.prog 32 #[.agg #[.int .i64 e.kind,.int .i64 e.rn,.int .i64 e.rd,.string e.name,.int .i64 e.pw,.slice e.a e.l.length e.c],.int .i64 (dp:Int),.pointer (some ⟨g,0,none⟩)] w (CntQ w g n)
set_option maxHeartbeats 2000000 in
set_option maxRecDepth 20000 in
theorem countq1_any (x:Ex) (hx:CountQ x) (dp B g p1 p2:Nat) (m:Int) (w:World) (hat:x.at w B) (hB:B≤g) (hD:w.cell? ⟨p1,0,none⟩=some (.int .i64 (dp:Int))) (hP:w.cell? ⟨p2,0,none⟩=some (.pointer (some ⟨g,0,none⟩)))
  (hg:w.cell? ⟨g,0,none⟩=some (.int .i64 m)) (hf:w.frozen? ⟨g,0,none⟩=false) (hdp:dp≤40) (h0:0≤m) (hm:m≤300) :
  Calls Tryz.prog 92 #[.agg #[.int .i64 x.kind,.int .i64 x.rn,.int .i64 x.rd,.string x.name,.int .i64 x.pw,.slice x.a x.l.length x.c],.pointer (some ⟨p1,0,none⟩),.pointer (some ⟨p2,0,none⟩)] w fun r w'=>∃ (b:Bool) (m':Int),r=.returned (.bool b)∧(b=false→0≤m'∧m'≤m)∧Kp (w.setCell ⟨g,0,none⟩ (.int .i64 m')) w':=by
 have k1:Kp w (w.alloc (.cells #[.int .i64 x.kind,.int .i64 x.rn,.int .i64 x.rd,.string x.name,.int .i64 x.pw,.slice x.a x.l.length x.c] 71)):=(Kp.refl w).alloc _
 have hS:((w.alloc (.cells #[.int .i64 x.kind,.int .i64 x.rn,.int .i64 x.rd,.string x.name,.int .i64 x.pw,.slice x.a x.l.length x.c] 71)).cell? ⟨w.heap.size,0,none⟩=some (.int .i64 x.kind)∧(w.alloc (.cells #[.int .i64 x.kind,.int .i64 x.rn,.int .i64 x.rd,.string x.name,.int .i64 x.pw,.slice x.a x.l.length x.c] 71)).cell? ⟨w.heap.size,1,none⟩=some (.int .i64 x.rn)∧(w.alloc (.cells #[.int .i64 x.kind,.int .i64 x.rn,.int .i64 x.rd,.string x.name,.int .i64 x.pw,.slice x.a x.l.length x.c] 71)).cell? ⟨w.heap.size,2,none⟩=some (.int .i64 x.rd)∧(w.alloc (.cells #[.int .i64 x.kind,.int .i64 x.rn,.int .i64 x.rd,.string x.name,.int .i64 x.pw,.slice x.a x.l.length x.c] 71)).cell? ⟨w.heap.size,3,none⟩=some (.string x.name)∧(w.alloc (.cells #[.int .i64 x.kind,.int .i64 x.rn,.int .i64 x.rd,.string x.name,.int .i64 x.pw,.slice x.a x.l.length x.c] 71)).cell? ⟨w.heap.size,4,none⟩=some (.int .i64 x.pw)∧(w.alloc (.cells #[.int .i64 x.kind,.int .i64 x.rn,.int .i64 x.rd,.string x.name,.int .i64 x.pw,.slice x.a x.l.length x.c] 71)).cell? ⟨w.heap.size,5,none⟩=some (.slice x.a x.l.length x.c)):=by simp
 have HC:=fun W (h:Kp w W)=>hid (hx (dp+1) B g m W (Ex.at_kp hat h) hB (h.cell hg) (h.frozen hg hf) (by omega) h0 hm)
 have hdi:=hid (show ((dp+1:Nat):Int)=(dp:Int)+1 by omega)
 clear hx
 go_enter Tryz.func92,Tryz.ntmps92
 go_upto_region 1 with fail
 generalize w.alloc _=W at *
 have HC:=hid (HC W k1).out
 rw[hdi.out] at HC
 have hD1:=k1.cell hD
 have hP1:=k1.cell hP
 have K1:=hid k1
 clear hD hP hg hf hat k1
 go_wp2_with (go_at_call 32;go_fit HC.out;rintro r w2 ⟨b,m',rfl,hb,k2⟩)
 go_ret
 refine⟨!b,m',rfl,fun h=>hb (by simpa using h),(kp_bothT K1.out _ _).trans k2⟩
set_option maxHeartbeats 2000000 in
set_option maxRecDepth 20000 in
theorem countq_any:∀ e:Ex,CountQ e:=by
 refine Ex.ind fun e ih dp B g n w hat hB hg hf hdp hn0 hn=>?_
 have k1:Kp w (((w.alloc (.cells #[.int .i64 e.kind,.int .i64 e.rn,.int .i64 e.rd,.string e.name,.int .i64 e.pw,.slice e.a e.l.length e.c] 71)).alloc (.cells #[.int .i64 (dp:Int)] 3)).alloc (.cells #[.pointer (some ⟨g,0,none⟩)] 79)):=((Kp.refl w).alloc _).alloc _ |>.alloc _
 have hS:((((w.alloc (.cells #[.int .i64 e.kind,.int .i64 e.rn,.int .i64 e.rd,.string e.name,.int .i64 e.pw,.slice e.a e.l.length e.c] 71)).alloc (.cells #[.int .i64 (dp:Int)] 3)).alloc (.cells #[.pointer (some ⟨g,0,none⟩)] 79)).cell? ⟨w.heap.size,0,none⟩=some (.int .i64 e.kind)∧(((w.alloc (.cells #[.int .i64 e.kind,.int .i64 e.rn,.int .i64 e.rd,.string e.name,.int .i64 e.pw,.slice e.a e.l.length e.c] 71)).alloc (.cells #[.int .i64 (dp:Int)] 3)).alloc (.cells #[.pointer (some ⟨g,0,none⟩)] 79)).cell? ⟨w.heap.size,1,none⟩=some (.int .i64 e.rn)∧(((w.alloc (.cells #[.int .i64 e.kind,.int .i64 e.rn,.int .i64 e.rd,.string e.name,.int .i64 e.pw,.slice e.a e.l.length e.c] 71)).alloc (.cells #[.int .i64 (dp:Int)] 3)).alloc (.cells #[.pointer (some ⟨g,0,none⟩)] 79)).cell? ⟨w.heap.size,2,none⟩=some (.int .i64 e.rd)∧(((w.alloc (.cells #[.int .i64 e.kind,.int .i64 e.rn,.int .i64 e.rd,.string e.name,.int .i64 e.pw,.slice e.a e.l.length e.c] 71)).alloc (.cells #[.int .i64 (dp:Int)] 3)).alloc (.cells #[.pointer (some ⟨g,0,none⟩)] 79)).cell? ⟨w.heap.size,3,none⟩=some (.string e.name)∧(((w.alloc (.cells #[.int .i64 e.kind,.int .i64 e.rn,.int .i64 e.rd,.string e.name,.int .i64 e.pw,.slice e.a e.l.length e.c] 71)).alloc (.cells #[.int .i64 (dp:Int)] 3)).alloc (.cells #[.pointer (some ⟨g,0,none⟩)] 79)).cell? ⟨w.heap.size,4,none⟩=some (.int .i64 e.pw)∧(((w.alloc (.cells #[.int .i64 e.kind,.int .i64 e.rn,.int .i64 e.rd,.string e.name,.int .i64 e.pw,.slice e.a e.l.length e.c] 71)).alloc (.cells #[.int .i64 (dp:Int)] 3)).alloc (.cells #[.pointer (some ⟨g,0,none⟩)] 79)).cell? ⟨w.heap.size,5,none⟩=some (.slice e.a e.l.length e.c)):=keepE6 (((Kp.refl _).alloc _).alloc _) (by simp)
 have hD:(((w.alloc (.cells #[.int .i64 e.kind,.int .i64 e.rn,.int .i64 e.rd,.string e.name,.int .i64 e.pw,.slice e.a e.l.length e.c] 71)).alloc (.cells #[.int .i64 (dp:Int)] 3)).alloc (.cells #[.pointer (some ⟨g,0,none⟩)] 79)).cell? ⟨w.heap.size+1,0,none⟩=some (.int .i64 (dp:Int)):=((Kp.refl _).alloc _).cell (new_cell _ _ _ _ (by simp))
 have hP:(((w.alloc (.cells #[.int .i64 e.kind,.int .i64 e.rn,.int .i64 e.rd,.string e.name,.int .i64 e.pw,.slice e.a e.l.length e.c] 71)).alloc (.cells #[.int .i64 (dp:Int)] 3)).alloc (.cells #[.pointer (some ⟨g,0,none⟩)] 79)).cell? ⟨w.heap.size+1+1,0,none⟩=some (.pointer (some ⟨g,0,none⟩)):=new_cell _ _ _ _ (by simp)
 have hgl:g<w.heap.size:=cell_ltT hg
 go_enter Tryz.func32,Tryz.ntmps32
 go_upto_region 1 with fail
 generalize World.alloc _ _=W at *
 have g1:=k1.cell hg
 have g2:=k1.frozen hg hf
 go_upto_region 2 with fail
 have k2:=kp_bothT k1 ⟨g,0,none⟩ (.int .i64 (n-1))
 have q:((W.setCell ⟨g,0,none⟩ (.int .i64 (n-1))).cell? ⟨w.heap.size,0,none⟩=some (.int .i64 e.kind)∧(W.setCell ⟨g,0,none⟩ (.int .i64 (n-1))).cell? ⟨w.heap.size,1,none⟩=some (.int .i64 e.rn)∧(W.setCell ⟨g,0,none⟩ (.int .i64 (n-1))).cell? ⟨w.heap.size,2,none⟩=some (.int .i64 e.rd)∧(W.setCell ⟨g,0,none⟩ (.int .i64 (n-1))).cell? ⟨w.heap.size,3,none⟩=some (.string e.name)∧(W.setCell ⟨g,0,none⟩ (.int .i64 (n-1))).cell? ⟨w.heap.size,4,none⟩=some (.int .i64 e.pw)∧(W.setCell ⟨g,0,none⟩ (.int .i64 (n-1))).cell? ⟨w.heap.size,5,none⟩=some (.slice e.a e.l.length e.c)):=by
  obtain⟨a0,a1,a2,a3,a4,a5⟩:=hS
  exact⟨keep_set a0 hgl,keep_set a1 hgl,keep_set a2 hgl,keep_set a3 hgl,keep_set a4 hgl,keep_set a5 hgl⟩
 have qD:=keep_set (u:=.int .i64 (n-1)) hD (show g<w.heap.size+1 by omega)
 have qP:=keep_set (u:=.int .i64 (n-1)) hP (show g<w.heap.size+1+1 by omega)
 have qg:(W.setCell ⟨g,0,none⟩ (.int .i64 (n-1))).cell? ⟨g,0,none⟩=some (.int .i64 (n-1)):=by apply World.cell?_setCell_same;exact g1
 have qf:(W.setCell ⟨g,0,none⟩ (.int .i64 (n-1))).frozen? ⟨g,0,none⟩=false:=by simpa using g2
 clear hS hD hP g1 g2 hg hf
 generalize W.setCell ⟨g,0,none⟩ _=W2 at *
 have K2:=hid k2
 clear k2 k1
 obtain⟨t0,t1,t2,t3,t4,t5⟩:=q
 by_cases c2:0≤n-1
 rotate_left
 ·go_wp2_with fail
  go_ret
  exact⟨false,n-1,rfl,fun h=>(by cases h),K2.out⟩
 by_cases c1:(dp:Int)≤40
 rotate_left
 ·have c1':=c1
  go_wp2_with fail
  go_ret
  exact⟨false,n-1,rfl,fun h=>(by cases h),K2.out⟩
 obtain⟨⟨hlc,hcm,hnm,hl⟩,hrow,hch⟩:=Ex.at_iff.1 hat
 have u5:∀ x∈e.l,x.at W2 B:=fun x hx=>Ex.at_kp (Ex.at_set (hch x hx) hB _) K2.out
 have u6:RowX W2 B e.a e.l:=(hrow.set hB _).kp K2.out
 have HX:=hid (containsX e.a e.l e.c B 92 #[.pointer (some ⟨w.heap.size+1,0,none⟩),.pointer (some ⟨w.heap.size+1+1,0,none⟩)] W2
  (fun _ Wk=>∃ m:Int,0≤m∧m≤n-1∧Kp (W2.setCell ⟨g,0,none⟩ (.int .i64 m)) Wk)
  (fun _ Wk=>∃ m:Int,Kp (W2.setCell ⟨g,0,none⟩ (.int .i64 m)) Wk)
  (by omega)
  (fun k Wk hJ=>by obtain⟨m,_,_,hk⟩:=hJ;exact (u6.set hB _).kp hk)
  ⟨n-1,c2,Int.le_refl _,by rw[set_same qg];exact .refl _⟩
  ⟨fun _ _=>by kernel_rfl,fun k x hx Wk hJ=>by
   obtain⟨m,hm0,hm,hk⟩:=hJ
   have hxm:=List.mem_of_getElem? hx
   have v3:Wk.cell? ⟨g,0,none⟩=some (.int .i64 m):=hk.cell (by apply World.cell?_setCell_same;exact qg)
   have v4:Wk.frozen? ⟨g,0,none⟩=false:=hk.frozen (v:=.int .i64 m) (by apply World.cell?_setCell_same;exact qg) (by simpa using qf)
   have v1:=hk.cell (keep_set (u:=.int .i64 m) qD (show g<w.heap.size+1 by omega))
   have v2:=hk.cell (keep_set (u:=.int .i64 m) qP (show g<w.heap.size+1+1 by omega))
   refine (countq1_any x (ih x hxm) dp B g _ _ m Wk (Ex.at_kp (Ex.at_set (u5 x hxm) hB _) hk) hB v1 v2 v3 v4 (by omega) hm0 (by omega)).mono ?_
   rintro r W' ⟨b,m',rfl,hb,hk'⟩
   have hK:Kp (W2.setCell ⟨g,0,none⟩ (.int .i64 m')) W':=by
    have:=(kp_bothT hk ⟨g,0,none⟩ (.int .i64 m')).trans hk'
    rwa [setcell_twice] at this
   cases b with
   | true=>exact .inl ⟨rfl,m',hK⟩
   | false=>exact .inr ⟨rfl,m',(hb rfl).1,by have:=(hb rfl).2;omega,hK⟩⟩)
 clear u5 u6 hrow hch ih
 have hKK:=hid fun (m:Int) (W':World) (h:Kp (W2.setCell ⟨g,0,none⟩ (.int .i64 m)) W')=>show Kp (w.setCell ⟨g,0,none⟩ (.int .i64 m)) W' by
  have:=(kp_bothT K2.out ⟨g,0,none⟩ (.int .i64 m)).trans h
  rwa [setcell_twice] at this
 have hmf:∀ (fn:Fn) (first cap:Array Value) (w:World),(Instr.makeFunc fn first cap).run Tryz.prog w=.ok (.func fn first cap) w:=fun _ _ _ _=>rfl
 go_wp2_with (go_at_call 91;go_fit HX.out;rintro r W4 (⟨rfl,k,hk,m,hkk⟩ | ⟨rfl,m,hm,hm2,hkk⟩))
 ·go_ret
  exact⟨false,m,rfl,fun h=>(by cases h),hKK.out m W4 hkk⟩
 go_ret
 exact⟨true,m,rfl,fun _=>⟨hm,by omega⟩,hKK.out m W4 hkk⟩
end
section
open Go.RowKit Go.Sort
def LfQ (W w:World) (g:Nat):Prop:=Kp W w∧W.heap.size≤g∧w.frozen? ⟨g,0,none⟩=false∧∃ n:Int,(0≤n∧n≤300)∧w.cell? ⟨g,0,none⟩=some (.int .i64 n)
theorem LfQ.kp {W w w':World} {g:Nat} (h:LfQ W w g) (k:Kp w w'):LfQ W w' g:=by
 obtain⟨h1,h2,h3,n,h4,h5⟩:=h
 exact⟨h1.trans k,h2,k.frozen h5 h3,n,h4,k.cell h5⟩
def KpO (g:Nat) (w w':World):Prop:=∃ v,Kp (w.setCell ⟨g,0,none⟩ v) w'
theorem KpO.box {g b:Nat} {w w':World} {vs:List Value} (k:KpO g w w') (h:BoxV w b vs) (hn:b≠g):BoxV w' b vs:=by
 obtain⟨v,hv⟩:=k
 exact (h.other hn v).kp hv
def CouO (W w:World) (g:Nat) (r:Ending) (w':World):Prop:=∃ b:Bool,r=.returned (.bool b)∧Kp W w'∧KpO g w w'∧((!b)=false→LfQ W w' g)
theorem LfQ.count {W w:World} {g:Nat} (h:LfQ W w g) (e:Ex) (B:Nat) (hat:e.at w B) (hB:B≤g) :
  Calls Tryz.prog 32 #[.agg #[.int .i64 e.kind,.int .i64 e.rn,.int .i64 e.rd,.string e.name,.int .i64 e.pw,.slice e.a e.l.length e.c],.int .i64 0,.pointer (some ⟨g,0,none⟩)] w (CouO W w g):=by
 obtain⟨h1,h2,h3,n,h4,h5⟩:=h
 refine (countq_any e 0 B g n w hat hB h5 h3 (by decide) h4.1 h4.2).mono ?_
 rintro r w' ⟨b,m,rfl,hb,hk⟩
 have hc:(w.setCell ⟨g,0,none⟩ (.int .i64 m)).cell? ⟨g,0,none⟩=some (.int .i64 m):=by apply World.cell?_setCell_same;exact h5
 refine⟨b,rfl,(h1.set h2 _).trans hk,⟨_,hk⟩,fun e=>⟨(h1.set h2 _).trans hk,h2,hk.frozen hc (by simpa using h3),m,⟨(hb (by simpa using e)).1,by have:=(hb (by simpa using e)).2;omega⟩,hk.cell hc⟩⟩
theorem LfQ.new (W:World) (T:TypeId) (g:Nat) (h:W.heap.size=g):LfQ W (W.alloc (.cells #[.int .i64 300] T)) g:=by
 subst h
 exact⟨(Kp.refl W).alloc _,Nat.le_refl _,by simp,300,by decide,by simp⟩
def SmlQ (w:World) (r:Ending) (w':World):Prop:=∃ b:Bool,r=.returned (.bool b)∧Kp w w'
set_option maxHeartbeats 16000000 in
set_option maxRecDepth 20000 in
theorem small_any (p:Pr) (w:World) (B:Nat) (hat:p.at w B) (hB:B≤w.heap.size) :
  Calls Tryz.prog 14 #[.agg #[.slice p.sa p.ss.length p.sc,.slice p.pa p.ps.length p.pc,.slice p.ma p.ms.length p.mc,.int .i64 p.tn,.int .i64 p.td]] w (SmlQ w):=by
 have k1:Kp w (w.alloc (.cells #[.slice p.sa p.ss.length p.sc,.slice p.pa p.ps.length p.pc,.slice p.ma p.ms.length p.mc,.int .i64 p.tn,.int .i64 p.td] 27)):=(Kp.refl w).alloc _
 have hb:BoxV (w.alloc (.cells #[.slice p.sa p.ss.length p.sc,.slice p.pa p.ps.length p.pc,.slice p.ma p.ms.length p.mc,.int .i64 p.tn,.int .i64 p.td] 27)) w.heap.size p.cells:=BoxV.new w p.cells _ _ rfl
 have hz:(w.alloc (.cells #[.slice p.sa p.ss.length p.sc,.slice p.pa p.ps.length p.pc,.slice p.ma p.ms.length p.mc,.int .i64 p.tn,.int .i64 p.td] 27)).heap.size=w.heap.size+1:=by simp
 obtain⟨hsl,hpl,hml⟩:=hat.1
 go_enter Tryz.func14,Tryz.ntmps14
 go_upto_region 1 with fail
 generalize w.alloc _=W at *
 have hL:=LfQ.new W 3 W.heap.size rfl
 have hb1:=hb.kp ((Kp.refl W).alloc (.cells #[.int .i64 300] 3))
 have HAT:=hid (Pr.at_kp hat k1)
 have HBg:=hid (show B≤W.heap.size by omega)
 have K1:=hid k1
 clear hz hat k1 hb hB
 go_upto_region 2 with fail
 generalize W.alloc _=W1 at *
 have HL:=hid hL
 have q0:=hb1.cell 0 rfl
 have q1:=hb1.cell 1 rfl
 have q2:=hb1.cell 2 rfl
 have KE:=hid fun (X:World) (k:Kp W X)=>show SmlQ w (.returned (.bool false)) X from ⟨false,rfl,K1.out.trans k⟩
 have KT:=hid fun (X:World) (k:Kp W X)=>show SmlQ w (.returned (.bool true)) X from ⟨true,rfl,K1.out.trans k⟩
 clear hb1 hL
 by_cases h0:(10:Int)<(p.ss.length:Int)
 ·go_wp2_with fail
  go_ret
  exact KE.out _ HL.out.1
 by_cases h1:(10:Int)<(p.ps.length:Int)
 ·go_wp2_with fail
  go_ret
  exact KE.out _ HL.out.1
 by_cases h2:(10:Int)<(p.ms.length:Int)
 ·go_wp2_with fail
  go_ret
  exact KE.out _ HL.out.1
 go_upto_region 5 with fail
 clear q0 q1 q2
 go_loopw [31] (fun x wr=>∃ k:Nat,k≤p.ms.length∧x=.int .i64 k∧LfQ W wr W.heap.size) (fun x _=>p.ms.length-(intOf x).toNat)
 case atStart=>exact⟨0,by omega,rfl,HL.out⟩
 case round =>
 obtain⟨k,hk,rfl,hl⟩:=hrel
 have Hl:=hid hl
 by_cases hlt:k<p.ms.length
 rotate_left
 ·clear hl
  go_wp2
  go_ret
  exact KT.out _ Hl.out.1
 obtain⟨m,hs⟩:∃ m,p.ms[k]? = some m:=⟨_,List.getElem?_eq_getElem hlt⟩
 obtain⟨b,o,ha,_,hc⟩:=HAT.out.2.2.2.1.kp hl.1 k m hs
 have HM:=hid (HAT.out.2.2.2.2 m (List.mem_of_getElem? hs))
 have k2:Kp wr (wr.alloc (.cells #[.string m.name,.slice m.fa m.fs.length m.fc,.slice m.ea m.es.length m.ec] 41)):=(Kp.refl wr).alloc _
 have hb2:BoxV (wr.alloc (.cells #[.string m.name,.slice m.fa m.fs.length m.fc,.slice m.ea m.es.length m.ec] 41)) wr.heap.size m.cells:=BoxV.new wr m.cells _ _ rfl
 have hne:wr.heap.size≠W.heap.size:=by have:=cell_ltT hl.2.2.2.choose_spec.2;omega
 have y0:wr.cell? ⟨b,o+k*3,none⟩=some (.string m.name):=hc 0 _ rfl;have y1:wr.cell? ⟨b,o+k*3+1,none⟩=some (.slice m.fa m.fs.length m.fc):=hc 1 _ rfl;have y2:wr.cell? ⟨b,o+k*3+2,none⟩=some (.slice m.ea m.es.length m.ec):=hc 2 _ rfl
 rw[ha]
 obtain⟨_,hfl,hel⟩:=HM.out.1
 clear hc hs ha hl
 go_upto_region 7 with fail
 have hl2:=Hl.out.kp k2
 clear y0 y1 y2 k2
 generalize wr.alloc _=U at *
 generalize wr.heap.size=mb at *
 have HL2:=hid hl2
 have HB2:=hid hb2
 have p1:=hb2.cell 1 rfl
 have p2:=hb2.cell 2 rfl
 clear hb2 hl2
 by_cases h3:(10:Int)<(m.fs.length:Int)
 ·go_wp2_with fail
  go_ret
  exact KE.out _ HL2.out.1
 by_cases h4:(10:Int)<(m.es.length:Int)
 ·go_wp2_with fail
  go_ret
  exact KE.out _ HL2.out.1
 go_upto_region 10 with fail
 clear p1 p2
 obtain⟨V,hV⟩:∃ V:World,V=U:=⟨_,rfl⟩
 subst hV
 go_loopw [48] (fun x wr=>∃ k:Nat,k≤m.fs.length∧x=.int .i64 k∧LfQ W wr W.heap.size∧BoxV wr mb m.cells) (fun x _=>m.fs.length-(intOf x).toNat)
 case atStart=>exact⟨0,by omega,rfl,HL2.out,HB2.out⟩
 case round =>
 obtain⟨j,hj,rfl,hl,hbm⟩:=hrel
 have Hl:=hid hl
 have HBm:=hid hbm
 by_cases hlt2:j<m.fs.length
 ·obtain⟨q,hs⟩:∃ q,m.fs[j]? = some q:=⟨_,List.getElem?_eq_getElem hlt2⟩
  obtain⟨b,o,ha,_,hc⟩:=HM.out.2.1.1.kp hl.1 j q hs
  have k2:Kp wr (wr.alloc (.cells #[.string q.name,.int .i64 q.e.kind,.int .i64 q.e.rn,.int .i64 q.e.rd,.string q.e.name,.int .i64 q.e.pw,.slice q.e.a q.e.l.length q.e.c] 73)):=(Kp.refl wr).alloc _
  have hb2:BoxV (wr.alloc (.cells #[.string q.name,.int .i64 q.e.kind,.int .i64 q.e.rn,.int .i64 q.e.rd,.string q.e.name,.int .i64 q.e.pw,.slice q.e.a q.e.l.length q.e.c] 73)) wr.heap.size q.cells:=BoxV.new wr q.cells _ _ rfl
  have hqa:=(HM.out.2.1.2 q (List.mem_of_getElem? hs)).2
  have y0:wr.cell? ⟨b,o+j*7,none⟩=some (.string q.name):=hc 0 _ rfl;have y1:wr.cell? ⟨b,o+j*7+1,none⟩=some (.int .i64 q.e.kind):=hc 1 _ rfl;have y2:wr.cell? ⟨b,o+j*7+2,none⟩=some (.int .i64 q.e.rn):=hc 2 _ rfl;have y3:wr.cell? ⟨b,o+j*7+3,none⟩=some (.int .i64 q.e.rd):=hc 3 _ rfl;have y4:wr.cell? ⟨b,o+j*7+4,none⟩=some (.string q.e.name):=hc 4 _ rfl;have y5:wr.cell? ⟨b,o+j*7+5,none⟩=some (.int .i64 q.e.pw):=hc 5 _ rfl;have y6:wr.cell? ⟨b,o+j*7+6,none⟩=some (.slice q.e.a q.e.l.length q.e.c):=hc 6 _ rfl
  rw[ha]
  clear hc hs ha hl hbm
  go_upto_region 12 with fail
  have hl2:=Hl.out.kp k2
  have hbm2:=HBm.out.kp k2
  clear y0 y1 y2 y3 y4 y5 y6 k2
  generalize wr.alloc _=U2 at *
  have HC:=hid (hl2.count q.e B (Ex.at_kp hqa hl2.1) HBg.out)
  have HBm2:=hid hbm2
  obtain⟨p1,p2,p3,p4,p5,p6⟩:_∧_∧_∧_∧_∧_:=⟨hb2.cell 1 rfl,hb2.cell 2 rfl,hb2.cell 3 rfl,hb2.cell 4 rfl,hb2.cell 5 rfl,hb2.cell 6 rfl⟩
  clear hqa hl2 hbm2 hb2
  go_wp2_with (first | (go_at_call 32;go_fit HC.out;rintro r w5 ⟨bb,rfl,hk5,ho5,hl5⟩) | fail)
  ·go_ret
   exact KE.out _ hk5
  go_roundw
  case measure=>simp only[intOf];omega
  case rel=>exact⟨j+1,by omega,by go_num,hl5 (by assumption),ho5.box HBm2.out hne⟩
 have hj2:j=m.fs.length:=by omega
 subst hj2
 have p2:=hbm.cell 2 rfl
 clear hl hbm
 go_upto_region 16 with fail
 clear p2
 obtain⟨V3,hV⟩:∃ V:World,V=wr:=⟨_,rfl⟩
 subst hV
 go_loopw [60] (fun x wr=>∃ k:Nat,k≤m.es.length∧x=.int .i64 k∧LfQ W wr W.heap.size) (fun x _=>m.es.length-(intOf x).toNat)
 case atStart=>exact⟨0,by omega,rfl,Hl.out⟩
 case round =>
 obtain⟨i,hi,rfl,hl⟩:=hrel
 have Hl3:=hid hl
 by_cases hlt3:i<m.es.length
 rotate_left
 ·have hi2:i=m.es.length:=by omega
  subst hi2
  clear hl
  go_wp2
  go_roundw
  case measure=>simp only[intOf];omega
  case rel=>exact⟨k+1,by omega,by go_num,Hl3.out⟩
 obtain⟨x',hs⟩:∃ x,m.es[i]? = some x:=⟨_,List.getElem?_eq_getElem hlt3⟩
 obtain⟨b,o,ha,_,hc⟩:=HM.out.2.2.1.kp hl.1 i x' hs
 have k2:Kp wr (wr.alloc (.cells #[.int .i64 x'.g.kind,.int .i64 x'.g.rn,.int .i64 x'.g.rd,.string x'.g.name,.int .i64 x'.g.pw,.slice x'.g.a x'.g.l.length x'.g.c,.int .i64 x'.dir,.string x'.tx,.slice x'.a x'.rs.length x'.c] 103)):=(Kp.refl wr).alloc _
 have hb2:BoxV (wr.alloc (.cells #[.int .i64 x'.g.kind,.int .i64 x'.g.rn,.int .i64 x'.g.rd,.string x'.g.name,.int .i64 x'.g.pw,.slice x'.g.a x'.g.l.length x'.g.c,.int .i64 x'.dir,.string x'.tx,.slice x'.a x'.rs.length x'.c] 103)) wr.heap.size x'.cells:=BoxV.new wr x'.cells _ _ rfl
 have HX:=hid (HM.out.2.2.2 x' (List.mem_of_getElem? hs))
 have hne2:wr.heap.size≠W.heap.size:=by have:=cell_ltT hl.2.2.2.choose_spec.2;omega
 have y0:wr.cell? ⟨b,o+i*9,none⟩=some (.int .i64 x'.g.kind):=hc 0 _ rfl;have y1:wr.cell? ⟨b,o+i*9+1,none⟩=some (.int .i64 x'.g.rn):=hc 1 _ rfl;have y2:wr.cell? ⟨b,o+i*9+2,none⟩=some (.int .i64 x'.g.rd):=hc 2 _ rfl;have y3:wr.cell? ⟨b,o+i*9+3,none⟩=some (.string x'.g.name):=hc 3 _ rfl;have y4:wr.cell? ⟨b,o+i*9+4,none⟩=some (.int .i64 x'.g.pw):=hc 4 _ rfl;have y5:wr.cell? ⟨b,o+i*9+5,none⟩=some (.slice x'.g.a x'.g.l.length x'.g.c):=hc 5 _ rfl;have y6:wr.cell? ⟨b,o+i*9+6,none⟩=some (.int .i64 x'.dir):=hc 6 _ rfl;have y7:wr.cell? ⟨b,o+i*9+7,none⟩=some (.string x'.tx):=hc 7 _ rfl;have y8:wr.cell? ⟨b,o+i*9+8,none⟩=some (.slice x'.a x'.rs.length x'.c):=hc 8 _ rfl
 rw[ha]
 obtain⟨_,_,hrl⟩:=HX.out.1
 clear hc hs ha hl
 go_upto_region 18 with fail
 have hl2:=Hl3.out.kp k2
 clear y0 y1 y2 y3 y4 y5 y6 y7 y8 k2
 generalize wr.alloc _=U3 at *
 generalize wr.heap.size=eb at *
 have HL3:=hid hl2
 have HB3:=hid hb2
 have HC:=hid (hl2.count x'.g B (Ex.at_kp HX.out.1.1 hl2.1) HBg.out)
 have p0:=hb2.cell 0 rfl;have p1:=hb2.cell 1 rfl;have p2:=hb2.cell 2 rfl;have p3:=hb2.cell 3 rfl;have p4:=hb2.cell 4 rfl;have p5:=hb2.cell 5 rfl;have p6:=hb2.cell 6 rfl;have p7:=hb2.cell 7 rfl;have p8:=hb2.cell 8 rfl
 clear hb2 hl2
 by_cases h5:(10:Int)<(x'.rs.length:Int)
 ·go_wp2_with fail
  go_ret
  exact KE.out _ HL3.out.1
 go_upto_region 20 with (first | (go_at_call 32;go_fit HC.out;rintro r w5 ⟨bb,rfl,hk5,ho5,hl5⟩) | fail)
 ·go_ret
  exact KE.out _ hk5
 have HL5:=hid (hl5 (by assumption))
 have p8:=(ho5.box HB3.out hne2).cell 8 rfl
 have hbf:(!bb)=false:=by assumption
 rw[hbf]
 clear p0 p1 p2 p3 p4 p5 p6 p7 hk5 ho5 hl5 hbf
 go_upto_region 21 with fail
 clear p8
 obtain⟨V4,hV⟩:∃ V:World,V=w5:=⟨_,rfl⟩
 subst hV
 go_loopw [77] (fun x wr=>∃ k:Nat,k≤x'.rs.length∧x=.int .i64 k∧LfQ W wr W.heap.size) (fun x _=>x'.rs.length-(intOf x).toNat)
 case atStart=>exact⟨0,by omega,rfl,HL5.out⟩
 case round =>
 obtain⟨l,hll,rfl,hl⟩:=hrel
 have Hl4:=hid hl
 by_cases hlt4:l<x'.rs.length
 rotate_left
 ·clear hl
  go_wp2
  go_roundw
  case measure=>simp only[intOf];omega
  case rel=>exact⟨i+1,by omega,by go_num,Hl4.out⟩
 obtain⟨q,hs⟩:∃ q,x'.rs[l]? = some q:=⟨_,List.getElem?_eq_getElem hlt4⟩
 obtain⟨b,o,ha,_,hc⟩:=HX.out.2.1.kp hl.1 l q hs
 have k2:Kp wr (wr.alloc (.cells #[.string q.name,.int .i64 q.e.kind,.int .i64 q.e.rn,.int .i64 q.e.rd,.string q.e.name,.int .i64 q.e.pw,.slice q.e.a q.e.l.length q.e.c] 107)):=(Kp.refl wr).alloc _
 have hb2:BoxV (wr.alloc (.cells #[.string q.name,.int .i64 q.e.kind,.int .i64 q.e.rn,.int .i64 q.e.rd,.string q.e.name,.int .i64 q.e.pw,.slice q.e.a q.e.l.length q.e.c] 107)) wr.heap.size q.cells:=BoxV.new wr q.cells _ _ rfl
 have hqa:=(HX.out.2.2 q (List.mem_of_getElem? hs)).2
 have y0:wr.cell? ⟨b,o+l*7,none⟩=some (.string q.name):=hc 0 _ rfl;have y1:wr.cell? ⟨b,o+l*7+1,none⟩=some (.int .i64 q.e.kind):=hc 1 _ rfl;have y2:wr.cell? ⟨b,o+l*7+2,none⟩=some (.int .i64 q.e.rn):=hc 2 _ rfl;have y3:wr.cell? ⟨b,o+l*7+3,none⟩=some (.int .i64 q.e.rd):=hc 3 _ rfl;have y4:wr.cell? ⟨b,o+l*7+4,none⟩=some (.string q.e.name):=hc 4 _ rfl;have y5:wr.cell? ⟨b,o+l*7+5,none⟩=some (.int .i64 q.e.pw):=hc 5 _ rfl;have y6:wr.cell? ⟨b,o+l*7+6,none⟩=some (.slice q.e.a q.e.l.length q.e.c):=hc 6 _ rfl
 rw[ha]
 clear hc hs ha hl
 go_upto_region 23 with fail
 have hl2:=Hl4.out.kp k2
 clear y0 y1 y2 y3 y4 y5 y6 k2
 generalize wr.alloc _=U4 at *
 have HC4:=hid (hl2.count q.e B (Ex.at_kp hqa hl2.1) HBg.out)
 obtain⟨p1,p2,p3,p4,p5,p6⟩:_∧_∧_∧_∧_∧_:=⟨hb2.cell 1 rfl,hb2.cell 2 rfl,hb2.cell 3 rfl,hb2.cell 4 rfl,hb2.cell 5 rfl,hb2.cell 6 rfl⟩
 clear hqa hl2 hb2
 go_wp2_with (first | (go_at_call 32;go_fit HC4.out;rintro r w6 ⟨bb,rfl,hk6,ho6,hl6⟩) | fail)
 ·go_ret
  exact KE.out _ hk6
 go_roundw
 case measure=>simp only[intOf];omega
 case rel=>exact⟨l+1,by omega,by go_num,hl6 (by assumption)⟩
end
section
open Go.RowKit Go.Sort
end
section
open Go.RowKit Go.Sort
end
section
open Go.RowKit Go.Sort
end
section
open Go.RowKit Go.Sort
end
section
open Go.RowKit Go.Sort
end
section
open Go.RowKit Go.Sort
theorem OwnV.empty {α:Type} {cells:α→List Value} {k:Nat} (T:TypeId) {wb w:World} (q:Kp wb w):OwnV cells k T wb (w.alloc (.cells #[] T)) (.slice (some ⟨w.heap.size,0,none⟩) 0 0) [] :=
 ⟨q.alloc _,World.ownsRow_lit w #[] 0 q.size (by simp) (by simp)⟩
end
section
open Go.RowKit Go.Sort
end
section
def opB (o:Opn) (bf:Int):Bool :=
 if o.k=1 then ratB o.cn o.cd&&decide (o.a=0∧o.b=0∧o.n=0)
 else if 3≤o.k∧o.k≤6 then decide ((o.cn=0∧o.cd=0)∧(0≤o.a∧o.a<bf)∧(0≤o.b∧o.b<bf)∧o.n=0)
 else if o.k=8 then decide ((o.cn=0∧o.cd=0)∧(0≤o.a∧o.a<bf)∧o.b=0∧0≤o.n∧o.n≤16)
 else if o.k=7∨(9≤o.k∧o.k≤13) then decide ((o.cn=0∧o.cd=0)∧(0≤o.a∧o.a<bf)∧o.b=0∧o.n=0)
 else false
theorem findO_some {o:Opn}:∀ {l:List Opn} {k:Nat},findO o l=some k→l[k]? = some o
 | [],k,h=>by cases h
 | x::r,k,h=>by
  unfold findO at h
  split at h
  ·rename_i e
   injection h with h
   subst h e
   rfl
  ·cases hf:findO o r with
   | none=>rw[hf] at h;cases h
   | some j =>
    rw[hf] at h
    injection h with h
    subst h
    simpa using findO_some hf
theorem findO_none {o:Opn}:∀ {l:List Opn},findO o l=none→o ∉ l
 | [],_,h=>by cases h
 | x::r,hn,h=>by
  unfold findO at hn
  split at hn
  ·cases hn
  ·rename_i e
   rcases List.mem_cons.1 h with h | h
   ·exact e h.symm
   ·cases hf:findO o r with
    | none=>exact findO_none hf h
    | some j=>rw[hf] at hn;cases hn
def Uses (o:Opn) (v:Int):Prop:=(o.k≠1∧o.a=v)∨((3≤o.k∧o.k≤6)∧o.b=v)
structure InvO (ins:Nat) (ops:List Opn):Prop where
 nd:ops.Nodup
 fm:∀ (i:Nat) (o:Opn),ops[i]? = some o→opB o ((ins+i:Nat):Int)=true
theorem InvO.nil (ins:Nat):InvO ins []:=⟨List.nodup_nil,fun i o h=>by simp at h⟩
def Ext (ins:Nat) (ops ops':List Opn) (k:Int):Prop :=
 (∃ t,ops'=ops++t)∧InvO ins ops'∧(0≤k∧k<((ins+ops'.length:Nat):Int))∧∀ i:Nat,ops.length≤i→i<ops'.length→k=((ins+i:Nat):Int)∨∃ o∈ops',Uses o ((ins+i:Nat):Int)
theorem put_ext {ins:Nat} {ops:List Opn} {o:Opn} (hI:InvO ins ops) (ho:opB o ((ins+ops.length:Nat):Int)=true) :
  (∃ t,(putF ins ops o).1=ops++t)∧InvO ins (putF ins ops o).1∧(0≤(putF ins ops o).2∧(putF ins ops o).2<((ins+(putF ins ops o).1.length:Nat):Int))∧o∈(putF ins ops o).1∧∀ i:Nat,ops.length≤i→i<(putF ins ops o).1.length→(putF ins ops o).2=((ins+i:Nat):Int):=by
 unfold putF
 cases hf:findO o ops with
 | some k =>
  have h:=findO_some hf
  have hk:=(List.getElem?_eq_some_iff.1 h).1
  refine⟨⟨[],by simp⟩,hI,⟨by simp only;omega,by simp only;omega⟩,List.mem_of_getElem? h,fun i h1 h2=>absurd h2 (by simp only;omega)⟩
 | none =>
 have hn:=findO_none hf
 refine⟨⟨[o],rfl⟩,⟨?_,fun i x hx=>?_⟩,⟨by simp only;omega,by simp only[List.length_append,List.length_cons,List.length_nil];omega⟩,by simp,fun i h1 h2=>?_⟩
 ·rw[List.nodup_append]
  refine⟨hI.nd,by simp,fun a ha b hb=>?_⟩
  rw[List.mem_singleton] at hb
  subst hb
  exact fun e=>hn (e▸ha)
 ·rw[List.getElem?_append] at hx
  split at hx
  ·exact hI.fm i x hx
  have:i-ops.length=0:=by
   rcases Nat.eq_zero_or_pos (i-ops.length) with h | h
   ·exact h
   ·rw[List.getElem?_eq_none (by simp;omega)] at hx;cases hx
  have hi:i=ops.length:=by omega
  subst hi
  simp at hx
  subst hx
  exact ho
 simp only[List.length_append,List.length_cons,List.length_nil] at h2
 have:i=ops.length:=by omega
 subst this
 rfl
def Kn (nm:List ByteArray) (e:Ex):Prop:=∀ x∈e.flat,x.kind=2→x.name∈nm
theorem Kn.child {nm:List ByteArray} {e x:Ex} (h:Kn nm e) (hx:x∈e.l):Kn nm x:=fun y hy hk=>h y (flat_child hx hy) hk
theorem allL_mem {l:List Ex} (h:Ex.allL l=true):∀ x∈l,x.allB=true:=by
 induction l with
 | nil=>intro x hx;cases hx
 | cons a t ih =>
  rw[Ex.allL,Bool.and_eq_true] at h
  intro x hx
  rcases List.mem_cons.1 hx with rfl | hx
  ·exact h.1
  ·exact ih h.2 x hx
theorem Ext.refl_of {ins:Nat} {ops:List Opn} {k:Int} (hI:InvO ins ops) (h:0≤k∧k<((ins+ops.length:Nat):Int)):Ext ins ops ops k :=
 ⟨⟨[],by simp⟩,hI,h,fun i h1 h2=>absurd h2 (by omega)⟩
theorem opsK_cases {k:Int} {n:Nat} (h:(n:Int)=opsK k):(n=2∧3≤k∧k≤6)∨(n=1∧7≤k∧k≤13):=by
 unfold opsK at h
 split at h
 ·left;omega
 split at h
 ·right;omega
 omega
theorem tapN_mk (nm:List ByteArray) (ops:List Opn) (e:Ex):tapN nm ops e=if e.kind=2 then (ops,placeF e.name nm) else putF nm.length (tapL nm ops e.l).1 ⟨e.kind,(tapL nm ops e.l).2.1,(tapL nm ops e.l).2.2,e.pw,e.rn,e.rd⟩:=by
 cases e;rw[tapN];rfl
theorem tapL_nil (nm:List ByteArray) (ops:List Opn):tapL nm ops []=(ops,0,0):=by rw[tapL]
theorem tapL_one (nm:List ByteArray) (ops:List Opn) (x:Ex):tapL nm ops [x]=((tapN nm ops x).1,(tapN nm ops x).2,0):=by rw[tapL,tapM]
theorem tapL_two (nm:List ByteArray) (ops:List Opn) (x y:Ex):tapL nm ops [x,y]=((tapN nm (tapN nm ops x).1 y).1,(tapN nm ops x).2,(tapN nm (tapN nm ops x).1 y).2):=by rw[tapL,tapM]
theorem list_two {α:Type} {l:List α} (h:l.length=2):∃ x y,l=[x,y]:=by
 match l,h with
 | [x,y],_=>exact⟨x,y,rfl⟩
theorem nodeB_parts {e:Ex} (h:nodeB e=true) (h2:e.kind≠2) :
  (e.kind=1∧ratB e.rn e.rd=true∧e.pw=0∧e.l=[]) ∨
  ((e.rn=0∧e.rd=0)∧(((3≤e.kind∧e.kind≤6)∧e.pw=0∧e.l.length=2)∨(e.kind=8∧(0≤e.pw∧e.pw≤16)∧e.l.length=1)∨((e.kind=7∨(9≤e.kind∧e.kind≤13))∧e.pw=0∧e.l.length=1))):=by
 unfold nodeB at h
 split at h
 ·rename_i hk
  simp only[Bool.and_eq_true,decide_eq_true_eq] at h
  exact .inl ⟨hk,h.1,h.2.2.1,List.eq_nil_of_length_eq_zero h.2.2.2⟩
 rename_i hk1
 split at h
 ·rename_i hk
  simp only[Bool.and_eq_true,decide_eq_true_eq] at h
  exact .inr ⟨h.1,.inr (.inl ⟨hk,h.2.2.1,h.2.2.2⟩)⟩
 rename_i hk8
 simp only[Bool.and_eq_true,decide_eq_true_eq] at h
 rcases opsK_cases h.2.2.2 with ⟨hl,hk,hk'⟩ | ⟨hl,hk,hk'⟩
 ·exact .inr ⟨h.1,.inl ⟨⟨hk,hk'⟩,h.2.2.1,hl⟩⟩
 exact .inr ⟨h.1,.inr (.inr ⟨by omega,h.2.2.1,hl⟩)⟩
theorem tapN_ext (nm:List ByteArray):∀ (e:Ex) (ops:List Opn),InvO nm.length ops→e.allB=true→Kn nm e→Ext nm.length ops (tapN nm ops e).1 (tapN nm ops e).2:=by
 refine Ex.ind fun e ih ops hI hall hkn=>?_
 rw[Ex.allB_eq,Bool.and_eq_true] at hall
 rw[tapN_mk]
 by_cases h2:e.kind=2
 ·rw[if_pos h2]
  refine Ext.refl_of hI ?_
  obtain⟨k,h1,h3,_⟩:=placeF_in (hkn e (flat_self e) h2)
  constructor <;> simp only[h3] <;> omega
 rw[if_neg h2]
 have hch:=allL_mem hall.2
 rcases nodeB_parts hall.1 h2 with ⟨hk,hr,hp,hl⟩ | ⟨hr,hc⟩
 ·rw[hl,tapL_nil]
  have ho:opB ⟨e.kind,0,0,e.pw,e.rn,e.rd⟩ ((nm.length+ops.length:Nat):Int)=true:=by
   unfold opB
   rw[if_pos hk]
   simp only[hr,hp,Bool.true_and]
   decide
  obtain⟨h3,h4,h5,h6,h7⟩:=put_ext hI ho
  exact⟨h3,h4,h5,fun i hi hj=>.inl (h7 i hi hj)⟩
 have one:e.l.length=1→(∀ a bf:Int,0≤a→a<bf→opB ⟨e.kind,a,0,e.pw,e.rn,e.rd⟩ bf=true)→e.kind≠1→Ext nm.length ops (putF nm.length (tapL nm ops e.l).1 ⟨e.kind,(tapL nm ops e.l).2.1,(tapL nm ops e.l).2.2,e.pw,e.rn,e.rd⟩).1 (putF nm.length (tapL nm ops e.l).1 ⟨e.kind,(tapL nm ops e.l).2.1,(tapL nm ops e.l).2.2,e.pw,e.rn,e.rd⟩).2:=by
  intro hl hop hk1
  obtain⟨x,hx⟩:∃ x,e.l=[x]:=List.length_eq_one_iff.1 hl
  obtain⟨⟨t1,e1⟩,i1,b1,u1⟩:=ih x (by rw[hx];simp) ops hI (hch x (by rw[hx];simp)) (hkn.child (by rw[hx];simp))
  rw[hx,tapL_one]
  generalize tapN nm ops x=r1 at *
  obtain⟨⟨t3,e3⟩,h4,h5,h6,h7⟩:=put_ext i1 (hop r1.2 ((nm.length+r1.1.length:Nat):Int) b1.1 b1.2)
  refine⟨⟨t1++t3,by rw[e3,e1,List.append_assoc]⟩,h4,h5,fun i hi hj=>?_⟩
  by_cases hi2:r1.1.length≤i
  ·exact .inl (h7 i hi2 hj)
  ·rcases u1 i hi (by omega) with h | ⟨o,ho,hu⟩
   ·exact .inr ⟨_,h6,.inl ⟨hk1,h⟩⟩
   ·exact .inr ⟨o,by rw[e3];exact List.mem_append_left _ ho,hu⟩
 rcases hc with ⟨hk,hp,hl⟩ | ⟨hk,hp,hl⟩ | ⟨hk,hp,hl⟩
 ·obtain⟨x,y,hx⟩:∃ x y,e.l=[x,y]:=list_two hl
  obtain⟨⟨t1,e1⟩,i1,b1,u1⟩:=ih x (by rw[hx];simp) ops hI (hch x (by rw[hx];simp)) (hkn.child (by rw[hx];simp))
  obtain⟨⟨t2,e2⟩,i2,b2,u2⟩:=ih y (by rw[hx];simp) (tapN nm ops x).1 i1 (hch y (by rw[hx];simp)) (hkn.child (by rw[hx];simp))
  rw[hx,tapL_two]
  generalize tapN nm ops x=r1 at *
  generalize tapN nm r1.1 y=r2 at *
  have hlen:r1.1.length≤r2.1.length:=by rw[e2,List.length_append];omega
  have ho:opB ⟨e.kind,r1.2,r2.2,e.pw,e.rn,e.rd⟩ ((nm.length+r2.1.length:Nat):Int)=true:=by
   unfold opB
   rw[if_neg (show ¬ e.kind=1 by omega),if_pos (show 3≤e.kind∧e.kind≤6 from hk)]
   refine decide_eq_true ⟨hr,⟨b1.1,?_⟩,b2,hp⟩
   have:=b1.2
   simp only
   omega
  obtain⟨⟨t3,e3⟩,h4,h5,h6,h7⟩:=put_ext i2 ho
  refine⟨⟨t1++t2++t3,by rw[e3,e2,e1];simp[List.append_assoc]⟩,h4,h5,fun i hi hj=>?_⟩
  by_cases hi3:r2.1.length≤i
  ·exact .inl (h7 i hi3 hj)
  by_cases hi2:r1.1.length≤i
  ·rcases u2 i hi2 (by omega) with h | ⟨o,ho,hu⟩
   ·exact .inr ⟨_,h6,.inr ⟨hk,h⟩⟩
   exact .inr ⟨o,by rw[e3];exact List.mem_append_left _ ho,hu⟩
  rcases u1 i hi (by omega) with h | ⟨o,ho,hu⟩
  ·exact .inr ⟨_,h6,.inl ⟨by simp only;omega,h⟩⟩
  exact .inr ⟨o,by rw[e3,e2];exact List.mem_append_left _ (List.mem_append_left _ ho),hu⟩
 ·refine one hl (fun a bf h0 h1=>?_) (by omega)
  unfold opB
  rw[if_neg (show ¬ e.kind=1 by omega),if_neg (show ¬ (3≤e.kind∧e.kind≤6) by omega),if_pos (show e.kind=8 from hk)]
  exact decide_eq_true ⟨hr,⟨h0,h1⟩,rfl,hp⟩
 refine one hl (fun a bf h0 h1=>?_) (by omega)
 unfold opB
 rw[if_neg (show ¬ e.kind=1 by omega),if_neg (show ¬ (3≤e.kind∧e.kind≤6) by omega),if_neg (show ¬ e.kind=8 by omega),if_pos (show e.kind=7∨(9≤e.kind∧e.kind≤13) from hk)]
 exact decide_eq_true ⟨hr,⟨h0,h1⟩,rfl,hp⟩
def TapeOk (ins:Nat) (ops:List Opn) (outs:List Int):Prop :=
 InvO ins ops∧(∀ k∈outs,0≤k∧k<((ins+ops.length:Nat):Int))∧∀ i:Nat,i<ops.length→((ins+i:Nat):Int)∈outs∨∃ o∈ops,Uses o ((ins+i:Nat):Int)
theorem tapeF_ext (nm:List ByteArray):∀ (l:List Ex) (ops:List Opn),InvO nm.length ops→(∀ x∈l,x.allB=true∧Kn nm x) →
  (∃ t,(tapeF nm ops l).1=ops++t)∧InvO nm.length (tapeF nm ops l).1∧(∀ k∈(tapeF nm ops l).2,0≤k∧k<((nm.length+(tapeF nm ops l).1.length:Nat):Int))∧∀ i:Nat,ops.length≤i→i<(tapeF nm ops l).1.length→((nm.length+i:Nat):Int)∈(tapeF nm ops l).2∨∃ o∈(tapeF nm ops l).1,Uses o ((nm.length+i:Nat):Int)
 | [],ops,hI,_=>⟨⟨[],by simp[tapeF]⟩,hI,fun k h=>by simp[tapeF] at h,fun i h1 h2=>absurd h2 (by simp only[tapeF];omega)⟩
 | e::r,ops,hI,h=>by
  obtain⟨⟨t1,e1⟩,i1,b1,u1⟩:=tapN_ext nm e ops hI (h e (by simp)).1 (h e (by simp)).2
  obtain⟨⟨t2,e2⟩,i2,b2,u2⟩:=tapeF_ext nm r (tapN nm ops e).1 i1 (fun x hx=>h x (by simp[hx]))
  rw[tapeF]
  generalize tapN nm ops e=r1 at *
  generalize tapeF nm r1.1 r=r2 at *
  have hlen:r1.1.length≤r2.1.length:=by rw[e2,List.length_append];omega
  refine⟨⟨t1++t2,by simp only;rw[e2,e1,List.append_assoc]⟩,i2,fun k hk=>?_,fun i hi hj=>?_⟩
  ·rcases List.mem_cons.1 hk with rfl | hk
   ·exact⟨b1.1,by have:=b1.2;simp only;omega⟩
   ·exact b2 k hk
  ·simp only at hj ⊢
   by_cases hi2:r1.1.length≤i
   ·rcases u2 i hi2 hj with h | h
    ·exact .inl (List.mem_cons_of_mem _ h)
    ·exact .inr h
   ·rcases u1 i hi (by omega) with h | ⟨o,ho,hu⟩
    ·exact .inl (by rw[← h];exact List.mem_cons_self)
    ·exact .inr ⟨o,by rw[e2];exact List.mem_append_left _ ho,hu⟩
theorem tapeF_outs (nm:List ByteArray):∀ (l:List Ex) (ops:List Opn),(tapeF nm ops l).2.length=l.length
 | [],_=>rfl
 | e::r,ops=>by rw[tapeF,List.length_cons,List.length_cons,tapeF_outs nm r]
theorem tape_ok {nm:List ByteArray} {l:List Ex} (h:∀ x∈l,x.allB=true∧Kn nm x):TapeOk nm.length (tapeF nm [] l).1 (tapeF nm [] l).2:=by
 obtain⟨_,h1,h2,h3⟩:=tapeF_ext nm l [] (InvO.nil _) h
 exact⟨h1,h2,fun i hi=>h3 i (Nat.zero_le _) hi⟩
theorem unkF_none {all:List ByteArray}:∀ {ss:List ByteArray},unknF all ss=none→∀ s∈ss,s∈all
 | [],_,s,hs=>by cases hs
 | x::t,h,s,hs=>by
  rw[unknF] at h
  obtain⟨h1,h2⟩:=orF_none_iff.1 h
  rcases List.mem_cons.1 hs with rfl | hs
  ·exact inS_iff.1 (needF_none h1)
  ·exact unkF_none h2 s hs
theorem known_kn {all:List ByteArray} {e:Ex} (hok:e.ok=true) (h:knownF all e=none):Kn all e:=by
 intro x hx hk
 refine unkF_none h x.name ?_
 unfold namO flatE
 rw[if_pos hok,namesL_mem]
 refine List.mem_map.2 ⟨x.er,List.mem_filter.2 ⟨List.mem_map_of_mem hx,?_⟩,x.er_name⟩
 rw[x.er_kind]
 exact decide_eq_true hk
theorem flowF_none {st all:List ByteArray}:∀ {fs:List Qe} {bf:List ByteArray},flowF st all bf fs=none→∀ q∈fs,q.name∈st∧knownF all q.e=none
 | [],_,_,q,hq=>by cases hq
 | x::t,bf,h,q,hq=>by
  rw[flowF] at h
  obtain⟨h1,h2⟩:=orF_none_iff.1 h
  rcases List.mem_cons.1 hq with rfl | hq
  ·unfold givenF at h1
   obtain⟨h3,h4⟩:=orF_none_iff.1 h1
   exact⟨inS_iff.1 (needF_none h3),(orF_none_iff.1 h4).2⟩
  ·exact flowF_none h2 q hq
theorem mode_flow {p:Pr} {m:Mo} (h:okF p=true) (hm:m∈p.ms):flowF (stN p) (allN p) [] m.fs=none:=by
 have h1:=modesF_none (okF_modes h) m hm
 unfold modeF at h1
 exact (orF_none_iff.1 h1).1
theorem okX_all {e:Ex} (h:e.ok=true):e.allB=true:=by
 unfold Ex.ok at h
 rw[Bool.and_eq_true] at h
 exact h.1
theorem rights_kn {p:Pr} {m:Mo} (h:okF p=true) (hm:m∈p.ms):∀ x∈rightsF p m,x.allB=true∧Kn (allN p) x:=by
 intro x hx
 obtain⟨h1,q,hq,rfl⟩:=rights_ok h hm x hx
 exact⟨okX_all h1,known_kn h1 (flowF_none (mode_flow h hm) q hq).2⟩
theorem mode_tape {p:Pr} {m:Mo} (h:okF p=true) (hm:m∈p.ms):TapeOk (allN p).length (tapeF (allN p) [] (rightsF p m)).1 (tapeF (allN p) [] (rightsF p m)).2∧(tapeF (allN p) [] (rightsF p m)).2.length=p.ss.length :=
 ⟨tape_ok (rights_kn h hm),by rw[tapeF_outs];unfold rightsF;rw[List.length_map]⟩
end
section
def e2 (e:Int):Rat:=(2:Rat) ^ e
theorem e2_pos (e:Int):0<e2 e:=Rat.zpow_pos (by decide)
theorem e2_add (a b:Int):e2 (a+b)=e2 a*e2 b:=Rat.zpow_add (by decide) a b
theorem e2_zero:e2 0=1:=Rat.zpow_zero _
theorem e2_one:e2 1=2:=Rat.zpow_one _
theorem e2_nat (n:Nat):e2 (n:Int)=((2 ^ n:Nat):Rat):=by
 unfold e2
 rw[Rat.zpow_natCast,Rat.natCast_pow];rfl
theorem e2_int (n:Nat):e2 (n:Int)=(((2:Int) ^ n:Int):Rat):=by
 unfold e2
 rw[Rat.zpow_natCast,Rat.intCast_pow];rfl
theorem e2_ge_one {a:Int} (h:0≤a):1≤e2 a:=by
 obtain⟨n,rfl⟩:=Int.eq_ofNat_of_zero_le h
 rw[e2_nat]
 have:((1:Nat):Rat)≤((2 ^ n:Nat):Rat):=Rat.natCast_le_natCast.2 (Nat.pow_pos (by decide))
 exact this
theorem e2_le {a b:Int} (h:a≤b):e2 a≤e2 b:=by
 have h1:=e2_ge_one (show 0≤b-a by omega)
 have h2:=e2_pos a
 have h3:e2 b=e2 a*e2 (b-a):=by rw[← e2_add];congr 1;omega
 have h4:=Rat.mul_le_mul_of_nonneg_left h1 (Rat.le_of_lt h2)
 rw[h3];grind
def ab (x:Rat):Rat:=if 0≤x then x else -x
theorem ab_of_nonneg {x:Rat} (h:0≤x):ab x=x:=if_pos h
theorem ab_le {x y:Rat}:ab x≤y↔-y≤x∧x≤y:=by unfold ab;split <;> grind
theorem ab_neg (x:Rat):ab (-x)=ab x:=by unfold ab;grind
theorem int_le_rat {a b:Int}:(a:Rat)≤(b:Rat)↔a≤b:=Rat.intCast_le_intCast
def qv (d:Dy):Rat:=(d.iv:Rat)*e2 (-16384)
theorem qv_le {a b:Dy}:qv a≤qv b↔a.iv≤b.iv:=by
 unfold qv
 have h:=e2_pos (-16384)
 constructor
 ·intro h1;exact int_le_rat.1 (Rat.le_of_mul_le_mul_right h1 h)
 intro h1;exact Rat.mul_le_mul_of_nonneg_right (int_le_rat.2 h1) (Rat.le_of_lt h)
theorem qv_zero:qv .zero=0:=by unfold qv;rw[Dy.iv_zero];exact Rat.zero_mul _
theorem qv_opp (d:Dy):qv d.opp=-qv d:=by unfold qv;rw[Dy.opp_iv,Rat.intCast_neg,Rat.neg_mul]
theorem qv_eq_zero {d:Dy}:qv d=0↔d.m=0:=by
 rw[← Dy.iv_eq_zero]
 unfold qv
 have h:=e2_pos (-16384)
 constructor
 ·intro h1
  have h2:(d.iv:Rat)=0:=by grind
  exact Rat.intCast_eq_zero_iff.1 h2
 intro h1;rw[h1];exact Rat.zero_mul _
theorem qv_sg {d:Dy} (h:-16384≤d.e):qv d=(sg d.neg d.m:Rat)*e2 d.e:=by
 unfold qv
 rw[iv_sg,Rat.intCast_mul]
 have:(((2:Int) ^ (d.e+16384).toNat:Int):Rat)=e2 (d.e+16384):=by
  rw[← e2_int];congr 1;omega
 rw[this,Rat.mul_assoc,← e2_add]
 congr 2;omega
theorem qv_canon {n:Nat} {u:Int} (h:-16384≤u):qv (canon false n u)=(n:Rat)*e2 u:=by
 unfold qv
 rw[canon_iv _ _ _ h]
 have h1:sg false (n*2 ^ (u+16384).toNat)=(n:Int)*(2:Int) ^ (u+16384).toNat:=by
  unfold sg;rw[if_neg (by decide)];push_cast;rfl
 rw[h1,Rat.intCast_mul]
 have:(((2:Int) ^ (u+16384).toNat:Int):Rat)=e2 (u+16384):=by
  rw[← e2_int];congr 1;omega
 rw[this,Rat.mul_assoc,← e2_add]
 rw[show u+16384 + -16384=u from by omega];rfl
theorem qv_int (n:Int):qv (intD n)=(n:Rat):=by
 unfold qv
 rw[intD_iv,Rat.intCast_mul]
 have:(((2:Int) ^ 16384:Int):Rat)=e2 ((16384:Nat):Int):=(e2_int 16384).symm
 generalize (2:Int) ^ 16384=Q at *
 rw[this,Rat.mul_assoc,← e2_add]
 show (n:Rat)*e2 0=n
 rw[e2_zero,Rat.mul_one]
section
variable {m:Nat} {e:Int} {more up:Bool} {p:Nat} {y:Rat}
theorem runit_e2 (hm:m≠0) (h0:(m:Rat)*e2 e≤y):e2 (runit m e p)≤y*e2 (1-p)+e2 (-16384):=by
 have hy:0≤y:=Rat.le_trans (Rat.mul_nonneg Rat.natCast_nonneg (Rat.le_of_lt (e2_pos e))) h0
 have a1:=e2_pos (-16384)
 have a2:=Rat.mul_nonneg hy (Rat.le_of_lt (e2_pos (1-(p:Int))))
 unfold runit
 by_cases h:e+bits m-p≤-16384
 ·rw[Int.max_eq_right h];grind
 rw[Int.max_eq_left (by omega)]
 have hb:0<bits m:=bits_pos hm
 have h1:e2 (e+bits m-p)=e2 e*e2 ((bits m-1:Nat):Int)*e2 (1-p):=by
  rw[← e2_add,← e2_add];congr 1;omega
 have h2:e2 ((bits m-1:Nat):Int)≤(m:Rat):=by
  rw[e2_nat];exact Rat.natCast_le_natCast.2 (two_pow_le_of_bits hm)
 have h3:=Rat.mul_le_mul_of_nonneg_left h2 (Rat.le_of_lt (e2_pos e))
 have h4:e2 e*e2 ((bits m-1:Nat):Int)≤y:=by grind
 have h5:=Rat.mul_le_mul_of_nonneg_right h4 (Rat.le_of_lt (e2_pos (1-(p:Int))))
 rw[h1];grind
theorem rlow_q (hmo:more=true→p<bits m) (h1:more=false→y=(m:Rat)*e2 e) (h2:(m:Rat)*e2 e≤y∧y≤((m:Rat)+1)*e2 e) :
  (rlow m e (runit m e p):Rat)*e2 (runit m e p)≤y∧y≤((rlow m e (runit m e p):Rat)+1)*e2 (runit m e p)∧((more||rlost m e (runit m e p))=false→y=(rlow m e (runit m e p):Rat)*e2 (runit m e p)):=by
 have hu:more=true→e<runit m e p:=fun h=>by have:=hmo h;unfold runit;omega
 generalize runit m e p=u at *
 have pu:=e2_pos u
 by_cases hue:u≤e
 ·have hm:more=false:=by
   cases more with
   | false=>rfl
   | true=>have:=hu rfl;omega
  have e1:(rlow m e u:Rat)*e2 u=(m:Rat)*e2 e:=by
   unfold rlow
   rw[if_pos hue,Rat.natCast_mul,← e2_nat,Rat.mul_assoc,← e2_add]
   congr 2;omega
  rw[h1 hm,e1]
  refine⟨Rat.le_refl,?_,fun _=>rfl⟩
  rw[Rat.add_mul,e1];grind
 have hD:e2 u=((2 ^ (u-e).toNat:Nat):Rat)*e2 e:=by
  rw[← e2_nat,← e2_add];congr 1;omega
 have hpD:=two_pow_pos (u-e).toNat
 have hq:rlow m e u=m/2 ^ (u-e).toNat:=by unfold rlow;rw[if_neg hue]
 have hl:rlost m e u=!decide (m % 2 ^ (u-e).toNat=0):=by
  unfold rlost;rw[decide_eq_false hue];rfl
 rw[hq,hl,hD]
 generalize 2 ^ (u-e).toNat=D at *
 have d1:=Nat.div_add_mod m D
 have d2:=Nat.mod_lt m hpD
 have pe:=e2_pos e
 have k1:((m/D:Nat):Rat)*(D:Rat)≤(m:Rat):=by
  rw[← Rat.natCast_mul];exact Rat.natCast_le_natCast.2 (Nat.div_mul_le_self m D)
 have k2:(m:Rat)+1≤(((m/D:Nat):Rat)+1)*(D:Rat):=by
  have:m+1≤(m/D+1)*D:=by rw[Nat.add_mul,Nat.one_mul,Nat.mul_comm];omega
  have:=Rat.natCast_le_natCast.2 this
  rw[Rat.natCast_mul,Rat.natCast_add,Rat.natCast_add] at this
  exact this
 have k3:=Rat.mul_le_mul_of_nonneg_right k1 (Rat.le_of_lt pe)
 have k4:=Rat.mul_le_mul_of_nonneg_right k2 (Rat.le_of_lt pe)
 refine⟨by grind,by grind,fun h=>?_⟩
 rw[Bool.or_eq_false_iff,Bool.not_eq_false',decide_eq_true_eq] at h
 have h3:=h1 h.1
 have k5:((m/D:Nat):Rat)*(D:Rat)=(m:Rat):=by
  rw[← Rat.natCast_mul,Nat.mul_comm]
  have:D*(m/D)=m:=by omega
  rw[this]
 rw[h3,← k5];grind
theorem rcut_q (hp:8≤p) (hp2:p≤4096) (hm:m≠0) (hmo:more=true→p<bits m) (h1:more=false→y=(m:Rat)*e2 e) (h2:(m:Rat)*e2 e≤y∧y≤((m:Rat)+1)*e2 e) :
  (∀ d,rcut m e more p up=some d→0≤qv d∧(up=false→qv d≤y)∧(up=true→y≤qv d)∧(y≤e2 16000→ab (qv d-y)≤y*e2 (1-p)+e2 (-16384)))∧(y≤e2 16000∨up=false→rcut m e more p up≠none):=by
 obtain⟨a1,a2,a3⟩:=rlow_q hmo h1 h2
 have a4:=runit_e2 (p:=p) hm h2.1
 have hum:-16384≤runit m e p:=runit_ge
 have pu:=e2_pos (runit m e p)
 have hq:∃ q:Nat,q=rq m e more p up∧(up=false→(q:Rat)*e2 (runit m e p)≤y)∧(up=true→y≤(q:Rat)*e2 (runit m e p))∧ab ((q:Rat)*e2 (runit m e p)-y)≤e2 (runit m e p):=by
  refine⟨_,rfl,?_⟩
  unfold rq
  cases up with
  | false =>
   rw[if_neg (by simp)]
   refine⟨fun _=>a1,fun h=>(by cases h),ab_le.2 ⟨by grind,by grind⟩⟩
  | true =>
   cases hl:(more||rlost m e (runit m e p)) with
   | true =>
    rw[if_pos (by simp),Rat.natCast_add]
    refine⟨fun h=>(by cases h),fun _=>a2,ab_le.2 ⟨?_,?_⟩⟩
    ·have:((1:Nat):Rat)=1:=rfl
     rw[this];grind
    ·have:((1:Nat):Rat)=1:=rfl
     rw[this];grind
   | false =>
    rw[if_neg (by simp)]
    have:=a3 hl
    refine⟨fun h=>(by cases h),fun _=>by rw[← this];exact Rat.le_refl,ab_le.2 ⟨by grind,by grind⟩⟩
 obtain⟨q,rfl,q1,q2,q3⟩:=hq
 have hy:0≤y:=Rat.le_trans (Rat.mul_nonneg Rat.natCast_nonneg (Rat.le_of_lt (e2_pos e))) h2.1
 have big:((bits (rq m e more p up):Int)+runit m e p > 16384)→e2 16384≤(rq m e more p up:Rat)*e2 (runit m e p):=by
  intro hb
  have h0:rq m e more p up≠0:=by
   intro h0
   rw[h0,bits_zero] at hb
   have h5:rlow m e (runit m e p)=0:=by
    unfold rq at h0
    split at h0
    ·omega
    ·exact h0
   unfold runit at hb h5 hum
   by_cases h6:e+bits m-p≤-16384
   ·rw[Int.max_eq_right h6] at hb;omega
   ·rw[Int.max_eq_left (by omega)] at hb h5
    have h7:=two_pow_le_of_bits hm
    unfold rlow at h5
    split at h5
    ·rcases Nat.mul_eq_zero.1 h5 with h8 | h8
     ·exact hm h8
     ·exact two_pow_ne _ h8
    ·next h9 =>
     have h10:2 ^ (e+bits m-p-e).toNat≤m:=Nat.le_trans (Nat.pow_le_pow_right (by decide) (by omega)) h7
     have:=Nat.div_pos h10 (two_pow_pos _)
     omega
  have h3:=two_pow_le_of_bits h0
  have h4:e2 ((bits (rq m e more p up)-1:Nat):Int)≤(rq m e more p up:Rat):=by
   rw[e2_nat];exact Rat.natCast_le_natCast.2 h3
  have h5:=Rat.mul_le_mul_of_nonneg_right h4 (Rat.le_of_lt pu)
  rw[← e2_add] at h5
  exact Rat.le_trans (e2_le (by omega)) h5
 have small:y≤e2 16000→¬ ((bits (rq m e more p up):Int)+runit m e p > 16384):=by
  intro hy2 hb
  have h3:=big hb
  have h4:e2 (1-(p:Int))≤1:=by rw[← e2_zero];exact e2_le (by omega)
  have h5:=Rat.mul_le_mul_of_nonneg_left h4 hy
  have h6:=(ab_le.1 q3).2
  have h7:e2 16384=e2 16000*e2 384:=by rw[show (16384:Int)=16000+384 from rfl,e2_add]
  have h8:(4:Rat)≤e2 384:=by
   have:e2 2≤e2 384:=e2_le (by decide)
   have h9:e2 2=4:=by rw[show (2:Int)=1+1 from rfl,e2_add,e2_one];decide +kernel
   rw[h9] at this;exact this
  have h10:=Rat.mul_le_mul_of_nonneg_left h8 (Rat.le_of_lt (e2_pos 16000))
  have h11:e2 (-16384)≤e2 16000:=e2_le (by decide)
  have h12:=e2_pos 16000
  grind
 refine⟨fun d hd=>?_,fun hs=>?_⟩
 ·unfold rcut at hd
  split at hd
  rotate_left
  ·cases hd
   rw[qv_canon hum]
   refine⟨Rat.mul_nonneg Rat.natCast_nonneg (Rat.le_of_lt pu),q1,q2,fun _=>Rat.le_trans q3 a4⟩
  next hb =>
  split at hd
  ·cases hd
  next hu =>
  cases hd
  have h3:=big hb
  have hv:qv (canon false (2 ^ p-1) (16384-p))≤e2 16384:=by
   rw[qv_canon (by omega)]
   have h4:((2 ^ p-1:Nat):Rat)≤e2 (p:Int):=by
    rw[e2_nat];exact Rat.natCast_le_natCast.2 (Nat.sub_le _ _)
   have h5:=Rat.mul_le_mul_of_nonneg_right h4 (Rat.le_of_lt (e2_pos (16384-(p:Int))))
   rw[← e2_add,show (p:Int)+(16384-p)=16384 from by omega] at h5
   exact h5
  have hup:up=false:=by cases up with | false=>rfl | true=>exact absurd rfl hu
  refine⟨?_,fun _=>Rat.le_trans hv (Rat.le_trans h3 (q1 hup)),fun h=>absurd h hu,fun hy2=>absurd hb (small hy2)⟩
  rw[qv_canon (by omega)]
  exact Rat.mul_nonneg Rat.natCast_nonneg (Rat.le_of_lt (e2_pos _))
 unfold rcut
 split
 ·next hb =>
  rcases hs with hs | hs
  ·exact absurd hb (small hs)
  rw[if_neg (by rw[hs];decide)];exact fun h=>by cases h
 exact fun h=>by cases h
end
def rdq (y:Rat) (p:Nat) (up:Bool) (r:Option Dy):Prop :=
 (∀ d,r=some d→(up=false→qv d≤y)∧(up=true→y≤qv d)∧(ab y≤e2 16000→ab (qv d-y)≤ab y*e2 (1-p)+e2 (-16384)))∧(ab y≤e2 16000→r≠none)
theorem rdq.opp {y:Rat} {p:Nat} {up:Bool} {r:Option Dy} (h:rdq y p (!up) r):rdq (-y) p up (r.map Dy.opp):=by
 obtain⟨h1,h2⟩:=h
 refine⟨fun d hd=>?_,fun hy=>?_⟩
 ·cases hr:r with
  | none=>rw[hr] at hd;cases hd
  | some x =>
  rw[hr] at hd;cases hd
  obtain⟨a,b,c⟩:=h1 x hr
  rw[qv_opp]
  refine⟨fun h=>?_,fun h=>?_,fun h=>?_⟩
  ·have:=b (by rw[h];rfl);grind
  ·have:=a (by rw[h];rfl);grind
  rw[ab_neg] at h ⊢
  have:=c h
  rw[show -qv x - -y=-(qv x-y) from by grind,ab_neg];exact this
 rw[ab_neg] at hy
 have:=h2 hy
 cases r with
 | some x=>exact fun h=>by cases h
 | none=>exact absurd rfl this
theorem rdq_rcut {m:Nat} {e:Int} {more up:Bool} {p:Nat} {y:Rat} (hp:8≤p) (hp2:p≤4096) (hm:m≠0) (hmo:more=true→p<bits m) (h1:more=false→y=(m:Rat)*e2 e) (h2:(m:Rat)*e2 e≤y∧y≤((m:Rat)+1)*e2 e):rdq y p up (rcut m e more p up):=by
 have hy:0≤y:=Rat.le_trans (Rat.mul_nonneg Rat.natCast_nonneg (Rat.le_of_lt (e2_pos e))) h2.1
 obtain⟨a,b⟩:=rcut_q (up:=up) hp hp2 hm hmo h1 h2
 unfold rdq
 rw[ab_of_nonneg hy]
 exact⟨fun d hd=>(a d hd).2,fun h=>b (.inl h)⟩
theorem rdq_zero (p:Nat) (up:Bool):rdq 0 p up (some .zero):=by
 refine⟨fun d hd=>?_,fun _ h=>by cases h⟩
 cases hd
 rw[qv_zero]
 refine⟨fun _=>Rat.le_refl,fun _=>Rat.le_refl,fun _=>?_⟩
 have:=e2_pos (-16384)
 have:=e2_pos (1-(p:Int))
 rw[show (0:Rat)-0=0 from by grind,ab_of_nonneg Rat.le_refl];grind
theorem rdq_rndS {s:Bool} {m:Nat} {e:Int} {more up:Bool} {p:Nat} {y:Rat} (hp:8≤p) (hp2:p≤4096) (hm:m≠0) (hmo:more=true→p<bits m) (h1:more=false→y=(m:Rat)*e2 e) (h2:(m:Rat)*e2 e≤y∧y≤((m:Rat)+1)*e2 e):rdq (if s then -y else y) p up (rndS s m e more p up):=by
 unfold rndS sgnR
 cases s with
 | true =>
  have:=(rdq_rcut (up:=!up) hp hp2 hm hmo h1 h2).opp
  simpa using this
 | false =>
 have:=rdq_rcut (up:=up) hp hp2 hm hmo h1 h2
 simpa using this
theorem rdq_quo {s:Bool} {m n:Nat} {e:Int} {p:Nat} (up:Bool) {K:Nat} (hp:8≤p) (hp2:p≤4096) (hm:m≠0) (hn:n≠0) (hK:p+1+bits n≤bits m+K) :
  rdq (if s then -((m:Rat)/n*e2 e) else (m:Rat)/n*e2 e) p up (quoR s m n e p up K):=by
 unfold quoR
 have hb:p<bits (m*2 ^ K/n):=by
  have:=bits_quo hn (p+1) (a:=m*2 ^ K) (by rw[bits_mul_pow hm];omega) (by omega)
  omega
 have hq0:m*2 ^ K/n≠0:=fun h=>by rw[h,bits_zero] at hb;omega
 have hnR:(0:Rat)<(n:Rat):=Rat.natCast_pos.2 (by omega)
 have pe:=e2_pos (e-K)
 have hpe:e2 e=e2 (e-K)*((2 ^ K:Nat):Rat):=by rw[← e2_nat,← e2_add];congr 1;omega
 have d1:=Nat.div_add_mod (m*2 ^ K) n
 have d2:=Nat.mod_lt (m*2 ^ K) (Nat.pos_of_ne_zero hn)
 have f:(m:Rat)/n*e2 e*n=((m*2 ^ K:Nat):Rat)*e2 (e-K):=by
  rw[Rat.natCast_mul,hpe]
  grind
 refine rdq_rndS hp hp2 hq0 (fun _=>hb) (fun h=>?_) ⟨?_,?_⟩
 ·have h0:m*2 ^ K % n=0:=by
   rw[decide_eq_false_iff_not] at h
   exact Classical.byContradiction fun k=>h (bits_pos k)
  have h3:((m*2 ^ K:Nat):Rat)=((m*2 ^ K/n:Nat):Rat)*n:=by
   rw[← Rat.natCast_mul,Nat.mul_comm (m*2 ^ K/n)]
   congr 1;omega
  rw[h3] at f
  generalize ((m*2 ^ K/n:Nat):Rat)=Q at *
  grind
 ·have h3:((m*2 ^ K/n:Nat):Rat)*n≤((m*2 ^ K:Nat):Rat):=by
   rw[← Rat.natCast_mul];exact Rat.natCast_le_natCast.2 (Nat.div_mul_le_self _ _)
  have h4:=Rat.mul_le_mul_of_nonneg_right h3 (Rat.le_of_lt pe)
  refine Rat.le_of_mul_le_mul_right ?_ hnR
  rw[f];grind
 have h3:((m*2 ^ K:Nat):Rat)≤(((m*2 ^ K/n:Nat):Rat)+1)*n:=by
  have:m*2 ^ K≤(m*2 ^ K/n+1)*n:=by rw[Nat.add_mul,Nat.one_mul,Nat.mul_comm (m*2 ^ K/n)];omega
  have:=Rat.natCast_le_natCast.2 this
  rw[show (((m*2 ^ K/n+1)*n:Nat):Rat)=(((m*2 ^ K/n:Nat):Rat)+1)*n from by rw[Rat.natCast_mul,Rat.natCast_add];rfl] at this
  exact this
 have h4:=Rat.mul_le_mul_of_nonneg_right h3 (Rat.le_of_lt pe)
 refine Rat.le_of_mul_le_mul_right ?_ hnR
 rw[f];grind
theorem sg_rat (s:Bool) (n:Nat):((sg s n:Int):Rat)=if s then -(n:Rat) else (n:Rat):=by
 unfold sg
 cases s with
 | true=>simp only[if_true];rw[Rat.intCast_neg];rfl
 | false=>rfl
theorem dvP_q {d f:Dy} (hd:d.ok) (hf:f.ok) {p:Nat} (hp:8≤p) (hp2:p≤512) (up:Bool) (hfz:qv f≠0):∃ r,dvP d f p up=rndE r∧rdq (qv d/qv f) p up r:=by
 have hfm:f.m≠0:=fun h=>hfz (qv_eq_zero.2 h)
 unfold dvP
 rw[if_neg hfm]
 split
 ·next hm =>
  refine⟨some .zero,rfl,?_⟩
  have:qv d/qv f=0:=by rw[qv_eq_zero.2 hm];grind
  rw[this];exact rdq_zero p up
 next hm =>
 refine⟨_,rfl,?_⟩
 have:=rdq_quo (s:=d.neg != f.neg) (e:=d.e-f.e) up hp (show p≤4096 by omega) hm hfm (K:=((p:Int)+(2:Nat)+bits f.m-bits d.m).toNat) (by omega)
 have e1:qv d/qv f=if (d.neg != f.neg)=true then -((d.m:Rat)/f.m*e2 (d.e-f.e)) else (d.m:Rat)/f.m*e2 (d.e-f.e):=by
  rw[qv_sg (ok_e hd).1,qv_sg (ok_e hf).1,sg_rat,sg_rat]
  have h1:=e2_pos f.e
  have h2:e2 d.e=e2 (d.e-f.e)*e2 f.e:=by rw[← e2_add];congr 1;omega
  have h3:(f.m:Rat)≠0:=fun h=>hfm (Rat.natCast_eq_zero_iff.1 h)
  rw[h2]
  generalize (d.m:Rat)=M at *
  generalize (f.m:Rat)=N at *
  generalize e2 (d.e-f.e)=A at *
  generalize e2 f.e=B at *
  cases d.neg <;> cases f.neg <;> simp <;> grind
 rw[e1];exact this
theorem rndE_rdq {y:Rat} {p:Nat} {up:Bool} {r:Option Dy} (h:rdq y p up r):((rndE r).2=0→(up=false→qv (rndE r).1≤y)∧(up=true→y≤qv (rndE r).1))∧(ab y≤e2 16000→(rndE r).2=0∧ab (qv (rndE r).1-y)≤ab y*e2 (1-p)+e2 (-16384)):=by
 obtain⟨h1,h2⟩:=h
 cases r with
 | none=>exact⟨fun h=>(by cases h),fun hy=>absurd rfl (h2 hy)⟩
 | some d =>
 obtain⟨a,b,c⟩:=h1 d rfl
 exact⟨fun _=>⟨a,b⟩,fun hy=>⟨rfl,c hy⟩⟩
end
end Go.Proofs.YteidgoldnllabaaGreatDoor
