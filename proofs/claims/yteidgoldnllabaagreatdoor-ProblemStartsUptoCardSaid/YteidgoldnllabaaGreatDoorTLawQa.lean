/-
  Walks: the problem law's awake.
-/
import Derived.Test.YteidgoldnllabaaGreatDoorTAwkQ
import Derived.Test.YteidgoldnllabaaGreatDoorTIdxX
import Derived.Test.YteidgoldnllabaaGreatDoorTBoxV
import Derived.Test.YteidgoldnllabaaGreatDoorTModN
import Derived.Test.YteidgoldnllabaaGreatDoorTIvlN
set_option maxHeartbeats 16000000
set_option maxRecDepth 20000
namespace Go.Proofs.YteidgoldnllabaaGreatDoor
open Go.RowKit
open Lib (hid)
section
open Go.RowKit Go.Sort
theorem eqop_self (a a':Option Addr) (zs ys:List Opn) (n c d B B':Nat) (w:World) (hn:zs.length=n) (hm:zs.length≤1100000) (h:RowV Opn.cells 6 w B a zs) (h':RowV Opn.cells 6 w B' a' ys) (e:zs=ys) :
  Calls Tryz.prog 59 #[.slice a n c,.slice a' n d] w fun e w'=>e=.returned (.bool true)∧Kp w w':=by
 subst hn e
 refine (eqop_any a a' zs zs c d B B' w hm hm h h').mono fun r w' hh=>?_
 rw[decide_eq_true rfl] at hh
 exact hh
theorem eqint_self (a a':Option Addr) (zs ys:List Int) (n c d B B':Nat) (w:World) (hn:zs.length=n) (hm:zs.length≤1100000) (h:RowV numC 1 w B a zs) (h':RowV numC 1 w B' a' ys) (e:zs=ys) :
  Calls Tryz.prog 58 #[.slice a n c,.slice a' n d] w fun e w'=>e=.returned (.bool true)∧Kp w w':=by
 subst hn e
 refine (eqint_any a a' zs zs c d B B' w hm hm h h').mono fun r w' hh=>?_
 rw[decide_eq_true rfl] at hh
 exact hh
def SyqOut (w:World) (r:Ending) (w':World):Prop:=∃ oa oc ua uc pa pc,r=.returned (.tuple #[.agg #[.int .i64 2,.slice oa 2 oc,.slice ua 2 uc,.int .i64 2,.slice pa 0 pc],.int .i64 0])∧RowV Opn.cells 6 w' w'.heap.size oa [⟨5,0,0,0,0,0⟩,⟨7,2,0,0,0,0⟩]∧RowV numC 1 w' w'.heap.size ua [1,3]∧Kp w w'
theorem system_ex (sa ma fa a1 a2:Option Addr) (w:World) (hat:(exP sa ma fa a1 a2).at w w.heap.size) (hT:Tab w) :
  Calls Tryz.prog 28 #[.agg #[.slice sa 2 2,.slice none 0 0,.slice ma 1 1,.int .i64 1,.int .i64 1],.string ⟨#[114,117,110]⟩,.int .i64 60] w (SyqOut w):=by
 refine (system_any (exP sa ma fa a1 a2) nRun 60 w w.heap.size hat (Nat.le_refl _) hT).mono ?_
 rintro r w' ⟨x,rfl,⟨h1,h2,_,_⟩,hv,k,_⟩
 rw[exP_sysE]
 rw[exP_sysV] at hv
 obtain⟨ins,oa,oc,ops,ua,uc,outs,st,pa,pc,ps⟩:=x
 simp only[Sy.val,Prod.mk.injEq,List.map_eq_nil_iff] at hv
 obtain⟨rfl,rfl,rfl,rfl,rfl⟩:=hv
 exact⟨oa,oc,ua,uc,pa,pc,rfl,h1,h2,k⟩
theorem rowQ_ints (w:World) (T:TypeId) {w':World} (g:Nat) (hg:w.heap.size=g) (k:Kp (w.alloc (.cells #[.int .i64 1,.int .i64 3] T)) w'):RowV numC 1 w' w'.heap.size (some ⟨g,0,none⟩) [1,3]:=rowV_newg (cells:=numC) (k:=1) (fun _=>rfl) (by decide) g hg [1,3] k
theorem rowQ_ops (w:World) (T:TypeId) {w':World} (g:Nat) (hg:w.heap.size=g) (k:Kp (w.alloc (.cells #[.int .i64 5,.int .i64 0,.int .i64 0,.int .i64 0,.int .i64 0,.int .i64 0,.int .i64 7,.int .i64 2,.int .i64 0,.int .i64 0,.int .i64 0,.int .i64 0] T)) w'):RowV Opn.cells 6 w' w'.heap.size (some ⟨g,0,none⟩) [⟨5,0,0,0,0,0⟩,⟨7,2,0,0,0,0⟩]:=rowV_newg (cells:=Opn.cells) (k:=6) (fun _=>rfl) (by decide) g hg [⟨5,0,0,0,0,0⟩,⟨7,2,0,0,0,0⟩] k
theorem awakeq_any (w:World) (hT:Tab w):Calls Tryz.prog 13 #[] w fun r w'=>r=.returned (.bool true)∧Kp w w':=by
 have HT:=hid hT
 clear hT
 go_enter Tryz.func13,Tryz.ntmps13
 go_upto_region 2 with (first
  | (go_at_call 57;go_fit (exampleq_any _);rintro r w1 ⟨sa,ma,fa,a1,a2,rfl,hat,k1⟩)
  | (go_at_call 28;go_fit (system_ex sa ma fa a1 a2 w1 hat (HT.out.kp k1));rintro r w2 ⟨oa,oc,ua,uc,pa,pc,rfl,ho,hu,k2⟩)
  | fail)
 have kA:=(Kp.refl w2).alloc (.cells #[.int .i64 2,.slice oa 2 oc,.slice ua 2 uc,.int .i64 2,.slice pa 0 pc] 60)
 have hB:BoxV (w2.alloc (.cells #[.int .i64 2,.slice oa 2 oc,.slice ua 2 uc,.int .i64 2,.slice pa 0 pc] 60)) w2.heap.size [.int .i64 2,.slice oa 2 oc,.slice ua 2 uc,.int .i64 2,.slice pa 0 pc]:=BoxV.new w2 [_,_,_,_,_] _ _ rfl
 have HO:=hid (ho.kpB kA)
 have HU:=hid (hu.kpB kA)
 have HK:=hid (k1.trans (k2.trans kA))
 clear ho hu k1 k2 kA hat
 generalize w2.alloc _=W at *
 have HB:=hid hB
 have c0:=hB.cell 0 rfl;have c1:=hB.cell 1 rfl;have c2:=hB.cell 2 rfl;have c3:=hB.cell 3 rfl;have c4:=hB.cell 4 rfl
 clear hB
 go_wp2_with (first
  | (go_at_call 58;go_fit (eqint_self ua _ [1,3] [1,3] 2 uc _ _ _ _ rfl (by decide) (HU.out.kpB ((Kp.refl _).alloc _)) (rowQ_ints W _ _ rfl (Kp.refl _)) rfl);rintro r w3 ⟨rfl,k3⟩;have HK3:=hid (((Kp.refl W).alloc _).trans k3);clear k3 c0 c1 c2 c3 c4;have hB:=HB.out.kp HK3.out;have c1:=hB.cell 1 rfl;have c0:=hB.cell 0 rfl;clear hB)
  | (go_at_call 59;go_fit (eqop_self oa _ [⟨5,0,0,0,0,0⟩,⟨7,2,0,0,0,0⟩] [⟨5,0,0,0,0,0⟩,⟨7,2,0,0,0,0⟩] 2 oc _ _ _ _ rfl (by decide) (HO.out.kpB (HK3.out.alloc _)) (rowQ_ops w3 _ _ rfl (Kp.refl _)) rfl);rintro r w4 ⟨rfl,k4⟩)
  | fail)
 go_ret
 exact⟨rfl,HK.out.trans ((HK3.out.alloc _).trans k4)⟩
end
section
open Go.RowKit Go.Sort
def CntQ (w:World) (g:Nat) (n:Int) (r:Ending) (w':World):Prop :=
 ∃ (b:Bool) (m:Int),r=.returned (.bool b)∧(b=true→0≤m∧m≤n)∧Kp (w.setCell ⟨g,0,none⟩ (.int .i64 m)) w'
def CountQ (e:Ex):Prop:=∀ (dp B g:Nat) (n:Int) (w:World),e.at w B→B≤g→w.cell? ⟨g,0,none⟩=some (.int .i64 n)→w.frozen? ⟨g,0,none⟩=false→dp≤41→0≤n→n≤300 →
 Calls Tryz.prog 32 #[.agg #[.int .i64 e.kind,.int .i64 e.rn,.int .i64 e.rd,.string e.name,.int .i64 e.pw,.slice e.a e.l.length e.c],.int .i64 (dp:Int),.pointer (some ⟨g,0,none⟩)] w (CntQ w g n)
theorem countq1_any (x:Ex) (hx:CountQ x) (dp B g p1 p2:Nat) (m:Int) (w:World) (hat:x.at w B) (hB:B≤g) (hD:w.cell? ⟨p1,0,none⟩=some (.int .i64 (dp:Int))) (hP:w.cell? ⟨p2,0,none⟩=some (.pointer (some ⟨g,0,none⟩)))
  (hg:w.cell? ⟨g,0,none⟩=some (.int .i64 m)) (hf:w.frozen? ⟨g,0,none⟩=false) (hdp:dp≤40) (h0:0≤m) (hm:m≤300) :
  Calls Tryz.prog 92 #[.agg #[.int .i64 x.kind,.int .i64 x.rn,.int .i64 x.rd,.string x.name,.int .i64 x.pw,.slice x.a x.l.length x.c],.pointer (some ⟨p1,0,none⟩),.pointer (some ⟨p2,0,none⟩)] w fun r w'=>∃ (b:Bool) (m':Int),r=.returned (.bool b)∧(b=false→0≤m'∧m'≤m)∧Kp (w.setCell ⟨g,0,none⟩ (.int .i64 m')) w':=by
 have k1:Kp w (w.alloc (.cells #[.int .i64 x.kind,.int .i64 x.rn,.int .i64 x.rd,.string x.name,.int .i64 x.pw,.slice x.a x.l.length x.c] 71)):=(Kp.refl w).alloc _
 have hS:((w.alloc (.cells #[.int .i64 x.kind,.int .i64 x.rn,.int .i64 x.rd,.string x.name,.int .i64 x.pw,.slice x.a x.l.length x.c] 71)).cell? ⟨w.heap.size,0,none⟩=some (.int .i64 x.kind)∧(w.alloc (.cells #[.int .i64 x.kind,.int .i64 x.rn,.int .i64 x.rd,.string x.name,.int .i64 x.pw,.slice x.a x.l.length x.c] 71)).cell? ⟨w.heap.size,1,none⟩=some (.int .i64 x.rn)∧(w.alloc (.cells #[.int .i64 x.kind,.int .i64 x.rn,.int .i64 x.rd,.string x.name,.int .i64 x.pw,.slice x.a x.l.length x.c] 71)).cell? ⟨w.heap.size,2,none⟩=some (.int .i64 x.rd)∧(w.alloc (.cells #[.int .i64 x.kind,.int .i64 x.rn,.int .i64 x.rd,.string x.name,.int .i64 x.pw,.slice x.a x.l.length x.c] 71)).cell? ⟨w.heap.size,3,none⟩=some (.string x.name)∧(w.alloc (.cells #[.int .i64 x.kind,.int .i64 x.rn,.int .i64 x.rd,.string x.name,.int .i64 x.pw,.slice x.a x.l.length x.c] 71)).cell? ⟨w.heap.size,4,none⟩=some (.int .i64 x.pw)∧(w.alloc (.cells #[.int .i64 x.kind,.int .i64 x.rn,.int .i64 x.rd,.string x.name,.int .i64 x.pw,.slice x.a x.l.length x.c] 71)).cell? ⟨w.heap.size,5,none⟩=some (.slice x.a x.l.length x.c)):=by simp
 have HC:=fun W (h:Kp w W)=>hid (hx (dp+1) B g m W (Ex.at_kp hat h) hB (h.cell hg) (h.frozen hg hf) (by omega) h0 hm)
 have hdi:=hid (show ((dp+1:Nat):Int)=(dp:Int)+1 by omega)
 clear hx
 go_enter Tryz.func92,Tryz.ntmps92
 go_upto_region 1 with fail
 generalize w.alloc _=W at *
 have HC:=hid (HC W k1).out
 rw[hdi.out] at HC
 have hD1:=k1.cell hD
 have hP1:=k1.cell hP
 have K1:=hid k1
 clear hD hP hg hf hat k1
 go_wp2_with (go_at_call 32;go_fit HC.out;rintro r w2 ⟨b,m',rfl,hb,k2⟩)
 go_ret
 refine⟨!b,m',rfl,fun h=>hb (by simpa using h),(kp_bothT K1.out _ _).trans k2⟩
theorem countq_any:∀ e:Ex,CountQ e:=by
 refine Ex.ind fun e ih dp B g n w hat hB hg hf hdp hn0 hn=>?_
 have k1:Kp w (((w.alloc (.cells #[.int .i64 e.kind,.int .i64 e.rn,.int .i64 e.rd,.string e.name,.int .i64 e.pw,.slice e.a e.l.length e.c] 71)).alloc (.cells #[.int .i64 (dp:Int)] 3)).alloc (.cells #[.pointer (some ⟨g,0,none⟩)] 79)):=((Kp.refl w).alloc _).alloc _ |>.alloc _
 have hS:((((w.alloc (.cells #[.int .i64 e.kind,.int .i64 e.rn,.int .i64 e.rd,.string e.name,.int .i64 e.pw,.slice e.a e.l.length e.c] 71)).alloc (.cells #[.int .i64 (dp:Int)] 3)).alloc (.cells #[.pointer (some ⟨g,0,none⟩)] 79)).cell? ⟨w.heap.size,0,none⟩=some (.int .i64 e.kind)∧(((w.alloc (.cells #[.int .i64 e.kind,.int .i64 e.rn,.int .i64 e.rd,.string e.name,.int .i64 e.pw,.slice e.a e.l.length e.c] 71)).alloc (.cells #[.int .i64 (dp:Int)] 3)).alloc (.cells #[.pointer (some ⟨g,0,none⟩)] 79)).cell? ⟨w.heap.size,1,none⟩=some (.int .i64 e.rn)∧(((w.alloc (.cells #[.int .i64 e.kind,.int .i64 e.rn,.int .i64 e.rd,.string e.name,.int .i64 e.pw,.slice e.a e.l.length e.c] 71)).alloc (.cells #[.int .i64 (dp:Int)] 3)).alloc (.cells #[.pointer (some ⟨g,0,none⟩)] 79)).cell? ⟨w.heap.size,2,none⟩=some (.int .i64 e.rd)∧(((w.alloc (.cells #[.int .i64 e.kind,.int .i64 e.rn,.int .i64 e.rd,.string e.name,.int .i64 e.pw,.slice e.a e.l.length e.c] 71)).alloc (.cells #[.int .i64 (dp:Int)] 3)).alloc (.cells #[.pointer (some ⟨g,0,none⟩)] 79)).cell? ⟨w.heap.size,3,none⟩=some (.string e.name)∧(((w.alloc (.cells #[.int .i64 e.kind,.int .i64 e.rn,.int .i64 e.rd,.string e.name,.int .i64 e.pw,.slice e.a e.l.length e.c] 71)).alloc (.cells #[.int .i64 (dp:Int)] 3)).alloc (.cells #[.pointer (some ⟨g,0,none⟩)] 79)).cell? ⟨w.heap.size,4,none⟩=some (.int .i64 e.pw)∧(((w.alloc (.cells #[.int .i64 e.kind,.int .i64 e.rn,.int .i64 e.rd,.string e.name,.int .i64 e.pw,.slice e.a e.l.length e.c] 71)).alloc (.cells #[.int .i64 (dp:Int)] 3)).alloc (.cells #[.pointer (some ⟨g,0,none⟩)] 79)).cell? ⟨w.heap.size,5,none⟩=some (.slice e.a e.l.length e.c)):=keepE6 (((Kp.refl _).alloc _).alloc _) (by simp)
 have hD:(((w.alloc (.cells #[.int .i64 e.kind,.int .i64 e.rn,.int .i64 e.rd,.string e.name,.int .i64 e.pw,.slice e.a e.l.length e.c] 71)).alloc (.cells #[.int .i64 (dp:Int)] 3)).alloc (.cells #[.pointer (some ⟨g,0,none⟩)] 79)).cell? ⟨w.heap.size+1,0,none⟩=some (.int .i64 (dp:Int)):=((Kp.refl _).alloc _).cell (new_cell _ _ _ _ (by simp))
 have hP:(((w.alloc (.cells #[.int .i64 e.kind,.int .i64 e.rn,.int .i64 e.rd,.string e.name,.int .i64 e.pw,.slice e.a e.l.length e.c] 71)).alloc (.cells #[.int .i64 (dp:Int)] 3)).alloc (.cells #[.pointer (some ⟨g,0,none⟩)] 79)).cell? ⟨w.heap.size+1+1,0,none⟩=some (.pointer (some ⟨g,0,none⟩)):=new_cell _ _ _ _ (by simp)
 have hgl:g<w.heap.size:=cell_ltT hg
 go_enter Tryz.func32,Tryz.ntmps32
 go_upto_region 1 with fail
 generalize World.alloc _ _=W at *
 have g1:=k1.cell hg
 have g2:=k1.frozen hg hf
 go_upto_region 2 with fail
 have k2:=kp_bothT k1 ⟨g,0,none⟩ (.int .i64 (n-1))
 have q:((W.setCell ⟨g,0,none⟩ (.int .i64 (n-1))).cell? ⟨w.heap.size,0,none⟩=some (.int .i64 e.kind)∧(W.setCell ⟨g,0,none⟩ (.int .i64 (n-1))).cell? ⟨w.heap.size,1,none⟩=some (.int .i64 e.rn)∧(W.setCell ⟨g,0,none⟩ (.int .i64 (n-1))).cell? ⟨w.heap.size,2,none⟩=some (.int .i64 e.rd)∧(W.setCell ⟨g,0,none⟩ (.int .i64 (n-1))).cell? ⟨w.heap.size,3,none⟩=some (.string e.name)∧(W.setCell ⟨g,0,none⟩ (.int .i64 (n-1))).cell? ⟨w.heap.size,4,none⟩=some (.int .i64 e.pw)∧(W.setCell ⟨g,0,none⟩ (.int .i64 (n-1))).cell? ⟨w.heap.size,5,none⟩=some (.slice e.a e.l.length e.c)):=by
  obtain⟨a0,a1,a2,a3,a4,a5⟩:=hS
  exact⟨keep_set a0 hgl,keep_set a1 hgl,keep_set a2 hgl,keep_set a3 hgl,keep_set a4 hgl,keep_set a5 hgl⟩
 have qD:=keep_set (u:=.int .i64 (n-1)) hD (show g<w.heap.size+1 by omega)
 have qP:=keep_set (u:=.int .i64 (n-1)) hP (show g<w.heap.size+1+1 by omega)
 have qg:(W.setCell ⟨g,0,none⟩ (.int .i64 (n-1))).cell? ⟨g,0,none⟩=some (.int .i64 (n-1)):=by apply World.cell?_setCell_same;exact g1
 have qf:(W.setCell ⟨g,0,none⟩ (.int .i64 (n-1))).frozen? ⟨g,0,none⟩=false:=by simpa using g2
 clear hS hD hP g1 g2 hg hf
 generalize W.setCell ⟨g,0,none⟩ _=W2 at *
 have K2:=hid k2
 clear k2 k1
 obtain⟨t0,t1,t2,t3,t4,t5⟩:=q
 by_cases c2:0≤n-1
 rotate_left
 ·go_wp2_with fail
  go_ret
  exact⟨false,n-1,rfl,fun h=>(by cases h),K2.out⟩
 by_cases c1:(dp:Int)≤40
 rotate_left
 ·have c1':=c1
  go_wp2_with fail
  go_ret
  exact⟨false,n-1,rfl,fun h=>(by cases h),K2.out⟩
 obtain⟨⟨hlc,hcm,hnm,hl⟩,hrow,hch⟩:=Ex.at_iff.1 hat
 have u5:∀ x∈e.l,x.at W2 B:=fun x hx=>Ex.at_kp (Ex.at_set (hch x hx) hB _) K2.out
 have u6:RowX W2 B e.a e.l:=(hrow.set hB _).kp K2.out
 have HX:=hid (containsX e.a e.l e.c B 92 #[.pointer (some ⟨w.heap.size+1,0,none⟩),.pointer (some ⟨w.heap.size+1+1,0,none⟩)] W2
  (fun _ Wk=>∃ m:Int,0≤m∧m≤n-1∧Kp (W2.setCell ⟨g,0,none⟩ (.int .i64 m)) Wk)
  (fun _ Wk=>∃ m:Int,Kp (W2.setCell ⟨g,0,none⟩ (.int .i64 m)) Wk)
  (by omega)
  (fun k Wk hJ=>by obtain⟨m,_,_,hk⟩:=hJ;exact (u6.set hB _).kp hk)
  ⟨n-1,c2,Int.le_refl _,by rw[set_same qg];exact .refl _⟩
  ⟨fun _ _=>by kernel_rfl,fun k x hx Wk hJ=>by
   obtain⟨m,hm0,hm,hk⟩:=hJ
   have hxm:=List.mem_of_getElem? hx
   have v3:Wk.cell? ⟨g,0,none⟩=some (.int .i64 m):=hk.cell (by apply World.cell?_setCell_same;exact qg)
   have v4:Wk.frozen? ⟨g,0,none⟩=false:=hk.frozen (v:=.int .i64 m) (by apply World.cell?_setCell_same;exact qg) (by simpa using qf)
   have v1:=hk.cell (keep_set (u:=.int .i64 m) qD (show g<w.heap.size+1 by omega))
   have v2:=hk.cell (keep_set (u:=.int .i64 m) qP (show g<w.heap.size+1+1 by omega))
   refine (countq1_any x (ih x hxm) dp B g _ _ m Wk (Ex.at_kp (Ex.at_set (u5 x hxm) hB _) hk) hB v1 v2 v3 v4 (by omega) hm0 (by omega)).mono ?_
   rintro r W' ⟨b,m',rfl,hb,hk'⟩
   have hK:Kp (W2.setCell ⟨g,0,none⟩ (.int .i64 m')) W':=by
    have:=(kp_bothT hk ⟨g,0,none⟩ (.int .i64 m')).trans hk'
    rwa [setcell_twice] at this
   cases b with
   | true=>exact .inl ⟨rfl,m',hK⟩
   | false=>exact .inr ⟨rfl,m',(hb rfl).1,by have:=(hb rfl).2;omega,hK⟩⟩)
 clear u5 u6 hrow hch ih
 have hKK:=hid fun (m:Int) (W':World) (h:Kp (W2.setCell ⟨g,0,none⟩ (.int .i64 m)) W')=>show Kp (w.setCell ⟨g,0,none⟩ (.int .i64 m)) W' by
  have:=(kp_bothT K2.out ⟨g,0,none⟩ (.int .i64 m)).trans h
  rwa [setcell_twice] at this
 have hmf:∀ (fn:Fn) (first cap:Array Value) (w:World),(Instr.makeFunc fn first cap).run Tryz.prog w=.ok (.func fn first cap) w:=fun _ _ _ _=>rfl
 go_wp2_with (go_at_call 91;go_fit HX.out;rintro r W4 (⟨rfl,k,hk,m,hkk⟩ | ⟨rfl,m,hm,hm2,hkk⟩))
 ·go_ret
  exact⟨false,m,rfl,fun h=>(by cases h),hKK.out m W4 hkk⟩
 go_ret
 exact⟨true,m,rfl,fun _=>⟨hm,by omega⟩,hKK.out m W4 hkk⟩
end
section
open Go.RowKit Go.Sort
def LfQ (W w:World) (g:Nat):Prop:=Kp W w∧W.heap.size≤g∧w.frozen? ⟨g,0,none⟩=false∧∃ n:Int,(0≤n∧n≤300)∧w.cell? ⟨g,0,none⟩=some (.int .i64 n)
theorem LfQ.kp {W w w':World} {g:Nat} (h:LfQ W w g) (k:Kp w w'):LfQ W w' g:=by
 obtain⟨h1,h2,h3,n,h4,h5⟩:=h
 exact⟨h1.trans k,h2,k.frozen h5 h3,n,h4,k.cell h5⟩
def KpO (g:Nat) (w w':World):Prop:=∃ v,Kp (w.setCell ⟨g,0,none⟩ v) w'
theorem KpO.box {g b:Nat} {w w':World} {vs:List Value} (k:KpO g w w') (h:BoxV w b vs) (hn:b≠g):BoxV w' b vs:=by
 obtain⟨v,hv⟩:=k
 exact (h.other hn v).kp hv
def CouO (W w:World) (g:Nat) (r:Ending) (w':World):Prop:=∃ b:Bool,r=.returned (.bool b)∧Kp W w'∧KpO g w w'∧((!b)=false→LfQ W w' g)
theorem LfQ.count {W w:World} {g:Nat} (h:LfQ W w g) (e:Ex) (B:Nat) (hat:e.at w B) (hB:B≤g) :
  Calls Tryz.prog 32 #[.agg #[.int .i64 e.kind,.int .i64 e.rn,.int .i64 e.rd,.string e.name,.int .i64 e.pw,.slice e.a e.l.length e.c],.int .i64 0,.pointer (some ⟨g,0,none⟩)] w (CouO W w g):=by
 obtain⟨h1,h2,h3,n,h4,h5⟩:=h
 refine (countq_any e 0 B g n w hat hB h5 h3 (by decide) h4.1 h4.2).mono ?_
 rintro r w' ⟨b,m,rfl,hb,hk⟩
 have hc:(w.setCell ⟨g,0,none⟩ (.int .i64 m)).cell? ⟨g,0,none⟩=some (.int .i64 m):=by apply World.cell?_setCell_same;exact h5
 refine⟨b,rfl,(h1.set h2 _).trans hk,⟨_,hk⟩,fun e=>⟨(h1.set h2 _).trans hk,h2,hk.frozen hc (by simpa using h3),m,⟨(hb (by simpa using e)).1,by have:=(hb (by simpa using e)).2;omega⟩,hk.cell hc⟩⟩
theorem LfQ.new (W:World) (T:TypeId) (g:Nat) (h:W.heap.size=g):LfQ W (W.alloc (.cells #[.int .i64 300] T)) g:=by
 subst h
 exact⟨(Kp.refl W).alloc _,Nat.le_refl _,by simp,300,by decide,by simp⟩
def SmlQ (w:World) (r:Ending) (w':World):Prop:=∃ b:Bool,r=.returned (.bool b)∧Kp w w'
theorem small_any (p:Pr) (w:World) (B:Nat) (hat:p.at w B) (hB:B≤w.heap.size) :
  Calls Tryz.prog 14 #[.agg #[.slice p.sa p.ss.length p.sc,.slice p.pa p.ps.length p.pc,.slice p.ma p.ms.length p.mc,.int .i64 p.tn,.int .i64 p.td]] w (SmlQ w):=by
 have k1:Kp w (w.alloc (.cells #[.slice p.sa p.ss.length p.sc,.slice p.pa p.ps.length p.pc,.slice p.ma p.ms.length p.mc,.int .i64 p.tn,.int .i64 p.td] 27)):=(Kp.refl w).alloc _
 have hb:BoxV (w.alloc (.cells #[.slice p.sa p.ss.length p.sc,.slice p.pa p.ps.length p.pc,.slice p.ma p.ms.length p.mc,.int .i64 p.tn,.int .i64 p.td] 27)) w.heap.size p.cells:=BoxV.new w p.cells _ _ rfl
 have hz:(w.alloc (.cells #[.slice p.sa p.ss.length p.sc,.slice p.pa p.ps.length p.pc,.slice p.ma p.ms.length p.mc,.int .i64 p.tn,.int .i64 p.td] 27)).heap.size=w.heap.size+1:=by simp
 obtain⟨hsl,hpl,hml⟩:=hat.1
 go_enter Tryz.func14,Tryz.ntmps14
 go_upto_region 1 with fail
 generalize w.alloc _=W at *
 have hL:=LfQ.new W 3 W.heap.size rfl
 have hb1:=hb.kp ((Kp.refl W).alloc (.cells #[.int .i64 300] 3))
 have HAT:=hid (Pr.at_kp hat k1)
 have HBg:=hid (show B≤W.heap.size by omega)
 have K1:=hid k1
 clear hz hat k1 hb hB
 go_upto_region 2 with fail
 generalize W.alloc _=W1 at *
 have HL:=hid hL
 have q0:=hb1.cell 0 rfl
 have q1:=hb1.cell 1 rfl
 have q2:=hb1.cell 2 rfl
 have KE:=hid fun (X:World) (k:Kp W X)=>show SmlQ w (.returned (.bool false)) X from ⟨false,rfl,K1.out.trans k⟩
 have KT:=hid fun (X:World) (k:Kp W X)=>show SmlQ w (.returned (.bool true)) X from ⟨true,rfl,K1.out.trans k⟩
 clear hb1 hL
 by_cases h0:(10:Int)<(p.ss.length:Int)
 ·go_wp2_with fail
  go_ret
  exact KE.out _ HL.out.1
 by_cases h1:(10:Int)<(p.ps.length:Int)
 ·go_wp2_with fail
  go_ret
  exact KE.out _ HL.out.1
 by_cases h2:(10:Int)<(p.ms.length:Int)
 ·go_wp2_with fail
  go_ret
  exact KE.out _ HL.out.1
 go_upto_region 5 with fail
 clear q0 q1 q2
 go_loopw [31] (fun x wr=>∃ k:Nat,k≤p.ms.length∧x=.int .i64 k∧LfQ W wr W.heap.size) (fun x _=>p.ms.length-(intOf x).toNat)
 case atStart=>exact⟨0,by omega,rfl,HL.out⟩
 case round =>
 obtain⟨k,hk,rfl,hl⟩:=hrel
 have Hl:=hid hl
 by_cases hlt:k<p.ms.length
 rotate_left
 ·clear hl
  go_wp2
  go_ret
  exact KT.out _ Hl.out.1
 obtain⟨m,hs⟩:∃ m,p.ms[k]? = some m:=⟨_,List.getElem?_eq_getElem hlt⟩
 obtain⟨b,o,ha,_,hc⟩:=HAT.out.2.2.2.1.kp hl.1 k m hs
 have HM:=hid (HAT.out.2.2.2.2 m (List.mem_of_getElem? hs))
 have k2:Kp wr (wr.alloc (.cells #[.string m.name,.slice m.fa m.fs.length m.fc,.slice m.ea m.es.length m.ec] 41)):=(Kp.refl wr).alloc _
 have hb2:BoxV (wr.alloc (.cells #[.string m.name,.slice m.fa m.fs.length m.fc,.slice m.ea m.es.length m.ec] 41)) wr.heap.size m.cells:=BoxV.new wr m.cells _ _ rfl
 have hne:wr.heap.size≠W.heap.size:=by have:=cell_ltT hl.2.2.2.choose_spec.2;omega
 have y0:wr.cell? ⟨b,o+k*3,none⟩=some (.string m.name):=hc 0 _ rfl;have y1:=hc 1 _ rfl;have y2:=hc 2 _ rfl
 rw[ha]
 obtain⟨_,hfl,hel⟩:=HM.out.1
 clear hc hs ha hl
 go_upto_region 7 with fail
 have hl2:=Hl.out.kp k2
 clear y0 y1 y2 k2
 generalize wr.alloc _=U at *
 generalize wr.heap.size=mb at *
 have HL2:=hid hl2
 have HB2:=hid hb2
 have p1:=hb2.cell 1 rfl
 have p2:=hb2.cell 2 rfl
 clear hb2 hl2
 by_cases h3:(10:Int)<(m.fs.length:Int)
 ·go_wp2_with fail
  go_ret
  exact KE.out _ HL2.out.1
 by_cases h4:(10:Int)<(m.es.length:Int)
 ·go_wp2_with fail
  go_ret
  exact KE.out _ HL2.out.1
 go_upto_region 10 with fail
 clear p1 p2
 obtain⟨V,hV⟩:∃ V:World,V=U:=⟨_,rfl⟩
 subst hV
 go_loopw [48] (fun x wr=>∃ k:Nat,k≤m.fs.length∧x=.int .i64 k∧LfQ W wr W.heap.size∧BoxV wr mb m.cells) (fun x _=>m.fs.length-(intOf x).toNat)
 case atStart=>exact⟨0,by omega,rfl,HL2.out,HB2.out⟩
 case round =>
 obtain⟨j,hj,rfl,hl,hbm⟩:=hrel
 have Hl:=hid hl
 have HBm:=hid hbm
 by_cases hlt2:j<m.fs.length
 ·obtain⟨q,hs⟩:∃ q,m.fs[j]? = some q:=⟨_,List.getElem?_eq_getElem hlt2⟩
  obtain⟨b,o,ha,_,hc⟩:=HM.out.2.1.1.kp hl.1 j q hs
  have k2:Kp wr (wr.alloc (.cells #[.string q.name,.int .i64 q.e.kind,.int .i64 q.e.rn,.int .i64 q.e.rd,.string q.e.name,.int .i64 q.e.pw,.slice q.e.a q.e.l.length q.e.c] 73)):=(Kp.refl wr).alloc _
  have hb2:BoxV (wr.alloc (.cells #[.string q.name,.int .i64 q.e.kind,.int .i64 q.e.rn,.int .i64 q.e.rd,.string q.e.name,.int .i64 q.e.pw,.slice q.e.a q.e.l.length q.e.c] 73)) wr.heap.size q.cells:=BoxV.new wr q.cells _ _ rfl
  have hqa:=(HM.out.2.1.2 q (List.mem_of_getElem? hs)).2
  have y0:wr.cell? ⟨b,o+j*7,none⟩=some (.string q.name):=hc 0 _ rfl;have y1:=hc 1 _ rfl;have y2:=hc 2 _ rfl;have y3:=hc 3 _ rfl;have y4:=hc 4 _ rfl;have y5:=hc 5 _ rfl;have y6:=hc 6 _ rfl
  rw[ha]
  clear hc hs ha hl hbm
  go_upto_region 12 with fail
  have hl2:=Hl.out.kp k2
  have hbm2:=HBm.out.kp k2
  clear y0 y1 y2 y3 y4 y5 y6 k2
  generalize wr.alloc _=U2 at *
  have HC:=hid (hl2.count q.e B (Ex.at_kp hqa hl2.1) HBg.out)
  have HBm2:=hid hbm2
  obtain⟨p1,p2,p3,p4,p5,p6⟩:_∧_∧_∧_∧_∧_:=⟨hb2.cell 1 rfl,hb2.cell 2 rfl,hb2.cell 3 rfl,hb2.cell 4 rfl,hb2.cell 5 rfl,hb2.cell 6 rfl⟩
  clear hqa hl2 hbm2 hb2
  go_wp2_with (first | (go_at_call 32;go_fit HC.out;rintro r w5 ⟨bb,rfl,hk5,ho5,hl5⟩) | fail)
  ·go_ret
   exact KE.out _ hk5
  go_roundw
  case measure=>simp only[intOf];omega
  case rel=>exact⟨j+1,by omega,by go_num,hl5 (by assumption),ho5.box HBm2.out hne⟩
 have hj2:j=m.fs.length:=by omega
 subst hj2
 have p2:=hbm.cell 2 rfl
 clear hl hbm
 go_upto_region 16 with fail
 clear p2
 obtain⟨V3,hV⟩:∃ V:World,V=wr:=⟨_,rfl⟩
 subst hV
 go_loopw [60] (fun x wr=>∃ k:Nat,k≤m.es.length∧x=.int .i64 k∧LfQ W wr W.heap.size) (fun x _=>m.es.length-(intOf x).toNat)
 case atStart=>exact⟨0,by omega,rfl,Hl.out⟩
 case round =>
 obtain⟨i,hi,rfl,hl⟩:=hrel
 have Hl3:=hid hl
 by_cases hlt3:i<m.es.length
 rotate_left
 ·have hi2:i=m.es.length:=by omega
  subst hi2
  clear hl
  go_wp2
  go_roundw
  case measure=>simp only[intOf];omega
  case rel=>exact⟨k+1,by omega,by go_num,Hl3.out⟩
 obtain⟨x',hs⟩:∃ x,m.es[i]? = some x:=⟨_,List.getElem?_eq_getElem hlt3⟩
 obtain⟨b,o,ha,_,hc⟩:=HM.out.2.2.1.kp hl.1 i x' hs
 have k2:Kp wr (wr.alloc (.cells #[.int .i64 x'.g.kind,.int .i64 x'.g.rn,.int .i64 x'.g.rd,.string x'.g.name,.int .i64 x'.g.pw,.slice x'.g.a x'.g.l.length x'.g.c,.int .i64 x'.dir,.string x'.tx,.slice x'.a x'.rs.length x'.c] 103)):=(Kp.refl wr).alloc _
 have hb2:BoxV (wr.alloc (.cells #[.int .i64 x'.g.kind,.int .i64 x'.g.rn,.int .i64 x'.g.rd,.string x'.g.name,.int .i64 x'.g.pw,.slice x'.g.a x'.g.l.length x'.g.c,.int .i64 x'.dir,.string x'.tx,.slice x'.a x'.rs.length x'.c] 103)) wr.heap.size x'.cells:=BoxV.new wr x'.cells _ _ rfl
 have HX:=hid (HM.out.2.2.2 x' (List.mem_of_getElem? hs))
 have hne2:wr.heap.size≠W.heap.size:=by have:=cell_ltT hl.2.2.2.choose_spec.2;omega
 have y0:wr.cell? ⟨b,o+i*9,none⟩=some (.int .i64 x'.g.kind):=hc 0 _ rfl;have y1:=hc 1 _ rfl;have y2:=hc 2 _ rfl;have y3:=hc 3 _ rfl;have y4:=hc 4 _ rfl;have y5:=hc 5 _ rfl;have y6:=hc 6 _ rfl;have y7:=hc 7 _ rfl;have y8:=hc 8 _ rfl
 rw[ha]
 obtain⟨_,_,hrl⟩:=HX.out.1
 clear hc hs ha hl
 go_upto_region 18 with fail
 have hl2:=Hl3.out.kp k2
 clear y0 y1 y2 y3 y4 y5 y6 y7 y8 k2
 generalize wr.alloc _=U3 at *
 generalize wr.heap.size=eb at *
 have HL3:=hid hl2
 have HB3:=hid hb2
 have HC:=hid (hl2.count x'.g B (Ex.at_kp HX.out.1.1 hl2.1) HBg.out)
 have p0:=hb2.cell 0 rfl;have p1:=hb2.cell 1 rfl;have p2:=hb2.cell 2 rfl;have p3:=hb2.cell 3 rfl;have p4:=hb2.cell 4 rfl;have p5:=hb2.cell 5 rfl;have p6:=hb2.cell 6 rfl;have p7:=hb2.cell 7 rfl;have p8:=hb2.cell 8 rfl
 clear hb2 hl2
 by_cases h5:(10:Int)<(x'.rs.length:Int)
 ·go_wp2_with fail
  go_ret
  exact KE.out _ HL3.out.1
 go_upto_region 20 with (first | (go_at_call 32;go_fit HC.out;rintro r w5 ⟨bb,rfl,hk5,ho5,hl5⟩) | fail)
 ·go_ret
  exact KE.out _ hk5
 have HL5:=hid (hl5 (by assumption))
 have p8:=(ho5.box HB3.out hne2).cell 8 rfl
 have hbf:(!bb)=false:=by assumption
 rw[hbf]
 clear p0 p1 p2 p3 p4 p5 p6 p7 hk5 ho5 hl5 hbf
 go_upto_region 21 with fail
 clear p8
 obtain⟨V4,hV⟩:∃ V:World,V=w5:=⟨_,rfl⟩
 subst hV
 go_loopw [77] (fun x wr=>∃ k:Nat,k≤x'.rs.length∧x=.int .i64 k∧LfQ W wr W.heap.size) (fun x _=>x'.rs.length-(intOf x).toNat)
 case atStart=>exact⟨0,by omega,rfl,HL5.out⟩
 case round =>
 obtain⟨l,hll,rfl,hl⟩:=hrel
 have Hl4:=hid hl
 by_cases hlt4:l<x'.rs.length
 rotate_left
 ·clear hl
  go_wp2
  go_roundw
  case measure=>simp only[intOf];omega
  case rel=>exact⟨i+1,by omega,by go_num,Hl4.out⟩
 obtain⟨q,hs⟩:∃ q,x'.rs[l]? = some q:=⟨_,List.getElem?_eq_getElem hlt4⟩
 obtain⟨b,o,ha,_,hc⟩:=HX.out.2.1.kp hl.1 l q hs
 have k2:Kp wr (wr.alloc (.cells #[.string q.name,.int .i64 q.e.kind,.int .i64 q.e.rn,.int .i64 q.e.rd,.string q.e.name,.int .i64 q.e.pw,.slice q.e.a q.e.l.length q.e.c] 107)):=(Kp.refl wr).alloc _
 have hb2:BoxV (wr.alloc (.cells #[.string q.name,.int .i64 q.e.kind,.int .i64 q.e.rn,.int .i64 q.e.rd,.string q.e.name,.int .i64 q.e.pw,.slice q.e.a q.e.l.length q.e.c] 107)) wr.heap.size q.cells:=BoxV.new wr q.cells _ _ rfl
 have hqa:=(HX.out.2.2 q (List.mem_of_getElem? hs)).2
 have y0:wr.cell? ⟨b,o+l*7,none⟩=some (.string q.name):=hc 0 _ rfl;have y1:=hc 1 _ rfl;have y2:=hc 2 _ rfl;have y3:=hc 3 _ rfl;have y4:=hc 4 _ rfl;have y5:=hc 5 _ rfl;have y6:=hc 6 _ rfl
 rw[ha]
 clear hc hs ha hl
 go_upto_region 23 with fail
 have hl2:=Hl4.out.kp k2
 clear y0 y1 y2 y3 y4 y5 y6 k2
 generalize wr.alloc _=U4 at *
 have HC4:=hid (hl2.count q.e B (Ex.at_kp hqa hl2.1) HBg.out)
 obtain⟨p1,p2,p3,p4,p5,p6⟩:_∧_∧_∧_∧_∧_:=⟨hb2.cell 1 rfl,hb2.cell 2 rfl,hb2.cell 3 rfl,hb2.cell 4 rfl,hb2.cell 5 rfl,hb2.cell 6 rfl⟩
 clear hqa hl2 hb2
 go_wp2_with (first | (go_at_call 32;go_fit HC4.out;rintro r w6 ⟨bb,rfl,hk6,ho6,hl6⟩) | fail)
 ·go_ret
  exact KE.out _ hk6
 go_roundw
 case measure=>simp only[intOf];omega
 case rel=>exact⟨l+1,by omega,by go_num,hl6 (by assumption)⟩
end
section
open Go.RowKit Go.Sort
theorem rassigned_any (st all bf:List ByteArray) (a1 a2 a3:Option Addr) (c1 c2 c3:Nat) (q:Qe) (w:World) (B:Nat) (h1:RowS w a1 st) (h2:RowS w a2 all) (h3:RowS w a3 bf) (l1:st.length≤1000) (l2:all.length≤1000) (l3:bf.length≤1000) (hat:q.e.at w B) (hok:q.e.ok=true) :
  Calls Tryz.prog 135 #[.slice a1 st.length c1,.slice a2 all.length c2,.slice a3 bf.length c3,.string q.name,.agg #[.int .i64 q.e.kind,.int .i64 q.e.rn,.int .i64 q.e.rd,.string q.e.name,.int .i64 q.e.pw,.slice q.e.a q.e.l.length q.e.c]] w fun r w'=>r=.returned (rfltV (givenF st all q bf))∧Kp w w':=by
 have k1:Kp w ((w.alloc (.cells #[.int .i64 q.e.kind,.int .i64 q.e.rn,.int .i64 q.e.rd,.string q.e.name,.int .i64 q.e.pw,.slice q.e.a q.e.l.length q.e.c] 71)).alloc (.cells #[.int .i64 0,.string ⟨#[]⟩] 36)):=((Kp.refl w).alloc _).alloc _
 have h0:BoxV ((w.alloc (.cells #[.int .i64 q.e.kind,.int .i64 q.e.rn,.int .i64 q.e.rd,.string q.e.name,.int .i64 q.e.pw,.slice q.e.a q.e.l.length q.e.c] 71)).alloc (.cells #[.int .i64 0,.string ⟨#[]⟩] 36)) w.heap.size q.e.cells:=(BoxV.new w q.e.cells _ _ rfl).kp ((Kp.refl _).alloc _)
 have hf:BoxV ((w.alloc (.cells #[.int .i64 q.e.kind,.int .i64 q.e.rn,.int .i64 q.e.rd,.string q.e.name,.int .i64 q.e.pw,.slice q.e.a q.e.l.length q.e.c] 71)).alloc (.cells #[.int .i64 0,.string ⟨#[]⟩] 36)) (w.heap.size+1) [.int .i64 0,.string ⟨#[]⟩]:=BoxV.new _ [_,_] _ _ (by simp)
 go_enter Tryz.func135,Tryz.ntmps135
 go_upto_region 1 with fail
 generalize World.alloc _ _=W at *
 have HP1:=hid (place_any a1 c1 st q.name W (h1.kp k1) (by omega))
 have HP2:=hid fun W' (k:Kp W W')=>place_any a3 c3 bf q.name W' (h3.kp (k1.trans k)) (by omega)
 have HK:=hid fun W' (k:Kp W W')=>rknown_any all a2 c2 q.e W' B (h2.kp (k1.trans k)) l2 (Ex.at_kp hat (k1.trans k)) hok
 have HR:=hid hf
 have H0:=hid h0
 have K1:=hid k1
 have q0:=h0.cell 0 rfl
 have q1:=h0.cell 1 rfl
 have q2:=h0.cell 2 rfl
 have q3:=h0.cell 3 rfl
 have q4:=h0.cell 4 rfl
 have q5:=h0.cell 5 rfl
 clear h0 hf h1 h2 h3 hat k1
 cases hq:inS st q.name with
 | false =>
  have hp:placeF q.name st<0:=placeF_neg.2 (fun h=>by rw[inS_iff.2 h] at hq;cases hq)
  have Hz:=hid (show givenF st all q bf=some (7,q.name) by unfold givenF isIn;rw[hq];rfl)
  clear hq
  go_wp2_with (first
   | (go_at_call 133;go_fit HP1.out;rintro r w2 ⟨rfl,k2⟩)
   | (go_at_call 69;go_fit (rfault_any 7 q.name w2);rintro r w3 ⟨rfl,k3⟩;have hR:=HR.out.kp (k2.trans k3);have r0:=hR.cell 0 rfl;have r1:=hR.cell 1 rfl;have f0:=hR.2.1 0;have f1:=hR.2.1 1;have HRR:=hid hR;clear hR)
   | fail)
  generalize hW9:(World.setCell _ _ _).setCell _ _=W9
  obtain⟨hF,hK⟩:=box2_set HRR.out (K1.out.trans (k2.trans k3)) (show w.heap.size≤w.heap.size+1 by omega) _ _ hW9
  have s0:=hF.cell 0 rfl
  have s1:=hF.cell 1 rfl
  refine bodyPost_ret (v:=.agg #[.int .i64 7,.string q.name]) (by simp[results,Tryz.results135,go_sem,s0,s1]) rfl ?_
  rw[Hz.out]
  exact⟨rfl,hK⟩
 | true =>
 have hp:¬ placeF q.name st<0:=fun h=>placeF_neg.1 h (inS_iff.1 hq)
 cases hb:inS bf q.name with
 | true =>
  have hp2:¬ placeF q.name bf<0:=fun h=>placeF_neg.1 h (inS_iff.1 hb)
  have hp3:0≤placeF q.name bf:=by omega
  have Hz:=hid (show givenF st all q bf=some (8,q.name) by unfold givenF isIn;rw[hq,hb];rfl)
  clear hq hb
  go_wp2_with (first
   | (go_at_call 133;go_fit HP1.out;rintro r w2 ⟨rfl,k2⟩)
   | (go_at_call 133;go_fit (HP2.out w2 k2);rintro r w3 ⟨rfl,k3⟩)
   | (go_at_call 69;go_fit (rfault_any 8 q.name w3);rintro r w4 ⟨rfl,k4⟩;have hR:=HR.out.kp (k2.trans (k3.trans k4));have r0:=hR.cell 0 rfl;have r1:=hR.cell 1 rfl;have f0:=hR.2.1 0;have f1:=hR.2.1 1;have HRR:=hid hR;clear hR)
   | fail)
  generalize hW9:(World.setCell _ _ _).setCell _ _=W9
  obtain⟨hF,hK⟩:=box2_set HRR.out (K1.out.trans (k2.trans (k3.trans k4))) (show w.heap.size≤w.heap.size+1 by omega) _ _ hW9
  have s0:=hF.cell 0 rfl
  have s1:=hF.cell 1 rfl
  refine bodyPost_ret (v:=.agg #[.int .i64 8,.string q.name]) (by simp[results,Tryz.results135,go_sem,s0,s1]) rfl ?_
  rw[Hz.out]
  exact⟨rfl,hK⟩
 | false =>
 have hp2:placeF q.name bf<0:=placeF_neg.2 (fun h=>by rw[inS_iff.2 h] at hb;cases hb)
 have hp3:¬ 0≤placeF q.name bf:=by omega
 have hgk:givenF st all q bf=knownF all q.e:=by unfold givenF isIn;rw[hq,hb];rfl
 cases hkn:knownF all q.e with
 | some x =>
  rw[hkn] at hgk HK
  have Hz:=hid hgk
  clear hq hb hgk hkn
  replace HK:=hid (show ∀ W' (k:Kp W W'),Calls Tryz.prog 99 #[.slice a2 all.length c2,.agg #[.int .i64 q.e.kind,.int .i64 q.e.rn,.int .i64 q.e.rd,.string q.e.name,.int .i64 q.e.pw,.slice q.e.a q.e.l.length q.e.c]] W' fun r w'=>r=.returned (.agg #[.int .i64 x.1,.string x.2])∧Kp W' w' from HK.out)
  go_wp2_with (first
   | (go_at_call 133;go_fit HP1.out;rintro r w2 ⟨rfl,k2⟩)
   | (go_at_call 133;go_fit (HP2.out w2 k2);rintro r w3 ⟨rfl,k3⟩;clear q0 q1 q2 q3 q4 q5;have q0:=(H0.out.kp (k2.trans k3)).cell 0 rfl;have q1:=(H0.out.kp (k2.trans k3)).cell 1 rfl;have q2:=(H0.out.kp (k2.trans k3)).cell 2 rfl;have q3:=(H0.out.kp (k2.trans k3)).cell 3 rfl;have q4:=(H0.out.kp (k2.trans k3)).cell 4 rfl;have q5:=(H0.out.kp (k2.trans k3)).cell 5 rfl)
   | (go_at_call 99;go_fit (HK.out w3 (k2.trans k3));rintro r w4 ⟨rfl,k4⟩;have hR:=HR.out.kp (k2.trans (k3.trans k4));have r0:=hR.cell 0 rfl;have r1:=hR.cell 1 rfl;have f0:=hR.2.1 0;have f1:=hR.2.1 1;have HRR:=hid hR;clear hR)
   | fail)
  generalize hW9:(World.setCell _ _ _).setCell _ _=W9
  obtain⟨hF,hK⟩:=box2_set HRR.out (K1.out.trans (k2.trans (k3.trans k4))) (show w.heap.size≤w.heap.size+1 by omega) _ _ hW9
  have s0:=hF.cell 0 rfl
  have s1:=hF.cell 1 rfl
  refine bodyPost_ret (v:=.agg #[.int .i64 x.1,.string x.2]) (by simp[results,Tryz.results135,go_sem,s0,s1]) rfl ?_
  rw[Hz.out]
  exact⟨rfl,hK⟩
 | none =>
 rw[hkn] at hgk HK
 have Hz:=hid hgk
 clear hq hb hgk hkn
 replace HK:=hid (show ∀ W' (k:Kp W W'),Calls Tryz.prog 99 #[.slice a2 all.length c2,.agg #[.int .i64 q.e.kind,.int .i64 q.e.rn,.int .i64 q.e.rd,.string q.e.name,.int .i64 q.e.pw,.slice q.e.a q.e.l.length q.e.c]] W' fun r w'=>r=.returned (.agg #[.int .i64 0,.string ⟨#[]⟩])∧Kp W' w' from HK.out)
 go_wp2_with (first
  | (go_at_call 133;go_fit HP1.out;rintro r w2 ⟨rfl,k2⟩)
  | (go_at_call 133;go_fit (HP2.out w2 k2);rintro r w3 ⟨rfl,k3⟩;clear q0 q1 q2 q3 q4 q5;have q0:=(H0.out.kp (k2.trans k3)).cell 0 rfl;have q1:=(H0.out.kp (k2.trans k3)).cell 1 rfl;have q2:=(H0.out.kp (k2.trans k3)).cell 2 rfl;have q3:=(H0.out.kp (k2.trans k3)).cell 3 rfl;have q4:=(H0.out.kp (k2.trans k3)).cell 4 rfl;have q5:=(H0.out.kp (k2.trans k3)).cell 5 rfl)
  | (go_at_call 99;go_fit (HK.out w3 (k2.trans k3));rintro r w4 ⟨rfl,k4⟩;have hR:=HR.out.kp (k2.trans (k3.trans k4));have r0:=hR.cell 0 rfl;have r1:=hR.cell 1 rfl;have f0:=hR.2.1 0;have f1:=hR.2.1 1;have HRR:=hid hR;clear hR)
  | fail)
 generalize hW9:(World.setCell _ _ _).setCell _ _=W9
 obtain⟨hF,hK⟩:=box2_set HRR.out (K1.out.trans (k2.trans (k3.trans k4))) (show w.heap.size≤w.heap.size+1 by omega) _ _ hW9
 have s0:=hF.cell 0 rfl
 have s1:=hF.cell 1 rfl
 refine bodyPost_ret (v:=.agg #[.int .i64 0,.string ⟨#[]⟩]) (by simp[results,Tryz.results135,go_sem,s0,s1]) rfl ?_
 rw[Hz.out]
 exact⟨rfl,hK⟩
end
section
open Go.RowKit Go.Sort
theorem rrepeated_any (ss:List ByteArray) (a:Option Addr) (c:Nat) (w:World) (hrow:RowS w a ss) (hm:ss.length≤1000) (hcap:ss.length≤c) :
  Calls Tryz.prog 71 #[.slice a ss.length c] w fun r w'=>r=.returned (rfltV (onceF [] ss))∧Kp w w':=by
 have k1:Kp w (w.alloc (.cells #[.int .i64 0,.string ⟨#[]⟩] 36)):=(Kp.refl w).alloc _
 have h0:BoxV (w.alloc (.cells #[.int .i64 0,.string ⟨#[]⟩] 36)) w.heap.size [.int .i64 0,.string ⟨#[]⟩]:=BoxV.new w [_,_] _ _ rfl
 go_enter Tryz.func71,Tryz.ntmps71
 go_upto_region 2 with fail
 generalize w.alloc _=W at *
 have HA:=hid (hrow.kp k1)
 have HR:=hid h0
 have K1:=hid k1
 clear h0 hrow k1
 go_loopw [3] (fun x wr=>∃ k:Nat,k≤ss.length∧x=.int .i64 k∧onceF [] ss=onceF (ss.take k) (ss.drop k)∧Kp W wr) (fun x _=>ss.length-(intOf x).toNat)
 case atStart=>exact⟨0,by omega,rfl,rfl,.refl _⟩
 case round =>
 obtain⟨k,hk,rfl,hz,hkp⟩:=hrel
 have Hk:=hid hkp
 by_cases hlt:k<ss.length
 rotate_left
 ·have hd:ss.drop k=[]:=List.drop_eq_nil_of_le (by omega)
  rw[hd] at hz
  have Hz:=hid (show onceF [] ss=none from hz)
  have hR:=HR.out.kp (hkp)
  have r0:=hR.cell 0 rfl
  have r1:=hR.cell 1 rfl
  have f0:=hR.2.1 0
  have f1:=hR.2.1 1
  have HRR:=hid hR
  clear hR
  clear hz hkp hd
  go_wp2_with fail
  generalize hW9:(World.setCell _ _ _).setCell _ _=W9
  obtain⟨hF,hK⟩:=box2_set HRR.out (K1.out.trans (Hk.out)) (Nat.le_refl w.heap.size) _ _ hW9
  have s0:=hF.cell 0 rfl
  have s1:=hF.cell 1 rfl
  refine bodyPost_ret (v:=.agg #[.int .i64 0,.string ⟨#[]⟩]) (by simp[results,Tryz.results71,go_sem,s0,s1]) rfl ?_
  rw[Hz.out]
  exact⟨rfl,hK⟩
 obtain⟨s,hs⟩:∃ s,ss[k]? = some s:=⟨_,List.getElem?_eq_getElem hlt⟩
 obtain⟨b,o,rfl,h0⟩:=HA.out.kp hkp k s hs
 rw[onceF_step hs] at hz
 have hlk:(ss.take k).length=k:=by rw[List.length_take];omega
 have HP:=hid fun (c':Nat) W' (q:Kp wr W')=>place_any (some ⟨b,o,none⟩) c' (ss.take k) s W' (rowS_take (HA.out.kp (hkp.trans q)) k) (by omega)
 rw[hlk] at HP
 have H0d:=hid ((Kp.refl wr).drew.cell h0)
 have hck:k≤c:=by omega
 clear hs hkp hlk
 go_upto_region 4 with fail
 cases hq:inS (ss.take k) s with
 | false =>
  have hp:placeF s (ss.take k)<0:=placeF_neg.2 (fun h=>by rw[inS_iff.2 h] at hq;cases hq)
  have hp3:¬ 0≤placeF s (ss.take k):=by omega
  have Hz:=hid (show onceF [] ss=onceF (ss.take (k+1)) (ss.drop (k+1)) by rw[hz];unfold isIn;rw[hq];rfl)
  clear hz hq
  refine wp_region_held_drew (S:=fun w'=>w'.cell? ⟨b,o+k,none⟩=some (.string s)) (by kernel_rfl) H0d.out (fun hHeld=>?_)
  refine tk 0 ?_;refine tk 1 ?_;refine tk 2 ?_;refine tk 3 ?_;refine tk 4 ?_;refine tk 5 ?_;refine tk 6 ?_;(try simp only[aput])
  refine cm 7 (fun K hK=>?_)
  (go_simp;go_fit (HP.out _ _ (Kp.refl wr).drew);rintro r w3 ⟨rfl,k3⟩)
  refine hK.out _ _ (k3.cell H0d.out) (fun hHeld=>?_)
  clear hK K
  refine tk 8 ?_;(try simp only[aput])
  refine wpAnyH_done (by kernel_rfl) ?_ _
  go_wp2
  go_roundw
  case measure=>simp only[intOf];omega
  case rel=>exact⟨k+1,by omega,by go_num,Hz.out,Hk.out.trans ((Kp.refl wr).drew.trans k3)⟩
 | true =>
 have hp:¬ placeF s (ss.take k)<0:=fun h=>placeF_neg.1 h (inS_iff.1 hq)
 have hp3:0≤placeF s (ss.take k):=by omega
 have Hz:=hid (show onceF [] ss=some (8,s) by rw[hz];unfold isIn;rw[hq];rfl)
 clear hz hq
 refine wp_region_held_drew (S:=fun w'=>w'.cell? ⟨b,o+k,none⟩=some (.string s)) (by kernel_rfl) H0d.out (fun hHeld=>?_)
 refine tk 0 ?_;refine tk 1 ?_;refine tk 2 ?_;refine tk 3 ?_;refine tk 4 ?_;refine tk 5 ?_;refine tk 6 ?_;(try simp only[aput])
 refine cm 7 (fun K hK=>?_)
 (go_simp;go_fit (HP.out _ _ (Kp.refl wr).drew);rintro r w3 ⟨rfl,k3⟩)
 refine hK.out _ _ (k3.cell H0d.out) (fun hHeld=>?_)
 clear hK K
 refine tk 8 ?_;(try simp only[aput])
 refine wpAnyH_done (by kernel_rfl) ?_ _
 clear h0
 have h0:=k3.cell H0d.out
 go_wp2_with (first
  | (go_at_call 69;go_fit (rfault_any 8 s w3);rintro r w4 ⟨rfl,k4⟩;have hR:=HR.out.kp (Hk.out.trans ((Kp.refl wr).drew.trans (k3.trans k4)));have r0:=hR.cell 0 rfl;have r1:=hR.cell 1 rfl;have f0:=hR.2.1 0;have f1:=hR.2.1 1;have HRR:=hid hR;clear hR)
  | fail)
 generalize hW9:(World.setCell _ _ _).setCell _ _=W9
 obtain⟨hF,hK⟩:=box2_set HRR.out (K1.out.trans (Hk.out.trans ((Kp.refl wr).drew.trans (k3.trans k4)))) (Nat.le_refl w.heap.size) _ _ hW9
 have s0:=hF.cell 0 rfl
 have s1:=hF.cell 1 rfl
 refine bodyPost_ret (v:=.agg #[.int .i64 8,.string s]) (by simp[results,Tryz.results71,go_sem,s0,s1]) rfl ?_
 rw[Hz.out]
 exact⟨rfl,hK⟩
end
section
open Go.RowKit Go.Sort
theorem rnamed_any (p:Pr) (w:World) (B:Nat) (hat:p.at w B) (hv:probB p=true) :
  Calls Tryz.prog 70 #[.agg #[.slice p.sa p.ss.length p.sc,.slice p.pa p.ps.length p.pc,.slice p.ma p.ms.length p.mc,.int .i64 p.tn,.int .i64 p.td]] w fun r w'=>∃ v1 v2,r=.returned (.tuple #[v1,v2])∧OwnU w w' v1 (stN p)∧OwnU w w' v2 (allN p):=by
 have hss:=probB_ss hv
 have k1:Kp w (w.alloc (.cells #[.slice p.sa p.ss.length p.sc,.slice p.pa p.ps.length p.pc,.slice p.ma p.ms.length p.mc,.int .i64 p.tn,.int .i64 p.td] 27)):=(Kp.refl w).alloc _
 have hb:BoxV (w.alloc (.cells #[.slice p.sa p.ss.length p.sc,.slice p.pa p.ps.length p.pc,.slice p.ma p.ms.length p.mc,.int .i64 p.tn,.int .i64 p.td] 27)) w.heap.size p.cells:=BoxV.new w p.cells _ _ rfl
 go_enter Tryz.func70,Tryz.ntmps70
 go_upto_region 3 with fail
 generalize w.alloc _=W at *
 have HAT:=hid (Pr.at_kp hat k1)
 have HB:=hid hb
 have K1:=hid k1
 clear hb k1 hat hv
 go_loopw [4,6] (fun y z wr=>∃ k:Nat,k≤p.ss.length∧z=.int .i64 k∧OwnU W wr y ((p.ss.take k).map De.name)) (fun _ z _=>p.ss.length-(intOf z).toNat)
 case atStart=>exact⟨0,by omega,rfl,OwnU.nil (.refl _)⟩
 case round =>
 obtain⟨k,hk,rfl,hO⟩:=hrel
 have HO:=hid hO
 have hkw:=hO.1
 have hq:=HB.out.kp (hkw)
 have q0:=hq.cell 0 rfl
 clear hq
 by_cases hlt:k<p.ss.length
 ·obtain⟨d,hs⟩:∃ d,p.ss[k]? = some d:=⟨_,List.getElem?_eq_getElem hlt⟩
  obtain⟨b,o,ha,_,hc⟩:=HAT.out.2.1.1.kp (hkw) k d hs
  have HT:=hid (take_map De.name hs)
  have hl2:((p.ss.take k).map De.name).length≤100:=by simp only[List.length_map,List.length_take];omega
  have h0:wr.cell? ⟨b,o+k*5,none⟩=some (.string d.name):=hc 0 _ rfl
  rw[ha] at q0
  generalize hnn:((p.ss.take k).map De.name)=nn at *
  have HNN:=hid hnn
  clear hc hs hkw ha hO hnn
  go_wp2_with (at_builtin;refine wpList_append_us rfl _ _ rfl W _ nn rfl (HO.out.kp ((Kp.refl _).alloc _)) ⟨wr.heap.size,0,none⟩ 1 [d.name] 1 rfl rfl (rowS_one _ _ _ (by simp)) (by simp only[List.length_cons,List.length_nil];omega) ?_;intro v' w5 hO5)
  go_roundw
  case measure=>simp only[intOf];omega
  case rel=>exact⟨k+1,by omega,by go_num,by rw[HT.out,← HNN.out] at *;first | exact hO5 | (rw[← List.append_assoc];exact hO5)⟩
 have hk2:k=p.ss.length:=by omega
 subst hk2
 rw[List.take_length] at HO
 clear hO hkw
 obtain⟨g,c4,rfl,_,_,_,hr4⟩:=HO.out.row (by rw[List.length_map];omega)
 have HR4:=hid hr4
 have KW:=hid HO.out.1
 obtain⟨V2,hV⟩:∃ V:World,V=wr:=⟨_,rfl⟩
 subst hV
 clear hr4
 have HR5:=hid (show ∀ (i:Nat) (y:ByteArray),(p.ss.map De.name)[i]? = some y→V2.cell? ((⟨g,0,none⟩:Addr).add i)=some (.string y) from fun i y hy=>by
  obtain⟨b2,o2,e,hc⟩:=HR4.out i y hy
  cases e
  rw[addr_add];exact hc)
 go_upto_region 8 with (at_builtin;refine wpList_append_us rfl _ _ rfl V2 _ [] rfl (OwnU.nil (.refl _)) ⟨g,0,none⟩ c4 (p.ss.map De.name) _ rfl rfl HR5.out (by simp only[List.length_nil,List.length_map];omega) ?_;rw[List.nil_append];intro v5 w5 hO5)
 clear q0
 have HO5:=hid hO5
 clear hO5
 go_loopw [5,7] (fun y z wr=>∃ k:Nat,k≤p.ps.length∧z=.int .i64 k∧OwnU V2 wr y (p.ss.map De.name++(p.ps.take k).map De.name)) (fun _ z _=>p.ps.length-(intOf z).toNat)
 case atStart=>exact⟨0,by omega,rfl,by simpa using HO5.out⟩
 case round =>
 obtain⟨k,hk2,rfl,hO2⟩:=hrel
 have HO2:=hid hO2
 have hkw2:=hO2.1
 have hq:=HB.out.kp (KW.out.trans hkw2)
 have q1:=hq.cell 1 rfl
 clear hq
 by_cases hlt2:k<p.ps.length
 rotate_left
 ·have hk3:k=p.ps.length:=by omega
  subst hk3
  rw[List.take_length] at HO2
  clear hO2
  obtain⟨a5,c5,rfl,_⟩:=HO2.out.sl
  go_wp2
  refine bodyPost_ret (v:=.tuple #[.slice (some ⟨g,0,none⟩) (p.ss.map De.name).length c4,.slice a5 (p.ss.map De.name++p.ps.map De.name).length c5]) (by simp[results,Tryz.results70,go_sem]) rfl ?_
  exact⟨_,_,rfl,(HO.out.kp hkw2).base K1.out,HO2.out.base (K1.out.trans KW.out)⟩
 obtain⟨d,hs⟩:∃ d,p.ps[k]? = some d:=⟨_,List.getElem?_eq_getElem hlt2⟩
 obtain⟨b,o,ha,_,hc⟩:=HAT.out.2.2.1.1.kp (KW.out.trans hkw2) k d hs
 have HT:=hid (take_map De.name hs)
 have hl2:(p.ss.map De.name++(p.ps.take k).map De.name).length≤100:=by simp only[List.length_append,List.length_map,List.length_take];omega
 have h0:wr.cell? ⟨b,o+k*5,none⟩=some (.string d.name):=hc 0 _ rfl
 rw[ha] at q1
 obtain⟨nn,hnn⟩:∃ nn,nn=p.ss.map De.name++(p.ps.take k).map De.name:=⟨_,rfl⟩
 rw[← hnn] at HO2 hl2
 have HNN:=hid hnn
 clear hc hs hkw2 ha hO2 hnn
 go_wp2_with (at_builtin;refine wpList_append_us rfl _ _ rfl V2 _ nn rfl (HO2.out.kp ((Kp.refl _).alloc _)) ⟨wr.heap.size,0,none⟩ 1 [d.name] 1 rfl rfl (rowS_one _ _ _ (by simp)) (by simp only[List.length_cons,List.length_nil];omega) ?_;intro v' w6 hO6)
 go_roundw
 case measure=>simp only[intOf];omega
 case rel=>exact⟨k+1,by omega,by go_num,by rw[HT.out,← List.append_assoc,← HNN.out];exact hO6⟩
end
end Go.Proofs.YteidgoldnllabaaGreatDoor
