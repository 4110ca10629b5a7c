/-
  Walks: the problem law's awake.
-/
import Derived.Test.YteidgoldnllabaaGreatDoorMAwkQ
namespace Go.Proofs.YteidgoldnllabaaGreatDoor
open Go.RowKit Go.Sort
theorem eqop_self (a a':Option Addr) (zs ys:List Opn) (n c d B B':Nat) (w:World) (hn:zs.length=n) (hm:zs.length≤1100000) (h:RowV Opn.cells 6 w B a zs) (h':RowV Opn.cells 6 w B' a' ys) (e:zs=ys) :
  Calls Tryz.prog 59 #[.slice a n c,.slice a' n d] w fun e w'=>e=.returned (.bool true)∧Kp w w':=by
 subst hn e
 refine (eqop_any a a' zs zs c d B B' w hm hm h h').mono fun r w' hh=>?_
 rw[decide_eq_true rfl] at hh
 exact hh
theorem eqint_self (a a':Option Addr) (zs ys:List Int) (n c d B B':Nat) (w:World) (hn:zs.length=n) (hm:zs.length≤1100000) (h:RowV numC 1 w B a zs) (h':RowV numC 1 w B' a' ys) (e:zs=ys) :
  Calls Tryz.prog 58 #[.slice a n c,.slice a' n d] w fun e w'=>e=.returned (.bool true)∧Kp w w':=by
 subst hn e
 refine (eqint_any a a' zs zs c d B B' w hm hm h h').mono fun r w' hh=>?_
 rw[decide_eq_true rfl] at hh
 exact hh
def SyqOut (w:World) (r:Ending) (w':World):Prop:=∃ oa oc ua uc pa pc,r=.returned (.tuple #[.agg #[.int .i64 2,.slice oa 2 oc,.slice ua 2 uc,.int .i64 2,.slice pa 0 pc],.int .i64 0])∧RowV Opn.cells 6 w' w'.heap.size oa [⟨5,0,0,0,0,0⟩,⟨7,2,0,0,0,0⟩]∧RowV numC 1 w' w'.heap.size ua [1,3]∧Kp w w'
theorem system_ex (sa ma fa a1 a2:Option Addr) (w:World) (hat:(exP sa ma fa a1 a2).at w w.heap.size) (hT:Tab w) :
  Calls Tryz.prog 28 #[.agg #[.slice sa 2 2,.slice none 0 0,.slice ma 1 1,.int .i64 1,.int .i64 1],.string ⟨#[114,117,110]⟩,.int .i64 60] w (SyqOut w):=by
 refine (system_any (exP sa ma fa a1 a2) nRun 60 w w.heap.size hat (Nat.le_refl _) hT).mono ?_
 rintro r w' ⟨x,rfl,⟨h1,h2,_,_⟩,hv,k⟩
 rw[exP_sysE]
 rw[exP_sysV] at hv
 obtain⟨ins,oa,oc,ops,ua,uc,outs,st,pa,pc,ps⟩:=x
 simp only[Sy.val,Prod.mk.injEq,List.map_eq_nil_iff] at hv
 obtain⟨rfl,rfl,rfl,rfl,rfl⟩:=hv
 exact⟨oa,oc,ua,uc,pa,pc,rfl,h1,h2,k⟩
theorem rowQ_ints (w:World) (T:TypeId) {w':World} (g:Nat) (hg:w.heap.size=g) (k:Kp (w.alloc (.cells #[.int .i64 1,.int .i64 3] T)) w'):RowV numC 1 w' w'.heap.size (some ⟨g,0,none⟩) [1,3]:=rowV_newg (cells:=numC) (k:=1) (fun _=>rfl) (by decide) g hg [1,3] k
theorem rowQ_ops (w:World) (T:TypeId) {w':World} (g:Nat) (hg:w.heap.size=g) (k:Kp (w.alloc (.cells #[.int .i64 5,.int .i64 0,.int .i64 0,.int .i64 0,.int .i64 0,.int .i64 0,.int .i64 7,.int .i64 2,.int .i64 0,.int .i64 0,.int .i64 0,.int .i64 0] T)) w'):RowV Opn.cells 6 w' w'.heap.size (some ⟨g,0,none⟩) [⟨5,0,0,0,0,0⟩,⟨7,2,0,0,0,0⟩]:=rowV_newg (cells:=Opn.cells) (k:=6) (fun _=>rfl) (by decide) g hg [⟨5,0,0,0,0,0⟩,⟨7,2,0,0,0,0⟩] k
set_option maxHeartbeats 8000000 in
set_option maxRecDepth 20000 in
theorem awakeq_any (w:World) (hT:Tab w):Calls Tryz.prog 13 #[] w fun r w'=>r=.returned (.bool true)∧Kp w w':=by
 have HT:=Lib.hid hT
 clear hT
 go_enter Tryz.func13,Tryz.ntmps13
 go_upto_region 2 with (first
  | (go_at_call 57;go_fit (exampleq_any _);rintro r w1 ⟨sa,ma,fa,a1,a2,rfl,hat,k1⟩)
  | (go_at_call 28;go_fit (system_ex sa ma fa a1 a2 w1 hat (HT.out.kp k1));rintro r w2 ⟨oa,oc,ua,uc,pa,pc,rfl,ho,hu,k2⟩)
  | fail)
 have kA:=(Kp.refl w2).alloc (.cells #[.int .i64 2,.slice oa 2 oc,.slice ua 2 uc,.int .i64 2,.slice pa 0 pc] 60)
 have hB:BoxV (w2.alloc (.cells #[.int .i64 2,.slice oa 2 oc,.slice ua 2 uc,.int .i64 2,.slice pa 0 pc] 60)) w2.heap.size [.int .i64 2,.slice oa 2 oc,.slice ua 2 uc,.int .i64 2,.slice pa 0 pc]:=BoxV.new w2 [_,_,_,_,_] _ _ rfl
 have HO:=Lib.hid (ho.kpB kA)
 have HU:=Lib.hid (hu.kpB kA)
 have HK:=Lib.hid (k1.trans (k2.trans kA))
 clear ho hu k1 k2 kA hat
 generalize w2.alloc _=W at *
 have HB:=Lib.hid hB
 have c0:=hB.cell 0 rfl;have c1:=hB.cell 1 rfl;have c2:=hB.cell 2 rfl;have c3:=hB.cell 3 rfl;have c4:=hB.cell 4 rfl
 clear hB
 go_wp2_with (first
  | (go_at_call 58;go_fit (eqint_self ua _ [1,3] [1,3] 2 uc _ _ _ _ rfl (by decide) (HU.out.kpB ((Kp.refl _).alloc _)) (rowQ_ints W _ _ rfl (Kp.refl _)) rfl);rintro r w3 ⟨rfl,k3⟩;have HK3:=Lib.hid (((Kp.refl W).alloc _).trans k3);clear k3 c0 c1 c2 c3 c4;have hB:=HB.out.kp HK3.out;have c1:=hB.cell 1 rfl;have c0:=hB.cell 0 rfl;clear hB)
  | (go_at_call 59;go_fit (eqop_self oa _ [⟨5,0,0,0,0,0⟩,⟨7,2,0,0,0,0⟩] [⟨5,0,0,0,0,0⟩,⟨7,2,0,0,0,0⟩] 2 oc _ _ _ _ rfl (by decide) (HO.out.kpB (HK3.out.alloc _)) (rowQ_ops w3 _ _ rfl (Kp.refl _)) rfl);rintro r w4 ⟨rfl,k4⟩)
  | fail)
 go_ret
 exact⟨rfl,HK.out.trans ((HK3.out.alloc _).trans k4)⟩
end Go.Proofs.YteidgoldnllabaaGreatDoor
