/-
  Walks: ProblemAccepts.
-/
import Derived.Test.YteidgoldnllabaaGreatDoorMLawQa
import Derived.Test.YteidgoldnllabaaGreatDoorMRvsN
namespace Go.Proofs.YteidgoldnllabaaGreatDoor
open Go.RowKit Go.Sort
def manyB (x:RI):Bool:=decide (300<x.lo.xs.length)||decide (300<x.hi.xs.length)
set_option maxHeartbeats 2000000 in
set_option maxRecDepth 20000 in
theorem acc1_any (x:RI) (w:World):Calls Tryz.prog 50 #[.agg #[.bool x.lo.neg,.slice x.lo.a x.lo.xs.length x.lo.c,.int .i64 x.lo.e,.bool x.hi.neg,.slice x.hi.a x.hi.xs.length x.hi.c,.int .i64 x.hi.e,.bool x.all]] w fun r w'=>r=.returned (.bool (manyB x))∧Kp w w':=by
 have k1:Kp w (w.alloc (.cells #[.bool x.lo.neg,.slice x.lo.a x.lo.xs.length x.lo.c,.int .i64 x.lo.e,.bool x.hi.neg,.slice x.hi.a x.hi.xs.length x.hi.c,.int .i64 x.hi.e,.bool x.all] 115)):=(Kp.refl w).alloc _
 have h0:BoxV (w.alloc (.cells #[.bool x.lo.neg,.slice x.lo.a x.lo.xs.length x.lo.c,.int .i64 x.lo.e,.bool x.hi.neg,.slice x.hi.a x.hi.xs.length x.hi.c,.int .i64 x.hi.e,.bool x.all] 115)) w.heap.size [.bool x.lo.neg,.slice x.lo.a x.lo.xs.length x.lo.c,.int .i64 x.lo.e,.bool x.hi.neg,.slice x.hi.a x.hi.xs.length x.hi.c,.int .i64 x.hi.e,.bool x.all]:=BoxV.new w [_,_,_,_,_,_,_] _ _ rfl
 obtain⟨R,hR⟩:∃ R,manyB x=R:=⟨_,rfl⟩
 rw[hR]
 go_enter Tryz.func50,Tryz.ntmps50
 go_upto_region 1 with fail
 generalize w.alloc _=W at *
 have c1:=h0.cell 1 rfl
 have c4:=h0.cell 4 rfl
 have K1:=Lib.hid k1
 clear h0 k1
 by_cases h1:(300:Int)<(x.lo.xs.length:Int)
 ·have HZ:=Lib.hid (show R=true by rw[← hR];unfold manyB;rw[decide_eq_true (by omega)];rfl)
  clear hR
  go_wp2_with fail
  go_ret
  exact⟨ret_bool (by rw[HZ.out]),K1.out⟩
 have HZ:=Lib.hid (show R=decide ((300:Int)<(x.hi.xs.length:Int)) by
  rw[← hR];unfold manyB;rw[decide_eq_false (by omega),Bool.false_or];exact decide_eq_decide.2 ⟨fun h=>by omega,fun h=>by omega⟩)
 clear hR
 go_wp2_with fail
 go_ret
 exact⟨ret_bool (by rw[HZ.out]),K1.out⟩
set_option maxHeartbeats 8000000 in
set_option maxRecDepth 20000 in
theorem Accepts_ok (x:Sy) (w:World) (hx:(RowV Opn.cells 6 w w.heap.size x.oa x.ops∧RowV numC 1 w w.heap.size x.ua x.outs∧RowI w x.pa x.ps)∧x.ops.length≤1048576∧x.outs.length≤1048576∧x.ps.length≤1048576) (hT:Tab w) :
  Calls Tryz.prog 10 #[.agg #[.int .i64 x.ins,.slice x.oa x.ops.length x.oc,.slice x.ua x.outs.length x.uc,.int .i64 x.st,.slice x.pa x.ps.length x.pc]] w fun r w'=>r=.returned (.bool true)∧Kp w w':=by
 have k1:Kp w (w.alloc (.cells #[.int .i64 x.ins,.slice x.oa x.ops.length x.oc,.slice x.ua x.outs.length x.uc,.int .i64 x.st,.slice x.pa x.ps.length x.pc] 60)):=(Kp.refl w).alloc _
 have h0:BoxV (w.alloc (.cells #[.int .i64 x.ins,.slice x.oa x.ops.length x.oc,.slice x.ua x.outs.length x.uc,.int .i64 x.st,.slice x.pa x.ps.length x.pc] 60)) w.heap.size x.cells:=BoxV.new w x.cells _ _ rfl
 obtain⟨⟨ho,hu,hp⟩,lo,lu,lp⟩:=hx
 go_enter Tryz.func10,Tryz.ntmps10
 go_upto_region 1 with fail
 generalize w.alloc _=W at *
 have HAW:=Lib.hid (awakeq_any W (hT.kp k1))
 have HV1:=Lib.hid fun W' (k:Kp W W')=>vsys_any x W' w.heap.size w.heap.size (ho.kp (k1.trans k)) (hu.kp (k1.trans k)) (hp.kp (k1.trans k)) (by omega) (by omega) (by omega)
 have HV2:=Lib.hid fun W' (k:Kp W W')=>r16vsys_any x W' w.heap.size w.heap.size (ho.kp (k1.trans k)) (hu.kp (k1.trans k)) (hp.kp (k1.trans k)) (by omega) (by omega) (by omega)
 have HCi:=Lib.hid fun W' (k:Kp W W')=>containsI x.pa x.ps x.pc 50 #[] W' manyB (by omega) (hp.kp (k1.trans k)) ⟨fun _ _=>by kernel_rfl,fun z _ w1 _=>acc1_any z w1⟩
 have H0:=Lib.hid h0
 have K1:=Lib.hid k1
 clear h0 k1 ho hu hp hT
 go_upto_region 3 with (first | (go_at_call 13;go_fit HAW.out;rintro r w2 ⟨rfl,k2⟩) | fail)
 have hq:=H0.out.kp k2
 have q0:=hq.cell 0 rfl;have q1:=hq.cell 1 rfl;have q2:=hq.cell 2 rfl;have q3:=hq.cell 3 rfl;have q4:=hq.cell 4 rfl
 clear hq
 have K2:=Lib.hid k2
 clear k2
 by_cases h1:(300:Int)<(x.ops.length:Int)
 ·go_wp2_with fail
  go_ret
  exact⟨rfl,K1.out.trans K2.out⟩
 by_cases h2:(300:Int)<(x.outs.length:Int)
 ·go_wp2_with fail
  go_ret
  exact⟨rfl,K1.out.trans K2.out⟩
 by_cases h3:(20:Int)<(x.ps.length:Int)
 ·go_wp2_with fail
  go_ret
  exact⟨rfl,K1.out.trans K2.out⟩
 replace HCi:=Lib.hid (HCi.out w2 K2.out)
 generalize x.ps.any manyB=M at *
 cases M with
 | true =>
  go_wp2_with (first | (go_at_call 49;go_fit HCi.out;rintro r w3 ⟨rfl,k3⟩) | fail)
  go_ret
  exact⟨rfl,K1.out.trans (K2.out.trans k3)⟩
 | false =>
 generalize sysB x=R at *
 go_upto_region 5 with (first
  | (go_at_call 49;go_fit HCi.out;rintro r w3 ⟨rfl,k3⟩;have K3:=Lib.hid (K2.out.trans k3);clear k3 q0 q1 q2 q3 q4;have hq:=H0.out.kp K3.out;have q0:=hq.cell 0 rfl;have q1:=hq.cell 1 rfl;have q2:=hq.cell 2 rfl;have q3:=hq.cell 3 rfl;have q4:=hq.cell 4 rfl;clear hq)
  | fail)
 have hSd:w3.drew.cell? ⟨w.heap.size,0,none⟩=some (.int .i64 x.ins)∧w3.drew.cell? ⟨w.heap.size,1,none⟩=some (.slice x.oa x.ops.length x.oc)∧w3.drew.cell? ⟨w.heap.size,2,none⟩=some (.slice x.ua x.outs.length x.uc)∧w3.drew.cell? ⟨w.heap.size,3,none⟩=some (.int .i64 x.st)∧w3.drew.cell? ⟨w.heap.size,4,none⟩=some (.slice x.pa x.ps.length x.pc):=keep5 (Kp.refl w3).drew ⟨q0,q1,q2,q3,q4⟩
 have HSd:=Lib.hid hSd
 clear q0 q1 q2 q3 q4
 refine wp_region_held_drew (S:=fun w'=>w'.cell? ⟨w.heap.size,0,none⟩=some (.int .i64 x.ins)∧w'.cell? ⟨w.heap.size,1,none⟩=some (.slice x.oa x.ops.length x.oc)∧w'.cell? ⟨w.heap.size,2,none⟩=some (.slice x.ua x.outs.length x.uc)∧w'.cell? ⟨w.heap.size,3,none⟩=some (.int .i64 x.st)∧w'.cell? ⟨w.heap.size,4,none⟩=some (.slice x.pa x.ps.length x.pc)) (by kernel_rfl) hSd (fun hHeld=>?_)
 clear hSd
 refine tk 0 ?_;refine tk 2 ?_;(try simp only[Act.put,List.getElem_toArray,List.getElem_cons_zero,List.getElem_cons_succ,List.setIfInBounds_toArray,List.set_cons_zero,List.set_cons_succ])
 refine cm 1 (fun K hK=>?_)
 (go_simp;go_fit (HV1.out _ (K3.out.trans (Kp.refl w3).drew));rintro r w4 ⟨rfl,k4⟩)
 refine hK.out _ _ (keep5 k4 HSd.out) (fun hHeld=>?_)
 clear hK K
 refine cm 3 (fun K hK=>?_)
 (go_simp;go_fit (HV2.out _ (K3.out.trans ((Kp.refl w3).drew.trans k4)));rintro r w5 ⟨rfl,k5⟩)
 refine hK.out _ _ (keep5 (k4.trans k5) HSd.out) (fun hHeld=>?_)
 clear hK K
 refine tk 4 ?_;refine tk 5 ?_;(try simp only[Act.put,List.getElem_toArray,List.getElem_cons_zero,List.getElem_cons_succ,List.setIfInBounds_toArray,List.set_cons_zero,List.set_cons_succ])
 refine wpAnyH_done (by kernel_rfl) ?_ _
 go_wp2_with fail
 go_ret
 exact⟨ret_bool (by simp),K1.out.trans (K3.out.trans ((Kp.refl w3).drew.trans (k4.trans k5)))⟩
end Go.Proofs.YteidgoldnllabaaGreatDoor
