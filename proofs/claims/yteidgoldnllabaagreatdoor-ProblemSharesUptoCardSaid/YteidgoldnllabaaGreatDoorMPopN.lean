/-
  Walks: problem.op.
-/
import Derived.Deep.CutRange
import Derived.Test.YteidgoldnllabaaGreatDoorMLawQa
import Derived.Test.YteidgoldnllabaaGreatDoorMCmpR
namespace Go.Proofs.YteidgoldnllabaaGreatDoor
open Go.RowKit Go.Sort
theorem opB_two {k:Int} (h:3≤k∧k≤6) (a b n cn cd bf:Int):opB ⟨k,a,b,n,cn,cd⟩ bf=decide ((cn=0∧cd=0)∧(0≤a∧a<bf)∧(0≤b∧b<bf)∧n=0):=by
 unfold opB
 rw[if_neg (show ¬ k=1 by omega),if_pos (show 3≤k∧k≤6 from h)]
theorem opB_pow (a b n cn cd bf:Int):opB ⟨8,a,b,n,cn,cd⟩ bf=decide ((cn=0∧cd=0)∧(0≤a∧a<bf)∧b=0∧0≤n∧n≤16):=rfl
theorem opB_one {k:Int} (h:k=7∨(9≤k∧k≤13)) (a b n cn cd bf:Int):opB ⟨k,a,b,n,cn,cd⟩ bf=decide ((cn=0∧cd=0)∧(0≤a∧a<bf)∧b=0∧n=0):=by
 unfold opB
 rw[if_neg (show ¬ k=1 by omega),if_neg (show ¬ (3≤k∧k≤6) by omega),if_neg (show ¬ k=8 by omega),if_pos (show k=7∨(9≤k∧k≤13) from h)]
theorem opB_no {k:Int} (h:¬ (k=1∨(3≤k∧k≤13))) (a b n cn cd bf:Int):opB ⟨k,a,b,n,cn,cd⟩ bf=false:=by
 unfold opB
 rw[if_neg (show ¬ k=1 by omega),if_neg (show ¬ (3≤k∧k≤6) by omega),if_neg (show ¬ k=8 by omega),if_neg (show ¬ (k=7∨(9≤k∧k≤13)) by omega)]
theorem opC_dec {R Cb:Bool} {q p:Prop} [Decidable q] [Decidable p] (hC:decide q=Cb) (h:R=decide (q∧p)):R=(Cb&&decide p):=by rw[h,← hC,Bool.decide_and]
theorem bool_dec {b:Bool} {p:Prop} [Decidable p] (h:b=true↔p):b=decide p:=by
 rw[Bool.eq_iff_iff,h,decide_eq_true_iff]
set_option maxHeartbeats 8000000 in
set_option maxRecDepth 20000 in
theorem pop_any (k a b n cn cd bf:Int) (w:World):Calls Tryz.prog 110 #[.agg #[.int .i64 k,.int .i64 a,.int .i64 b,.int .i64 n,.int .i64 cn,.int .i64 cd],.int .i64 bf] w fun r w'=>r=.returned (.bool (opB ⟨k,a,b,n,cn,cd⟩ bf))∧Kp w w':=by
 have k1:Kp w (w.alloc (.cells #[.int .i64 k,.int .i64 a,.int .i64 b,.int .i64 n,.int .i64 cn,.int .i64 cd] 120)):=(Kp.refl w).alloc _
 have h0:BoxV (w.alloc (.cells #[.int .i64 k,.int .i64 a,.int .i64 b,.int .i64 n,.int .i64 cn,.int .i64 cd] 120)) w.heap.size [.int .i64 k,.int .i64 a,.int .i64 b,.int .i64 n,.int .i64 cn,.int .i64 cd]:=BoxV.new w [_,_,_,_,_,_] _ _ rfl
 obtain⟨R,hR⟩:∃ R,opB ⟨k,a,b,n,cn,cd⟩ bf=R:=⟨_,rfl⟩
 rw[hR]
 go_enter Tryz.func110,Tryz.ntmps110
 go_upto_region 1 with fail
 generalize w.alloc _=W at *
 have c0:=h0.cell 0 rfl;have c1:=h0.cell 1 rfl;have c2:=h0.cell 2 rfl;have c3:=h0.cell 3 rfl;have c4:=h0.cell 4 rfl;have c5:=h0.cell 5 rfl
 have H0:=Lib.hid h0
 have K1:=Lib.hid k1
 clear h0 k1
 have HV:=Lib.hid (rvalid_any cn cd W)
 by_cases ha:a<0
 ·have HZ:=Lib.hid (show R=false by
   rw[← hR]
   unfold opB
   simp only
   split
   ·rw[decide_eq_false (by omega),Bool.and_false]
   ·split
    ·exact decide_eq_false (by omega)
    ·split
     ·exact decide_eq_false (by omega)
     ·split
      ·exact decide_eq_false (by omega)
      ·rfl)
  clear hR
  go_wp2_with fail
  go_ret
  exact⟨ret_bool (by rw[HZ.out]),K1.out⟩
 by_cases hb:b<0
 ·have HZ:=Lib.hid (show R=false by
   rw[← hR]
   unfold opB
   simp only
   split
   ·rw[decide_eq_false (by omega),Bool.and_false]
   ·split
    ·exact decide_eq_false (by omega)
    ·split
     ·exact decide_eq_false (by omega)
     ·split
      ·exact decide_eq_false (by omega)
      ·rfl)
  clear hR
  go_wp2_with fail
  go_ret
  exact⟨ret_bool (by rw[HZ.out]),K1.out⟩
 have HR:=Lib.hid hR
 clear hR
 obtain⟨Cb,hC⟩:∃ Cb,decide (cn=0∧cd=0)=Cb:=⟨_,rfl⟩
 have HC:=Lib.hid hC
 clear hC
 go_upto_region 3 with fail
 go_cut [5] from 14 to 18 (fun s wx=>s=.bool Cb∧wx=W)
 case first =>
  clear HV
  by_cases h1:cn=0
  rotate_left
  ·have f:(cn==0)=false:=beq_eq_false_iff_ne.2 h1
   obtain rfl:false=Cb:=(decide_eq_false fun h=>h1 h.1).symm.trans HC.out
   clear h1
   go_wp2_with fail
   go_meet
   case rel=>exact⟨rfl,rfl⟩
  subst h1
  by_cases h2:cd=0
  ·subst h2
   obtain rfl:true=Cb:=HC.out
   go_wp2_with fail
   go_meet
   case rel=>exact⟨rfl,rfl⟩
  have f:(cd==0)=false:=beq_eq_false_iff_ne.2 h2
  obtain rfl:false=Cb:=(decide_eq_false fun h=>h2 h.2).symm.trans HC.out
  clear h2
  go_wp2_with fail
  go_meet
  case rel=>exact⟨rfl,rfl⟩
 case rest =>
 obtain⟨rfl,hwx⟩:=hcut
 subst hwx
 by_cases hk1:k=1
 ·subst hk1
  have HZ:=Lib.hid (show R=(ratB cn cd&&decide (a=0∧b=0∧n=0)) from HR.out.symm)
  clear HR
  cases hv:ratB cn cd with
  | true =>
   rw[hv,Bool.true_and] at HZ
   rw[hv] at HV
   clear hv
   go_wp2_with (first | (go_at_call 119;go_fit HV.out;rintro r w2 ⟨rfl,k2⟩;have hq:=H0.out.kp k2;clear c0 c1 c2 c3 c4 c5;have c0:=hq.cell 0 rfl;have c1:=hq.cell 1 rfl;have c2:=hq.cell 2 rfl;have c3:=hq.cell 3 rfl;have c4:=hq.cell 4 rfl;have c5:=hq.cell 5 rfl;clear hq) | fail)
   all_goals (go_ret;exact⟨ret_bool (by rw[HZ.out];first | exact (decide_eq_false (by omega)).symm | exact bool_dec (beq_iff_eq.trans ⟨fun h=>by omega,fun h=>by omega⟩) | exact decide_eq_decide.2 ⟨fun h=>by omega,fun h=>by omega⟩),K1.out.trans k2⟩)
  | false =>
  rw[hv] at HZ HV
  clear hv
  go_wp2_with (first | (go_at_call 119;go_fit HV.out;rintro r w2 ⟨rfl,k2⟩) | fail)
  go_ret
  exact⟨ret_bool (by rw[HZ.out];rfl),K1.out.trans k2⟩
 clear HV
 by_cases hk2:3≤k∧k≤13
 rotate_left
 ·have HZ:=Lib.hid (show R=false from HR.out.symm.trans (opB_no (by omega) _ _ _ _ _ _))
  have n3:¬ k=3:=by omega
  have n4:¬ k=4:=by omega
  have n5:¬ k=5:=by omega
  have n6:¬ k=6:=by omega
  have n7:¬ k=7:=by omega
  have n8:¬ k=8:=by omega
  have n9:¬ k=9:=by omega
  have m0:¬ k=10:=by omega
  have m1:¬ k=11:=by omega
  have m2:¬ k=12:=by omega
  have m3:¬ k=13:=by omega
  clear HR
  go_wp2_with fail
  go_ret
  exact⟨ret_bool (by rw[HZ.out]),K1.out⟩
 cases Cb with
 | false =>
  have HZ:=Lib.hid (show R=false by
   rcases (show k=8∨(3≤k∧k≤6)∨(k=7∨(9≤k∧k≤13)) by omega) with h | h | h
   ·subst h;exact opC_dec HC.out (HR.out.symm.trans (opB_pow _ _ _ _ _ _))
   ·exact opC_dec HC.out (HR.out.symm.trans (opB_two h _ _ _ _ _ _))
   ·exact opC_dec HC.out (HR.out.symm.trans (opB_one h _ _ _ _ _ _)))
  clear HR HC
  rcases (show k=3∨k=4∨k=5∨k=6∨k=7∨k=8∨k=9∨k=10∨k=11∨k=12∨k=13 by omega) with rfl | rfl | rfl | rfl | rfl | rfl | rfl | rfl | rfl | rfl | rfl
  all_goals (go_wp2_with fail;go_ret;exact⟨ret_bool (by rw[HZ.out]),K1.out⟩)
 | true =>
 by_cases h2:3≤k∧k≤6
 ·have HZ:=Lib.hid (show R=decide ((0≤a∧a<bf)∧(0≤b∧b<bf)∧n=0) from (opC_dec HC.out (HR.out.symm.trans (opB_two h2 _ _ _ _ _ _))).trans (Bool.true_and _))
  clear HR HC
  rcases (show k=3∨k=4∨k=5∨k=6 by omega) with rfl | rfl | rfl | rfl
  all_goals (go_wp2_with fail)
  all_goals (go_ret;exact⟨ret_bool (by rw[HZ.out];first | exact (decide_eq_false (by omega)).symm | exact bool_dec (beq_iff_eq.trans ⟨fun h=>by omega,fun h=>by omega⟩) | exact decide_eq_decide.2 ⟨fun h=>by omega,fun h=>by omega⟩),K1.out⟩)
 by_cases h8:k=8
 ·subst h8
  have HZ:=Lib.hid (show R=decide ((0≤a∧a<bf)∧b=0∧0≤n∧n≤16) from (opC_dec HC.out (HR.out.symm.trans (opB_pow _ _ _ _ _ _))).trans (Bool.true_and _))
  clear HR HC
  go_wp2_with fail
  all_goals (go_ret;exact⟨ret_bool (by rw[HZ.out];first | exact (decide_eq_false (by omega)).symm | exact bool_dec (beq_iff_eq.trans ⟨fun h=>by omega,fun h=>by omega⟩) | exact decide_eq_decide.2 ⟨fun h=>by omega,fun h=>by omega⟩),K1.out⟩)
 have HZ:=Lib.hid (show R=decide ((0≤a∧a<bf)∧b=0∧n=0) from (opC_dec HC.out (HR.out.symm.trans (opB_one (by omega) _ _ _ _ _ _))).trans (Bool.true_and _))
 clear HR HC
 rcases (show k=7∨k=9∨k=10∨k=11∨k=12∨k=13 by omega) with rfl | rfl | rfl | rfl | rfl | rfl
 all_goals (go_wp2_with fail)
 all_goals (go_ret;exact⟨ret_bool (by rw[HZ.out];first | exact (decide_eq_false (by omega)).symm | exact bool_dec (beq_iff_eq.trans ⟨fun h=>by omega,fun h=>by omega⟩) | exact decide_eq_decide.2 ⟨fun h=>by omega,fun h=>by omega⟩),K1.out⟩)
end Go.Proofs.YteidgoldnllabaaGreatDoor
