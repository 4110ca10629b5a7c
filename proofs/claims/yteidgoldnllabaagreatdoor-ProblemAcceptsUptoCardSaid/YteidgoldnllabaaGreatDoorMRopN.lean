/-
  Walks: ref16.op.
-/
import Derived.Test.YteidgoldnllabaaGreatDoorMPopN
import Derived.Test.YteidgoldnllabaaGreatDoorMIdxX
namespace Go.Proofs.YteidgoldnllabaaGreatDoor
open Go.RowKit Go.Sort
theorem boxW_set {w W:World} {g:Nat} {vs:List Value} (h:BoxV W g vs) (k:Kp w W) (hg:w.heap.size≤g) {i:Nat} (hi:i<vs.length) (x:Value):BoxV (W.setCell ⟨g,i,none⟩ x) g (vs.set i x)∧Kp w (W.setCell ⟨g,i,none⟩ x):=⟨h.set hi x,k.set hg x⟩
set_option maxHeartbeats 16000000 in
set_option maxRecDepth 20000 in
theorem r16op_any (k a b n cn cd bf:Int) (w:World):Calls Tryz.prog 116 #[.agg #[.int .i64 k,.int .i64 a,.int .i64 b,.int .i64 n,.int .i64 cn,.int .i64 cd],.int .i64 bf] w fun r w'=>r=.returned (.bool (opB ⟨k,a,b,n,cn,cd⟩ bf))∧Kp w w':=by
 have k1:Kp w (w.alloc (.cells #[.int .i64 k,.int .i64 a,.int .i64 b,.int .i64 n,.int .i64 cn,.int .i64 cd] 120)):=(Kp.refl w).alloc _
 have h0:BoxV (w.alloc (.cells #[.int .i64 k,.int .i64 a,.int .i64 b,.int .i64 n,.int .i64 cn,.int .i64 cd] 120)) w.heap.size [.int .i64 k,.int .i64 a,.int .i64 b,.int .i64 n,.int .i64 cn,.int .i64 cd]:=BoxV.new w [_,_,_,_,_,_] _ _ rfl
 obtain⟨R,hR⟩:∃ R,opB ⟨k,a,b,n,cn,cd⟩ bf=R:=⟨_,rfl⟩
 rw[hR]
 have HR:=Lib.hid hR
 clear hR
 go_enter Tryz.func116,Tryz.ntmps116
 go_upto_region 2 with fail
 generalize w.alloc _=W at *
 have c0:=h0.cell 0 rfl;have c1:=h0.cell 1 rfl;have c2:=h0.cell 2 rfl;have c3:=h0.cell 3 rfl;have c4:=h0.cell 4 rfl;have c5:=h0.cell 5 rfl
 have hW:w.heap.size<W.heap.size:=h0.2.2
 have k2:Kp W (W.alloc (.cells #[.int .i64 k,.int .i64 0,.int .i64 0,.int .i64 0,.int .i64 0,.int .i64 0] 120)):=(Kp.refl W).alloc _
 have hw:BoxV (W.alloc (.cells #[.int .i64 k,.int .i64 0,.int .i64 0,.int .i64 0,.int .i64 0,.int .i64 0] 120)) W.heap.size [.int .i64 k,.int .i64 0,.int .i64 0,.int .i64 0,.int .i64 0,.int .i64 0]:=BoxV.new W [_,_,_,_,_,_] _ _ rfl
 go_upto_region 3 with fail
 generalize W.alloc _=V at *
 clear c0 c1 c2 c3 c4 c5
 have hb:=h0.kp k2
 have K1:=Lib.hid (k1.trans k2)
 have HW:=Lib.hid hw
 have HB:=Lib.hid hb
 have c0:=hb.cell 0 rfl;have c1:=hb.cell 1 rfl;have c2:=hb.cell 2 rfl;have c3:=hb.cell 3 rfl;have c4:=hb.cell 4 rfl;have c5:=hb.cell 5 rfl
 have d0:=hw.cell 0 rfl;have d1:=hw.cell 1 rfl;have d2:=hw.cell 2 rfl;have d3:=hw.cell 3 rfl;have d4:=hw.cell 4 rfl;have d5:=hw.cell 5 rfl
 have g0:=hw.2.1 0
 have g1:=hw.2.1 1
 have g2:=hw.2.1 2
 have g3:=hw.2.1 3
 have g4:=hw.2.1 4
 have g5:=hw.2.1 5
 have HV:=Lib.hid fun W'=>r4valid_any cn cd W'
 have HLt:=Lib.hid (show w.heap.size≤W.heap.size by omega)
 clear h0 hw hb k1 k2
 by_cases hk2:k=1∨(3≤k∧k≤13)
 rotate_left
 ·have HZ:=Lib.hid (show R=false from HR.out.symm.trans (opB_no hk2 _ _ _ _ _ _))
  have n1:¬ k=1:=by omega
  have n3:¬ k=3:=by omega
  have n4:¬ k=4:=by omega
  have n5:¬ k=5:=by omega
  have n6:¬ k=6:=by omega
  have n7:¬ k=7:=by omega
  have n8:¬ k=8:=by omega
  have n9:¬ k=9:=by omega
  have m0:¬ k=10:=by omega
  have m1:¬ k=11:=by omega
  have m2:¬ k=12:=by omega
  have m3:¬ k=13:=by omega
  clear HR
  go_wp2_with fail
  go_ret
  exact⟨ret_bool (by rw[HZ.out]),K1.out⟩
 by_cases h3:3≤k∧k≤6
 ·have HZ:=Lib.hid (show R=decide ((cn=0∧cd=0)∧(0≤a∧a<bf)∧(0≤b∧b<bf)∧n=0) from HR.out.symm.trans (opB_two h3 _ _ _ _ _ _))
  clear HR HV 
  rcases (show k=3∨k=4∨k=5∨k=6 by omega) with rfl | rfl | rfl | rfl
  all_goals
   go_upto_region 28 with fail
   obtain⟨hw1,kk1⟩:=boxW_set HW.out K1.out HLt.out (i:=1) (by simp) (.int .i64 a)
   have hb1:=HB.out.other (k:=W.heap.size) (i:=1) (Nat.ne_of_lt hW) (.int .i64 a)
   clear c0 c1 c2 c3 c4 c5 d0 d1 d2 d3 d4 d5 g0 g1 g2 g3 g4 g5
   generalize V.setCell _ _=V1 at *
   have c2:=hb1.cell 2 rfl
   have d2:=hw1.cell 2 rfl
   have g2:=hw1.2.1 2
   go_upto_region 30 with fail
   obtain⟨hw2,kk2⟩:=boxW_set hw1 kk1 HLt.out (i:=2) (by simp) (.int .i64 b)
   have hb2:=hb1.other (k:=W.heap.size) (i:=2) (Nat.ne_of_lt hW) (.int .i64 b)
   clear c2 d2 g2 hb1 hw1 kk1
   generalize V1.setCell _ _=V2 at *
   have c0:=hb2.cell 0 rfl;have c1:=hb2.cell 1 rfl;have c2:=hb2.cell 2 rfl;have c3:=hb2.cell 3 rfl;have c4:=hb2.cell 4 rfl;have c5:=hb2.cell 5 rfl
   have d0:=hw2.cell 0 rfl;have d1:=hw2.cell 1 rfl;have d2:=hw2.cell 2 rfl;have d3:=hw2.cell 3 rfl;have d4:=hw2.cell 4 rfl;have d5:=hw2.cell 5 rfl
   clear hb2 hw2
   by_cases h_n:n=0
   ·subst h_n
    by_cases h_cn:cn=0
    ·subst h_cn
     by_cases h_cd:cd=0
     ·subst h_cd
      go_wp2_with fail
      all_goals (go_ret;exact⟨ret_bool (by rw[HZ.out];first | exact (decide_eq_false (by omega)).symm | exact (decide_eq_true (by omega)).symm | exact decide_eq_decide.2 ⟨fun h=>by omega,fun h=>by omega⟩ | exact (decide_eq_true ⟨trivial,trivial,trivial⟩).symm | (simp only[true_and,and_true];exact decide_eq_decide.2 ⟨fun h=>by omega,fun h=>by omega⟩)),kk2⟩)
     ·have f_cd:(cd==0)=false:=beq_eq_false_iff_ne.2 h_cd
      go_wp2_with fail
      all_goals (go_ret;exact⟨ret_bool (by rw[HZ.out];first | exact (decide_eq_false (by omega)).symm | exact (decide_eq_true (by omega)).symm | exact decide_eq_decide.2 ⟨fun h=>by omega,fun h=>by omega⟩ | exact (decide_eq_true ⟨trivial,trivial,trivial⟩).symm | (simp only[true_and,and_true];exact decide_eq_decide.2 ⟨fun h=>by omega,fun h=>by omega⟩)),kk2⟩)
    ·have f_cn:(cn==0)=false:=beq_eq_false_iff_ne.2 h_cn
     go_wp2_with fail
     all_goals (go_ret;exact⟨ret_bool (by rw[HZ.out];first | exact (decide_eq_false (by omega)).symm | exact (decide_eq_true (by omega)).symm | exact decide_eq_decide.2 ⟨fun h=>by omega,fun h=>by omega⟩ | exact (decide_eq_true ⟨trivial,trivial,trivial⟩).symm | (simp only[true_and,and_true];exact decide_eq_decide.2 ⟨fun h=>by omega,fun h=>by omega⟩)),kk2⟩)
   ·have f_n:(n==0)=false:=beq_eq_false_iff_ne.2 h_n
    go_wp2_with fail
    all_goals (go_ret;exact⟨ret_bool (by rw[HZ.out];first | exact (decide_eq_false (by omega)).symm | exact (decide_eq_true (by omega)).symm | exact decide_eq_decide.2 ⟨fun h=>by omega,fun h=>by omega⟩ | exact (decide_eq_true ⟨trivial,trivial,trivial⟩).symm | (simp only[true_and,and_true];exact decide_eq_decide.2 ⟨fun h=>by omega,fun h=>by omega⟩)),kk2⟩)
 by_cases h8:k=8
 ·subst h8
  have HZ:=Lib.hid (show R=decide ((cn=0∧cd=0)∧(0≤a∧a<bf)∧b=0∧0≤n∧n≤16) from HR.out.symm.trans (opB_pow _ _ _ _ _ _))
  clear HR HV h3 hk2
  go_upto_region 24 with fail
  obtain⟨hw1,kk1⟩:=boxW_set HW.out K1.out HLt.out (i:=3) (by simp) (.int .i64 n)
  have hb1:=HB.out.other (k:=W.heap.size) (i:=3) (Nat.ne_of_lt hW) (.int .i64 n)
  clear c0 c1 c2 c3 c4 c5 d0 d1 d2 d3 d4 d5 g0 g1 g2 g3 g4 g5
  generalize V.setCell _ _=V1 at *
  have c3:=hb1.cell 3 rfl
  have c1:=hb1.cell 1 rfl
  have d1:=hw1.cell 1 rfl
  have g1:=hw1.2.1 1
  by_cases hn0:n<0
  ·go_wp2_with fail
   all_goals (go_ret;exact⟨ret_bool (by rw[HZ.out];first | exact (decide_eq_false (by omega)).symm | exact (decide_eq_true (by omega)).symm | exact decide_eq_decide.2 ⟨fun h=>by omega,fun h=>by omega⟩ | exact (decide_eq_true ⟨trivial,trivial,trivial⟩).symm | (simp only[true_and,and_true];exact decide_eq_decide.2 ⟨fun h=>by omega,fun h=>by omega⟩)),kk1⟩)
  by_cases hn1:16<n
  ·go_wp2_with fail
   all_goals (go_ret;exact⟨ret_bool (by rw[HZ.out];first | exact (decide_eq_false (by omega)).symm | exact (decide_eq_true (by omega)).symm | exact decide_eq_decide.2 ⟨fun h=>by omega,fun h=>by omega⟩ | exact (decide_eq_true ⟨trivial,trivial,trivial⟩).symm | (simp only[true_and,and_true];exact decide_eq_decide.2 ⟨fun h=>by omega,fun h=>by omega⟩)),kk1⟩)
  go_upto_region 28 with fail
  obtain⟨hw2,kk2⟩:=boxW_set hw1 kk1 HLt.out (i:=1) (by simp) (.int .i64 a)
  have hb2:=hb1.other (k:=W.heap.size) (i:=1) (Nat.ne_of_lt hW) (.int .i64 a)
  clear c1 c3 d1 g1 hb1 hw1 kk1
  generalize V1.setCell _ _=V2 at *
  have c0:=hb2.cell 0 rfl;have c1:=hb2.cell 1 rfl;have c2:=hb2.cell 2 rfl;have c3:=hb2.cell 3 rfl;have c4:=hb2.cell 4 rfl;have c5:=hb2.cell 5 rfl
  have d0:=hw2.cell 0 rfl;have d1:=hw2.cell 1 rfl;have d2:=hw2.cell 2 rfl;have d3:=hw2.cell 3 rfl;have d4:=hw2.cell 4 rfl;have d5:=hw2.cell 5 rfl
  clear hb2 hw2
  by_cases h_b:b=0
  rotate_left
  ·have f_b:(b==0)=false:=beq_eq_false_iff_ne.2 h_b
   go_wp2_with fail
   all_goals (go_ret;exact⟨ret_bool (by rw[HZ.out];first | exact (decide_eq_false (by omega)).symm | exact (decide_eq_true (by omega)).symm | exact decide_eq_decide.2 ⟨fun h=>by omega,fun h=>by omega⟩ | exact (decide_eq_true ⟨trivial,trivial,trivial⟩).symm | (simp only[true_and,and_true];exact decide_eq_decide.2 ⟨fun h=>by omega,fun h=>by omega⟩)),kk2⟩)
  subst h_b
  by_cases h_cn:cn=0
  ·subst h_cn
   by_cases h_cd:cd=0
   ·subst h_cd
    go_wp2_with fail
    all_goals (go_ret;exact⟨ret_bool (by rw[HZ.out];first | exact (decide_eq_false (by omega)).symm | exact (decide_eq_true (by omega)).symm | exact decide_eq_decide.2 ⟨fun h=>by omega,fun h=>by omega⟩ | exact (decide_eq_true ⟨trivial,trivial,trivial⟩).symm | (simp only[true_and,and_true];exact decide_eq_decide.2 ⟨fun h=>by omega,fun h=>by omega⟩)),kk2⟩)
   have f_cd:(cd==0)=false:=beq_eq_false_iff_ne.2 h_cd
   go_wp2_with fail
   all_goals (go_ret;exact⟨ret_bool (by rw[HZ.out];first | exact (decide_eq_false (by omega)).symm | exact (decide_eq_true (by omega)).symm | exact decide_eq_decide.2 ⟨fun h=>by omega,fun h=>by omega⟩ | exact (decide_eq_true ⟨trivial,trivial,trivial⟩).symm | (simp only[true_and,and_true];exact decide_eq_decide.2 ⟨fun h=>by omega,fun h=>by omega⟩)),kk2⟩)
  have f_cn:(cn==0)=false:=beq_eq_false_iff_ne.2 h_cn
  go_wp2_with fail
  all_goals (go_ret;exact⟨ret_bool (by rw[HZ.out];first | exact (decide_eq_false (by omega)).symm | exact (decide_eq_true (by omega)).symm | exact decide_eq_decide.2 ⟨fun h=>by omega,fun h=>by omega⟩ | exact (decide_eq_true ⟨trivial,trivial,trivial⟩).symm | (simp only[true_and,and_true];exact decide_eq_decide.2 ⟨fun h=>by omega,fun h=>by omega⟩)),kk2⟩)
 by_cases h1:k=1
 ·subst h1
  have HZ0:=Lib.hid (show R=(ratB cn cd&&decide (a=0∧b=0∧n=0)) from HR.out.symm)
  clear HR h3 hk2 h8
  go_upto_region 7 with fail
  obtain⟨hw1,kk1⟩:=boxW_set HW.out K1.out HLt.out (i:=4) (by simp) (.int .i64 cn)
  have hb1:=HB.out.other (k:=W.heap.size) (i:=4) (Nat.ne_of_lt hW) (.int .i64 cn)
  obtain⟨hw2,kk2⟩:=boxW_set hw1 kk1 HLt.out (i:=5) (by simp) (.int .i64 cd)
  have hb2:=hb1.other (k:=W.heap.size) (i:=5) (Nat.ne_of_lt hW) (.int .i64 cd)
  clear c0 c1 c2 c3 c4 c5 d0 d1 d2 d3 d4 d5 g0 g1 g2 g3 g4 g5 hb1 hw1 kk1
  generalize (V.setCell _ _).setCell _ _=V2 at *
  have c4:=hb2.cell 4 rfl
  have c5:=hb2.cell 5 rfl
  have HW2:=Lib.hid hw2
  have HB2:=Lib.hid hb2
  clear hw2 hb2
  cases hv:ratB cn cd with
  | false =>
   rw[hv] at HZ0 HV
   have HZ:=Lib.hid (show R=false from HZ0.out)
   clear hv HZ0
   go_wp2_with (first | (go_at_call 27;go_fit (HV.out V2);rintro r w4 ⟨rfl,k4⟩) | fail)
   go_ret
   exact⟨ret_bool (by rw[HZ.out]),kk2.trans k4⟩
  | true =>
  rw[hv,Bool.true_and] at HZ0
  rw[hv] at HV
  have HZ:=Lib.hid HZ0.out
  clear hv HZ0
  go_upto_region 26 with (first | (go_at_call 27;go_fit (HV.out V2);rintro r w4 ⟨rfl,k4⟩) | fail)
  have hb3:=HB2.out.kp k4
  have hw3:=HW2.out.kp k4
  have kk3:=kk2.trans k4
  clear c4 c5 k4
  have c0:=hb3.cell 0 rfl;have c1:=hb3.cell 1 rfl;have c2:=hb3.cell 2 rfl;have c3:=hb3.cell 3 rfl;have c4:=hb3.cell 4 rfl;have c5:=hb3.cell 5 rfl
  have d0:=hw3.cell 0 rfl;have d1:=hw3.cell 1 rfl;have d2:=hw3.cell 2 rfl;have d3:=hw3.cell 3 rfl;have d4:=hw3.cell 4 rfl;have d5:=hw3.cell 5 rfl
  clear hb3 hw3
  by_cases h_a:a=0
  rotate_left
  ·have f_a:(a==0)=false:=beq_eq_false_iff_ne.2 h_a
   go_wp2_with fail
   all_goals (go_ret;exact⟨ret_bool (by rw[HZ.out];first | exact (decide_eq_false (by omega)).symm | exact (decide_eq_true (by omega)).symm | exact decide_eq_decide.2 ⟨fun h=>by omega,fun h=>by omega⟩ | exact (decide_eq_true ⟨trivial,trivial,trivial⟩).symm | (simp only[true_and,and_true];exact decide_eq_decide.2 ⟨fun h=>by omega,fun h=>by omega⟩)),kk3⟩)
  subst h_a
  by_cases h_b:b=0
  ·subst h_b
   by_cases h_n:n=0
   ·subst h_n
    go_wp2_with fail
    all_goals (go_ret;exact⟨ret_bool (by rw[HZ.out];first | exact (decide_eq_false (by omega)).symm | exact (decide_eq_true (by omega)).symm | exact decide_eq_decide.2 ⟨fun h=>by omega,fun h=>by omega⟩ | exact (decide_eq_true ⟨trivial,trivial,trivial⟩).symm | (simp only[true_and,and_true];exact decide_eq_decide.2 ⟨fun h=>by omega,fun h=>by omega⟩)),kk3⟩)
   have f_n:(n==0)=false:=beq_eq_false_iff_ne.2 h_n
   go_wp2_with fail
   all_goals (go_ret;exact⟨ret_bool (by rw[HZ.out];first | exact (decide_eq_false (by omega)).symm | exact (decide_eq_true (by omega)).symm | exact decide_eq_decide.2 ⟨fun h=>by omega,fun h=>by omega⟩ | exact (decide_eq_true ⟨trivial,trivial,trivial⟩).symm | (simp only[true_and,and_true];exact decide_eq_decide.2 ⟨fun h=>by omega,fun h=>by omega⟩)),kk3⟩)
  have f_b:(b==0)=false:=beq_eq_false_iff_ne.2 h_b
  go_wp2_with fail
  all_goals (go_ret;exact⟨ret_bool (by rw[HZ.out];first | exact (decide_eq_false (by omega)).symm | exact (decide_eq_true (by omega)).symm | exact decide_eq_decide.2 ⟨fun h=>by omega,fun h=>by omega⟩ | exact (decide_eq_true ⟨trivial,trivial,trivial⟩).symm | (simp only[true_and,and_true];exact decide_eq_decide.2 ⟨fun h=>by omega,fun h=>by omega⟩)),kk3⟩)
 have h7:k=7∨(9≤k∧k≤13):=by omega
 have HZ:=Lib.hid (show R=decide ((cn=0∧cd=0)∧(0≤a∧a<bf)∧b=0∧n=0) from HR.out.symm.trans (opB_one h7 _ _ _ _ _ _))
 clear HR HV h3 hk2 h8 h1
 rcases (show k=7∨k=9∨k=10∨k=11∨k=12∨k=13 by omega) with rfl | rfl | rfl | rfl | rfl | rfl
 all_goals
  go_upto_region 28 with fail
  obtain⟨hw2,kk2⟩:=boxW_set HW.out K1.out HLt.out (i:=1) (by simp) (.int .i64 a)
  have hb2:=HB.out.other (k:=W.heap.size) (i:=1) (Nat.ne_of_lt hW) (.int .i64 a)
  clear c0 c1 c2 c3 c4 c5 d0 d1 d2 d3 d4 d5 g0 g1 g2 g3 g4 g5
  generalize V.setCell _ _=V2 at *
  have c0:=hb2.cell 0 rfl;have c1:=hb2.cell 1 rfl;have c2:=hb2.cell 2 rfl;have c3:=hb2.cell 3 rfl;have c4:=hb2.cell 4 rfl;have c5:=hb2.cell 5 rfl
  have d0:=hw2.cell 0 rfl;have d1:=hw2.cell 1 rfl;have d2:=hw2.cell 2 rfl;have d3:=hw2.cell 3 rfl;have d4:=hw2.cell 4 rfl;have d5:=hw2.cell 5 rfl
  clear hb2 hw2
  by_cases h_b:b=0
  ·subst h_b
   by_cases h_n:n=0
   ·subst h_n
    by_cases h_cn:cn=0
    ·subst h_cn
     by_cases h_cd:cd=0
     ·subst h_cd
      go_wp2_with fail
      all_goals (go_ret;exact⟨ret_bool (by rw[HZ.out];first | exact (decide_eq_false (by omega)).symm | exact (decide_eq_true (by omega)).symm | exact decide_eq_decide.2 ⟨fun h=>by omega,fun h=>by omega⟩ | exact (decide_eq_true ⟨trivial,trivial,trivial⟩).symm | (simp only[true_and,and_true];exact decide_eq_decide.2 ⟨fun h=>by omega,fun h=>by omega⟩)),kk2⟩)
     ·have f_cd:(cd==0)=false:=beq_eq_false_iff_ne.2 h_cd
      go_wp2_with fail
      all_goals (go_ret;exact⟨ret_bool (by rw[HZ.out];first | exact (decide_eq_false (by omega)).symm | exact (decide_eq_true (by omega)).symm | exact decide_eq_decide.2 ⟨fun h=>by omega,fun h=>by omega⟩ | exact (decide_eq_true ⟨trivial,trivial,trivial⟩).symm | (simp only[true_and,and_true];exact decide_eq_decide.2 ⟨fun h=>by omega,fun h=>by omega⟩)),kk2⟩)
    ·have f_cn:(cn==0)=false:=beq_eq_false_iff_ne.2 h_cn
     go_wp2_with fail
     all_goals (go_ret;exact⟨ret_bool (by rw[HZ.out];first | exact (decide_eq_false (by omega)).symm | exact (decide_eq_true (by omega)).symm | exact decide_eq_decide.2 ⟨fun h=>by omega,fun h=>by omega⟩ | exact (decide_eq_true ⟨trivial,trivial,trivial⟩).symm | (simp only[true_and,and_true];exact decide_eq_decide.2 ⟨fun h=>by omega,fun h=>by omega⟩)),kk2⟩)
   ·have f_n:(n==0)=false:=beq_eq_false_iff_ne.2 h_n
    go_wp2_with fail
    all_goals (go_ret;exact⟨ret_bool (by rw[HZ.out];first | exact (decide_eq_false (by omega)).symm | exact (decide_eq_true (by omega)).symm | exact decide_eq_decide.2 ⟨fun h=>by omega,fun h=>by omega⟩ | exact (decide_eq_true ⟨trivial,trivial,trivial⟩).symm | (simp only[true_and,and_true];exact decide_eq_decide.2 ⟨fun h=>by omega,fun h=>by omega⟩)),kk2⟩)
  ·have f_b:(b==0)=false:=beq_eq_false_iff_ne.2 h_b
   go_wp2_with fail
   all_goals (go_ret;exact⟨ret_bool (by rw[HZ.out];first | exact (decide_eq_false (by omega)).symm | exact (decide_eq_true (by omega)).symm | exact decide_eq_decide.2 ⟨fun h=>by omega,fun h=>by omega⟩ | exact (decide_eq_true ⟨trivial,trivial,trivial⟩).symm | (simp only[true_and,and_true];exact decide_eq_decide.2 ⟨fun h=>by omega,fun h=>by omega⟩)),kk2⟩)
end Go.Proofs.YteidgoldnllabaaGreatDoor
