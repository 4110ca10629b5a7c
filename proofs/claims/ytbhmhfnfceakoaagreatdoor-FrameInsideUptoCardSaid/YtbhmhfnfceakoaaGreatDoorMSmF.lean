/-
  Walks: the law's long, rows, wide, great, fine (frames).
-/
import Derived.Deep.DeepFit
import Derived.Test.YtbhmhfnfceakoaaGreatDoorMEchM
namespace Go.Proofs.YtbhmhfnfceakoaaGreatDoor
open Go.RowKit
open Lib (hid)
def lngD (x:RD):Bool:=decide (4<x.xs.length)
def lngF (l:List RD):Bool:=decide (20<l.length)||l.any lngD
def widI (x:RI):Bool:=lngD x.lo||lngD x.hi
def widF (l:List RI):Bool:=decide (20<l.length)||l.any widI
def rowsF (m:List (List RD)):Bool:=decide (20<m.length)||m.any lngF
def greatF (f:RF):Bool:=(decide (4<f.cs.length)&&decide (f.cs.length≤8))||(lngF f.cs||(rowsF f.ms||widF f.rs))
theorem lng1_any (x:RD) (w:World) :
  Calls Tryz.prog 158 #[.agg #[.bool x.neg,.slice x.a x.xs.length x.c,.int .i64 x.e]] w fun e w'=>e=.returned (.bool (lngD x))∧Kp w w':=by
 have H:=hid (show lngD x=decide (4<(x.xs.length:Int)) by unfold lngD;congr 1;exact propext ⟨fun h=>by omega,fun h=>by omega⟩)
 go_enter Tryz.func158,Tryz.ntmps158
 go_wp2_with fail
 go_ret
 exact⟨ret_bool H.out.symm,(Kp.refl w).alloc _⟩
set_option maxHeartbeats 1000000 in
theorem wid1_any (x:RI) (w:World) :
  Calls Tryz.prog 97 #[.agg #[.bool x.lo.neg,.slice x.lo.a x.lo.xs.length x.lo.c,.int .i64 x.lo.e,.bool x.hi.neg,.slice x.hi.a x.hi.xs.length x.hi.c,.int .i64 x.hi.e,.bool x.all]] w fun e w'=>e=.returned (.bool (widI x))∧Kp w w':=by
 have k1:=(Kp.refl w).alloc (.cells #[.bool x.lo.neg,.slice x.lo.a x.lo.xs.length x.lo.c,.int .i64 x.lo.e,.bool x.hi.neg,.slice x.hi.a x.hi.xs.length x.hi.c,.int .i64 x.hi.e,.bool x.all] 44)
 by_cases h:4<x.lo.xs.length
 ·have H:=hid (show widI x=true by unfold widI lngD;rw[decide_eq_true h];rfl)
  have g:(4:Int)<(x.lo.xs.length:Int):=by omega
  clear h
  go_enter Tryz.func97,Tryz.ntmps97
  go_upto_region 1 with fail
  generalize hW:w.alloc _=W at *
  obtain⟨s0,s1,s2,s3,s4,s5,s6⟩:W.cell? ⟨w.heap.size,0,none⟩=some (.bool x.lo.neg)∧W.cell? ⟨w.heap.size,1,none⟩=some (.slice x.lo.a x.lo.xs.length x.lo.c)∧W.cell? ⟨w.heap.size,2,none⟩=some (.int .i64 x.lo.e)∧W.cell? ⟨w.heap.size,3,none⟩=some (.bool x.hi.neg)∧W.cell? ⟨w.heap.size,4,none⟩=some (.slice x.hi.a x.hi.xs.length x.hi.c)∧W.cell? ⟨w.heap.size,5,none⟩=some (.int .i64 x.hi.e)∧W.cell? ⟨w.heap.size,6,none⟩=some (.bool x.all):=by rw[← hW];simp
  clear hW
  go_wp2_with fail
  go_ret
  exact⟨ret_bool H.out.symm,k1⟩
 have H:=hid (show widI x=decide (4<(x.hi.xs.length:Int)) by unfold widI lngD;rw[decide_eq_false h,Bool.false_or];congr 1;exact propext ⟨fun h=>by omega,fun h=>by omega⟩)
 have g:¬ (4:Int)<(x.lo.xs.length:Int):=by omega
 clear h
 go_enter Tryz.func97,Tryz.ntmps97
 go_upto_region 1 with fail
 generalize hW:w.alloc _=W at *
 obtain⟨s0,s1,s2,s3,s4,s5,s6⟩:W.cell? ⟨w.heap.size,0,none⟩=some (.bool x.lo.neg)∧W.cell? ⟨w.heap.size,1,none⟩=some (.slice x.lo.a x.lo.xs.length x.lo.c)∧W.cell? ⟨w.heap.size,2,none⟩=some (.int .i64 x.lo.e)∧W.cell? ⟨w.heap.size,3,none⟩=some (.bool x.hi.neg)∧W.cell? ⟨w.heap.size,4,none⟩=some (.slice x.hi.a x.hi.xs.length x.hi.c)∧W.cell? ⟨w.heap.size,5,none⟩=some (.int .i64 x.hi.e)∧W.cell? ⟨w.heap.size,6,none⟩=some (.bool x.all):=by rw[← hW];simp
 clear hW
 go_wp2_with fail
 go_ret
 exact⟨ret_bool H.out.symm,k1⟩
theorem lngF_any (l:List RD) (a:Option Addr) (c:Nat) (w:World) (hr:RowD w a l) (hl:l.length≤1100000) :
  Calls Tryz.prog 89 #[.slice a l.length c] w fun e w'=>e=.returned (.bool (lngF l))∧Kp w w':=by
 have hp:AnsD Tryz.prog 158 #[] w l lngD:=⟨fun _ _=>by kernel_rfl,fun x hx w1 k=>lng1_any x w1⟩
 have HC:=hid (containsD a l c _ _ w _ hl hr hp)
 clear hp hr
 by_cases h:20<l.length
 ·have H:=hid (show lngF l=true by unfold lngF;rw[decide_eq_true h];rfl)
  have g:(20:Int)<(l.length:Int):=by omega
  clear h
  go_enter Tryz.func89,Tryz.ntmps89
  go_wp2_with fail
  go_ret
  exact⟨ret_bool H.out.symm,.refl _⟩
 have H:=hid (show lngF l=l.any lngD by unfold lngF;rw[decide_eq_false h];rfl)
 have g:¬ (20:Int)<(l.length:Int):=by omega
 clear h
 go_enter Tryz.func89,Tryz.ntmps89
 go_wp2_with fail
 go_fit HC.out
 rintro e w1 ⟨rfl,k1⟩
 go_wp2_with fail
 go_ret
 exact⟨ret_bool H.out.symm,k1⟩
theorem widF_any (l:List RI) (a:Option Addr) (c:Nat) (w:World) (hr:RowI w a l) (hl:l.length≤1100000) :
  Calls Tryz.prog 42 #[.slice a l.length c] w fun e w'=>e=.returned (.bool (widF l))∧Kp w w':=by
 have hp:AnsI Tryz.prog 97 #[] w l widI:=⟨fun _ _=>by kernel_rfl,fun x hx w1 k=>wid1_any x w1⟩
 have HC:=hid (containsI a l c _ _ w _ hl hr hp)
 clear hp hr
 by_cases h:20<l.length
 ·have H:=hid (show widF l=true by unfold widF;rw[decide_eq_true h];rfl)
  have g:(20:Int)<(l.length:Int):=by omega
  clear h
  go_enter Tryz.func42,Tryz.ntmps42
  go_wp2_with fail
  go_ret
  exact⟨ret_bool H.out.symm,.refl _⟩
 have H:=hid (show widF l=l.any widI by unfold widF;rw[decide_eq_false h];rfl)
 have g:¬ (20:Int)<(l.length:Int):=by omega
 clear h
 go_enter Tryz.func42,Tryz.ntmps42
 go_wp2_with fail
 go_fit HC.out
 rintro e w1 ⟨rfl,k1⟩
 go_wp2_with fail
 go_ret
 exact⟨ret_bool H.out.symm,k1⟩
theorem rowsF_any (l:List (List RD)) (a:Option Addr) (c:Nat) (w:World) (hr:RowN w a l) (hl:l.length≤1100000) :
  Calls Tryz.prog 31 #[.slice a l.length c] w fun e w'=>e=.returned (.bool (rowsF l))∧Kp w w':=by
 have hp:AnsN Tryz.prog 89 #[] w l lngF:=⟨fun _ _=>by kernel_rfl,fun r hr ra rc w1 k hrow=>lngF_any r ra rc w1 hrow.1 hrow.2⟩
 have HC:=hid (containsN a l c _ _ w _ hl hr hp)
 clear hp hr
 by_cases h:20<l.length
 ·have H:=hid (show rowsF l=true by unfold rowsF;rw[decide_eq_true h];rfl)
  have g:(20:Int)<(l.length:Int):=by omega
  clear h
  go_enter Tryz.func31,Tryz.ntmps31
  go_wp2_with fail
  go_ret
  exact⟨ret_bool H.out.symm,.refl _⟩
 have H:=hid (show rowsF l=l.any lngF by unfold rowsF;rw[decide_eq_false h];rfl)
 have g:¬ (20:Int)<(l.length:Int):=by omega
 clear h
 go_enter Tryz.func31,Tryz.ntmps31
 go_wp2_with fail
 go_fit HC.out
 rintro e w1 ⟨rfl,k1⟩
 go_wp2_with fail
 go_ret
 exact⟨ret_bool H.out.symm,k1⟩
set_option maxHeartbeats 4000000 in
theorem greatF_any (f:RF) (w:World) (hf:f.rd w) :
  Calls Tryz.prog 30 #[.agg #[.slice f.ca f.cs.length f.cc,.slice f.aa f.ms.length f.ac,.slice f.ra f.rs.length f.rc]] w fun e w'=>e=.returned (.bool (greatF f))∧Kp w w':=by
 have HF:=hid hf
 have kk:=(Kp.refl w).alloc (.cells #[.slice f.ca f.cs.length f.cc,.slice f.aa f.ms.length f.ac,.slice f.ra f.rs.length f.rc] 26)
 clear hf
 by_cases h0:4<f.cs.length∧f.cs.length≤8
 ·have H:=hid (show greatF f=true by unfold greatF;rw[decide_eq_true h0.1,decide_eq_true h0.2];rfl)
  have g1:(4:Int)<(f.cs.length:Int):=by omega
  have g2:(f.cs.length:Int)≤8:=by omega
  clear h0
  go_enter Tryz.func30,Tryz.ntmps30
  go_wp2_with fail
  go_ret
  exact⟨ret_bool H.out.symm,kk⟩
 have H:=hid (show greatF f=(lngF f.cs||(rowsF f.ms||widF f.rs)) by
  unfold greatF
  by_cases h4:4<f.cs.length
  ·rw[decide_eq_false (by omega:¬ f.cs.length≤8)];simp
  ·rw[decide_eq_false h4];rfl)
 go_enter Tryz.func30,Tryz.ntmps30
 go_upto_region 1 with fail
 generalize hW:w.alloc _=W at *
 have HS:=hid (show W.cell? ⟨w.heap.size,0,none⟩=some (.slice f.ca f.cs.length f.cc)∧W.cell? ⟨w.heap.size,1,none⟩=some (.slice f.aa f.ms.length f.ac)∧W.cell? ⟨w.heap.size,2,none⟩=some (.slice f.ra f.rs.length f.rc) by rw[← hW];simp)
 clear hW
 rcases (show (4<f.cs.length∧¬ f.cs.length≤8)∨¬ 4<f.cs.length by omega) with ⟨h1,h2⟩ | h1
 rotate_left
 ·have g1:¬ (4:Int)<(f.cs.length:Int):=by omega
  clear h1
  clear h0
  obtain⟨s0,s1,s2⟩:=id HS.out
  go_wp2_with fail
  go_fit (lngF_any f.cs f.ca f.cc _ (HF.out.1.1.kp kk) HF.out.1.2)
  rintro e w1 ⟨rfl,k1⟩
  have HS1:=hid (keepF k1 HS.out)
  have HK1:=hid (kk.trans k1)
  clear s0 s1 s2 k1
  cases hv:lngF f.cs with
  | true =>
   have H2:=hid (show greatF f=true by rw[H.out,hv];rfl)
   clear hv
   go_wp2_with fail
   go_ret
   exact⟨ret_bool H2.out.symm,HK1.out⟩
  | false =>
  have H2:=hid (show greatF f=(rowsF f.ms||widF f.rs) by rw[H.out,hv];rfl)
  obtain⟨s0,s1,s2⟩:=id HS1.out
  clear hv
  go_wp2_with fail
  go_fit (rowsF_any f.ms f.aa f.ac _ (HF.out.2.1.1.kp HK1.out) HF.out.2.1.2)
  rintro e w2 ⟨rfl,k2⟩
  have HS2:=hid (keepF k2 HS1.out)
  have HK2:=hid (HK1.out.trans k2)
  clear s0 s1 s2 k2
  cases hv:rowsF f.ms with
  | true =>
   have H3:=hid (show greatF f=true by rw[H2.out,hv];rfl)
   clear hv
   go_wp2_with fail
   go_ret
   exact⟨ret_bool H3.out.symm,HK2.out⟩
  | false =>
  have H3:=hid (show greatF f=widF f.rs by rw[H2.out,hv];rfl)
  obtain⟨s0,s1,s2⟩:=id HS2.out
  clear hv
  go_wp2_with fail
  go_fit (widF_any f.rs f.ra f.rc _ (HF.out.2.2.1.kp HK2.out) HF.out.2.2.2)
  rintro e w3 ⟨rfl,k3⟩
  go_wp2_with fail
  go_ret
  exact⟨ret_bool H3.out.symm,HK2.out.trans k3⟩
 have g1:(4:Int)<(f.cs.length:Int):=by omega
 have g2:¬ (f.cs.length:Int)≤8:=by omega
 clear h1 h2
 clear h0
 obtain⟨s0,s1,s2⟩:=id HS.out
 go_wp2_with fail
 go_fit (lngF_any f.cs f.ca f.cc _ (HF.out.1.1.kp kk) HF.out.1.2)
 rintro e w1 ⟨rfl,k1⟩
 have HS1:=hid (keepF k1 HS.out)
 have HK1:=hid (kk.trans k1)
 clear s0 s1 s2 k1
 cases hv:lngF f.cs with
 | true =>
  have H2:=hid (show greatF f=true by rw[H.out,hv];rfl)
  clear hv
  go_wp2_with fail
  go_ret
  exact⟨ret_bool H2.out.symm,HK1.out⟩
 | false =>
 have H2:=hid (show greatF f=(rowsF f.ms||widF f.rs) by rw[H.out,hv];rfl)
 obtain⟨s0,s1,s2⟩:=id HS1.out
 clear hv
 go_wp2_with fail
 go_fit (rowsF_any f.ms f.aa f.ac _ (HF.out.2.1.1.kp HK1.out) HF.out.2.1.2)
 rintro e w2 ⟨rfl,k2⟩
 have HS2:=hid (keepF k2 HS1.out)
 have HK2:=hid (HK1.out.trans k2)
 clear s0 s1 s2 k2
 cases hv:rowsF f.ms with
 | true =>
  have H3:=hid (show greatF f=true by rw[H2.out,hv];rfl)
  clear hv
  go_wp2_with fail
  go_ret
  exact⟨ret_bool H3.out.symm,HK2.out⟩
 | false =>
 have H3:=hid (show greatF f=widF f.rs by rw[H2.out,hv];rfl)
 obtain⟨s0,s1,s2⟩:=id HS2.out
 clear hv
 go_wp2_with fail
 go_fit (widF_any f.rs f.ra f.rc _ (HF.out.2.2.1.kp HK2.out) HF.out.2.2.2)
 rintro e w3 ⟨rfl,k3⟩
 go_wp2_with fail
 go_ret
 exact⟨ret_bool H3.out.symm,HK2.out.trans k3⟩
def fineF (p:Int):Bool:=decide (p≤80)||decide (512<p)
theorem fineF_any (p:Int) (w:World) :
  Calls Tryz.prog 33 #[.int .i64 p] w fun e w'=>e=.returned (.bool (fineF p))∧w=w':=by
 by_cases h1:p≤80
 ·have H:=hid (show fineF p=true by unfold fineF;rw[decide_eq_true h1];rfl)
  go_enter Tryz.func33,Tryz.ntmps33
  go_wp2_with fail
  go_ret
  exact⟨ret_bool (by first | exact H.out.symm | (rw[H.out];simp;omega)),rfl⟩
 have H:=hid (show fineF p=decide (512<p) by unfold fineF;rw[decide_eq_false h1];rfl)
 go_enter Tryz.func33,Tryz.ntmps33
 go_wp2_with fail
 go_ret
 exact⟨ret_bool (by first | exact H.out.symm | (rw[H.out];simp;omega)),rfl⟩
end Go.Proofs.YtbhmhfnfceakoaaGreatDoor
