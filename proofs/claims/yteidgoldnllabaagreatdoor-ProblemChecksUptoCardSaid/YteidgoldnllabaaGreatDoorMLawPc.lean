/-
  Walks: ProblemChecks.
-/
import Derived.Test.YteidgoldnllabaaGreatDoorMLawQa
import Derived.Test.YteidgoldnllabaaGreatDoorMRchN
namespace Go.Proofs.YteidgoldnllabaaGreatDoor
open Go.RowKit Go.Sort
set_option maxHeartbeats 16000000 in
set_option maxRecDepth 20000 in
theorem Checks_ok (p:Pr) (w:World) (hat:p.at w w.heap.size) (hT:Tab w) :
  Calls Tryz.prog 3 #[.agg #[.slice p.sa p.ss.length p.sc,.slice p.pa p.ps.length p.pc,.slice p.ma p.ms.length p.mc,.int .i64 p.tn,.int .i64 p.td]] w fun r w'=>r=.returned (.bool true)∧Kp w w':=by
 have k1:Kp w (w.alloc (.cells #[.slice p.sa p.ss.length p.sc,.slice p.pa p.ps.length p.pc,.slice p.ma p.ms.length p.mc,.int .i64 p.tn,.int .i64 p.td] 27)):=(Kp.refl w).alloc _
 have h0:BoxV (w.alloc (.cells #[.slice p.sa p.ss.length p.sc,.slice p.pa p.ps.length p.pc,.slice p.ma p.ms.length p.mc,.int .i64 p.tn,.int .i64 p.td] 27)) w.heap.size p.cells:=BoxV.new w p.cells _ _ rfl
 go_enter Tryz.func3,Tryz.ntmps3
 go_upto_region 1 with fail
 generalize w.alloc _=W at *
 have HAW:=Lib.hid (awakeq_any W (hT.kp k1))
 have HAT:=Lib.hid (Pr.at_kp hat k1)
 have HBW:=Lib.hid k1.size
 have HSm:=Lib.hid fun W' (k:Kp W W')=>small_any p W' w.heap.size (Pr.at_kp HAT.out k) (Nat.le_trans HBW.out k.size)
 have HCh:=Lib.hid fun W' (k:Kp W W')=>check_any p W' w.heap.size (Pr.at_kp HAT.out k) (Nat.le_trans HBW.out k.size)
 have HRc:=Lib.hid fun W' (k:Kp W W')=>r16check_any p W' w.heap.size (Pr.at_kp HAT.out k)
 have HVa:=Lib.hid fun W' (k:Kp W W')=>pvalid_any p W' w.heap.size (Pr.at_kp HAT.out k) (Nat.le_trans HBW.out k.size)
 have H0:=Lib.hid h0
 have K1:=Lib.hid k1
 clear h0 k1 hat hT
 go_upto_region 3 with (first | (go_at_call 13;go_fit HAW.out;rintro r w2 ⟨rfl,k2⟩) | fail)
 have hq:=H0.out.kp k2
 have q0:=hq.cell 0 rfl;have q1:=hq.cell 1 rfl;have q2:=hq.cell 2 rfl;have q3:=hq.cell 3 rfl;have q4:=hq.cell 4 rfl
 have K2:=Lib.hid k2
 clear hq k2
 go_upto_region 5 with (first | (go_at_call 14;go_fit (HSm.out w2 K2.out);rintro r w3 ⟨b,rfl,k3⟩) | fail)
 ·go_ret
  exact⟨rfl,K1.out.trans (K2.out.trans k3)⟩
 have hq:=H0.out.kp (K2.out.trans k3)
 clear q0 q1 q2 q3 q4
 have q0:=hq.cell 0 rfl;have q1:=hq.cell 1 rfl;have q2:=hq.cell 2 rfl;have q3:=hq.cell 3 rfl;have q4:=hq.cell 4 rfl
 have K3:=Lib.hid (K2.out.trans k3)
 clear hq k3
 have HN:=Lib.hid (nz_check p)
 have HO:=Lib.hid (show okF p=!(checkF p).isSome from rfl)
 generalize checkF p=F at *
 rw[HO.out] at HVa
 clear HO
 replace HCh:=Lib.hid fun W' (k:Kp W W')=>(HCh.out W' k).mono (R':=fun r w'=>r=.returned (.tuple #[.agg #[.int .i64 (fltN F),.string (fltS F)],.bool F.isSome])∧Kp W' w') fun r w' h=>⟨by rw[h.1];cases F <;> rfl,h.2⟩
 replace HRc:=Lib.hid fun W' (k:Kp W W')=>(HRc.out W' k).mono (R':=fun r w'=>r=.returned (.agg #[.int .i64 (fltN F),.string (fltS F)])∧Kp W' w') fun r w' h=>⟨by rw[h.1,rfltV_eq],h.2⟩
 go_upto_region 6 with (first
  | (go_at_call 15;go_fit (HCh.out w3 K3.out);rintro r w4 ⟨rfl,k4⟩)
  | fail)
 have K4:=Lib.hid (K3.out.trans (k4.alloc (.cells #[.int .i64 (fltN F),.string (fltS F)] 32)))
 have hF:=BoxV.new w4 [.int .i64 (fltN F),.string (fltS F)] 32 _ rfl
 clear q0 q1 q2 q3 q4
 have hq:=H0.out.kp K4.out
 clear k4
 generalize hX:World.alloc w4 _=X at *
 clear hX
 have q0:=hq.cell 0 rfl;have q1:=hq.cell 1 rfl;have q2:=hq.cell 2 rfl;have q3:=hq.cell 3 rfl;have q4:=hq.cell 4 rfl
 clear hq
 have HF:=Lib.hid hF
 clear hF
 go_upto_region 7 with (first
  | (go_at_call 16;go_fit (HRc.out X K4.out);rintro r w5 ⟨rfl,k5⟩)
  | fail)
 have kA:=k5.alloc (.cells #[.int .i64 (fltN F),.string (fltS F)] 36)
 have hG:=BoxV.new w5 [.int .i64 (fltN F),.string (fltS F)] 36 _ rfl
 have K5:=Lib.hid (K4.out.trans kA)
 have hF:=HF.out.kp kA
 clear q0 q1 q2 q3 q4 k5 kA
 generalize hX:World.alloc w5 _=Y at *
 clear hX
 have hq:=H0.out.kp K5.out
 have q0:=hq.cell 0 rfl;have q1:=hq.cell 1 rfl;have q2:=hq.cell 2 rfl;have q3:=hq.cell 3 rfl;have q4:=hq.cell 4 rfl
 have c0:=hF.cell 0 rfl
 have c1:=hF.cell 1 rfl
 have d0:=hG.cell 0 rfl
 have d1:=hG.cell 1 rfl
 clear hq hF hG
 cases F with
 | none =>
  replace HVa:=Lib.hid (show ∀ W',Kp W W'→Calls Tryz.prog 17 #[.agg #[.slice p.sa p.ss.length p.sc,.slice p.pa p.ps.length p.pc,.slice p.ma p.ms.length p.mc,.int .i64 p.tn,.int .i64 p.td]] W' fun r w'=>r=.returned (.bool true)∧Kp W' w' from HVa.out)
  simp only[fltN,fltS,Option.isSome] at *
  go_wp2_with (first | (go_at_call 17;go_fit (HVa.out Y K5.out);rintro r w6 ⟨rfl,k6⟩) | fail)
  go_ret
  exact⟨rfl,K1.out.trans (K5.out.trans k6)⟩
 | some x =>
 replace HVa:=Lib.hid (show ∀ W',Kp W W'→Calls Tryz.prog 17 #[.agg #[.slice p.sa p.ss.length p.sc,.slice p.pa p.ps.length p.pc,.slice p.ma p.ms.length p.mc,.int .i64 p.tn,.int .i64 p.td]] W' fun r w'=>r=.returned (.bool false)∧Kp W' w' from HVa.out)
 have hx:(x.1==0)=false:=beq_eq_false_iff_ne.2 (HN.out x rfl)
 have hx2:(x.1 != 0)=true:=bne_iff_ne.2 (HN.out x rfl)
 simp only[fltN,fltS,Option.isSome] at *
 go_wp2_with (first | (go_at_call 17;go_fit (HVa.out Y K5.out);rintro r w6 ⟨rfl,k6⟩) | fail)
 go_ret
 exact⟨rfl,K1.out.trans (K5.out.trans k6)⟩
end Go.Proofs.YteidgoldnllabaaGreatDoor
