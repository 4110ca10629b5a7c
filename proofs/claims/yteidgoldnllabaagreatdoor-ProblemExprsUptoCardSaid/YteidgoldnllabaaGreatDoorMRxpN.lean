/-
  Walks: ref16.Expr; the law's tapes.
-/
import Derived.Test.YteidgoldnllabaaGreatDoorMRtpN
import Derived.Test.YteidgoldnllabaaGreatDoorMLawQa
import Derived.Test.YteidgoldnllabaaGreatDoorMRchN
namespace Go.Proofs.YteidgoldnllabaaGreatDoor
open Go.RowKit
open Lib (hid)
section
open Go.RowKit Go.Sort
set_option maxHeartbeats 8000000 in
set_option maxRecDepth 20000 in
theorem r16expr_any (p:Pr) (e:Ex) (w:World) (B:Nat) (hat:p.at w B) (hae:e.at w B) (hB:B≤w.heap.size) :
  Calls Tryz.prog 34 #[.agg #[.slice p.sa p.ss.length p.sc,.slice p.pa p.ps.length p.pc,.slice p.ma p.ms.length p.mc,.int .i64 p.tn,.int .i64 p.td],.agg #[.int .i64 e.kind,.int .i64 e.rn,.int .i64 e.rd,.string e.name,.int .i64 e.pw,.slice e.a e.l.length e.c]] w (XprOut w p e):=by
 have k1:Kp w (((w.alloc (.cells #[.slice p.sa p.ss.length p.sc,.slice p.pa p.ps.length p.pc,.slice p.ma p.ms.length p.mc,.int .i64 p.tn,.int .i64 p.td] 27)).alloc (.cells #[.int .i64 e.kind,.int .i64 e.rn,.int .i64 e.rd,.string e.name,.int .i64 e.pw,.slice e.a e.l.length e.c] 71)).alloc (.cells #[.int .i64 0,.slice none 0 0,.slice none 0 0] 57)):=(((Kp.refl w).alloc _).alloc _).alloc _
 have h0:BoxV (((w.alloc (.cells #[.slice p.sa p.ss.length p.sc,.slice p.pa p.ps.length p.pc,.slice p.ma p.ms.length p.mc,.int .i64 p.tn,.int .i64 p.td] 27)).alloc (.cells #[.int .i64 e.kind,.int .i64 e.rn,.int .i64 e.rd,.string e.name,.int .i64 e.pw,.slice e.a e.l.length e.c] 71)).alloc (.cells #[.int .i64 0,.slice none 0 0,.slice none 0 0] 57)) w.heap.size p.cells:=(BoxV.new w p.cells _ _ rfl).kp (((Kp.refl _).alloc _).alloc _)
 have he:BoxV (((w.alloc (.cells #[.slice p.sa p.ss.length p.sc,.slice p.pa p.ps.length p.pc,.slice p.ma p.ms.length p.mc,.int .i64 p.tn,.int .i64 p.td] 27)).alloc (.cells #[.int .i64 e.kind,.int .i64 e.rn,.int .i64 e.rd,.string e.name,.int .i64 e.pw,.slice e.a e.l.length e.c] 71)).alloc (.cells #[.int .i64 0,.slice none 0 0,.slice none 0 0] 57)) (w.heap.size+1) e.cells:=(BoxV.new _ e.cells _ _ (by simp)).kp ((Kp.refl _).alloc _)
 have hr:BoxV (((w.alloc (.cells #[.slice p.sa p.ss.length p.sc,.slice p.pa p.ps.length p.pc,.slice p.ma p.ms.length p.mc,.int .i64 p.tn,.int .i64 p.td] 27)).alloc (.cells #[.int .i64 e.kind,.int .i64 e.rn,.int .i64 e.rd,.string e.name,.int .i64 e.pw,.slice e.a e.l.length e.c] 71)).alloc (.cells #[.int .i64 0,.slice none 0 0,.slice none 0 0] 57)) (w.heap.size+1+1) [.int .i64 0,.slice none 0 0,.slice none 0 0]:=BoxV.new _ [_,_,_] _ _ (by simp)
 go_enter Tryz.func34,Tryz.ntmps34
 go_upto_region 1 with fail
 generalize World.alloc _ _=W at *
 have HAT:=hid (Pr.at_kp hat k1)
 have HAE:=hid (Ex.at_kp hae k1)
 have HBW:=hid (Nat.le_trans hB k1.size)
 have HC:=hid (r16right_any p W B HAT.out)
 have HV:=hid fun W' (k:Kp W W')=>rvalid13_any e B W' (Ex.at_kp HAE.out k)
 have HR:=hid hr
 have H0:=hid h0
 have HE:=hid he
 have K1:=hid k1
 have hfd:=run_fieldF0
 have q0:=h0.cell 0 rfl;have q1:=h0.cell 1 rfl;have q2:=h0.cell 2 rfl;have q3:=h0.cell 3 rfl;have q4:=h0.cell 4 rfl
 have e0:=he.cell 0 rfl;have e1:=he.cell 1 rfl;have e2:=he.cell 2 rfl;have e3:=he.cell 3 rfl;have e4:=he.cell 4 rfl;have e5:=he.cell 5 rfl
 clear h0 he hr k1 hat hae hB
 cases hf:okF p with
 | false =>
  rw[hf] at HC
  have HZ:=hid (show exprE p e=1 from if_pos (.inl hf))
  clear hf
  go_wp2_with (first | (go_at_call 76;go_fit HC.out;rintro r w2 ⟨rfl,k2⟩;have hR:=HR.out.kp k2;have r0:=hR.cell 0 rfl;have r1:=hR.cell 1 rfl;have r2:=hR.cell 2 rfl;have f0:=hR.2.1 0;have f1:=hR.2.1 1;have f2:=hR.2.1 2;have HRR:=hid hR;clear hR) | fail)
  generalize hW9:((World.setCell _ _ _).setCell _ _).setCell _ _=W9
  obtain⟨hF,hK,_⟩:=box3_set HRR.out (K1.out.trans k2) (show w.heap.size≤w.heap.size+1+1 by omega) nofun nofun nofun _ _ _ hW9
  have s0:=hF.cell 0 rfl
  have s1:=hF.cell 1 rfl
  have s2:=hF.cell 2 rfl
  refine bodyPost_ret (v:=.tuple #[.agg #[.int .i64 0,.slice none 0 0,.slice none 0 0],.int .i64 1]) (by simp[results,Tryz.results34,go_sem,s0,s1,s2]) rfl ?_
  exact xpr_no HZ.out (by decide) hK
 | true =>
 rw[hf] at HC
 have hok:=hf
 have hnf:¬ okF p=false:=by rw[hf];decide
 clear hf
 cases he:e.ok with
 | false =>
  rw[he] at HV
  have HZ:=hid (show exprE p e=1 from if_pos (.inr he))
  clear he hok hnf
  go_wp2_with (first
   | (go_at_call 76;go_fit HC.out;rintro r w2 ⟨rfl,k2⟩;clear q0 q1 q2 q3 q4 e0 e1 e2 e3 e4 e5;have hq:=HE.out.kp k2;have e0:=hq.cell 0 rfl;have e1:=hq.cell 1 rfl;have e2:=hq.cell 2 rfl;have e3:=hq.cell 3 rfl;have e4:=hq.cell 4 rfl;have e5:=hq.cell 5 rfl;clear hq)
   | (go_at_call 98;go_fit (HV.out w2 k2);rintro r w3 ⟨rfl,k3⟩;have hR:=HR.out.kp (k2.trans k3);have r0:=hR.cell 0 rfl;have r1:=hR.cell 1 rfl;have r2:=hR.cell 2 rfl;have f0:=hR.2.1 0;have f1:=hR.2.1 1;have f2:=hR.2.1 2;have HRR:=hid hR;clear hR)
   | fail)
  generalize hW9:((World.setCell _ _ _).setCell _ _).setCell _ _=W9
  obtain⟨hF,hK,_⟩:=box3_set HRR.out (K1.out.trans (k2.trans k3)) (show w.heap.size≤w.heap.size+1+1 by omega) nofun nofun nofun _ _ _ hW9
  have s0:=hF.cell 0 rfl
  have s1:=hF.cell 1 rfl
  have s2:=hF.cell 2 rfl
  refine bodyPost_ret (v:=.tuple #[.agg #[.int .i64 0,.slice none 0 0,.slice none 0 0],.int .i64 1]) (by simp[results,Tryz.results34,go_sem,s0,s1,s2]) rfl ?_
  exact xpr_no HZ.out (by decide) hK
 | true =>
 rw[he] at HV
 have hss:=probB_ss (okF_prob hok)
 have hal:(allN p).length≤8:=by unfold allN;rw[List.length_append,List.length_map,List.length_map];omega
 have HEx:=hid (show exprE p e=if (knownF (allN p) e).isSome=true then 7 else 0 by unfold exprE;rw[if_neg (fun h=>by rcases h with h | h;exact hnf h;rw[he] at h;cases h)])
 have HOk:=hid he
 have HFin:=hid (ex_ok he)
 have HAll:=hid (show e.allB=true by have h:=he;unfold Ex.ok at h;simp only[Bool.and_eq_true] at h;exact h.1)
 have HNm:=hid fun W' (k:Kp W W')=>rnamed_any p W' B (Pr.at_kp HAT.out k) (okF_prob hok)
 clear he hok hnf
 go_upto_region 3 with (first
  | (go_at_call 76;go_fit HC.out;rintro r w2 ⟨rfl,k2⟩;clear q0 q1 q2 q3 q4 e0 e1 e2 e3 e4 e5;have hq:=HE.out.kp k2;have e0:=hq.cell 0 rfl;have e1:=hq.cell 1 rfl;have e2:=hq.cell 2 rfl;have e3:=hq.cell 3 rfl;have e4:=hq.cell 4 rfl;have e5:=hq.cell 5 rfl;clear hq)
  | (go_at_call 98;go_fit (HV.out w2 k2);rintro r w3 ⟨rfl,k3⟩;clear e0 e1 e2 e3 e4 e5;have hq:=H0.out.kp (k2.trans k3);have q0:=hq.cell 0 rfl;have q1:=hq.cell 1 rfl;have q2:=hq.cell 2 rfl;have q3:=hq.cell 3 rfl;have q4:=hq.cell 4 rfl;clear hq)
  | fail)
 have K3:=hid (k2.trans k3)
 clear k2 k3
 go_upto_region 4 with (first
  | (go_at_call 70;go_fit (HNm.out w3 K3.out);rintro r w4 ⟨v3,v4,rfl,hO3,hO4⟩;obtain⟨na,nc,rfl,hnr⟩:=hO4.sl;have hN1:=hO4.1)
  | fail)
 have K4:=hid (K3.out.trans hN1)
 have HNr:=hid hnr
 clear q0 q1 q2 q3 q4 hnr hO3 hO4 hN1
 have hq:=HE.out.kp K4.out
 have e0:=hq.cell 0 rfl;have e1:=hq.cell 1 rfl;have e2:=hq.cell 2 rfl;have e3:=hq.cell 3 rfl;have e4:=hq.cell 4 rfl;have e5:=hq.cell 5 rfl
 clear hq
 have HKw:=hid (rknown_any (allN p) na nc e w4 B HNr.out (by omega) (Ex.at_kp HAE.out K4.out) HOk.out)
 have HNk:=hid (nz_known (allN p) e)
 cases hk:knownF (allN p) e with
 | some x =>
  rw[hk] at HKw HEx HNk
  have HZ:=hid (show exprE p e=7 from HEx.out)
  have hx:(x.1 != 0)=true:=by have:=HNk.out x rfl;simpa using this
  have HKw2:=hid (show Calls Tryz.prog 99 #[.slice na (allN p).length nc,.agg #[.int .i64 e.kind,.int .i64 e.rn,.int .i64 e.rd,.string e.name,.int .i64 e.pw,.slice e.a e.l.length e.c]] w4 fun r w'=>r=.returned (.agg #[.int .i64 x.1,.string x.2])∧Kp w4 w' from HKw.out)
  clear hk HEx HKw
  go_wp2_with (first
   | (go_at_call 99;go_fit HKw2.out;rintro r w6 ⟨rfl,k6⟩;have hR:=HR.out.kp (K4.out.trans k6);have r0:=hR.cell 0 rfl;have r1:=hR.cell 1 rfl;have r2:=hR.cell 2 rfl;have f0:=hR.2.1 0;have f1:=hR.2.1 1;have f2:=hR.2.1 2;have HRR:=hid hR;clear hR)
   | fail)
  generalize hW9:((World.setCell _ _ _).setCell _ _).setCell _ _=W9
  obtain⟨hF,hK,_⟩:=box3_set HRR.out (K1.out.trans (K4.out.trans k6)) (show w.heap.size≤w.heap.size+1+1 by omega) nofun nofun nofun _ _ _ hW9
  have s0:=hF.cell 0 rfl
  have s1:=hF.cell 1 rfl
  have s2:=hF.cell 2 rfl
  refine bodyPost_ret (v:=.tuple #[.agg #[.int .i64 0,.slice none 0 0,.slice none 0 0],.int .i64 7]) (by simp[results,Tryz.results34,go_sem,s0,s1,s2]) rfl ?_
  exact xpr_no HZ.out (by decide) hK
 | none =>
 rw[hk] at HKw HEx
 have HZ:=hid (show exprE p e=0 from HEx.out)
 have HKw2:=hid (show Calls Tryz.prog 99 #[.slice na (allN p).length nc,.agg #[.int .i64 e.kind,.int .i64 e.rn,.int .i64 e.rd,.string e.name,.int .i64 e.pw,.slice e.a e.l.length e.c]] w4 fun r w'=>r=.returned (.agg #[.int .i64 0,.string ⟨#[]⟩])∧Kp w4 w' from HKw.out)
 clear hk HEx HKw
 go_upto_region 6 with (first
  | (go_at_call 99;go_fit HKw2.out;rintro r w6 ⟨rfl,k6⟩)
  | fail)
 have K6:=hid (K4.out.trans k6)
 have hq:=HE.out.kp K6.out
 clear e0 e1 e2 e3 e4 e5
 have e0:=hq.cell 0 rfl;have e1:=hq.cell 1 rfl;have e2:=hq.cell 2 rfl;have e3:=hq.cell 3 rfl;have e4:=hq.cell 4 rfl;have e5:=hq.cell 5 rfl
 clear hq
 have HNr6:=hid (HNr.out.kp k6)
 have HW6:=hid (show w.heap.size+1+1<w6.heap.size from (HR.out.kp K6.out).2.2)
 clear k6
 have hT:=r16tape_any [e] (some ⟨w6.heap.size,0,none⟩) 1 (w6.alloc (.cells #[.int .i64 e.kind,.int .i64 e.rn,.int .i64 e.rd,.string e.name,.int .i64 e.pw,.slice e.a e.l.length e.c] 71)).heap.size (allN p) na nc (w6.alloc (.cells #[.int .i64 e.kind,.int .i64 e.rn,.int .i64 e.rd,.string e.name,.int .i64 e.pw,.slice e.a e.l.length e.c] 71)) (rowX_of (rowV_newg' Ex.cells_len (by decide) w6 _ [e] rfl)) (fun x hx=>by
  rcases List.mem_cons.1 hx with rfl | hx
  ·exact Ex.at_up (Ex.at_kp HAE.out (K6.out.alloc _)) (Nat.le_trans HBW.out (K6.out.alloc _).size)
  ·cases hx) (fun x hx=>by
  rcases List.mem_cons.1 hx with rfl | hx
  ·exact HAll.out
  ·cases hx) (fun x hx=>by
  rcases List.mem_cons.1 hx with rfl | hx
  ·exact HFin.out.2
  ·cases hx) (by show (1:Nat)≤200;decide) (HNr6.out.kp ((Kp.refl _).alloc _)) (by omega)
 have HT:=hid (show Calls Tryz.prog 100 #[.slice (some ⟨w6.heap.size,0,none⟩) 1 1,.slice na (allN p).length nc] (w6.alloc (.cells #[.int .i64 e.kind,.int .i64 e.rn,.int .i64 e.rd,.string e.name,.int .i64 e.pw,.slice e.a e.l.length e.c] 71)) (TapeO (w6.alloc (.cells #[.int .i64 e.kind,.int .i64 e.rn,.int .i64 e.rd,.string e.name,.int .i64 e.pw,.slice e.a e.l.length e.c] 71)) (allN p) (tapeF (allN p) [] [e])) from hT)
 clear hT
 go_wp2_with (first
  | (go_at_call 100;go_fit HT.out;rintro r w7 ⟨oa,oc,ua,uc,rfl,hro,hru,k7,lo,lu⟩;have K7:=hid (K6.out.trans (((Kp.refl _).alloc _).trans k7));have hR:=HR.out.kp K7.out;have r0:=hR.cell 0 rfl;have r1:=hR.cell 1 rfl;have r2:=hR.cell 2 rfl;have f0:=hR.2.1 0;have f1:=hR.2.1 1;have f2:=hR.2.1 2;have HRR:=hid hR;clear hR e0 e1 e2 e3 e4 e5)
  | fail)
 generalize hW9:((World.setCell _ _ _).setCell _ _).setCell _ _=W9
 obtain⟨hF,hK,hU⟩:=box3_set HRR.out (K1.out.trans K7.out) (show w.heap.size≤w.heap.size+1+1 by omega) nofun nofun nofun _ _ _ hW9
 have s0:=hF.cell 0 rfl
 have s1:=hF.cell 1 rfl
 have s2:=hF.cell 2 rfl
 have hs:W9.heap.size=w7.heap.size:=hU.2.2.2.2
 refine bodyPost_ret (v:=.tuple #[.agg #[.int .i64 ((allN p).length:Int),.slice oa (tapeF (allN p) [] [e]).1.length oc,.slice ua (tapeF (allN p) [] [e]).2.length uc],.int .i64 0]) (by simp[results,Tryz.results34,go_sem,s0,s1,s2]) rfl ?_
 have hv:exprV p e=(((allN p).length:Int),(tapeF (allN p) [] [e]).1,(tapeF (allN p) [] [e]).2):=if_pos HZ.out
 have l6:=HW6.out
 refine⟨oa,oc,ua,uc,by rw[hv,HZ.out],?_,?_,hK⟩
 ·rw[hv,hs]
  exact rowV_upd hro hU fun b o e=>by have:=lo b o e;rw[World.size_alloc] at this;omega
 rw[hv,hs]
 exact rowV_upd hru hU fun b o e=>by have:=lu b o e;rw[World.size_alloc] at this;omega
theorem tapes_same (i:Int) (ops:List Opn) (us:List Int) (n m:Nat) (oa oa' ua ua':Option Addr) (oc oc' uc uc' B1 B2 B3 B4:Nat) (w:World) (hn:ops.length=n) (hm:us.length=m) (h1:RowV Opn.cells 6 w B1 oa ops) (h2:RowV numC 1 w B2 ua us) (h3:RowV Opn.cells 6 w B3 oa' ops) (h4:RowV numC 1 w B4 ua' us) (ln:ops.length≤1100000) (lm:us.length≤1100000) :
  Calls Tryz.prog 35 #[.agg #[.int .i64 i,.slice oa n oc,.slice ua m uc],.agg #[.int .i64 i,.slice oa' n oc',.slice ua' m uc']] w fun r w'=>r=.returned (.bool true)∧Kp w w':=by
 have k1:Kp w ((w.alloc (.cells #[.int .i64 i,.slice oa n oc,.slice ua m uc] 57)).alloc (.cells #[.int .i64 i,.slice oa' n oc',.slice ua' m uc'] 57)):=((Kp.refl w).alloc _).alloc _
 have h0:BoxV ((w.alloc (.cells #[.int .i64 i,.slice oa n oc,.slice ua m uc] 57)).alloc (.cells #[.int .i64 i,.slice oa' n oc',.slice ua' m uc'] 57)) w.heap.size [.int .i64 i,.slice oa n oc,.slice ua m uc]:=(BoxV.new w [_,_,_] _ _ rfl).kp ((Kp.refl _).alloc _)
 have h9:BoxV ((w.alloc (.cells #[.int .i64 i,.slice oa n oc,.slice ua m uc] 57)).alloc (.cells #[.int .i64 i,.slice oa' n oc',.slice ua' m uc'] 57)) (w.heap.size+1) [.int .i64 i,.slice oa' n oc',.slice ua' m uc']:=BoxV.new _ [_,_,_] _ _ (by simp)
 go_enter Tryz.func35,Tryz.ntmps35
 go_upto_region 1 with fail
 generalize World.alloc _ _=W at *
 have HE1:=hid (eqop_self oa oa' ops ops n oc oc' B1 B3 W hn ln (h1.kp k1) (h3.kp k1) rfl)
 have HE2:=hid fun W' (k:Kp W W')=>eqint_self ua ua' us us m uc uc' B2 B4 W' hm lm (h2.kp (k1.trans k)) (h4.kp (k1.trans k)) rfl
 have H0:=hid h0
 have H9:=hid h9
 have K1:=hid k1
 have q0:=h0.cell 0 rfl;have q1:=h0.cell 1 rfl;have q2:=h0.cell 2 rfl
 have e0:=h9.cell 0 rfl;have e1:=h9.cell 1 rfl;have e2:=h9.cell 2 rfl
 clear h0 h9 k1 h1 h2 h3 h4 ln lm hn hm
 go_wp2_with (first
  | (go_at_call 59;go_fit HE1.out;rintro r w2 ⟨rfl,k2⟩;clear q0 q1 q2 e0 e1 e2;have hq:=H0.out.kp k2;have he:=H9.out.kp k2;have q0:=hq.cell 0 rfl;have q1:=hq.cell 1 rfl;have q2:=hq.cell 2 rfl;have e0:=he.cell 0 rfl;have e1:=he.cell 1 rfl;have e2:=he.cell 2 rfl;clear hq he)
  | (go_at_call 58;go_fit (HE2.out w2 k2);rintro r w3 ⟨rfl,k3⟩)
  | fail)
 go_ret
 exact⟨rfl,K1.out.trans (k2.trans k3)⟩
end
section
open Go.RowKit Go.Sort
theorem exprV_len (p:Pr) (e:Ex):(exprV p e).2.1.length≤1100000∧(exprV p e).2.2.length≤1100000:=by
 unfold exprV
 by_cases h:exprE p e=0
 rotate_left
 ·rw[if_neg h]
  exact⟨by decide,by decide⟩
 rw[if_pos h]
 have ho:e.ok=true:=by
  unfold exprE at h
  cases he:e.ok with
  | true=>rfl
  | false=>rw[if_pos (.inr he)] at h;cases h
 have hl:=tapeF_len (allN p) [e] [] (fun x hx=>by
  rcases List.mem_cons.1 hx with rfl | hx
  ·exact (ex_ok ho).2
  ·cases hx)
 simp only[List.length_cons,List.length_nil,Nat.zero_add] at hl
 exact⟨by show (tapeF (allN p) [] [e]).1.length≤_;omega,by show (tapeF (allN p) [] [e]).2.length≤_;omega⟩
set_option maxHeartbeats 16000000 in
set_option maxRecDepth 20000 in
theorem Exprs_ok (p:Pr) (e:Ex) (w:World) (hat:p.at w w.heap.size) (hae:e.at w w.heap.size) (hT:Tab w) :
  Calls Tryz.prog 6 #[.agg #[.slice p.sa p.ss.length p.sc,.slice p.pa p.ps.length p.pc,.slice p.ma p.ms.length p.mc,.int .i64 p.tn,.int .i64 p.td],.agg #[.int .i64 e.kind,.int .i64 e.rn,.int .i64 e.rd,.string e.name,.int .i64 e.pw,.slice e.a e.l.length e.c]] w fun r w'=>r=.returned (.bool true)∧Kp w w':=by
 have k1:Kp w ((w.alloc (.cells #[.slice p.sa p.ss.length p.sc,.slice p.pa p.ps.length p.pc,.slice p.ma p.ms.length p.mc,.int .i64 p.tn,.int .i64 p.td] 27)).alloc (.cells #[.int .i64 e.kind,.int .i64 e.rn,.int .i64 e.rd,.string e.name,.int .i64 e.pw,.slice e.a e.l.length e.c] 71)):=((Kp.refl w).alloc _).alloc _
 have h0:BoxV ((w.alloc (.cells #[.slice p.sa p.ss.length p.sc,.slice p.pa p.ps.length p.pc,.slice p.ma p.ms.length p.mc,.int .i64 p.tn,.int .i64 p.td] 27)).alloc (.cells #[.int .i64 e.kind,.int .i64 e.rn,.int .i64 e.rd,.string e.name,.int .i64 e.pw,.slice e.a e.l.length e.c] 71)) w.heap.size p.cells:=(BoxV.new w p.cells _ _ rfl).kp ((Kp.refl _).alloc _)
 have he:BoxV ((w.alloc (.cells #[.slice p.sa p.ss.length p.sc,.slice p.pa p.ps.length p.pc,.slice p.ma p.ms.length p.mc,.int .i64 p.tn,.int .i64 p.td] 27)).alloc (.cells #[.int .i64 e.kind,.int .i64 e.rn,.int .i64 e.rd,.string e.name,.int .i64 e.pw,.slice e.a e.l.length e.c] 71)) (w.heap.size+1) e.cells:=BoxV.new _ e.cells _ _ (by simp)
 go_enter Tryz.func6,Tryz.ntmps6
 go_upto_region 1 with fail
 generalize World.alloc _ _=W at *
 have HAW:=hid (awakeq_any W (hT.kp k1))
 have HAT:=hid (Pr.at_kp hat k1)
 have HAE:=hid (Ex.at_kp hae k1)
 have HBW:=hid k1.size
 have HSm:=hid fun W' (k:Kp W W')=>small_any p W' w.heap.size (Pr.at_kp HAT.out k) (Nat.le_trans HBW.out k.size)
 have HXp:=hid fun W' (k:Kp W W')=>pexpr_any p e W' w.heap.size (Pr.at_kp HAT.out k) (Ex.at_kp HAE.out k) (Nat.le_trans HBW.out k.size)
 have HRp:=hid fun W' (k:Kp W W')=>r16expr_any p e W' w.heap.size (Pr.at_kp HAT.out k) (Ex.at_kp HAE.out k) (Nat.le_trans HBW.out k.size)
 have HLen:=hid (exprV_len p e)
 have H0:=hid h0
 have HE:=hid he
 have K1:=hid k1
 clear h0 he k1 hat hae hT
 go_upto_region 3 with (first | (go_at_call 13;go_fit HAW.out;rintro r w2 ⟨rfl,k2⟩) | fail)
 have K2:=hid k2
 clear k2
 have hL:=LfQ.new w2 3 w2.heap.size rfl
 go_upto_region 4 with fail
 generalize w2.alloc _=V at *
 have HL:=hid hL
 have K3:=hid (K2.out.trans hL.1)
 have hq:=H0.out.kp K3.out
 have q0:=hq.cell 0 rfl;have q1:=hq.cell 1 rfl;have q2:=hq.cell 2 rfl;have q3:=hq.cell 3 rfl;have q4:=hq.cell 4 rfl
 clear hq hL
 have HCo:=hid fun W' (k:Kp V W')=>(HL.out.kp k).count e w.heap.size (Ex.at_kp HAE.out (K3.out.trans k)) (Nat.le_trans HBW.out K2.out.size)
 go_upto_region 6 with (first
  | (go_at_call 14;go_fit (HSm.out V K3.out);rintro r w3 ⟨b,rfl,k3⟩;clear q0 q1 q2 q3 q4;have hq:=HE.out.kp (K3.out.trans k3);have e0:=hq.cell 0 rfl;have e1:=hq.cell 1 rfl;have e2:=hq.cell 2 rfl;have e3:=hq.cell 3 rfl;have e4:=hq.cell 4 rfl;have e5:=hq.cell 5 rfl;clear hq;cases b)
  | (go_at_call 32;go_fit (HCo.out w3 k3);rintro r w4 ⟨b,rfl,k4,_,_⟩;clear e0 e1 e2 e3 e4 e5;have hq:=H0.out.kp (K2.out.trans k4);have q0:=hq.cell 0 rfl;have q1:=hq.cell 1 rfl;have q2:=hq.cell 2 rfl;have q3:=hq.cell 3 rfl;have q4:=hq.cell 4 rfl;have hq2:=HE.out.kp (K2.out.trans k4);have e0:=hq2.cell 0 rfl;have e1:=hq2.cell 1 rfl;have e2:=hq2.cell 2 rfl;have e3:=hq2.cell 3 rfl;have e4:=hq2.cell 4 rfl;have e5:=hq2.cell 5 rfl;clear hq hq2;cases b)
  | fail)
 ·go_ret
  exact⟨rfl,K1.out.trans (K3.out.trans k3)⟩
 ·go_ret
  exact⟨rfl,K1.out.trans (K2.out.trans k4)⟩
 have K4:=hid (K2.out.trans k4)
 clear k3 k4
 go_upto_region 7 with (first | (go_at_call 33;go_fit (HXp.out w4 K4.out);rintro r w5 ⟨oa,oc,ua,uc,rfl,hro,hru,k5⟩) | fail)
 generalize hEe:exprE p e=E at *
 generalize hV:exprV p e=V3 at *
 have HEe:=hid hEe
 have HVe:=hid hV
 clear hV hEe
 have kA:=(Kp.refl w5).alloc (.cells #[.int .i64 V3.1,.slice oa V3.2.1.length oc,.slice ua V3.2.2.length uc] 57)
 have ht1:BoxV (w5.alloc (.cells #[.int .i64 V3.1,.slice oa V3.2.1.length oc,.slice ua V3.2.2.length uc] 57)) w5.heap.size [.int .i64 V3.1,.slice oa V3.2.1.length oc,.slice ua V3.2.2.length uc]:=BoxV.new w5 [_,_,_] _ _ rfl
 have HRo:=hid (hro.kp kA)
 have HRu:=hid (hru.kp kA)
 have K5:=hid (K4.out.trans (k5.trans kA))
 have HT1:=hid ht1
 clear hro hru k5 kA ht1 q0 q1 q2 q3 q4 e0 e1 e2 e3 e4 e5
 generalize World.alloc w5 _=X at *
 have hq:=H0.out.kp K5.out
 have q0:=hq.cell 0 rfl;have q1:=hq.cell 1 rfl;have q2:=hq.cell 2 rfl;have q3:=hq.cell 3 rfl;have q4:=hq.cell 4 rfl
 have hq2:=HE.out.kp K5.out
 have e0:=hq2.cell 0 rfl;have e1:=hq2.cell 1 rfl;have e2:=hq2.cell 2 rfl;have e3:=hq2.cell 3 rfl;have e4:=hq2.cell 4 rfl;have e5:=hq2.cell 5 rfl
 clear hq hq2
 go_upto_region 8 with (first | (go_at_call 34;go_fit (HRp.out X K5.out);rintro r w6 ⟨oa',oc',ua',uc',hr6,hro,hru,k6⟩;rw[HVe.out,HEe.out] at hr6;rw[HVe.out] at hro hru;subst hr6) | fail)
 have kB:=(Kp.refl w6).alloc (.cells #[.int .i64 V3.1,.slice oa' V3.2.1.length oc',.slice ua' V3.2.2.length uc'] 57)
 have ht2:BoxV (w6.alloc (.cells #[.int .i64 V3.1,.slice oa' V3.2.1.length oc',.slice ua' V3.2.2.length uc'] 57)) w6.heap.size [.int .i64 V3.1,.slice oa' V3.2.1.length oc',.slice ua' V3.2.2.length uc']:=BoxV.new w6 [_,_,_] _ _ rfl
 have kC:=k6.trans kB
 have HRo1:=hid (HRo.out.kp kC)
 have HRu1:=hid (HRu.out.kp kC)
 have HRo2:=hid (hro.kp kB)
 have HRu2:=hid (hru.kp kB)
 have h1:=HT1.out.kp kC
 have K6:=hid (K5.out.trans kC)
 clear hro hru k6 kB kC q0 q1 q2 q3 q4 e0 e1 e2 e3 e4 e5
 generalize World.alloc w6 _=Y at *
 have s0:=h1.cell 0 rfl;have s1:=h1.cell 1 rfl;have s2:=h1.cell 2 rfl
 have t0:=ht2.cell 0 rfl;have t1:=ht2.cell 1 rfl;have t2:=ht2.cell 2 rfl
 have HTs:=hid (tapes_same V3.1 V3.2.1 V3.2.2 V3.2.1.length V3.2.2.length oa oa' ua ua' oc oc' uc uc' _ _ _ _ Y rfl rfl HRo1.out HRu1.out HRo2.out HRu2.out HLen.out.1 HLen.out.2)
 clear h1 ht2
 go_wp2_with (first | (go_at_call 35;go_fit HTs.out;rintro r w7 ⟨rfl,k7⟩) | fail)
 go_ret
 exact⟨rfl,K1.out.trans (K6.out.trans k7)⟩
end
end Go.Proofs.YteidgoldnllabaaGreatDoor
