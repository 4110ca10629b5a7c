/-
  Walks: problem.Expr.
-/
import Derived.Test.YteidgoldnllabaaGreatDoorMSysN
import Derived.Test.YteidgoldnllabaaGreatDoorMIvlN
import Derived.Test.YteidgoldnllabaaGreatDoorMWalN
import Derived.Test.YteidgoldnllabaaGreatDoorMLawQa
namespace Go.Proofs.YteidgoldnllabaaGreatDoor
open Go.RowKit
open Lib (hid)
section
open Go.RowKit Go.Sort
theorem rowV_newg' {α:Type} {cells:α→List Value} {k:Nat} (hk:∀ x,(cells x).length=k) (_h0:0<k) (w:World) (T:TypeId) (zs:List α) {a:Array Value} (ha:(zs.flatMap cells).toArray=a):RowV cells k (w.alloc (.cells a T)) (w.alloc (.cells a T)).heap.size (some ⟨w.heap.size,0,none⟩) zs:=by
 subst ha
 intro i x hx
 refine⟨w.heap.size,0,rfl,by rw[World.size_alloc];omega,?_⟩
 intro j u hj
 have hjk:j<k:=by rw[← hk x];exact (List.getElem?_eq_some_iff.1 hj).1
 have h1:=flatV_at cells k hk zs i j x hx hjk
 have h2:=CellsV.new w (zs.flatMap cells) T w.heap.size rfl (i*k+j) u (h1.trans hj)
 rw[Nat.zero_add] at h2 ⊢
 exact h2
def exprE (p:Pr) (e:Ex):Int:=if okF p=false∨e.ok=false then 1 else if (knownF (allN p) e).isSome=true then 7 else 0
def exprV (p:Pr) (e:Ex):Int×List Opn×List Int:=if exprE p e=0 then (((allN p).length:Int),(tapeF (allN p) [] [e]).1,(tapeF (allN p) [] [e]).2) else (0,[],[])
def XprOut (w:World) (p:Pr) (e:Ex) (r:Ending) (w':World):Prop :=
 ∃ (oa:Option Addr) (oc:Nat) (ua:Option Addr) (uc:Nat),r=.returned (.tuple #[.agg #[.int .i64 (exprV p e).1,.slice oa (exprV p e).2.1.length oc,.slice ua (exprV p e).2.2.length uc],.int .i64 (exprE p e)])∧RowV Opn.cells 6 w' w'.heap.size oa (exprV p e).2.1∧RowV numC 1 w' w'.heap.size ua (exprV p e).2.2∧Kp w w'
theorem xpr_no {w w':World} {p:Pr} {e:Ex} {c:Int} (h:exprE p e=c) (h0:c≠0) (k:Kp w w'):XprOut w p e (.returned (.tuple #[.agg #[.int .i64 0,.slice none 0 0,.slice none 0 0],.int .i64 c])) w':=by
 have hv:exprV p e=(0,[],[]):=by unfold exprV;rw[h,if_neg h0]
 refine⟨none,0,none,0,?_,?_,?_,k⟩
 ·rw[hv,h];rfl
 ·rw[hv];intro i x hx;simp at hx
 rw[hv];intro i x hx;simp at hx
theorem unkF_any:∀ (all ss:List ByteArray),(ss.any fun s=>!inS all s)=(unknF all ss).isSome
 | _,[]=>rfl
 | all,s::t=>by
  rw[List.any_cons,unkF_any all t,unknF]
  unfold isIn
  cases inS all s <;> rfl
set_option maxHeartbeats 1000000 in
theorem expr1_any (all:List ByteArray) (a:Option Addr) (c:Nat) (g:Nat) (s:ByteArray) (w:World) (hg:w.cell? ⟨g,0,none⟩=some (.slice a all.length c)) (hr:RowS w a all) (hl:all.length≤1100000) :
  Calls Tryz.prog 96 #[.string s,.pointer (some ⟨g,0,none⟩)] w fun r w'=>r=.returned (.bool (!inS all s))∧Kp w w':=by
 have HC:=hid (conS_any a c all s w hr hl)
 clear hr
 go_enter Tryz.func96,Tryz.ntmps96
 go_wp2_with (first | (go_at_call 97;go_fit HC.out;rintro r w1 ⟨rfl,rfl⟩) | fail)
 go_ret
 exact⟨rfl,.refl _⟩
theorem box3_set {w W:World} {g:Nat} {v0 v1 v2:Value} (h:BoxV W g [v0,v1,v2]) (k:Kp w W) (hg:w.heap.size≤g) (n0:∀ n:Int,v0≠.int .u32 n) (n1:∀ n:Int,v1≠.int .u32 n) (n2:∀ n:Int,v2≠.int .u32 n) (x0 x1 x2:Value) {W':World} (hW:(((W.setCell ⟨g,0,none⟩ x0).setCell ⟨g,1,none⟩ x1).setCell ⟨g,2,none⟩ x2)=W') :
  BoxV W' g [x0,x1,x2]∧Kp w W'∧Upd g W W':=by
 subst hW
 have h1:=h.set (i:=0) (by simp) x0
 have h2:=h1.set (i:=1) (by simp) x1
 have h3:=h2.set (i:=2) (by simp) x2
 exact⟨h3,((k.set hg x0).set hg x1).set hg x2,(((Upd.refl g W).step (h.cell 0 rfl) n0 x0).step (h1.cell 1 rfl) n1 x1).step (h2.cell 2 rfl) n2 x2⟩
set_option maxHeartbeats 8000000 in
set_option maxRecDepth 20000 in
theorem pexpr_any (p:Pr) (e:Ex) (w:World) (B:Nat) (hat:p.at w B) (hae:e.at w B) (hB:B≤w.heap.size) :
  Calls Tryz.prog 33 #[.agg #[.slice p.sa p.ss.length p.sc,.slice p.pa p.ps.length p.pc,.slice p.ma p.ms.length p.mc,.int .i64 p.tn,.int .i64 p.td],.agg #[.int .i64 e.kind,.int .i64 e.rn,.int .i64 e.rd,.string e.name,.int .i64 e.pw,.slice e.a e.l.length e.c]] w (XprOut w p e):=by
 have k1:Kp w (((w.alloc (.cells #[.slice p.sa p.ss.length p.sc,.slice p.pa p.ps.length p.pc,.slice p.ma p.ms.length p.mc,.int .i64 p.tn,.int .i64 p.td] 27)).alloc (.cells #[.int .i64 e.kind,.int .i64 e.rn,.int .i64 e.rd,.string e.name,.int .i64 e.pw,.slice e.a e.l.length e.c] 71)).alloc (.cells #[.int .i64 0,.slice none 0 0,.slice none 0 0] 57)):=(((Kp.refl w).alloc _).alloc _).alloc _
 have h0:BoxV (((w.alloc (.cells #[.slice p.sa p.ss.length p.sc,.slice p.pa p.ps.length p.pc,.slice p.ma p.ms.length p.mc,.int .i64 p.tn,.int .i64 p.td] 27)).alloc (.cells #[.int .i64 e.kind,.int .i64 e.rn,.int .i64 e.rd,.string e.name,.int .i64 e.pw,.slice e.a e.l.length e.c] 71)).alloc (.cells #[.int .i64 0,.slice none 0 0,.slice none 0 0] 57)) w.heap.size p.cells:=(BoxV.new w p.cells _ _ rfl).kp (((Kp.refl _).alloc _).alloc _)
 have he:BoxV (((w.alloc (.cells #[.slice p.sa p.ss.length p.sc,.slice p.pa p.ps.length p.pc,.slice p.ma p.ms.length p.mc,.int .i64 p.tn,.int .i64 p.td] 27)).alloc (.cells #[.int .i64 e.kind,.int .i64 e.rn,.int .i64 e.rd,.string e.name,.int .i64 e.pw,.slice e.a e.l.length e.c] 71)).alloc (.cells #[.int .i64 0,.slice none 0 0,.slice none 0 0] 57)) (w.heap.size+1) e.cells:=(BoxV.new _ e.cells _ _ (by simp)).kp ((Kp.refl _).alloc _)
 have hr:BoxV (((w.alloc (.cells #[.slice p.sa p.ss.length p.sc,.slice p.pa p.ps.length p.pc,.slice p.ma p.ms.length p.mc,.int .i64 p.tn,.int .i64 p.td] 27)).alloc (.cells #[.int .i64 e.kind,.int .i64 e.rn,.int .i64 e.rd,.string e.name,.int .i64 e.pw,.slice e.a e.l.length e.c] 71)).alloc (.cells #[.int .i64 0,.slice none 0 0,.slice none 0 0] 57)) (w.heap.size+1+1) [.int .i64 0,.slice none 0 0,.slice none 0 0]:=BoxV.new _ [_,_,_] _ _ (by simp)
 go_enter Tryz.func33,Tryz.ntmps33
 go_upto_region 1 with fail
 generalize World.alloc _ _=W at *
 have HAT:=hid (Pr.at_kp hat k1)
 have HAE:=hid (Ex.at_kp hae k1)
 have HBW:=hid (Nat.le_trans hB k1.size)
 have HC:=hid (pvalid_any p W B HAT.out HBW.out)
 have HV:=hid fun W' (k:Kp W W')=>tvalid_any e B W' (Ex.at_kp HAE.out k) (Nat.le_trans HBW.out k.size)
 have HR:=hid hr
 have H0:=hid h0
 have HE:=hid he
 have K1:=hid k1
 have q0:=h0.cell 0 rfl;have q1:=h0.cell 1 rfl;have q2:=h0.cell 2 rfl;have q3:=h0.cell 3 rfl;have q4:=h0.cell 4 rfl
 have e0:=he.cell 0 rfl;have e1:=he.cell 1 rfl;have e2:=he.cell 2 rfl;have e3:=he.cell 3 rfl;have e4:=he.cell 4 rfl;have e5:=he.cell 5 rfl
 clear h0 he hr k1 hat hae hB
 cases hf:okF p with
 | false =>
  rw[hf] at HC
  have HZ:=hid (show exprE p e=1 from if_pos (.inl hf))
  clear hf
  go_wp2_with (first | (go_at_call 17;go_fit HC.out;rintro r w2 ⟨rfl,k2⟩;have hR:=HR.out.kp k2;have r0:=hR.cell 0 rfl;have r1:=hR.cell 1 rfl;have r2:=hR.cell 2 rfl;have f0:=hR.2.1 0;have f1:=hR.2.1 1;have f2:=hR.2.1 2;have HRR:=hid hR;clear hR) | fail)
  generalize hW9:((World.setCell _ _ _).setCell _ _).setCell _ _=W9
  obtain⟨hF,hK,_⟩:=box3_set HRR.out (K1.out.trans k2) (show w.heap.size≤w.heap.size+1+1 by omega) nofun nofun nofun _ _ _ hW9
  have s0:=hF.cell 0 rfl
  have s1:=hF.cell 1 rfl
  have s2:=hF.cell 2 rfl
  refine bodyPost_ret (v:=.tuple #[.agg #[.int .i64 0,.slice none 0 0,.slice none 0 0],.int .i64 1]) (by simp[results,Tryz.results33,go_sem,s0,s1,s2]) rfl ?_
  exact xpr_no HZ.out (by decide) hK
 | true =>
 rw[hf] at HC
 have hok:=hf
 have hnf:¬ okF p=false:=by rw[hf];decide
 clear hf
 cases he:e.ok with
 | false =>
  rw[he] at HV
  have HZ:=hid (show exprE p e=1 from if_pos (.inr he))
  clear he hok hnf
  go_wp2_with (first
   | (go_at_call 17;go_fit HC.out;rintro r w2 ⟨rfl,k2⟩;clear q0 q1 q2 q3 q4 e0 e1 e2 e3 e4 e5;have hq:=HE.out.kp k2;have e0:=hq.cell 0 rfl;have e1:=hq.cell 1 rfl;have e2:=hq.cell 2 rfl;have e3:=hq.cell 3 rfl;have e4:=hq.cell 4 rfl;have e5:=hq.cell 5 rfl;clear hq)
   | (go_at_call 93;go_fit (HV.out w2 k2);rintro r w3 ⟨rfl,k3⟩;have hR:=HR.out.kp (k2.trans k3);have r0:=hR.cell 0 rfl;have r1:=hR.cell 1 rfl;have r2:=hR.cell 2 rfl;have f0:=hR.2.1 0;have f1:=hR.2.1 1;have f2:=hR.2.1 2;have HRR:=hid hR;clear hR)
   | fail)
  generalize hW9:((World.setCell _ _ _).setCell _ _).setCell _ _=W9
  obtain⟨hF,hK,_⟩:=box3_set HRR.out (K1.out.trans (k2.trans k3)) (show w.heap.size≤w.heap.size+1+1 by omega) nofun nofun nofun _ _ _ hW9
  have s0:=hF.cell 0 rfl
  have s1:=hF.cell 1 rfl
  have s2:=hF.cell 2 rfl
  refine bodyPost_ret (v:=.tuple #[.agg #[.int .i64 0,.slice none 0 0,.slice none 0 0],.int .i64 1]) (by simp[results,Tryz.results33,go_sem,s0,s1,s2]) rfl ?_
  exact xpr_no HZ.out (by decide) hK
 | true =>
 rw[he] at HV
 have hss:=probB_ss (okF_prob hok)
 have hal:(allN p).length≤8:=by unfold allN;rw[List.length_append,List.length_map,List.length_map];omega
 have HEx:=hid (show exprE p e=if (knownF (allN p) e).isSome=true then 7 else 0 by unfold exprE;rw[if_neg (fun h=>by rcases h with h | h;exact hnf h;rw[he] at h;cases h)])
 have HFin:=hid (ex_ok he)
 have HNm:=hid fun W' (k:Kp W W')=>pnames_any p W' B (Pr.at_kp HAT.out k) (by omega) (by omega) (by omega)
 have HTn:=hid fun W' (k:Kp W W')=>tnames_any e B W' (Ex.at_kp HAE.out k) (Nat.le_trans HBW.out k.size)
 clear he hok hnf
 go_upto_region 3 with (first
  | (go_at_call 17;go_fit HC.out;rintro r w2 ⟨rfl,k2⟩;clear q0 q1 q2 q3 q4 e0 e1 e2 e3 e4 e5;have hq:=HE.out.kp k2;have e0:=hq.cell 0 rfl;have e1:=hq.cell 1 rfl;have e2:=hq.cell 2 rfl;have e3:=hq.cell 3 rfl;have e4:=hq.cell 4 rfl;have e5:=hq.cell 5 rfl;clear hq)
  | (go_at_call 93;go_fit (HV.out w2 k2);rintro r w3 ⟨rfl,k3⟩;clear e0 e1 e2 e3 e4 e5;have hq:=H0.out.kp (k2.trans k3);have q0:=hq.cell 0 rfl;have q1:=hq.cell 1 rfl;have q2:=hq.cell 2 rfl;have q3:=hq.cell 3 rfl;have q4:=hq.cell 4 rfl;clear hq)
  | fail)
 have K3:=hid (k2.trans k3)
 clear k2 k3
 go_upto_region 4 with (first
  | (go_at_call 77;go_fit (HNm.out w3 K3.out);rintro r w4 ⟨v4,rfl,hN⟩;obtain⟨na,nc,rfl,hnr⟩:=hN.sl;have hN1:=hN.1)
  | fail)
 have kA:=(Kp.refl w4).alloc (.cells #[.slice na (allN p).length nc] 46)
 have hab:BoxV (w4.alloc (.cells #[.slice na (allN p).length nc] 46)) w4.heap.size [.slice na (allN p).length nc]:=BoxV.new w4 [_] _ _ rfl
 have HNr:=hid (hnr.kp kA)
 have K5:=hid (K3.out.trans (hN1.trans kA))
 have HAb:=hid hab
 clear q0 q1 q2 q3 q4 hnr hN hN1 kA hab
 generalize w4.alloc _=X at *
 have hq:=HE.out.kp K5.out
 have e0:=hq.cell 0 rfl;have e1:=hq.cell 1 rfl;have e2:=hq.cell 2 rfl;have e3:=hq.cell 3 rfl;have e4:=hq.cell 4 rfl;have e5:=hq.cell 5 rfl
 clear hq
 have hle:=namO_le e
 have hmf:∀ (fn:Fn) (first cap:Array Value) (w:World),(Instr.makeFunc fn first cap).run Tryz.prog w=.ok (.func fn first cap) w:=fun _ _ _ _=>rfl
 have HAn:=hid fun W' (k:Kp X W')=>show AnsS Tryz.prog 96 #[.pointer (some ⟨w4.heap.size,0,none⟩)] W' (namO e) (fun s=>!inS (allN p) s) from ⟨fun _ _=>by kernel_rfl,fun s _ w1 h1=>expr1_any (allN p) na nc w4.heap.size s w1 ((HAb.out.kp (k.trans h1)).cell 0 rfl) (HNr.out.kp (k.trans h1)) (by omega)⟩
 have HKn:=hid (show ((namO e).any fun s=>!inS (allN p) s)=(knownF (allN p) e).isSome from unkF_any _ _)
 cases hk:(knownF (allN p) e).isSome with
 | true =>
  rw[hk] at HKn HEx
  have HZ:=hid (show exprE p e=7 from HEx.out)
  clear hk HEx
  go_wp2_with (first
   | (go_at_call 95;go_fit (HTn.out X K5.out);rintro r w5 ⟨v5,rfl,hv5,k5⟩;obtain⟨va,vc,rfl,hrow⟩:=rowS_own hv5;clear e0 e1 e2 e3 e4 e5)
   | (go_at_call 94;go_fit (containsS va (namO e) vc _ _ w5 (fun s=>!inS (allN p) s) (by omega) hrow (HAn.out w5 k5));rw[HKn.out];rintro r w6 ⟨rfl,k6⟩;have hR:=HR.out.kp (K5.out.trans (k5.trans k6));have r0:=hR.cell 0 rfl;have r1:=hR.cell 1 rfl;have r2:=hR.cell 2 rfl;have f0:=hR.2.1 0;have f1:=hR.2.1 1;have f2:=hR.2.1 2;have HRR:=hid hR;clear hR)
   | fail)
  generalize hW9:((World.setCell _ _ _).setCell _ _).setCell _ _=W9
  obtain⟨hF,hK,_⟩:=box3_set HRR.out (K1.out.trans (K5.out.trans (k5.trans k6))) (show w.heap.size≤w.heap.size+1+1 by omega) nofun nofun nofun _ _ _ hW9
  have s0:=hF.cell 0 rfl
  have s1:=hF.cell 1 rfl
  have s2:=hF.cell 2 rfl
  refine bodyPost_ret (v:=.tuple #[.agg #[.int .i64 0,.slice none 0 0,.slice none 0 0],.int .i64 7]) (by simp[results,Tryz.results33,go_sem,s0,s1,s2]) rfl ?_
  exact xpr_no HZ.out (by decide) hK
 | false =>
 rw[hk] at HKn HEx
 have HZ:=hid (show exprE p e=0 from HEx.out)
 clear hk HEx
 go_upto_region 6 with (first
  | (go_at_call 95;go_fit (HTn.out X K5.out);rintro r w5 ⟨v5,rfl,hv5,k5⟩;obtain⟨va,vc,rfl,hrow⟩:=rowS_own hv5;clear e0 e1 e2 e3 e4 e5)
  | (go_at_call 94;go_fit (containsS va (namO e) vc _ _ w5 (fun s=>!inS (allN p) s) (by omega) hrow (HAn.out w5 k5));rw[HKn.out];rintro r w6 ⟨rfl,k6⟩)
  | fail)
 have K6:=hid (K5.out.trans (k5.trans k6))
 have hq:=HE.out.kp K6.out
 have e0:=hq.cell 0 rfl;have e1:=hq.cell 1 rfl;have e2:=hq.cell 2 rfl;have e3:=hq.cell 3 rfl;have e4:=hq.cell 4 rfl;have e5:=hq.cell 5 rfl
 clear hq
 have p0:=(HAb.out.kp ((k5.trans k6).alloc (.cells #[.int .i64 e.kind,.int .i64 e.rn,.int .i64 e.rd,.string e.name,.int .i64 e.pw,.slice e.a e.l.length e.c] 71))).cell 0 rfl
 have HNr6:=hid (HNr.out.kp (k5.trans k6))
 have HW6:=hid (show w.heap.size+1+1<w6.heap.size from (HR.out.kp K6.out).2.2)
 clear k5 k6
 have hT:=tapeOf_any [e] (some ⟨w6.heap.size,0,none⟩) 1 (w6.alloc (.cells #[.int .i64 e.kind,.int .i64 e.rn,.int .i64 e.rd,.string e.name,.int .i64 e.pw,.slice e.a e.l.length e.c] 71)).heap.size (allN p) na nc (w6.alloc (.cells #[.int .i64 e.kind,.int .i64 e.rn,.int .i64 e.rd,.string e.name,.int .i64 e.pw,.slice e.a e.l.length e.c] 71)) (rowX_of (rowV_newg' Ex.cells_len (by decide) w6 _ [e] rfl)) (fun x hx=>by
  rcases List.mem_cons.1 hx with rfl | hx
  ·exact Ex.at_up (Ex.at_kp HAE.out (K6.out.alloc _)) (Nat.le_trans HBW.out (K6.out.alloc _).size)
  ·cases hx) (fun x hx=>by
  rcases List.mem_cons.1 hx with rfl | hx
  ·exact HFin.out.1
  ·cases hx) (fun x hx=>by
  rcases List.mem_cons.1 hx with rfl | hx
  ·exact HFin.out.2
  ·cases hx) (by show (1:Nat)≤200;decide) (HNr6.out.kp ((Kp.refl _).alloc _)) (by omega)
 have HT:=hid (show Calls Tryz.prog 86 #[.slice (some ⟨w6.heap.size,0,none⟩) 1 1,.slice na (allN p).length nc] (w6.alloc (.cells #[.int .i64 e.kind,.int .i64 e.rn,.int .i64 e.rd,.string e.name,.int .i64 e.pw,.slice e.a e.l.length e.c] 71)) (TapOut (w6.alloc (.cells #[.int .i64 e.kind,.int .i64 e.rn,.int .i64 e.rd,.string e.name,.int .i64 e.pw,.slice e.a e.l.length e.c] 71)) (allN p) (tapeF (allN p) [] [e])) from hT)
 clear hT
 go_wp2_with (first
  | (go_at_call 86;go_fit HT.out;rintro r w7 ⟨oa,oc,ua,uc,rfl,hro,hru,k7,lo,lu⟩;have K7:=hid (K6.out.trans (((Kp.refl _).alloc _).trans k7));have hR:=HR.out.kp K7.out;have r0:=hR.cell 0 rfl;have r1:=hR.cell 1 rfl;have r2:=hR.cell 2 rfl;have f0:=hR.2.1 0;have f1:=hR.2.1 1;have f2:=hR.2.1 2;have HRR:=hid hR;clear hR)
  | fail)
 generalize hW9:((World.setCell _ _ _).setCell _ _).setCell _ _=W9
 obtain⟨hF,hK,hU⟩:=box3_set HRR.out (K1.out.trans K7.out) (show w.heap.size≤w.heap.size+1+1 by omega) nofun nofun nofun _ _ _ hW9
 have s0:=hF.cell 0 rfl
 have s1:=hF.cell 1 rfl
 have s2:=hF.cell 2 rfl
 have hs:W9.heap.size=w7.heap.size:=hU.2.2.2.2
 refine bodyPost_ret (v:=.tuple #[.agg #[.int .i64 ((allN p).length:Int),.slice oa (tapeF (allN p) [] [e]).1.length oc,.slice ua (tapeF (allN p) [] [e]).2.length uc],.int .i64 0]) (by simp[results,Tryz.results33,go_sem,s0,s1,s2]) rfl ?_
 have hv:exprV p e=(((allN p).length:Int),(tapeF (allN p) [] [e]).1,(tapeF (allN p) [] [e]).2):=if_pos HZ.out
 have l6:=HW6.out
 refine⟨oa,oc,ua,uc,by rw[hv,HZ.out],?_,?_,hK⟩
 ·rw[hv,hs]
  exact rowV_upd hro hU fun b o e=>by have:=lo b o e;rw[World.size_alloc] at this;omega
 rw[hv,hs]
 exact rowV_upd hru hU fun b o e=>by have:=lu b o e;rw[World.size_alloc] at this;omega
end
section
open Go.RowKit Go.Sort
theorem modeO_no {p:Pr} {s:ByteArray} (h:okF p=false):modeO p s=none:=by unfold modeO;rw[h];rfl
theorem pmode_no (p:Pr) (s:ByteArray) (w:World) (B:Nat) (hat:p.at w B) (hB:B≤w.heap.size) (h:okF p=false) :
  Calls Tryz.prog 18 #[.agg #[.slice p.sa p.ss.length p.sc,.slice p.pa p.ps.length p.pc,.slice p.ma p.ms.length p.mc,.int .i64 p.tn,.int .i64 p.td],.string s] w fun r w'=>r=.returned (.tuple #[.agg #[.string ⟨#[]⟩,.slice none 0 0,.slice none 0 0],.bool false])∧Kp w w':=by
 have:=pmode_any p s w B hat hB
 rw[modeO_no h] at this
 exact this
def SysNo (w:World) (r:Ending) (w':World):Prop:=∃ oa oc ua uc pa pc,r=.returned (.tuple #[.agg #[.int .i64 0,.slice oa 0 oc,.slice ua 0 uc,.int .i64 0,.slice pa 0 pc],.int .i64 1])∧Kp w w'
theorem system_no (p:Pr) (s:ByteArray) (prec:Int) (w:World) (B:Nat) (hat:p.at w B) (hB:B≤w.heap.size) (hT:Tab w) (h:okF p=false) :
  Calls Tryz.prog 28 #[.agg #[.slice p.sa p.ss.length p.sc,.slice p.pa p.ps.length p.pc,.slice p.ma p.ms.length p.mc,.int .i64 p.tn,.int .i64 p.td],.string s,.int .i64 prec] w (SysNo w):=by
 refine (system_any p s prec w B hat hB hT).mono ?_
 rintro r w' ⟨x,rfl,_,hv,k⟩
 rw[show sysE p s prec=1 from if_pos h]
 rw[show sysV p s prec=Sy.zero.val by unfold sysV;rw[modeO_no h]] at hv
 obtain⟨ins,oa,oc,ops,ua,uc,outs,st,pa,pc,ps⟩:=x
 simp only[Sy.val,Sy.zero,Prod.mk.injEq,List.map_nil,List.map_eq_nil_iff] at hv
 obtain⟨rfl,rfl,rfl,rfl,rfl⟩:=hv
 exact⟨oa,oc,ua,uc,pa,pc,rfl,k⟩
theorem start_no (p:Pr) (prec:Int) (w:World) (B:Nat) (hat:p.at w B) (hB:B≤w.heap.size) (hT:Tab w) (h:okF p=false) :
  Calls Tryz.prog 38 #[.agg #[.slice p.sa p.ss.length p.sc,.slice p.pa p.ps.length p.pc,.slice p.ma p.ms.length p.mc,.int .i64 p.tn,.int .i64 p.td],.int .i64 prec] w fun r w'=>∃ a c,r=.returned (.tuple #[.slice a 0 c,.int .i64 1])∧Kp w w':=by
 refine (pstart_any p prec w B hat hB hT).mono ?_
 rintro r w' ⟨v,zs,rfl,hO,hm,_⟩
 have he:staE p prec=1:=if_pos h
 rw[show staV p prec=[] by unfold staV;rw[he];rfl] at hm
 obtain rfl:zs=[]:=List.map_eq_nil_iff.1 hm
 obtain⟨za,zc,rfl,_⟩:=hO.value
 exact⟨za,zc,by rw[he];rfl,hO.1⟩
theorem expr_no (p:Pr) (e:Ex) (w:World) (B:Nat) (hat:p.at w B) (hae:e.at w B) (hB:B≤w.heap.size) (h:okF p=false) :
  Calls Tryz.prog 33 #[.agg #[.slice p.sa p.ss.length p.sc,.slice p.pa p.ps.length p.pc,.slice p.ma p.ms.length p.mc,.int .i64 p.tn,.int .i64 p.td],.agg #[.int .i64 e.kind,.int .i64 e.rn,.int .i64 e.rd,.string e.name,.int .i64 e.pw,.slice e.a e.l.length e.c]] w fun r w'=>∃ oa oc ua uc,r=.returned (.tuple #[.agg #[.int .i64 0,.slice oa 0 oc,.slice ua 0 uc],.int .i64 1])∧Kp w w':=by
 refine (pexpr_any p e w B hat hae hB).mono ?_
 rintro r w' ⟨oa,oc,ua,uc,rfl,_,_,k⟩
 have he:exprE p e=1:=if_pos (.inl h)
 have hv:exprV p e=(0,[],[]):=by unfold exprV;rw[he];rfl
 exact⟨oa,oc,ua,uc,by rw[hv,he];rfl,k⟩
theorem names_no (p:Pr) (w:World) (B:Nat) (hat:p.at w B) (hB:B≤w.heap.size) (h:okF p=false) :
  Calls Tryz.prog 21 #[.agg #[.slice p.sa p.ss.length p.sc,.slice p.pa p.ps.length p.pc,.slice p.ma p.ms.length p.mc,.int .i64 p.tn,.int .i64 p.td]] w fun r w'=>∃ a c,r=.returned (.slice a 0 c)∧Kp w w':=by
 refine (pnamesV_any p w B hat hB).mono ?_
 rintro r w' ⟨v,rfl,hO⟩
 rw[nmsF_no h] at hO
 obtain⟨a,c,rfl,_⟩:=hO.sl
 exact⟨a,c,rfl,hO.1⟩
theorem mo_len (x:Mo):x.cells.length=3:=rfl
theorem mo_one (x:Mo):∀ u∈x.cells,u.oneCell'=true:=oneC rfl
def runM:Mo:=⟨⟨#[114,117,110]⟩,none,0,[],none,0,[]⟩
theorem row_run (w:World) (T:TypeId):∀ (i:Nat) (y:Mo),[runM][i]? = some y→∀ (j:Nat) (u:Value),y.cells[j]? = some u→(w.alloc (.cells #[.string ⟨#[114,117,110]⟩,.slice none 0 0,.slice none 0 0] T)).cell? ((⟨w.heap.size,0,none⟩:Addr).add (i*3+j))=some u:=fun i y hy j u hj=>by
 match i,hy with
 | 0,hy =>
  cases hy
  have:=(BoxV.new w runM.cells T _ rfl).1 j u hj
  rw[addr_add,Nat.zero_mul,Nat.zero_add]
  exact this
 | i+1,hy=>simp at hy
set_option maxHeartbeats 16000000 in
set_option maxRecDepth 20000 in
theorem Faults_ok (p:Pr) (e:Ex) (w:World) (hat:p.at w w.heap.size) (hae:e.at w w.heap.size) (hT:Tab w) :
  Calls Tryz.prog 8 #[.agg #[.slice p.sa p.ss.length p.sc,.slice p.pa p.ps.length p.pc,.slice p.ma p.ms.length p.mc,.int .i64 p.tn,.int .i64 p.td],.agg #[.int .i64 e.kind,.int .i64 e.rn,.int .i64 e.rd,.string e.name,.int .i64 e.pw,.slice e.a e.l.length e.c]] w fun r w'=>r=.returned (.bool true)∧Kp w w':=by
 have k1:Kp w ((w.alloc (.cells #[.slice p.sa p.ss.length p.sc,.slice p.pa p.ps.length p.pc,.slice p.ma p.ms.length p.mc,.int .i64 p.tn,.int .i64 p.td] 27)).alloc (.cells #[.int .i64 e.kind,.int .i64 e.rn,.int .i64 e.rd,.string e.name,.int .i64 e.pw,.slice e.a e.l.length e.c] 71)):=((Kp.refl w).alloc _).alloc _
 have h0:BoxV ((w.alloc (.cells #[.slice p.sa p.ss.length p.sc,.slice p.pa p.ps.length p.pc,.slice p.ma p.ms.length p.mc,.int .i64 p.tn,.int .i64 p.td] 27)).alloc (.cells #[.int .i64 e.kind,.int .i64 e.rn,.int .i64 e.rd,.string e.name,.int .i64 e.pw,.slice e.a e.l.length e.c] 71)) w.heap.size p.cells:=(BoxV.new w p.cells _ _ rfl).kp ((Kp.refl _).alloc _)
 have he:BoxV ((w.alloc (.cells #[.slice p.sa p.ss.length p.sc,.slice p.pa p.ps.length p.pc,.slice p.ma p.ms.length p.mc,.int .i64 p.tn,.int .i64 p.td] 27)).alloc (.cells #[.int .i64 e.kind,.int .i64 e.rn,.int .i64 e.rd,.string e.name,.int .i64 e.pw,.slice e.a e.l.length e.c] 71)) (w.heap.size+1) e.cells:=BoxV.new _ e.cells _ _ (by simp)
 go_enter Tryz.func8,Tryz.ntmps8
 go_upto_region 1 with fail
 generalize World.alloc _ _=W at *
 have HAW:=hid (awakeq_any W (hT.kp k1))
 have HAT:=hid (Pr.at_kp hat k1)
 have HAE:=hid (Ex.at_kp hae k1)
 have HBW:=hid k1.size
 have HT:=hid (hT.kp k1)
 have HSm:=hid fun W' (k:Kp W W')=>small_any p W' w.heap.size (Pr.at_kp HAT.out k) (Nat.le_trans HBW.out k.size)
 have HVa:=hid fun W' (k:Kp W W')=>pvalid_any p W' w.heap.size (Pr.at_kp HAT.out k) (Nat.le_trans HBW.out k.size)
 have H0:=hid h0
 have HE:=hid he
 have K1:=hid k1
 clear h0 he k1 hat hae hT
 go_upto_region 3 with (first | (go_at_call 13;go_fit HAW.out;rintro r w2 ⟨rfl,k2⟩) | fail)
 have K2:=hid k2
 clear k2
 have hL:=LfQ.new w2 3 w2.heap.size rfl
 go_upto_region 4 with fail
 generalize w2.alloc _=V at *
 have HL:=hid hL
 have K3:=hid (K2.out.trans hL.1)
 have hq:=H0.out.kp K3.out
 have q0:=hq.cell 0 rfl;have q1:=hq.cell 1 rfl;have q2:=hq.cell 2 rfl;have q3:=hq.cell 3 rfl;have q4:=hq.cell 4 rfl
 clear hq hL
 have HCo:=hid fun W' (k:Kp V W')=>(HL.out.kp k).count e w.heap.size (Ex.at_kp HAE.out (K3.out.trans k)) (Nat.le_trans HBW.out K2.out.size)
 cases hf:okF p with
 | true =>
  rw[hf] at HVa
  clear hf
  go_wp2_with (first
   | (go_at_call 14;go_fit (HSm.out V K3.out);rintro r w3 ⟨b,rfl,k3⟩;clear q0 q1 q2 q3 q4;have hq:=HE.out.kp (K3.out.trans k3);have e0:=hq.cell 0 rfl;have e1:=hq.cell 1 rfl;have e2:=hq.cell 2 rfl;have e3:=hq.cell 3 rfl;have e4:=hq.cell 4 rfl;have e5:=hq.cell 5 rfl;clear hq;cases b)
   | (go_at_call 32;go_fit (HCo.out w3 k3);rintro r w4 ⟨b,rfl,k4,_,_⟩;clear e0 e1 e2 e3 e4 e5;have hq:=H0.out.kp (K2.out.trans k4);have q0:=hq.cell 0 rfl;have q1:=hq.cell 1 rfl;have q2:=hq.cell 2 rfl;have q3:=hq.cell 3 rfl;have q4:=hq.cell 4 rfl;clear hq;cases b)
   | (go_at_call 17;go_fit (HVa.out w4 (K2.out.trans k4));rintro r w5 ⟨rfl,k5⟩)
   | fail)
  ·go_ret
   exact⟨rfl,K1.out.trans (K3.out.trans k3)⟩
  ·go_ret
   exact⟨rfl,K1.out.trans (K2.out.trans k4)⟩
  go_ret
  exact⟨rfl,K1.out.trans (K2.out.trans (k4.trans k5))⟩
 | false =>
 have HNo:=hid hf
 rw[hf] at HVa
 clear hf
 go_upto_region 6 with (first
  | (go_at_call 14;go_fit (HSm.out V K3.out);rintro r w3 ⟨b,rfl,k3⟩;clear q0 q1 q2 q3 q4;have hq:=HE.out.kp (K3.out.trans k3);have e0:=hq.cell 0 rfl;have e1:=hq.cell 1 rfl;have e2:=hq.cell 2 rfl;have e3:=hq.cell 3 rfl;have e4:=hq.cell 4 rfl;have e5:=hq.cell 5 rfl;clear hq;cases b)
  | (go_at_call 32;go_fit (HCo.out w3 k3);rintro r w4 ⟨b,rfl,k4,_,_⟩;clear e0 e1 e2 e3 e4 e5;have hq:=H0.out.kp (K2.out.trans k4);have q0:=hq.cell 0 rfl;have q1:=hq.cell 1 rfl;have q2:=hq.cell 2 rfl;have q3:=hq.cell 3 rfl;have q4:=hq.cell 4 rfl;clear hq;cases b)
  | (go_at_call 17;go_fit (HVa.out w4 (K2.out.trans k4));rintro r w5 ⟨rfl,k5⟩)
  | fail)
 ·go_ret
  exact⟨rfl,K1.out.trans (K3.out.trans k3)⟩
 ·go_ret
  exact⟨rfl,K1.out.trans (K2.out.trans k4)⟩
 have K5:=hid (K2.out.trans (k4.trans k5))
 have hq:=H0.out.kp K5.out
 clear q0 q1 q2 q3 q4 k3 k4 k5
 have q2:=hq.cell 2 rfl
 clear hq
 have HCl:=hid (cloneMode p.ma p.mc p.ms w5 w.heap.size (HAT.out.2.2.2.1.kp K5.out) (by have:=HAT.out.1.2.2;omega))
 obtain⟨i0,hi,hz0,hz1,hz2⟩:=info_parts infoModeC
 have hml:=HAT.out.1.2.2
 clear HL HCo HSm HVa HAW
 go_upto_region 7 with (first
  | (go_at_call 23;go_fit HCl.out;rintro r w6 ⟨v6,rfl,hO6⟩)
  | (at_builtin;refine wpList_append_vs mo_len (by decide) mo_one rfl _ _ _ _ rfl i0 _ 64 Tryz.underlying23 hi hz0 hz1 hz2 rfl w5 v6 p.ms rfl (hO6.kp ((Kp.refl _).alloc _)) ⟨w6.heap.size,0,none⟩ 1 [runM] 1 rfl rfl (row_run _ _) (by simp only[List.length_cons,List.length_nil];omega) (by simp only[List.length_cons,List.length_nil];omega) ?_;intro v7 w7 hO7 _ _;obtain⟨ma,mc,rfl,hmc,hmr⟩:=hO7.row mo_len mo_one)
  | fail)
 have HMr:=hid hmr
 have K7:=hid (K5.out.trans hO7.1)
 have hln:(p.ms++[runM]).length=p.ms.length+1:=by simp
 generalize hMS:p.ms++[runM]=MS at *
 have hml2:MS.length≤1048577:=by omega
 clear q2 hO6 hO7 hmr hmc hMS
 have hln2:(p.ms.length:Int)+1=(MS.length:Int):=by omega
 rw[hln2,← hln]
 clear hln hln2
 obtain⟨X,hX⟩:∃ V:World,V=w7:=⟨_,rfl⟩
 subst hX
 have HMd:=hid fun (s:ByteArray) (W':World) (k:Kp W W')=>pmode_no p s W' w.heap.size (Pr.at_kp HAT.out k) (Nat.le_trans HBW.out k.size) HNo.out
 have HSy:=hid fun (s:ByteArray) (W':World) (k:Kp W W')=>system_no p s 60 W' w.heap.size (Pr.at_kp HAT.out k) (Nat.le_trans HBW.out k.size) (HT.out.kp k) HNo.out
 have HSt:=hid fun (W':World) (k:Kp W W')=>start_no p 60 W' w.heap.size (Pr.at_kp HAT.out k) (Nat.le_trans HBW.out k.size) (HT.out.kp k) HNo.out
 have HXp:=hid fun (W':World) (k:Kp W W')=>expr_no p e W' w.heap.size (Pr.at_kp HAT.out k) (Ex.at_kp HAE.out k) (Nat.le_trans HBW.out k.size) HNo.out
 have HNa:=hid fun (W':World) (k:Kp W W')=>names_no p W' w.heap.size (Pr.at_kp HAT.out k) (Nat.le_trans HBW.out k.size) HNo.out
 go_loopw [37] (fun z wr=>∃ k:Nat,k≤MS.length∧z=.int .i64 k∧Kp X wr) (fun z _=>MS.length-(intOf z).toNat)
 case atStart=>exact⟨0,by omega,rfl,.refl _⟩
 case round =>
 obtain⟨k,hk,rfl,hkv⟩:=hrel
 have HKv:=hid hkv
 have HKW:=hid (K7.out.trans hkv)
 by_cases hlt:k<MS.length
 rotate_left
 ·clear hkv
  have hq:=H0.out.kp HKW.out
  have q0:=hq.cell 0 rfl;have q1:=hq.cell 1 rfl;have q2:=hq.cell 2 rfl;have q3:=hq.cell 3 rfl;have q4:=hq.cell 4 rfl
  clear hq
  go_upto_region 15 with (first | (go_at_call 38;go_fit (HSt.out wr HKW.out);rintro r w8 ⟨sa,sc,rfl,k8⟩) | fail)
  have HK8:=hid (HKW.out.trans k8)
  clear q0 q1 q2 q3 q4 k8
  have hq:=H0.out.kp HK8.out
  have q0:=hq.cell 0 rfl;have q1:=hq.cell 1 rfl;have q2:=hq.cell 2 rfl;have q3:=hq.cell 3 rfl;have q4:=hq.cell 4 rfl
  clear hq
  have hq:=HE.out.kp HK8.out
  have e0:=hq.cell 0 rfl;have e1:=hq.cell 1 rfl;have e2:=hq.cell 2 rfl;have e3:=hq.cell 3 rfl;have e4:=hq.cell 4 rfl;have e5:=hq.cell 5 rfl
  clear hq
  go_upto_region 16 with (first | (go_at_call 33;go_fit (HXp.out w8 HK8.out);rintro r w9 ⟨oa,oc,ua,uc,rfl,k9⟩) | fail)
  have k10:=k9.alloc (.cells #[.int .i64 0,.slice oa 0 oc,.slice ua 0 uc] 57)
  generalize hU:World.alloc w9 _=U3 at *
  have HK10:=hid (HK8.out.trans k10)
  clear hU k9 k10 q0 q1 q2 q3 q4 e0 e1 e2 e3 e4 e5
  have hq:=H0.out.kp HK10.out
  have q0:=hq.cell 0 rfl;have q1:=hq.cell 1 rfl;have q2:=hq.cell 2 rfl;have q3:=hq.cell 3 rfl;have q4:=hq.cell 4 rfl
  clear hq
  go_wp2_with (first | (go_at_call 21;go_fit (HNa.out U3 HK10.out);rintro r w11 ⟨na,nc,rfl,k11⟩) | fail)
  go_ret
  exact⟨rfl,K1.out.trans (HK10.out.trans k11)⟩
 obtain⟨m,hs⟩:∃ m,MS[k]? = some m:=⟨_,List.getElem?_eq_getElem hlt⟩
 obtain⟨b,o,ha,_,hc⟩:=HMr.out.kp hkv k m hs
 have k2:Kp wr (wr.alloc (.cells #[.string m.name,.slice m.fa m.fs.length m.fc,.slice m.ea m.es.length m.ec] 41)):=(Kp.refl wr).alloc _
 have hb2:BoxV (wr.alloc (.cells #[.string m.name,.slice m.fa m.fs.length m.fc,.slice m.ea m.es.length m.ec] 41)) wr.heap.size m.cells:=BoxV.new wr m.cells _ _ rfl
 have y0:wr.cell? ⟨b,o+k*3,none⟩=some (.string m.name):=hc 0 _ rfl;have y1:wr.cell? ⟨b,o+k*3+1,none⟩=some (.slice m.fa m.fs.length m.fc):=hc 1 _ rfl;have y2:wr.cell? ⟨b,o+k*3+2,none⟩=some (.slice m.ea m.es.length m.ec):=hc 2 _ rfl
 rw[ha]
 clear hc hs ha hkv
 go_upto_region 9 with fail
 generalize hU:wr.alloc _=U at *
 clear hU y0 y1 y2
 have HKU:=hid (HKW.out.trans k2)
 have HBm:=hid hb2
 have m0:=hb2.cell 0 rfl
 have hq:=H0.out.kp HKU.out
 have q0:=hq.cell 0 rfl;have q1:=hq.cell 1 rfl;have q2:=hq.cell 2 rfl;have q3:=hq.cell 3 rfl;have q4:=hq.cell 4 rfl
 clear hq hb2
 go_upto_region 10 with (first | (go_at_call 18;go_fit (HMd.out m.name U HKU.out);rintro r w8 ⟨rfl,k8⟩) | fail)
 have k9:=k8.alloc (.cells #[.string ⟨#[]⟩,.slice none 0 0,.slice none 0 0] 41)
 generalize hU:w8.alloc _=U2 at *
 clear hU k8 q0 q1 q2 q3 q4 m0
 have HKU2:=hid (HKU.out.trans k9)
 have hq:=H0.out.kp HKU2.out
 have q0:=hq.cell 0 rfl;have q1:=hq.cell 1 rfl;have q2:=hq.cell 2 rfl;have q3:=hq.cell 3 rfl;have q4:=hq.cell 4 rfl
 clear hq
 have m0:=(HBm.out.kp k9).cell 0 rfl
 go_upto_region 11 with (first | (go_at_call 28;go_fit (HSy.out m.name U2 HKU2.out);rintro r w10 ⟨oa,oc,ua,uc,pa,pc,rfl,k10⟩) | fail)
 have k11:=k10.alloc (.cells #[.int .i64 0,.slice oa 0 oc,.slice ua 0 uc,.int .i64 0,.slice pa 0 pc] 60)
 have hsy:=BoxV.new w10 [.int .i64 0,.slice oa 0 oc,.slice ua 0 uc,.int .i64 0,.slice pa 0 pc] 60 _ rfl
 generalize hU:World.alloc w10 _=U3 at *
 clear hU
 have s3:=hsy.cell 3 rfl
 have HKU3:=hid (HKv.out.trans (k2.trans (k9.trans k11)))
 clear hsy k10 q0 q1 q2 q3 q4 m0
 go_wp2_with fail
 go_roundw
 case measure=>simp only[intOf];omega
 case rel=>exact⟨k+1,by omega,by go_num,HKU3.out⟩
end
end Go.Proofs.YteidgoldnllabaaGreatDoor
