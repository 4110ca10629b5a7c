/-
  Walks: problem.Start.
-/
import Derived.Test.YteidgoldnllabaaGreatDoorTSysN
import Derived.Test.YteidgoldnllabaaGreatDoorTRchN
import Derived.Test.YteidgoldnllabaaGreatDoorTAwk4
import Derived.Test.YteidgoldnllabaaGreatDoorTR2F
import Derived.Test.YteidgoldnllabaaGreatDoorTIvA
import Derived.Test.YteidgoldnllabaaGreatDoorTIncP
import Derived.Test.YteidgoldnllabaaGreatDoorTBoxB
import Derived.Test.YteidgoldnllabaaGreatDoorTEqU
import Derived.Deep.DeepFit
import Derived.Test.YteidgoldnllabaaGreatDoorTKnuE
import Derived.Test.YteidgoldnllabaaGreatDoorTEqfR
import Derived.Test.YteidgoldnllabaaGreatDoorTRivN
set_option maxHeartbeats 4000000
set_option maxRecDepth 100000
namespace Go.Proofs.YteidgoldnllabaaGreatDoor
open Go.RowKit
open Lib (hid)
section
open Go.RowKit Go.Sort
def staE (p:Pr) (prec:Int):Int:=if okF p=false then 1 else if preB prec=false then 2 else 0
def staV (p:Pr) (prec:Int):List (Dy×Dy×Bool):=if staE p prec=0 then p.ss.map (rngV prec.toNat) else []
def StaOut (w:World) (p:Pr) (prec:Int) (r:Ending) (w':World):Prop :=
 ∃ v zs,r=.returned (.tuple #[v,.int .i64 (staE p prec)])∧OwnN w w' v zs∧zs.map valI=staV p prec∧∀ z∈zs,z.lo.vl=true∧z.hi.vl=true
theorem sta_no {w w':World} {p:Pr} {prec e:Int} (he:staE p prec=e) (h0:e≠0) (k:Kp w w'):StaOut w p prec (.returned (.tuple #[.slice none 0 0,.int .i64 e])) w' :=
 ⟨_,[],by rw[he],OwnN.nil k,by unfold staV;rw[he,if_neg h0];rfl,fun z h=>by cases h⟩
theorem OwnN.base {wb w w':World} {v:Value} {zs:List RI} (h:OwnN w w' v zs) (k:Kp wb w):OwnN wb w' v zs:=by
 obtain⟨h1,⟨h2,h3⟩,h4⟩:=h
 refine⟨k.trans h1,⟨h2,?_⟩,h4⟩
 rcases h3 with h3 | ⟨g,cap,cur,e,hb,r⟩
 ·exact .inl h3
 exact .inr ⟨g,cap,cur,e,Nat.le_trans k.size hb,r⟩
theorem pstart_any (p:Pr) (prec:Int) (w:World) (B:Nat) (hat:p.at w B) (hB:B≤w.heap.size) (hT:Tab w) :
  Calls Tryz.prog 38 #[.agg #[.slice p.sa p.ss.length p.sc,.slice p.pa p.ps.length p.pc,.slice p.ma p.ms.length p.mc,.int .i64 p.tn,.int .i64 p.td],.int .i64 prec] w (StaOut w p prec):=by
 have k1:Kp w (w.alloc (.cells #[.slice p.sa p.ss.length p.sc,.slice p.pa p.ps.length p.pc,.slice p.ma p.ms.length p.mc,.int .i64 p.tn,.int .i64 p.td] 27)):=(Kp.refl w).alloc _
 have h0:BoxV (w.alloc (.cells #[.slice p.sa p.ss.length p.sc,.slice p.pa p.ps.length p.pc,.slice p.ma p.ms.length p.mc,.int .i64 p.tn,.int .i64 p.td] 27)) w.heap.size p.cells:=BoxV.new w p.cells _ _ rfl
 go_enter Tryz.func38,Tryz.ntmps38
 go_upto_region 1 with fail
 generalize w.alloc _=W at *
 have HAT:=hid (Pr.at_kp hat k1)
 have HC:=hid (pvalid_any p W B HAT.out (Nat.le_trans hB k1.size))
 have HPr:=hid fun W':World=>(pprecise_any prec W').mono (R':=fun r w'=>r=.returned (.bool (preB prec))∧Kp W' w') fun r w' h=>⟨h.1,by rw[h.2];exact Kp.refl _⟩
 have HT:=hid (hT.kp k1)
 have H0:=hid h0
 have K1:=hid k1
 have q0:=h0.cell 0 rfl;have q1:=h0.cell 1 rfl;have q2:=h0.cell 2 rfl;have q3:=h0.cell 3 rfl;have q4:=h0.cell 4 rfl
 clear h0 k1 hat hB hT
 cases hf:okF p with
 | false =>
  rw[hf] at HC
  have HZ:=hid (show staE p prec=1 from if_pos hf)
  clear hf
  go_wp2_with (first | (go_at_call 17;go_fit HC.out;rintro r w2 ⟨rfl,k2⟩) | fail)
  refine bodyPost_ret (v:=.tuple #[.slice none 0 0,.int .i64 1]) (by simp[results,Tryz.results38,go_sem]) rfl ?_
  exact sta_no HZ.out (by decide) (K1.out.trans k2)
 | true =>
 rw[hf] at HC
 have hok:=hf
 have hnf:¬ okF p=false:=by rw[hf];decide
 clear hf
 cases hb:preB prec with
 | false =>
  rw[hb] at HPr
  have HZ:=hid (show staE p prec=2 by unfold staE;rw[if_neg hnf,if_pos hb])
  clear hb hok hnf
  go_wp2_with (first
   | (go_at_call 17;go_fit HC.out;rintro r w2 ⟨rfl,k2⟩;clear q0 q1 q2 q3 q4)
   | (go_at_call 83;go_fit (HPr.out w2);rintro r w3 ⟨rfl,k3⟩)
   | fail)
  refine bodyPost_ret (v:=.tuple #[.slice none 0 0,.int .i64 2]) (by simp[results,Tryz.results38,go_sem]) rfl ?_
  exact sta_no HZ.out (by decide) (K1.out.trans (k2.trans k3))
 | true =>
 rw[hb] at HPr
 have HZ:=hid (show staE p prec=0 by unfold staE;rw[if_neg hnf,if_neg (by rw[hb];decide)])
 have hpp:=preB_iff.1 hb
 have HDe:=hid (probB_de (okF_prob hok))
 have hss:=probB_ss (okF_prob hok)
 obtain⟨pn,hpn⟩:∃ pn:Nat,prec=(pn:Int):=⟨prec.toNat,by omega⟩
 subst hpn
 have HIv:=hid fun W' (k:Kp W W')=>ivls_any p.ss p.sa p.sc B pn W' (HAT.out.2.1.1.kp k) (by omega) (fun d hd=>HDe.out d (List.mem_append_left _ hd)) (by omega) (by omega) (HT.out.kp k)
 clear hb hok hnf
 go_wp2_with (first
  | (go_at_call 17;go_fit HC.out;rintro r w2 ⟨rfl,k2⟩;clear q0 q1 q2 q3 q4)
  | (go_at_call 83;go_fit (HPr.out w2);rintro r w3 ⟨rfl,k3⟩;have q0:=(H0.out.kp (k2.trans k3)).cell 0 rfl)
  | (go_at_call 87;go_fit (HIv.out w3 (k2.trans k3));rintro r w4 ⟨v,zs,rfl,hO,hm,hv⟩)
  | fail)
 refine bodyPost_ret (v:=.tuple #[v,.int .i64 0]) (by simp[results,Tryz.results38,go_sem]) rfl ?_
 exact⟨v,zs,by rw[HZ.out],hO.base (K1.out.trans (k2.trans k3)),by unfold staV;rw[if_pos HZ.out,hm];simp,hv⟩
end
theorem r3prec_any (p:Int) (w:World) :
  Calls Tryz.prog 101 #[.int .i64 p] w fun e w'=>e=.returned (.bool (preB p))∧w=w':=by
 by_cases h1:8≤p
 rotate_left
 ·have H:=hid (show preB p=false from decide_eq_false (fun h=>h1 h.1))
  go_enter Tryz.func101,Tryz.ntmps101
  go_wp2_with fail
  go_ret
  exact⟨ret_bool H.out.symm,rfl⟩
 by_cases h2:p≤512
 ·have H:=hid (show preB p=true from decide_eq_true ⟨h1,h2⟩)
  go_enter Tryz.func101,Tryz.ntmps101
  go_wp2_with fail
  go_ret
  exact⟨ret_bool H.out.symm,rfl⟩
 have H:=hid (show preB p=false from decide_eq_false (fun h=>h2 h.2))
 go_enter Tryz.func101,Tryz.ntmps101
 go_wp2_with fail
 go_ret
 exact⟨ret_bool H.out.symm,rfl⟩
theorem eqR_of {w w':World} {x y:RD} (hx:x.rd w) (hy:y.rd w') (vx:x.vl=true) (vy:y.vl=true) (h:x.dy=y.dy):eqR x y=true:=by
 unfold eqR
 have h1:x.neg=y.neg:=congrArg Dy.neg h
 have h2:x.e=y.e:=congrArg Dy.e h
 have h3:x.xs=y.xs:=by rw[← RD.limbs hx vx,← RD.limbs hy vy,h]
 simp[h1,h2,h3]
def eqI8 (x y:RI):Bool:=(x.all==y.all)&&(eqR x.lo y.lo&&eqR x.hi y.hi)
theorem r5equal_any (x y:RI) (w:World) (hx:x.rd w) (hy:y.rd w) :
  Calls Tryz.prog 108 #[.agg #[.bool x.lo.neg,.slice x.lo.a x.lo.xs.length x.lo.c,.int .i64 x.lo.e,.bool x.hi.neg,.slice x.hi.a x.hi.xs.length x.hi.c,.int .i64 x.hi.e,.bool x.all],.agg #[.bool y.lo.neg,.slice y.lo.a y.lo.xs.length y.lo.c,.int .i64 y.lo.e,.bool y.hi.neg,.slice y.hi.a y.hi.xs.length y.hi.c,.int .i64 y.hi.e,.bool y.all]] w fun e w'=>e=.returned (.bool (eqI8 x y))∧Kp w w':=by
 have H:=hid (show eqI8 x y=((x.all==y.all)&&(eqR x.lo y.lo&&eqR x.hi y.hi)) from rfl)
 by_cases hn:x.all=y.all
 rotate_left
 ·have hn1:(x.all==y.all)=false:=by cases h1:x.all <;> cases h2:y.all <;> simp_all
  rw[hn1] at H
  clear hn
  go_enter Tryz.func108,Tryz.ntmps108
  go_wp2_with fail
  go_ret
  exact⟨ret_bool (by rw[H.out];simp),((Kp.refl w).alloc _).alloc _⟩
 have hn1:(x.all==y.all)=true:=by rw[hn];cases y.all <;> rfl
 have Hn:=hid hn1
 clear hn
 go_enter Tryz.func108,Tryz.ntmps108
 go_wp2_with fail
 generalize hW:((w.alloc _).alloc _)=W at *
 have hk:Kp w W:=hW▸((Kp.refl w).alloc _).alloc _
 have hS:(W.cell? ⟨w.heap.size,0,none⟩=some (.bool x.lo.neg)∧W.cell? ⟨w.heap.size,1,none⟩=some (.slice x.lo.a x.lo.xs.length x.lo.c)∧W.cell? ⟨w.heap.size,2,none⟩=some (.int .i64 x.lo.e)∧W.cell? ⟨w.heap.size,3,none⟩=some (.bool x.hi.neg)∧W.cell? ⟨w.heap.size,4,none⟩=some (.slice x.hi.a x.hi.xs.length x.hi.c)∧W.cell? ⟨w.heap.size,5,none⟩=some (.int .i64 x.hi.e)∧W.cell? ⟨w.heap.size,6,none⟩=some (.bool x.all))∧W.cell? ⟨w.heap.size+1,0,none⟩=some (.bool y.lo.neg)∧W.cell? ⟨w.heap.size+1,1,none⟩=some (.slice y.lo.a y.lo.xs.length y.lo.c)∧W.cell? ⟨w.heap.size+1,2,none⟩=some (.int .i64 y.lo.e)∧W.cell? ⟨w.heap.size+1,3,none⟩=some (.bool y.hi.neg)∧W.cell? ⟨w.heap.size+1,4,none⟩=some (.slice y.hi.a y.hi.xs.length y.hi.c)∧W.cell? ⟨w.heap.size+1,5,none⟩=some (.int .i64 y.hi.e)∧W.cell? ⟨w.heap.size+1,6,none⟩=some (.bool y.all):=by rw[← hW];exact keep77 (Kp.refl _) (by simp)
 clear hW
 go_fit (r2Equal_any x.lo y.lo _ (hx.1.kp hk) (hy.1.kp hk))
 rintro e w1 ⟨rfl,hk1⟩
 cases hl:eqR x.lo y.lo with
 | false =>
  rw[hl] at H
  clear hl
  go_wp2_with fail
  go_ret
  exact⟨ret_bool (by rw[H.out];simp),hk.trans hk1⟩
 | true =>
 rw[hl] at H
 clear hl
 obtain⟨⟨s0,s1,s2,s3,s4,s5,s6⟩,t0,t1,t2,t3,t4,t5,t6⟩:=keep77 hk1 hS
 clear hS
 go_wp2_with fail
 have hk2:=hk.trans hk1
 go_fit (r2Equal_any x.hi y.hi _ (hx.2.kp hk2) (hy.2.kp hk2))
 rintro e w2 ⟨rfl,hk3⟩
 go_wp2_with fail
 go_ret
 exact⟨ret_bool (by rw[H.out,Hn.out];simp),hk2.trans hk3⟩
section
open Go.RowKit Go.Sort
theorem r16start_any (p:Pr) (prec:Int) (w:World) (B:Nat) (hat:p.at w B) (hT:Tab w) :
  Calls Tryz.prog 54 #[.agg #[.slice p.sa p.ss.length p.sc,.slice p.pa p.ps.length p.pc,.slice p.ma p.ms.length p.mc,.int .i64 p.tn,.int .i64 p.td],.int .i64 prec] w (StaOut w p prec):=by
 have k1:Kp w (w.alloc (.cells #[.slice p.sa p.ss.length p.sc,.slice p.pa p.ps.length p.pc,.slice p.ma p.ms.length p.mc,.int .i64 p.tn,.int .i64 p.td] 27)):=(Kp.refl w).alloc _
 have h0:BoxV (w.alloc (.cells #[.slice p.sa p.ss.length p.sc,.slice p.pa p.ps.length p.pc,.slice p.ma p.ms.length p.mc,.int .i64 p.tn,.int .i64 p.td] 27)) w.heap.size p.cells:=BoxV.new w p.cells _ _ rfl
 go_enter Tryz.func54,Tryz.ntmps54
 go_upto_region 1 with fail
 generalize w.alloc _=W at *
 have HAT:=hid (Pr.at_kp hat k1)
 have HC:=hid (r16right_any p W B HAT.out)
 have HPr:=hid fun W':World=>(r3prec_any prec W').mono (R':=fun r w'=>r=.returned (.bool (preB prec))∧Kp W' w') fun r w' h=>⟨h.1,by rw[← h.2];exact Kp.refl _⟩
 have HT:=hid (hT.kp k1)
 have H0:=hid h0
 have K1:=hid k1
 have q0:=h0.cell 0 rfl;have q1:=h0.cell 1 rfl;have q2:=h0.cell 2 rfl;have q3:=h0.cell 3 rfl;have q4:=h0.cell 4 rfl
 clear h0 k1 hat hT
 cases hf:okF p with
 | false =>
  rw[hf] at HC
  have HZ:=hid (show staE p prec=1 from if_pos hf)
  clear hf
  go_wp2_with (first | (go_at_call 76;go_fit HC.out;rintro r w2 ⟨rfl,k2⟩) | fail)
  refine bodyPost_ret (v:=.tuple #[.slice none 0 0,.int .i64 1]) (by simp[results,Tryz.results54,go_sem]) rfl ?_
  exact sta_no HZ.out (by decide) (K1.out.trans k2)
 | true =>
 rw[hf] at HC
 have hok:=hf
 have hnf:¬ okF p=false:=by rw[hf];decide
 clear hf
 cases hb:preB prec with
 | false =>
  rw[hb] at HPr
  have HZ:=hid (show staE p prec=2 by unfold staE;rw[if_neg hnf,if_pos hb])
  clear hb hok hnf
  go_wp2_with (first
   | (go_at_call 76;go_fit HC.out;rintro r w2 ⟨rfl,k2⟩;clear q0 q1 q2 q3 q4)
   | (go_at_call 101;go_fit (HPr.out w2);rintro r w3 ⟨rfl,k3⟩)
   | fail)
  refine bodyPost_ret (v:=.tuple #[.slice none 0 0,.int .i64 2]) (by simp[results,Tryz.results54,go_sem]) rfl ?_
  exact sta_no HZ.out (by decide) (K1.out.trans (k2.trans k3))
 | true =>
 rw[hb] at HPr
 have HZ:=hid (show staE p prec=0 by unfold staE;rw[if_neg hnf,if_neg (by rw[hb];decide)])
 have hpp:=preB_iff.1 hb
 have HDe:=hid (probB_de (okF_prob hok))
 have hss:=probB_ss (okF_prob hok)
 obtain⟨pn,hpn⟩:∃ pn:Nat,prec=(pn:Int):=⟨prec.toNat,by omega⟩
 subst hpn
 have HIv:=hid fun W' (k:Kp W W')=>r16ranges_any p.ss p.sa p.sc B pn W' (HAT.out.2.1.1.kp k) (by omega) (fun d hd=>HDe.out d (List.mem_append_left _ hd)) (by omega) (by omega) (HT.out.kp k)
 clear hb hok hnf
 go_wp2_with (first
  | (go_at_call 76;go_fit HC.out;rintro r w2 ⟨rfl,k2⟩;clear q0 q1 q2 q3 q4)
  | (go_at_call 101;go_fit (HPr.out w2);rintro r w3 ⟨rfl,k3⟩;have q0:=(H0.out.kp (k2.trans k3)).cell 0 rfl)
  | (go_at_call 102;go_fit (HIv.out w3 (k2.trans k3));rintro r w4 ⟨v,zs,rfl,hO,hm,hv⟩)
  | fail)
 refine bodyPost_ret (v:=.tuple #[v,.int .i64 0]) (by simp[results,Tryz.results54,go_sem]) rfl ?_
 exact⟨v,zs,by rw[HZ.out],hO.base (K1.out.trans (k2.trans k3)),by unfold staV;rw[if_pos HZ.out,hm];simp,hv⟩
end
section
open Go.RowKit Go.Sort
theorem boxes1_any (x y:RI) (w:World) (hx:x.rd w) (hy:y.rd w) (ha:x.all=false) :
  Calls Tryz.prog 107 #[.agg #[.bool x.lo.neg,.slice x.lo.a x.lo.xs.length x.lo.c,.int .i64 x.lo.e,.bool x.hi.neg,.slice x.hi.a x.hi.xs.length x.hi.c,.int .i64 x.hi.e,.bool x.all],.agg #[.bool y.lo.neg,.slice y.lo.a y.lo.xs.length y.lo.c,.int .i64 y.lo.e,.bool y.hi.neg,.slice y.hi.a y.hi.xs.length y.hi.c,.int .i64 y.hi.e,.bool y.all]] w fun e w'=>e=.returned (.bool (eqI8 x y))∧Kp w w':=by
 have HA:=hid ha
 clear ha
 go_enter Tryz.func107,Tryz.ntmps107
 go_upto_region 1 with fail
 generalize hW:((w.alloc _).alloc _)=W at *
 have hk:Kp w W:=hW▸((Kp.refl w).alloc _).alloc _
 have hS:(W.cell? ⟨w.heap.size,0,none⟩=some (.bool x.lo.neg)∧W.cell? ⟨w.heap.size,1,none⟩=some (.slice x.lo.a x.lo.xs.length x.lo.c)∧W.cell? ⟨w.heap.size,2,none⟩=some (.int .i64 x.lo.e)∧W.cell? ⟨w.heap.size,3,none⟩=some (.bool x.hi.neg)∧W.cell? ⟨w.heap.size,4,none⟩=some (.slice x.hi.a x.hi.xs.length x.hi.c)∧W.cell? ⟨w.heap.size,5,none⟩=some (.int .i64 x.hi.e)∧W.cell? ⟨w.heap.size,6,none⟩=some (.bool x.all))∧W.cell? ⟨w.heap.size+1,0,none⟩=some (.bool y.lo.neg)∧W.cell? ⟨w.heap.size+1,1,none⟩=some (.slice y.lo.a y.lo.xs.length y.lo.c)∧W.cell? ⟨w.heap.size+1,2,none⟩=some (.int .i64 y.lo.e)∧W.cell? ⟨w.heap.size+1,3,none⟩=some (.bool y.hi.neg)∧W.cell? ⟨w.heap.size+1,4,none⟩=some (.slice y.hi.a y.hi.xs.length y.hi.c)∧W.cell? ⟨w.heap.size+1,5,none⟩=some (.int .i64 y.hi.e)∧W.cell? ⟨w.heap.size+1,6,none⟩=some (.bool y.all):=by rw[← hW];exact keep77 (Kp.refl _) (by simp)
 clear hW
 have HE:=hid (r5equal_any x y W (hx.kp hk) (hy.kp hk))
 obtain⟨⟨s0,s1,s2,s3,s4,s5,s6⟩,t0,t1,t2,t3,t4,t5,t6⟩:=hS
 rw[HA.out] at s6 HE
 clear hx hy
 go_wp2_with (first | (go_at_call 108;go_fit HE.out;rintro r w2 ⟨rfl,k2⟩) | fail)
 go_ret
 exact⟨rfl,hk.trans k2⟩
theorem eqI8_val {w w':World} {x y:RI} (hx:x.rd w) (hy:y.rd w') (vx:x.lo.vl=true∧x.hi.vl=true) (vy:y.lo.vl=true∧y.hi.vl=true) (h:valI x=valI y):eqI8 x y=true:=by
 have h1:x.lo.dy=y.lo.dy:=congrArg Prod.fst h
 have h2:x.hi.dy=y.hi.dy:=congrArg (fun q=>q.2.1) h
 have h3:x.all=y.all:=congrArg (fun q=>q.2.2) h
 unfold eqI8
 rw[eqR_of hx.1 hy.1 vx.1 vy.1 h1,eqR_of hx.2 hy.2 vx.2 vy.2 h2,h3]
 cases y.all <;> rfl
theorem boxes_same (zs ys:List RI) (n:Nat) (a b:Option Addr) (c d:Nat) (w:World) (hz:RowI w a zs) (hy:RowI w b ys) (hl:zs.length≤1100000) (hn1:zs.length=n) (hn2:ys.length=n) (hv:zs.map valI=ys.map valI)
  (vz:∀ z∈zs,z.lo.vl=true∧z.hi.vl=true) (vy:∀ z∈ys,z.lo.vl=true∧z.hi.vl=true) (hal:∀ z∈zs,z.all=false) :
  Calls Tryz.prog 48 #[.slice a n c,.slice b n d] w fun e w'=>e=.returned (.bool true)∧Kp w w':=by
 have hp:AnsII Tryz.prog 107 #[] w zs ys eqI8 :=
  ⟨fun _ _=>by kernel_rfl,fun x hx y hy' w1 k=>boxes1_any x y w1 ((hz.rdI hx).kp k) ((hy.rdI hy').kp k) (hal x hx)⟩
 have hT:allII eqI8 zs ys=true:=allII_true.2 ⟨by rw[hn1,hn2],fun i x y h1 h2=>by
  have hx:=List.mem_of_getElem? h1
  have hy':=List.mem_of_getElem? h2
  refine eqI8_val (hz.rdI hx) (hy.rdI hy') (vz x hx) (vy y hy') ?_
  have e1:(zs.map valI)[i]? = some (valI x):=by rw[List.getElem?_map,h1];rfl
  have e2:(ys.map valI)[i]? = some (valI y):=by rw[List.getElem?_map,h2];rfl
  rw[hv,e2] at e1
  injection e1 with e1
  exact e1.symm⟩
 have hC:=eqfII a b zs ys c d _ _ w eqI8 hl hz hy hp
 rw[hT,hn1,hn2] at hC
 have HC:=hid hC
 clear hC hz hy hp hT hn1 hn2 hv vz vy hal
 go_enter Tryz.func48,Tryz.ntmps48
 go_wp2_with (first | (go_at_call 106;go_fit HC.out;rintro r w2 ⟨rfl,k2⟩) | fail)
 go_ret
 exact⟨rfl,k2⟩
end
section
theorem rngF_none:∀ {l:List De},rngF l=none→∀ d∈l,ratC d.ln d.ld d.hn d.hd≤0
 | [],_,d,hd=>by cases hd
 | x::r,h,d,hd=>by
  rw[rngF] at h
  obtain⟨h1,h2⟩:=orF_none_iff.1 h
  rcases List.mem_cons.1 hd with rfl | hd
  ·exact of_decide_eq_true (needF_none h1)
  ·exact rngF_none h2 d hd
theorem okF_rng {p:Pr} (h:okF p=true):∀ d∈p.ss++p.ps,ratC d.ln d.ld d.hn d.hd≤0:=by
 have h1:=okF_none h
 unfold checkF at h1
 obtain⟨_,h1⟩:=orF_none_iff.1 h1
 obtain⟨_,h1⟩:=orF_none_iff.1 h1
 obtain⟨_,h1⟩:=orF_none_iff.1 h1
 obtain⟨h1,_⟩:=orF_none_iff.1 h1
 exact rngF_none h1
end
end Go.Proofs.YteidgoldnllabaaGreatDoor
