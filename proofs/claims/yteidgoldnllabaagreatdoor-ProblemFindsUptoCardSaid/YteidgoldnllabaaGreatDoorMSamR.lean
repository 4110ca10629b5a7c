/-
  Walks: ref13.sameDecls, sameEdge, sameMode, Same.
-/
import Derived.Deep.RegionHeld3
import Derived.Deep.QuietTactic
import Derived.BigQuiet
import Derived.Test.YteidgoldnllabaaGreatDoorMPrbR
import Derived.Test.YteidgoldnllabaaGreatDoorMRmoN
import Derived.Test.YteidgoldnllabaaGreatDoorMRequN
namespace Go.Proofs.YteidgoldnllabaaGreatDoor
open Go.RowKit
open Lib (hid)
section
open Go.RowKit Go.Sort
theorem keepc8 {w w':World} (k:Kp w w') {p0 p1 p2 p3 p4 p5 p6 p7:Addr} {v0 v1 v2 v3 v4 v5 v6 v7:Value} (h:w.cell? p0=some v0∧w.cell? p1=some v1∧w.cell? p2=some v2∧w.cell? p3=some v3∧w.cell? p4=some v4∧w.cell? p5=some v5∧w.cell? p6=some v6∧w.cell? p7=some v7):w'.cell? p0=some v0∧w'.cell? p1=some v1∧w'.cell? p2=some v2∧w'.cell? p3=some v3∧w'.cell? p4=some v4∧w'.cell? p5=some v5∧w'.cell? p6=some v6∧w'.cell? p7=some v7:=⟨k.cell h.1,k.cell h.2.1,k.cell h.2.2.1,k.cell h.2.2.2.1,k.cell h.2.2.2.2.1,k.cell h.2.2.2.2.2.1,k.cell h.2.2.2.2.2.2.1,k.cell h.2.2.2.2.2.2.2⟩
theorem keepc16 {w w':World} (k:Kp w w') {p0 p1 p2 p3 p4 p5 p6 p7 p8 p9 p10 p11 p12 p13 p14 p15:Addr} {v0 v1 v2 v3 v4 v5 v6 v7 v8 v9 v10 v11 v12 v13 v14 v15:Value} (h:w.cell? p0=some v0∧w.cell? p1=some v1∧w.cell? p2=some v2∧w.cell? p3=some v3∧w.cell? p4=some v4∧w.cell? p5=some v5∧w.cell? p6=some v6∧w.cell? p7=some v7∧w.cell? p8=some v8∧w.cell? p9=some v9∧w.cell? p10=some v10∧w.cell? p11=some v11∧w.cell? p12=some v12∧w.cell? p13=some v13∧w.cell? p14=some v14∧w.cell? p15=some v15):w'.cell? p0=some v0∧w'.cell? p1=some v1∧w'.cell? p2=some v2∧w'.cell? p3=some v3∧w'.cell? p4=some v4∧w'.cell? p5=some v5∧w'.cell? p6=some v6∧w'.cell? p7=some v7∧w'.cell? p8=some v8∧w'.cell? p9=some v9∧w'.cell? p10=some v10∧w'.cell? p11=some v11∧w'.cell? p12=some v12∧w'.cell? p13=some v13∧w'.cell? p14=some v14∧w'.cell? p15=some v15:=⟨k.cell h.1,k.cell h.2.1,k.cell h.2.2.1,k.cell h.2.2.2.1,k.cell h.2.2.2.2.1,k.cell h.2.2.2.2.2.1,k.cell h.2.2.2.2.2.2.1,k.cell h.2.2.2.2.2.2.2.1,k.cell h.2.2.2.2.2.2.2.2.1,k.cell h.2.2.2.2.2.2.2.2.2.1,k.cell h.2.2.2.2.2.2.2.2.2.2.1,k.cell h.2.2.2.2.2.2.2.2.2.2.2.1,k.cell h.2.2.2.2.2.2.2.2.2.2.2.2.1,k.cell h.2.2.2.2.2.2.2.2.2.2.2.2.2.1,k.cell h.2.2.2.2.2.2.2.2.2.2.2.2.2.2.1,k.cell h.2.2.2.2.2.2.2.2.2.2.2.2.2.2.2⟩
theorem keepc20 {w w':World} (k:Kp w w') {p0 p1 p2 p3 p4 p5 p6 p7 p8 p9 p10 p11 p12 p13 p14 p15 p16 p17 p18 p19:Addr} {v0 v1 v2 v3 v4 v5 v6 v7 v8 v9 v10 v11 v12 v13 v14 v15 v16 v17 v18 v19:Value} (h:w.cell? p0=some v0∧w.cell? p1=some v1∧w.cell? p2=some v2∧w.cell? p3=some v3∧w.cell? p4=some v4∧w.cell? p5=some v5∧w.cell? p6=some v6∧w.cell? p7=some v7∧w.cell? p8=some v8∧w.cell? p9=some v9∧w.cell? p10=some v10∧w.cell? p11=some v11∧w.cell? p12=some v12∧w.cell? p13=some v13∧w.cell? p14=some v14∧w.cell? p15=some v15∧w.cell? p16=some v16∧w.cell? p17=some v17∧w.cell? p18=some v18∧w.cell? p19=some v19):w'.cell? p0=some v0∧w'.cell? p1=some v1∧w'.cell? p2=some v2∧w'.cell? p3=some v3∧w'.cell? p4=some v4∧w'.cell? p5=some v5∧w'.cell? p6=some v6∧w'.cell? p7=some v7∧w'.cell? p8=some v8∧w'.cell? p9=some v9∧w'.cell? p10=some v10∧w'.cell? p11=some v11∧w'.cell? p12=some v12∧w'.cell? p13=some v13∧w'.cell? p14=some v14∧w'.cell? p15=some v15∧w'.cell? p16=some v16∧w'.cell? p17=some v17∧w'.cell? p18=some v18∧w'.cell? p19=some v19:=⟨k.cell h.1,k.cell h.2.1,k.cell h.2.2.1,k.cell h.2.2.2.1,k.cell h.2.2.2.2.1,k.cell h.2.2.2.2.2.1,k.cell h.2.2.2.2.2.2.1,k.cell h.2.2.2.2.2.2.2.1,k.cell h.2.2.2.2.2.2.2.2.1,k.cell h.2.2.2.2.2.2.2.2.2.1,k.cell h.2.2.2.2.2.2.2.2.2.2.1,k.cell h.2.2.2.2.2.2.2.2.2.2.2.1,k.cell h.2.2.2.2.2.2.2.2.2.2.2.2.1,k.cell h.2.2.2.2.2.2.2.2.2.2.2.2.2.1,k.cell h.2.2.2.2.2.2.2.2.2.2.2.2.2.2.1,k.cell h.2.2.2.2.2.2.2.2.2.2.2.2.2.2.2.1,k.cell h.2.2.2.2.2.2.2.2.2.2.2.2.2.2.2.2.1,k.cell h.2.2.2.2.2.2.2.2.2.2.2.2.2.2.2.2.2.1,k.cell h.2.2.2.2.2.2.2.2.2.2.2.2.2.2.2.2.2.2.1,k.cell h.2.2.2.2.2.2.2.2.2.2.2.2.2.2.2.2.2.2.2⟩
set_option maxHeartbeats 8000000 in
set_option maxRecDepth 20000 in
theorem sedge_any (a c:Ed) (B:Nat) (w:World) (ha:a.at w B) (hc:c.at w B):Calls Tryz.prog 138 #[.agg #[.int .i64 a.g.kind,.int .i64 a.g.rn,.int .i64 a.g.rd,.string a.g.name,.int .i64 a.g.pw,.slice a.g.a a.g.l.length a.g.c,.int .i64 a.dir,.string a.tx,.slice a.a a.rs.length a.c],.agg #[.int .i64 c.g.kind,.int .i64 c.g.rn,.int .i64 c.g.rd,.string c.g.name,.int .i64 c.g.pw,.slice c.g.a c.g.l.length c.g.c,.int .i64 c.dir,.string c.tx,.slice c.a c.rs.length c.c]] w fun e w'=>e=.returned (.bool (xeqB a c))∧Kp w w':=by
 generalize hbb:xeqB a c=b0 at *
 have k1:Kp w ((w.alloc (.cells #[.int .i64 a.g.kind,.int .i64 a.g.rn,.int .i64 a.g.rd,.string a.g.name,.int .i64 a.g.pw,.slice a.g.a a.g.l.length a.g.c,.int .i64 a.dir,.string a.tx,.slice a.a a.rs.length a.c] 103)).alloc (.cells #[.int .i64 c.g.kind,.int .i64 c.g.rn,.int .i64 c.g.rd,.string c.g.name,.int .i64 c.g.pw,.slice c.g.a c.g.l.length c.g.c,.int .i64 c.dir,.string c.tx,.slice c.a c.rs.length c.c] 103)):=((Kp.refl w).alloc _).alloc _
 have h0:CellsV ((w.alloc (.cells #[.int .i64 a.g.kind,.int .i64 a.g.rn,.int .i64 a.g.rd,.string a.g.name,.int .i64 a.g.pw,.slice a.g.a a.g.l.length a.g.c,.int .i64 a.dir,.string a.tx,.slice a.a a.rs.length a.c] 103)).alloc (.cells #[.int .i64 c.g.kind,.int .i64 c.g.rn,.int .i64 c.g.rd,.string c.g.name,.int .i64 c.g.pw,.slice c.g.a c.g.l.length c.g.c,.int .i64 c.dir,.string c.tx,.slice c.a c.rs.length c.c] 103)) w.heap.size 0 a.cells:=(CellsV.new w a.cells _ _ rfl).kp ((Kp.refl _).alloc _)
 have h1:CellsV ((w.alloc (.cells #[.int .i64 a.g.kind,.int .i64 a.g.rn,.int .i64 a.g.rd,.string a.g.name,.int .i64 a.g.pw,.slice a.g.a a.g.l.length a.g.c,.int .i64 a.dir,.string a.tx,.slice a.a a.rs.length a.c] 103)).alloc (.cells #[.int .i64 c.g.kind,.int .i64 c.g.rn,.int .i64 c.g.rd,.string c.g.name,.int .i64 c.g.pw,.slice c.g.a c.g.l.length c.g.c,.int .i64 c.dir,.string c.tx,.slice c.a c.rs.length c.c] 103)) (w.heap.size+1) 0 c.cells:=CellsV.new _ c.cells _ _ (by simp)
 go_enter Tryz.func138,Tryz.ntmps138
 go_upto_region 1 with fail
 generalize World.alloc _ _=W at *
 have K1:=hid k1
 have H0:=hid h0
 have H1:=hid h1
 have hd:b0=(a.g.eqv c.g&&(decide (a.dir=c.dir)&&(decide (a.tx=c.tx)&&allW qeqB a.rs c.rs))):=hbb.symm
 clear hbb
 have HE:=hid (requal_any a.g c.g B W (Ex.at_kp ha.1.1 k1) (Ex.at_kp hc.1.1 k1))
 have HR:=hid (ha.2.1.kp k1)
 have HR':=hid (hc.2.1.kp k1)
 have HQA:=hid fun q hq=>Qe.at_kp (ha.2.2 q hq) k1
 have HQB:=hid fun q hq=>Qe.at_kp (hc.2.2 q hq) k1
 have hlen:=ha.1.2.2
 have q0:W.cell? ⟨w.heap.size,0,none⟩=some (.int .i64 a.g.kind):=h0 0 _ rfl;have q1:W.cell? ⟨w.heap.size,1,none⟩=some (.int .i64 a.g.rn):=h0 1 _ rfl;have q2:W.cell? ⟨w.heap.size,2,none⟩=some (.int .i64 a.g.rd):=h0 2 _ rfl;have q3:W.cell? ⟨w.heap.size,3,none⟩=some (.string a.g.name):=h0 3 _ rfl;have q4:W.cell? ⟨w.heap.size,4,none⟩=some (.int .i64 a.g.pw):=h0 4 _ rfl;have q5:W.cell? ⟨w.heap.size,5,none⟩=some (.slice a.g.a a.g.l.length a.g.c):=h0 5 _ rfl;have q6:W.cell? ⟨w.heap.size,6,none⟩=some (.int .i64 a.dir):=h0 6 _ rfl;have q7:W.cell? ⟨w.heap.size,7,none⟩=some (.string a.tx):=h0 7 _ rfl;have q8:W.cell? ⟨w.heap.size,8,none⟩=some (.slice a.a a.rs.length a.c):=h0 8 _ rfl
 have p0:W.cell? ⟨(w.heap.size+1),0,none⟩=some (.int .i64 c.g.kind):=h1 0 _ rfl;have p1:W.cell? ⟨(w.heap.size+1),1,none⟩=some (.int .i64 c.g.rn):=h1 1 _ rfl;have p2:W.cell? ⟨(w.heap.size+1),2,none⟩=some (.int .i64 c.g.rd):=h1 2 _ rfl;have p3:W.cell? ⟨(w.heap.size+1),3,none⟩=some (.string c.g.name):=h1 3 _ rfl;have p4:W.cell? ⟨(w.heap.size+1),4,none⟩=some (.int .i64 c.g.pw):=h1 4 _ rfl;have p5:W.cell? ⟨(w.heap.size+1),5,none⟩=some (.slice c.g.a c.g.l.length c.g.c):=h1 5 _ rfl;have p6:W.cell? ⟨(w.heap.size+1),6,none⟩=some (.int .i64 c.dir):=h1 6 _ rfl;have p7:W.cell? ⟨(w.heap.size+1),7,none⟩=some (.string c.tx):=h1 7 _ rfl;have p8:W.cell? ⟨(w.heap.size+1),8,none⟩=some (.slice c.a c.rs.length c.c):=h1 8 _ rfl
 clear h0 h1 k1 ha hc
 cases c0:a.g.eqv c.g with
 | false =>
  rw[c0] at hd HE
  have Hd:=hid hd
  clear hd c0
  go_wp2_with (first | (go_at_call 137;go_fit HE.out;rintro r w2 ⟨rfl,k2⟩) | fail)
  go_ret
  exact⟨ret_bool (by rw[Hd.out];rfl),K1.out.trans k2⟩
 | true =>
 rw[c0] at hd HE
 clear c0
 by_cases c1:a.dir=c.dir
 rotate_left
 ·rw[decide_eq_false c1] at hd
  have e1:(a.dir != c.dir)=true:=bne_iff_ne.2 c1
  have Hd:=hid hd
  clear hd c1
  go_wp2_with (first | (go_at_call 137;go_fit HE.out;rintro r w2 ⟨rfl,k2⟩;have h0:=H0.out.kp k2;have h1:=H1.out.kp k2;have s0:w2.cell? ⟨w.heap.size,0,none⟩=some (.int .i64 a.g.kind):=h0 0 _ rfl;have s1:w2.cell? ⟨w.heap.size,1,none⟩=some (.int .i64 a.g.rn):=h0 1 _ rfl;have s2:w2.cell? ⟨w.heap.size,2,none⟩=some (.int .i64 a.g.rd):=h0 2 _ rfl;have s3:w2.cell? ⟨w.heap.size,3,none⟩=some (.string a.g.name):=h0 3 _ rfl;have s4:w2.cell? ⟨w.heap.size,4,none⟩=some (.int .i64 a.g.pw):=h0 4 _ rfl;have s5:w2.cell? ⟨w.heap.size,5,none⟩=some (.slice a.g.a a.g.l.length a.g.c):=h0 5 _ rfl;have s6:w2.cell? ⟨w.heap.size,6,none⟩=some (.int .i64 a.dir):=h0 6 _ rfl;have s7:w2.cell? ⟨w.heap.size,7,none⟩=some (.string a.tx):=h0 7 _ rfl;have s8:w2.cell? ⟨w.heap.size,8,none⟩=some (.slice a.a a.rs.length a.c):=h0 8 _ rfl;have t0:w2.cell? ⟨(w.heap.size+1),0,none⟩=some (.int .i64 c.g.kind):=h1 0 _ rfl;have t1:w2.cell? ⟨(w.heap.size+1),1,none⟩=some (.int .i64 c.g.rn):=h1 1 _ rfl;have t2:w2.cell? ⟨(w.heap.size+1),2,none⟩=some (.int .i64 c.g.rd):=h1 2 _ rfl;have t3:w2.cell? ⟨(w.heap.size+1),3,none⟩=some (.string c.g.name):=h1 3 _ rfl;have t4:w2.cell? ⟨(w.heap.size+1),4,none⟩=some (.int .i64 c.g.pw):=h1 4 _ rfl;have t5:w2.cell? ⟨(w.heap.size+1),5,none⟩=some (.slice c.g.a c.g.l.length c.g.c):=h1 5 _ rfl;have t6:w2.cell? ⟨(w.heap.size+1),6,none⟩=some (.int .i64 c.dir):=h1 6 _ rfl;have t7:w2.cell? ⟨(w.heap.size+1),7,none⟩=some (.string c.tx):=h1 7 _ rfl;have t8:w2.cell? ⟨(w.heap.size+1),8,none⟩=some (.slice c.a c.rs.length c.c):=h1 8 _ rfl;clear h0 h1) | fail)
  go_ret
  exact⟨ret_bool (by rw[Hd.out];rfl),K1.out.trans k2⟩
 rw[decide_eq_true c1] at hd
 have e1:(a.dir != c.dir)=false:=by rw[c1];simp
 clear c1
 by_cases c2:a.tx=c.tx
 rotate_left
 ·rw[decide_eq_false c2] at hd
  have e2:(a.tx.toList==c.tx.toList)=false:=strNe c2
  have Hd:=hid hd
  clear hd c2
  go_wp2_with (first | (go_at_call 137;go_fit HE.out;rintro r w2 ⟨rfl,k2⟩;have h0:=H0.out.kp k2;have h1:=H1.out.kp k2;have s0:w2.cell? ⟨w.heap.size,0,none⟩=some (.int .i64 a.g.kind):=h0 0 _ rfl;have s1:w2.cell? ⟨w.heap.size,1,none⟩=some (.int .i64 a.g.rn):=h0 1 _ rfl;have s2:w2.cell? ⟨w.heap.size,2,none⟩=some (.int .i64 a.g.rd):=h0 2 _ rfl;have s3:w2.cell? ⟨w.heap.size,3,none⟩=some (.string a.g.name):=h0 3 _ rfl;have s4:w2.cell? ⟨w.heap.size,4,none⟩=some (.int .i64 a.g.pw):=h0 4 _ rfl;have s5:w2.cell? ⟨w.heap.size,5,none⟩=some (.slice a.g.a a.g.l.length a.g.c):=h0 5 _ rfl;have s6:w2.cell? ⟨w.heap.size,6,none⟩=some (.int .i64 a.dir):=h0 6 _ rfl;have s7:w2.cell? ⟨w.heap.size,7,none⟩=some (.string a.tx):=h0 7 _ rfl;have s8:w2.cell? ⟨w.heap.size,8,none⟩=some (.slice a.a a.rs.length a.c):=h0 8 _ rfl;have t0:w2.cell? ⟨(w.heap.size+1),0,none⟩=some (.int .i64 c.g.kind):=h1 0 _ rfl;have t1:w2.cell? ⟨(w.heap.size+1),1,none⟩=some (.int .i64 c.g.rn):=h1 1 _ rfl;have t2:w2.cell? ⟨(w.heap.size+1),2,none⟩=some (.int .i64 c.g.rd):=h1 2 _ rfl;have t3:w2.cell? ⟨(w.heap.size+1),3,none⟩=some (.string c.g.name):=h1 3 _ rfl;have t4:w2.cell? ⟨(w.heap.size+1),4,none⟩=some (.int .i64 c.g.pw):=h1 4 _ rfl;have t5:w2.cell? ⟨(w.heap.size+1),5,none⟩=some (.slice c.g.a c.g.l.length c.g.c):=h1 5 _ rfl;have t6:w2.cell? ⟨(w.heap.size+1),6,none⟩=some (.int .i64 c.dir):=h1 6 _ rfl;have t7:w2.cell? ⟨(w.heap.size+1),7,none⟩=some (.string c.tx):=h1 7 _ rfl;have t8:w2.cell? ⟨(w.heap.size+1),8,none⟩=some (.slice c.a c.rs.length c.c):=h1 8 _ rfl;clear h0 h1) | fail)
  go_ret
  exact⟨ret_bool (by rw[Hd.out];rfl),K1.out.trans k2⟩
 rw[decide_eq_true c2] at hd
 have e2:(a.tx.toList==c.tx.toList)=true:=by rw[c2];exact beq_self_eq_true _
 clear c2
 by_cases c3:a.rs.length=c.rs.length
 rotate_left
 ·rw[allW_len c3] at hd
  have e3:((a.rs.length:Int) != (c.rs.length:Int))=true:=bne_iff_ne.2 (by omega)
  have Hd:=hid hd
  clear hd c3
  go_wp2_with (first | (go_at_call 137;go_fit HE.out;rintro r w2 ⟨rfl,k2⟩;have h0:=H0.out.kp k2;have h1:=H1.out.kp k2;have s0:w2.cell? ⟨w.heap.size,0,none⟩=some (.int .i64 a.g.kind):=h0 0 _ rfl;have s1:w2.cell? ⟨w.heap.size,1,none⟩=some (.int .i64 a.g.rn):=h0 1 _ rfl;have s2:w2.cell? ⟨w.heap.size,2,none⟩=some (.int .i64 a.g.rd):=h0 2 _ rfl;have s3:w2.cell? ⟨w.heap.size,3,none⟩=some (.string a.g.name):=h0 3 _ rfl;have s4:w2.cell? ⟨w.heap.size,4,none⟩=some (.int .i64 a.g.pw):=h0 4 _ rfl;have s5:w2.cell? ⟨w.heap.size,5,none⟩=some (.slice a.g.a a.g.l.length a.g.c):=h0 5 _ rfl;have s6:w2.cell? ⟨w.heap.size,6,none⟩=some (.int .i64 a.dir):=h0 6 _ rfl;have s7:w2.cell? ⟨w.heap.size,7,none⟩=some (.string a.tx):=h0 7 _ rfl;have s8:w2.cell? ⟨w.heap.size,8,none⟩=some (.slice a.a a.rs.length a.c):=h0 8 _ rfl;have t0:w2.cell? ⟨(w.heap.size+1),0,none⟩=some (.int .i64 c.g.kind):=h1 0 _ rfl;have t1:w2.cell? ⟨(w.heap.size+1),1,none⟩=some (.int .i64 c.g.rn):=h1 1 _ rfl;have t2:w2.cell? ⟨(w.heap.size+1),2,none⟩=some (.int .i64 c.g.rd):=h1 2 _ rfl;have t3:w2.cell? ⟨(w.heap.size+1),3,none⟩=some (.string c.g.name):=h1 3 _ rfl;have t4:w2.cell? ⟨(w.heap.size+1),4,none⟩=some (.int .i64 c.g.pw):=h1 4 _ rfl;have t5:w2.cell? ⟨(w.heap.size+1),5,none⟩=some (.slice c.g.a c.g.l.length c.g.c):=h1 5 _ rfl;have t6:w2.cell? ⟨(w.heap.size+1),6,none⟩=some (.int .i64 c.dir):=h1 6 _ rfl;have t7:w2.cell? ⟨(w.heap.size+1),7,none⟩=some (.string c.tx):=h1 7 _ rfl;have t8:w2.cell? ⟨(w.heap.size+1),8,none⟩=some (.slice c.a c.rs.length c.c):=h1 8 _ rfl;clear h0 h1) | fail)
  go_ret
  exact⟨ret_bool (by rw[Hd.out];rfl),K1.out.trans k2⟩
 have e3:((a.rs.length:Int) != (c.rs.length:Int))=false:=by rw[c3];simp
 obtain⟨bq,hbq⟩:∃ bq,(a.rs.zip c.rs).all (fun z=>qeqB z.1 z.2)=bq:=⟨_,rfl⟩
 have hd2:b0=bq:=by rw[hd,← hbq];unfold allW;rw[decide_eq_true c3];simp
 have HDQ:=hid hd2
 have HZQ:=hid hbq
 have C6:=hid c3
 generalize hn:a.rs.length=n at *
 generalize hn':c.rs.length=n' at *
 have Hn:=hid hn
 have Hn':=hid hn'
 clear hd hd2 hbq c3 hn hn'
 go_upto_region 4 with (first | (go_at_call 137;go_fit HE.out;rintro r w2 ⟨rfl,k2⟩;have h0:=H0.out.kp k2;have h1:=H1.out.kp k2;have s0:w2.cell? ⟨w.heap.size,0,none⟩=some (.int .i64 a.g.kind):=h0 0 _ rfl;have s1:w2.cell? ⟨w.heap.size,1,none⟩=some (.int .i64 a.g.rn):=h0 1 _ rfl;have s2:w2.cell? ⟨w.heap.size,2,none⟩=some (.int .i64 a.g.rd):=h0 2 _ rfl;have s3:w2.cell? ⟨w.heap.size,3,none⟩=some (.string a.g.name):=h0 3 _ rfl;have s4:w2.cell? ⟨w.heap.size,4,none⟩=some (.int .i64 a.g.pw):=h0 4 _ rfl;have s5:w2.cell? ⟨w.heap.size,5,none⟩=some (.slice a.g.a a.g.l.length a.g.c):=h0 5 _ rfl;have s6:w2.cell? ⟨w.heap.size,6,none⟩=some (.int .i64 a.dir):=h0 6 _ rfl;have s7:w2.cell? ⟨w.heap.size,7,none⟩=some (.string a.tx):=h0 7 _ rfl;have s8:w2.cell? ⟨w.heap.size,8,none⟩=some (.slice a.a a.rs.length a.c):=h0 8 _ rfl;have t0:w2.cell? ⟨(w.heap.size+1),0,none⟩=some (.int .i64 c.g.kind):=h1 0 _ rfl;have t1:w2.cell? ⟨(w.heap.size+1),1,none⟩=some (.int .i64 c.g.rn):=h1 1 _ rfl;have t2:w2.cell? ⟨(w.heap.size+1),2,none⟩=some (.int .i64 c.g.rd):=h1 2 _ rfl;have t3:w2.cell? ⟨(w.heap.size+1),3,none⟩=some (.string c.g.name):=h1 3 _ rfl;have t4:w2.cell? ⟨(w.heap.size+1),4,none⟩=some (.int .i64 c.g.pw):=h1 4 _ rfl;have t5:w2.cell? ⟨(w.heap.size+1),5,none⟩=some (.slice c.g.a c.g.l.length c.g.c):=h1 5 _ rfl;have t6:w2.cell? ⟨(w.heap.size+1),6,none⟩=some (.int .i64 c.dir):=h1 6 _ rfl;have t7:w2.cell? ⟨(w.heap.size+1),7,none⟩=some (.string c.tx):=h1 7 _ rfl;have t8:w2.cell? ⟨(w.heap.size+1),8,none⟩=some (.slice c.a c.rs.length c.c):=h1 8 _ rfl;clear h0 h1;rw[Hn.out] at s8;rw[Hn'.out] at t8) | fail)
 have HST:=hid k2
 clear q0 p0 s0 t0 q1 p1 s1 t1 q2 p2 s2 t2 q3 p3 s3 t3 q4 p4 s4 t4 q5 p5 s5 t5 q6 p6 s6 t6 q7 p7 s7 t7 q8 p8 s8 t8 k2
 go_loopw [5] (fun v wr=>∃ i:Nat,i≤n∧v=.int .i64 (i:Int)∧(((a.rs).drop i).zip ((c.rs).drop i)).all (fun z=>qeqB z.1 z.2)=bq∧Kp w2 wr) (fun v _=>n-(intOf v).toNat)
 case atStart=>exact⟨0,by omega,rfl,HZQ.out,.refl _⟩
 case round =>
 obtain⟨i,hi,rfl,hm,hkp⟩:=hrel
 have Hm:=hid hm;clear hm
 have hb1:=H0.out.kp (HST.out.trans hkp)
 have hb2:=H1.out.kp (HST.out.trans hkp)
 have z5:wr.cell? ⟨w.heap.size,8,none⟩=some (.slice a.a (a.rs).length a.c):=hb1 8 _ rfl
 have y5:wr.cell? ⟨w.heap.size+1,8,none⟩=some (.slice c.a (c.rs).length c.c):=hb2 8 _ rfl
 rw[Hn.out] at z5
 rw[Hn'.out] at y5
 clear hb1 hb2
 by_cases hlt:i<n
 rotate_left
 ·obtain rfl:i=n:=by omega
  have hf:=Hm.out
  rw[show (a.rs).drop i=[] from List.drop_eq_nil_of_le (by rw[Hn.out];omega),List.zip_nil_left] at hf
  have Hf:=hid hf
  clear hf y5
  go_wp2
  go_ret
  exact⟨ret_bool (by rw[HDQ.out,← Hf.out];rfl),K1.out.trans (HST.out.trans hkp)⟩
 have hlt1:i<(a.rs).length:=by rw[Hn.out];exact hlt
 have hlt2:i<(c.rs).length:=by rw[Hn'.out,← C6.out];exact hlt
 have hlt3:i<n':=by rw[← C6.out];exact hlt
 obtain⟨x,hx⟩:∃ x,(a.rs)[i]? = some x:=⟨_,List.getElem?_eq_getElem hlt1⟩
 obtain⟨y,hy⟩:∃ y,(c.rs)[i]? = some y:=⟨_,List.getElem?_eq_getElem hlt2⟩
 have Hd:=hid (show (a.rs).drop i=x::(a.rs).drop (i+1) from (List.drop_eq_getElem_cons hlt1).trans (by rw[(List.getElem?_eq_some_iff.1 hx).2]))
 have Hd':=hid (show (c.rs).drop i=y::(c.rs).drop (i+1) from (List.drop_eq_getElem_cons hlt2).trans (by rw[(List.getElem?_eq_some_iff.1 hy).2]))
 have hxm:=List.mem_of_getElem? hx
 have hym:=List.mem_of_getElem? hy
 obtain⟨b,o,ha,_,h0⟩:=(HR.out.kp (HST.out.trans hkp)) i x hx
 obtain⟨b',o',ha',_,h1⟩:=(HR'.out.kp (HST.out.trans hkp)) i y hy
 have Hkp:=hid hkp
 rw[ha] at z5
 rw[ha'] at y5
 have kd:=(Kp.refl wr).drew
 have hSd:wr.drew.cell? ⟨w.heap.size,8,none⟩=some (.slice (some ⟨b,o,none⟩) n a.c)∧wr.drew.cell? ⟨w.heap.size+1,8,none⟩=some (.slice (some ⟨b',o',none⟩) n' c.c)∧wr.drew.cell? ⟨b,o+i*7,none⟩=some (.string x.name)∧wr.drew.cell? ⟨b,o+i*7+1,none⟩=some (.int .i64 x.e.kind)∧wr.drew.cell? ⟨b,o+i*7+2,none⟩=some (.int .i64 x.e.rn)∧wr.drew.cell? ⟨b,o+i*7+3,none⟩=some (.int .i64 x.e.rd)∧wr.drew.cell? ⟨b,o+i*7+4,none⟩=some (.string x.e.name)∧wr.drew.cell? ⟨b,o+i*7+5,none⟩=some (.int .i64 x.e.pw)∧wr.drew.cell? ⟨b,o+i*7+6,none⟩=some (.slice x.e.a x.e.l.length x.e.c)∧wr.drew.cell? ⟨b',o'+i*7,none⟩=some (.string y.name)∧wr.drew.cell? ⟨b',o'+i*7+1,none⟩=some (.int .i64 y.e.kind)∧wr.drew.cell? ⟨b',o'+i*7+2,none⟩=some (.int .i64 y.e.rn)∧wr.drew.cell? ⟨b',o'+i*7+3,none⟩=some (.int .i64 y.e.rd)∧wr.drew.cell? ⟨b',o'+i*7+4,none⟩=some (.string y.e.name)∧wr.drew.cell? ⟨b',o'+i*7+5,none⟩=some (.int .i64 y.e.pw)∧wr.drew.cell? ⟨b',o'+i*7+6,none⟩=some (.slice y.e.a y.e.l.length y.e.c):=keepc16 kd ⟨z5,y5,h0 0 _ rfl,h0 1 _ rfl,h0 2 _ rfl,h0 3 _ rfl,h0 4 _ rfl,h0 5 _ rfl,h0 6 _ rfl,h1 0 _ rfl,h1 1 _ rfl,h1 2 _ rfl,h1 3 _ rfl,h1 4 _ rfl,h1 5 _ rfl,h1 6 _ rfl⟩
 have hm2:=Hm.out
 rw[Hd.out,Hd'.out,List.zip_cons_cons,List.all_cons] at hm2
 have Hm2:=hid hm2
 have HX2:=hid (requal_any x.e y.e B _ (Ex.at_kp (HQA.out x hxm).2 ((HST.out.trans hkp).trans kd)) (Ex.at_kp (HQB.out y hym).2 ((HST.out.trans hkp).trans kd)))
 have KD:=hid kd
 have qn:wr.cell? ⟨b,o+i*7,none⟩=some (.string x.name):=h0 0 _ rfl
 have pn:wr.cell? ⟨b',o'+i*7,none⟩=some (.string y.name):=h1 0 _ rfl
 clear hx hxm hkp hy hym hlt1 hlt2 hm2 kd h0 h1
 rw[ha,ha']
 have hpq:qeqB x y=(decide (x.name=y.name)&&x.e.eqv y.e):=rfl
 by_cases c1:x.name=y.name
 rotate_left
 ·rw[decide_eq_false c1,Bool.false_and] at hpq
  have e1:(x.name.toList==y.name.toList)=false:=strNe c1
  have hm3:=Hm2.out
  rw[show qeqB (x,y).1 (x,y).2=false from hpq,Bool.false_and] at hm3
  have Hm3:=hid hm3
  clear hm3 c1 hpq
  clear hSd
  go_upto_region 6 with fail
  go_quiet (fail)
  go_wp2
  go_ret
  exact⟨ret_bool (by rw[HDQ.out,← Hm3.out]),K1.out.trans (HST.out.trans (Hkp.out.trans ((Kp.refl wr).drewN _)))⟩
 rw[decide_eq_true c1,Bool.true_and] at hpq
 have e1:(x.name.toList==y.name.toList)=true:=by rw[c1];exact beq_self_eq_true _
 clear c1 y5 qn pn
 go_upto_region 6 with fail
 clear z5
 go_region_held3 (fun w'=>w'.cell? ⟨w.heap.size,8,none⟩=some (.slice (some ⟨b,o,none⟩) n a.c)∧w'.cell? ⟨w.heap.size+1,8,none⟩=some (.slice (some ⟨b',o',none⟩) n' c.c)∧w'.cell? ⟨b,o+i*7,none⟩=some (.string x.name)∧w'.cell? ⟨b,o+i*7+1,none⟩=some (.int .i64 x.e.kind)∧w'.cell? ⟨b,o+i*7+2,none⟩=some (.int .i64 x.e.rn)∧w'.cell? ⟨b,o+i*7+3,none⟩=some (.int .i64 x.e.rd)∧w'.cell? ⟨b,o+i*7+4,none⟩=some (.string x.e.name)∧w'.cell? ⟨b,o+i*7+5,none⟩=some (.int .i64 x.e.pw)∧w'.cell? ⟨b,o+i*7+6,none⟩=some (.slice x.e.a x.e.l.length x.e.c)∧w'.cell? ⟨b',o'+i*7,none⟩=some (.string y.name)∧w'.cell? ⟨b',o'+i*7+1,none⟩=some (.int .i64 y.e.kind)∧w'.cell? ⟨b',o'+i*7+2,none⟩=some (.int .i64 y.e.rn)∧w'.cell? ⟨b',o'+i*7+3,none⟩=some (.int .i64 y.e.rd)∧w'.cell? ⟨b',o'+i*7+4,none⟩=some (.string y.e.name)∧w'.cell? ⟨b',o'+i*7+5,none⟩=some (.int .i64 y.e.pw)∧w'.cell? ⟨b',o'+i*7+6,none⟩=some (.slice y.e.a y.e.l.length y.e.c)) (first | with_reducible assumption | with_reducible exact keepc16 (by assumption) hSd | fail) (first
  | (go_at_call 137;go_fit HX2.out;rintro r w2 ⟨rfl,k2⟩)
  | fail)
 have hm3:=Hm2.out
 rw[show qeqB (x,y).1 (x,y).2=x.e.eqv y.e from hpq] at hm3
 clear hpq
 cases hq:x.e.eqv y.e with
 | false =>
  rw[hq,Bool.false_and] at hm3
  have Hm3:=hid hm3
  clear hq hm3
  go_wp2
  go_ret
  exact⟨ret_bool (by rw[HDQ.out,← Hm3.out]),K1.out.trans (HST.out.trans (Hkp.out.trans (KD.out.trans k2)))⟩
 | true =>
 rw[hq,Bool.true_and] at hm3
 have Hm3:=hid hm3
 clear hq hm3
 go_wp2
 go_roundw
 case measure=>simp[intOf];omega
 case rel=>exact⟨i+1,by omega,by go_num,Hm3.out,Hkp.out.trans (KD.out.trans k2)⟩
set_option maxHeartbeats 8000000 in
set_option maxRecDepth 20000 in
theorem smode_any (a c:Mo) (B:Nat) (w:World) (ha:a.at w B) (hc:c.at w B):Calls Tryz.prog 78 #[.agg #[.string a.name,.slice a.fa a.fs.length a.fc,.slice a.ea a.es.length a.ec],.agg #[.string c.name,.slice c.fa c.fs.length c.fc,.slice c.ea c.es.length c.ec]] w fun e w'=>e=.returned (.bool (meqB a c))∧Kp w w':=by
 generalize hbb:meqB a c=b0 at *
 have k1:Kp w ((w.alloc (.cells #[.string a.name,.slice a.fa a.fs.length a.fc,.slice a.ea a.es.length a.ec] 41)).alloc (.cells #[.string c.name,.slice c.fa c.fs.length c.fc,.slice c.ea c.es.length c.ec] 41)):=((Kp.refl w).alloc _).alloc _
 have h0:CellsV ((w.alloc (.cells #[.string a.name,.slice a.fa a.fs.length a.fc,.slice a.ea a.es.length a.ec] 41)).alloc (.cells #[.string c.name,.slice c.fa c.fs.length c.fc,.slice c.ea c.es.length c.ec] 41)) w.heap.size 0 a.cells:=(CellsV.new w a.cells _ _ rfl).kp ((Kp.refl _).alloc _)
 have h1:CellsV ((w.alloc (.cells #[.string a.name,.slice a.fa a.fs.length a.fc,.slice a.ea a.es.length a.ec] 41)).alloc (.cells #[.string c.name,.slice c.fa c.fs.length c.fc,.slice c.ea c.es.length c.ec] 41)) (w.heap.size+1) 0 c.cells:=CellsV.new _ c.cells _ _ (by simp)
 go_enter Tryz.func78,Tryz.ntmps78
 go_upto_region 1 with fail
 generalize World.alloc _ _=W at *
 have K1:=hid k1
 have H0:=hid h0
 have H1:=hid h1
 have hd:b0=(decide (a.name=c.name)&&(allW qeqB a.fs c.fs&&allW xeqB a.es c.es)):=hbb.symm
 clear hbb
 have HR:=hid (ha.2.1.1.kp k1)
 have HR':=hid (hc.2.1.1.kp k1)
 have HQA:=hid fun q hq=>Qe.at_kp (ha.2.1.2 q hq) k1
 have HQB:=hid fun q hq=>Qe.at_kp (hc.2.1.2 q hq) k1
 have HRB:=hid (ha.2.2.1.kp k1)
 have HRB':=hid (hc.2.2.1.kp k1)
 have HQC:=hid fun q hq=>Ed.at_kp (ha.2.2.2 q hq) k1
 have HQD:=hid fun q hq=>Ed.at_kp (hc.2.2.2 q hq) k1
 have hlen:=ha.1.2.1
 have hlen2:=ha.1.2.2
 have q0:W.cell? ⟨w.heap.size,0,none⟩=some (.string a.name):=h0 0 _ rfl;have q1:W.cell? ⟨w.heap.size,1,none⟩=some (.slice a.fa a.fs.length a.fc):=h0 1 _ rfl;have q2:W.cell? ⟨w.heap.size,2,none⟩=some (.slice a.ea a.es.length a.ec):=h0 2 _ rfl
 have p0:W.cell? ⟨(w.heap.size+1),0,none⟩=some (.string c.name):=h1 0 _ rfl;have p1:W.cell? ⟨(w.heap.size+1),1,none⟩=some (.slice c.fa c.fs.length c.fc):=h1 1 _ rfl;have p2:W.cell? ⟨(w.heap.size+1),2,none⟩=some (.slice c.ea c.es.length c.ec):=h1 2 _ rfl
 clear h0 h1 k1 ha hc
 by_cases c1:a.name=c.name
 rotate_left
 ·rw[decide_eq_false c1,Bool.false_and] at hd
  have e1:(a.name.toList==c.name.toList)=false:=strNe c1
  subst hd
  clear c1
  go_wp2_with fail
  go_ret
  exact⟨rfl,K1.out⟩
 rw[decide_eq_true c1,Bool.true_and] at hd
 have e1:(a.name.toList==c.name.toList)=true:=by rw[c1];exact beq_self_eq_true _
 clear c1
 by_cases c2:a.fs.length=c.fs.length
 rotate_left
 ·rw[allW_len c2,Bool.false_and] at hd
  have e2:((a.fs.length:Int) != (c.fs.length:Int))=true:=bne_iff_ne.2 (by omega)
  subst hd
  clear c2
  go_wp2_with fail
  go_ret
  exact⟨rfl,K1.out⟩
 have e2:((a.fs.length:Int) != (c.fs.length:Int))=false:=by rw[c2];simp
 by_cases c3:a.es.length=c.es.length
 rotate_left
 ·rw[allW_len c3,Bool.and_false] at hd
  have e3:((a.es.length:Int) != (c.es.length:Int))=true:=bne_iff_ne.2 (by omega)
  subst hd
  clear c3 c2
  go_wp2_with fail
  go_ret
  exact⟨rfl,K1.out⟩
 have e3:((a.es.length:Int) != (c.es.length:Int))=false:=by rw[c3];simp
 obtain⟨bq,hbq⟩:∃ bq,(a.fs.zip c.fs).all (fun z=>qeqB z.1 z.2)=bq:=⟨_,rfl⟩
 obtain⟨br,hbr⟩:∃ br,(a.es.zip c.es).all (fun z=>xeqB z.1 z.2)=br:=⟨_,rfl⟩
 have hd2:b0=(bq&&br):=by rw[hd,← hbq,← hbr];unfold allW;rw[decide_eq_true c2,decide_eq_true c3,Bool.true_and,Bool.true_and]
 have HDQ:=hid hd2
 have HZQ:=hid hbq
 have HZR:=hid hbr
 have C6:=hid c2
 have C7:=hid c3
 generalize hn:a.fs.length=n at *
 generalize hn':c.fs.length=n' at *
 generalize hnb:a.es.length=nb at *
 generalize hnb':c.es.length=nb' at *
 have Hn:=hid hn
 have Hn':=hid hn'
 have HnB:=hid hnb
 have HnB':=hid hnb'
 have HST:=hid (Kp.refl W)
 clear hd hd2 hbq hbr c2 c3 hn hn' hnb hnb'
 go_upto_region 4 with fail
 clear q0 q1 q2 p0 p1 p2
 go_loopw [5] (fun v wr=>∃ i:Nat,i≤n∧v=.int .i64 (i:Int)∧(((a.fs).drop i).zip ((c.fs).drop i)).all (fun z=>qeqB z.1 z.2)=bq∧Kp W wr) (fun v _=>n-(intOf v).toNat)
 case atStart=>exact⟨0,by omega,rfl,HZQ.out,.refl _⟩
 case round =>
 obtain⟨i,hi,rfl,hm,hkp⟩:=hrel
 have Hm:=hid hm;clear hm
 have hb1:=H0.out.kp (HST.out.trans hkp)
 have hb2:=H1.out.kp (HST.out.trans hkp)
 have z5:wr.cell? ⟨w.heap.size,1,none⟩=some (.slice a.fa (a.fs).length a.fc):=hb1 1 _ rfl
 have y5:wr.cell? ⟨w.heap.size+1,1,none⟩=some (.slice c.fa (c.fs).length c.fc):=hb2 1 _ rfl
 rw[Hn.out] at z5
 rw[Hn'.out] at y5
 clear hb1 hb2
 by_cases hlt:i<n
 ·have hlt1:i<(a.fs).length:=by rw[Hn.out];exact hlt
  have hlt2:i<(c.fs).length:=by rw[Hn'.out,← C6.out];exact hlt
  have hlt3:i<n':=by rw[← C6.out];exact hlt
  obtain⟨x,hx⟩:∃ x,(a.fs)[i]? = some x:=⟨_,List.getElem?_eq_getElem hlt1⟩
  obtain⟨y,hy⟩:∃ y,(c.fs)[i]? = some y:=⟨_,List.getElem?_eq_getElem hlt2⟩
  have Hd:=hid (show (a.fs).drop i=x::(a.fs).drop (i+1) from (List.drop_eq_getElem_cons hlt1).trans (by rw[(List.getElem?_eq_some_iff.1 hx).2]))
  have Hd':=hid (show (c.fs).drop i=y::(c.fs).drop (i+1) from (List.drop_eq_getElem_cons hlt2).trans (by rw[(List.getElem?_eq_some_iff.1 hy).2]))
  have hxm:=List.mem_of_getElem? hx
  have hym:=List.mem_of_getElem? hy
  obtain⟨b,o,ha,_,h0⟩:=(HR.out.kp (HST.out.trans hkp)) i x hx
  obtain⟨b',o',ha',_,h1⟩:=(HR'.out.kp (HST.out.trans hkp)) i y hy
  have Hkp:=hid hkp
  rw[ha] at z5
  rw[ha'] at y5
  have kd:=(Kp.refl wr).drew
  have hSd:wr.drew.cell? ⟨w.heap.size,1,none⟩=some (.slice (some ⟨b,o,none⟩) n a.fc)∧wr.drew.cell? ⟨w.heap.size+1,1,none⟩=some (.slice (some ⟨b',o',none⟩) n' c.fc)∧wr.drew.cell? ⟨b,o+i*7,none⟩=some (.string x.name)∧wr.drew.cell? ⟨b,o+i*7+1,none⟩=some (.int .i64 x.e.kind)∧wr.drew.cell? ⟨b,o+i*7+2,none⟩=some (.int .i64 x.e.rn)∧wr.drew.cell? ⟨b,o+i*7+3,none⟩=some (.int .i64 x.e.rd)∧wr.drew.cell? ⟨b,o+i*7+4,none⟩=some (.string x.e.name)∧wr.drew.cell? ⟨b,o+i*7+5,none⟩=some (.int .i64 x.e.pw)∧wr.drew.cell? ⟨b,o+i*7+6,none⟩=some (.slice x.e.a x.e.l.length x.e.c)∧wr.drew.cell? ⟨b',o'+i*7,none⟩=some (.string y.name)∧wr.drew.cell? ⟨b',o'+i*7+1,none⟩=some (.int .i64 y.e.kind)∧wr.drew.cell? ⟨b',o'+i*7+2,none⟩=some (.int .i64 y.e.rn)∧wr.drew.cell? ⟨b',o'+i*7+3,none⟩=some (.int .i64 y.e.rd)∧wr.drew.cell? ⟨b',o'+i*7+4,none⟩=some (.string y.e.name)∧wr.drew.cell? ⟨b',o'+i*7+5,none⟩=some (.int .i64 y.e.pw)∧wr.drew.cell? ⟨b',o'+i*7+6,none⟩=some (.slice y.e.a y.e.l.length y.e.c):=keepc16 kd ⟨z5,y5,h0 0 _ rfl,h0 1 _ rfl,h0 2 _ rfl,h0 3 _ rfl,h0 4 _ rfl,h0 5 _ rfl,h0 6 _ rfl,h1 0 _ rfl,h1 1 _ rfl,h1 2 _ rfl,h1 3 _ rfl,h1 4 _ rfl,h1 5 _ rfl,h1 6 _ rfl⟩
  have hm2:=Hm.out
  rw[Hd.out,Hd'.out,List.zip_cons_cons,List.all_cons] at hm2
  have Hm2:=hid hm2
  have HX2:=hid (requal_any x.e y.e B _ (Ex.at_kp (HQA.out x hxm).2 ((HST.out.trans hkp).trans kd)) (Ex.at_kp (HQB.out y hym).2 ((HST.out.trans hkp).trans kd)))
  have KD:=hid kd
  have qn:wr.cell? ⟨b,o+i*7,none⟩=some (.string x.name):=h0 0 _ rfl
  have pn:wr.cell? ⟨b',o'+i*7,none⟩=some (.string y.name):=h1 0 _ rfl
  clear hx hxm hkp hy hym hlt1 hlt2 hm2 kd h0 h1
  rw[ha,ha']
  have hpq:qeqB x y=(decide (x.name=y.name)&&x.e.eqv y.e):=rfl
  by_cases c1:x.name=y.name
  rotate_left
  ·rw[decide_eq_false c1,Bool.false_and] at hpq
   have e1:(x.name.toList==y.name.toList)=false:=strNe c1
   have hm3:=Hm2.out
   rw[show qeqB (x,y).1 (x,y).2=false from hpq,Bool.false_and] at hm3
   have Hm3:=hid hm3
   clear hm3 c1 hpq
   clear hSd
   go_upto_region 6 with fail
   go_quiet (fail)
   go_wp2
   go_ret
   exact⟨ret_bool (by rw[HDQ.out,← Hm3.out,Bool.false_and]),K1.out.trans (HST.out.trans (Hkp.out.trans ((Kp.refl wr).drewN _)))⟩
  rw[decide_eq_true c1,Bool.true_and] at hpq
  have e1:(x.name.toList==y.name.toList)=true:=by rw[c1];exact beq_self_eq_true _
  clear c1 y5 qn pn
  go_upto_region 6 with fail
  clear z5
  go_region_held3 (fun w'=>w'.cell? ⟨w.heap.size,1,none⟩=some (.slice (some ⟨b,o,none⟩) n a.fc)∧w'.cell? ⟨w.heap.size+1,1,none⟩=some (.slice (some ⟨b',o',none⟩) n' c.fc)∧w'.cell? ⟨b,o+i*7,none⟩=some (.string x.name)∧w'.cell? ⟨b,o+i*7+1,none⟩=some (.int .i64 x.e.kind)∧w'.cell? ⟨b,o+i*7+2,none⟩=some (.int .i64 x.e.rn)∧w'.cell? ⟨b,o+i*7+3,none⟩=some (.int .i64 x.e.rd)∧w'.cell? ⟨b,o+i*7+4,none⟩=some (.string x.e.name)∧w'.cell? ⟨b,o+i*7+5,none⟩=some (.int .i64 x.e.pw)∧w'.cell? ⟨b,o+i*7+6,none⟩=some (.slice x.e.a x.e.l.length x.e.c)∧w'.cell? ⟨b',o'+i*7,none⟩=some (.string y.name)∧w'.cell? ⟨b',o'+i*7+1,none⟩=some (.int .i64 y.e.kind)∧w'.cell? ⟨b',o'+i*7+2,none⟩=some (.int .i64 y.e.rn)∧w'.cell? ⟨b',o'+i*7+3,none⟩=some (.int .i64 y.e.rd)∧w'.cell? ⟨b',o'+i*7+4,none⟩=some (.string y.e.name)∧w'.cell? ⟨b',o'+i*7+5,none⟩=some (.int .i64 y.e.pw)∧w'.cell? ⟨b',o'+i*7+6,none⟩=some (.slice y.e.a y.e.l.length y.e.c)) (first | with_reducible assumption | with_reducible exact keepc16 (by assumption) hSd | fail) (first
   | (go_at_call 137;go_fit HX2.out;rintro r w2 ⟨rfl,k2⟩)
   | fail)
  have hm3:=Hm2.out
  rw[show qeqB (x,y).1 (x,y).2=x.e.eqv y.e from hpq] at hm3
  clear hpq
  cases hq:x.e.eqv y.e with
  | false =>
   rw[hq,Bool.false_and] at hm3
   have Hm3:=hid hm3
   clear hq hm3
   go_wp2
   go_ret
   exact⟨ret_bool (by rw[HDQ.out,← Hm3.out,Bool.false_and]),K1.out.trans (HST.out.trans (Hkp.out.trans (KD.out.trans k2)))⟩
  | true =>
  rw[hq,Bool.true_and] at hm3
  have Hm3:=hid hm3
  clear hq hm3
  go_wp2
  go_roundw
  case measure=>simp[intOf];omega
  case rel=>exact⟨i+1,by omega,by go_num,Hm3.out,Hkp.out.trans (KD.out.trans k2)⟩
 obtain rfl:i=n:=by omega
 have hf:=Hm.out
 rw[show (a.fs).drop i=[] from List.drop_eq_nil_of_le (by rw[Hn.out];omega),List.zip_nil_left] at hf
 have Hf:=hid hf
 clear hf y5
 have HF1:=Hf
 have HSU:=hid (HST.out.trans hkp)
 obtain⟨w8,hw8⟩:∃ w8:World,w8=wr:=⟨_,rfl⟩
 subst hw8
 clear hkp Hf
 go_wp2
 go_loopw [6] (fun v wr=>∃ i:Nat,i≤nb∧v=.int .i64 (i:Int)∧(((a.es).drop i).zip ((c.es).drop i)).all (fun z=>xeqB z.1 z.2)=br∧Kp w8 wr) (fun v _=>nb-(intOf v).toNat)
 case atStart=>exact⟨0,by omega,rfl,HZR.out,.refl _⟩
 case round =>
 obtain⟨i,hi,rfl,hm,hkp⟩:=hrel
 have Hm:=hid hm;clear hm
 have hb1:=H0.out.kp (HSU.out.trans hkp)
 have hb2:=H1.out.kp (HSU.out.trans hkp)
 have z5:wr.cell? ⟨w.heap.size,2,none⟩=some (.slice a.ea (a.es).length a.ec):=hb1 2 _ rfl
 have y5:wr.cell? ⟨w.heap.size+1,2,none⟩=some (.slice c.ea (c.es).length c.ec):=hb2 2 _ rfl
 rw[HnB.out] at z5
 rw[HnB'.out] at y5
 clear hb1 hb2
 by_cases hlt:i<nb
 rotate_left
 ·obtain rfl:i=nb:=by omega
  have hf:=Hm.out
  rw[show (a.es).drop i=[] from List.drop_eq_nil_of_le (by rw[HnB.out];omega),List.zip_nil_left] at hf
  have Hf:=hid hf
  clear hf y5
  go_wp2
  go_ret
  exact⟨ret_bool (by rw[HDQ.out,← HF1.out,← Hf.out];rfl),K1.out.trans (HSU.out.trans hkp)⟩
 have hlt1:i<(a.es).length:=by rw[HnB.out];exact hlt
 have hlt2:i<(c.es).length:=by rw[HnB'.out,← C7.out];exact hlt
 have hlt3:i<nb':=by rw[← C7.out];exact hlt
 obtain⟨x,hx⟩:∃ x,(a.es)[i]? = some x:=⟨_,List.getElem?_eq_getElem hlt1⟩
 obtain⟨y,hy⟩:∃ y,(c.es)[i]? = some y:=⟨_,List.getElem?_eq_getElem hlt2⟩
 have Hd:=hid (show (a.es).drop i=x::(a.es).drop (i+1) from (List.drop_eq_getElem_cons hlt1).trans (by rw[(List.getElem?_eq_some_iff.1 hx).2]))
 have Hd':=hid (show (c.es).drop i=y::(c.es).drop (i+1) from (List.drop_eq_getElem_cons hlt2).trans (by rw[(List.getElem?_eq_some_iff.1 hy).2]))
 have hxm:=List.mem_of_getElem? hx
 have hym:=List.mem_of_getElem? hy
 obtain⟨b,o,ha,_,h0⟩:=(HRB.out.kp (HSU.out.trans hkp)) i x hx
 obtain⟨b',o',ha',_,h1⟩:=(HRB'.out.kp (HSU.out.trans hkp)) i y hy
 have Hkp:=hid hkp
 rw[ha] at z5
 rw[ha'] at y5
 have kd:=(Kp.refl wr).drew
 have hSd:wr.drew.cell? ⟨w.heap.size,2,none⟩=some (.slice (some ⟨b,o,none⟩) nb a.ec)∧wr.drew.cell? ⟨w.heap.size+1,2,none⟩=some (.slice (some ⟨b',o',none⟩) nb' c.ec)∧wr.drew.cell? ⟨b,o+i*9,none⟩=some (.int .i64 x.g.kind)∧wr.drew.cell? ⟨b,o+i*9+1,none⟩=some (.int .i64 x.g.rn)∧wr.drew.cell? ⟨b,o+i*9+2,none⟩=some (.int .i64 x.g.rd)∧wr.drew.cell? ⟨b,o+i*9+3,none⟩=some (.string x.g.name)∧wr.drew.cell? ⟨b,o+i*9+4,none⟩=some (.int .i64 x.g.pw)∧wr.drew.cell? ⟨b,o+i*9+5,none⟩=some (.slice x.g.a x.g.l.length x.g.c)∧wr.drew.cell? ⟨b,o+i*9+6,none⟩=some (.int .i64 x.dir)∧wr.drew.cell? ⟨b,o+i*9+7,none⟩=some (.string x.tx)∧wr.drew.cell? ⟨b,o+i*9+8,none⟩=some (.slice x.a x.rs.length x.c)∧wr.drew.cell? ⟨b',o'+i*9,none⟩=some (.int .i64 y.g.kind)∧wr.drew.cell? ⟨b',o'+i*9+1,none⟩=some (.int .i64 y.g.rn)∧wr.drew.cell? ⟨b',o'+i*9+2,none⟩=some (.int .i64 y.g.rd)∧wr.drew.cell? ⟨b',o'+i*9+3,none⟩=some (.string y.g.name)∧wr.drew.cell? ⟨b',o'+i*9+4,none⟩=some (.int .i64 y.g.pw)∧wr.drew.cell? ⟨b',o'+i*9+5,none⟩=some (.slice y.g.a y.g.l.length y.g.c)∧wr.drew.cell? ⟨b',o'+i*9+6,none⟩=some (.int .i64 y.dir)∧wr.drew.cell? ⟨b',o'+i*9+7,none⟩=some (.string y.tx)∧wr.drew.cell? ⟨b',o'+i*9+8,none⟩=some (.slice y.a y.rs.length y.c):=keepc20 kd ⟨z5,y5,h0 0 _ rfl,h0 1 _ rfl,h0 2 _ rfl,h0 3 _ rfl,h0 4 _ rfl,h0 5 _ rfl,h0 6 _ rfl,h0 7 _ rfl,h0 8 _ rfl,h1 0 _ rfl,h1 1 _ rfl,h1 2 _ rfl,h1 3 _ rfl,h1 4 _ rfl,h1 5 _ rfl,h1 6 _ rfl,h1 7 _ rfl,h1 8 _ rfl⟩
 have hm2:=Hm.out
 rw[Hd.out,Hd'.out,List.zip_cons_cons,List.all_cons] at hm2
 have Hm2:=hid hm2
 have HX2:=hid (sedge_any x y B _ (Ed.at_kp (HQC.out x hxm) ((HSU.out.trans hkp).trans kd)) (Ed.at_kp (HQD.out y hym) ((HSU.out.trans hkp).trans kd)))
 have KD:=hid kd
 clear hx hxm hkp hy hym hlt1 hlt2 hm2 kd h0 h1
 rw[ha,ha']
 clear y5
 go_upto_region 11 with fail
 clear z5
 go_region_held3 (fun w'=>w'.cell? ⟨w.heap.size,2,none⟩=some (.slice (some ⟨b,o,none⟩) nb a.ec)∧w'.cell? ⟨w.heap.size+1,2,none⟩=some (.slice (some ⟨b',o',none⟩) nb' c.ec)∧w'.cell? ⟨b,o+i*9,none⟩=some (.int .i64 x.g.kind)∧w'.cell? ⟨b,o+i*9+1,none⟩=some (.int .i64 x.g.rn)∧w'.cell? ⟨b,o+i*9+2,none⟩=some (.int .i64 x.g.rd)∧w'.cell? ⟨b,o+i*9+3,none⟩=some (.string x.g.name)∧w'.cell? ⟨b,o+i*9+4,none⟩=some (.int .i64 x.g.pw)∧w'.cell? ⟨b,o+i*9+5,none⟩=some (.slice x.g.a x.g.l.length x.g.c)∧w'.cell? ⟨b,o+i*9+6,none⟩=some (.int .i64 x.dir)∧w'.cell? ⟨b,o+i*9+7,none⟩=some (.string x.tx)∧w'.cell? ⟨b,o+i*9+8,none⟩=some (.slice x.a x.rs.length x.c)∧w'.cell? ⟨b',o'+i*9,none⟩=some (.int .i64 y.g.kind)∧w'.cell? ⟨b',o'+i*9+1,none⟩=some (.int .i64 y.g.rn)∧w'.cell? ⟨b',o'+i*9+2,none⟩=some (.int .i64 y.g.rd)∧w'.cell? ⟨b',o'+i*9+3,none⟩=some (.string y.g.name)∧w'.cell? ⟨b',o'+i*9+4,none⟩=some (.int .i64 y.g.pw)∧w'.cell? ⟨b',o'+i*9+5,none⟩=some (.slice y.g.a y.g.l.length y.g.c)∧w'.cell? ⟨b',o'+i*9+6,none⟩=some (.int .i64 y.dir)∧w'.cell? ⟨b',o'+i*9+7,none⟩=some (.string y.tx)∧w'.cell? ⟨b',o'+i*9+8,none⟩=some (.slice y.a y.rs.length y.c)) (first | with_reducible assumption | with_reducible exact keepc20 (by assumption) hSd | fail) (first
  | (go_at_call 138;go_fit HX2.out;rintro r w2 ⟨rfl,k2⟩)
  | fail)
 cases hq:xeqB x y with
 | false =>
  have hm3:=Hm2.out
  rw[show xeqB (x,y).1 (x,y).2=false from hq,Bool.false_and] at hm3
  have Hm3:=hid hm3
  clear hq hm3
  go_wp2
  go_ret
  exact⟨ret_bool (by rw[HDQ.out,← Hm3.out,Bool.and_false]),K1.out.trans (HSU.out.trans (Hkp.out.trans (KD.out.trans k2)))⟩
 | true =>
 have hm3:=Hm2.out
 rw[show xeqB (x,y).1 (x,y).2=true from hq,Bool.true_and] at hm3
 have Hm3:=hid hm3
 clear hq hm3
 go_wp2
 go_roundw
 case measure=>simp[intOf];omega
 case rel=>exact⟨i+1,by omega,by go_num,Hm3.out,Hkp.out.trans (KD.out.trans k2)⟩
end
section
open Go.RowKit Go.Sort
theorem deq_eq {x y:De} (h:deqB x y=true):x=y:=by
 unfold deqB at h
 simp only[Bool.and_eq_true,decide_eq_true_eq] at h
 cases x;cases y
 simp_all
theorem deq_ne {x y:De} (h:deqB x y=false):x.name≠y.name∨(x.name=y.name∧(x.ln≠y.ln∨(x.ln=y.ln∧(x.ld≠y.ld∨(x.ld=y.ld∧(x.hn≠y.hn∨(x.hn=y.hn∧x.hd≠y.hd))))))):=by
 unfold deqB at h
 by_cases h1:x.name=y.name
 rotate_left
 ·exact .inl h1
 refine .inr ⟨h1,?_⟩
 by_cases h2:x.ln=y.ln
 ·refine .inr ⟨h2,?_⟩
  by_cases h3:x.ld=y.ld
  ·refine .inr ⟨h3,?_⟩
   by_cases h4:x.hn=y.hn
   ·refine .inr ⟨h4,fun h5=>?_⟩
    rw[decide_eq_true h1,decide_eq_true h2,decide_eq_true h3,decide_eq_true h4,decide_eq_true h5] at h
    cases h
   exact .inl h4
  exact .inl h3
 exact .inl h2
-- GEN
set_option maxHeartbeats 4000000 in
theorem sdecls_any (a a':Option Addr) (zs ys:List De) (c d B:Nat) (w:World) (hm:zs.length≤1100000) (_hm2:ys.length≤1100000) (h:RowV De.cells 5 w B a zs) (h':RowV De.cells 5 w B a' ys) :
  Calls Tryz.prog 79 #[.slice a zs.length c,.slice a' ys.length d] w fun e w'=>e=.returned (.bool (allW deqB zs ys))∧Kp w w':=by
 obtain⟨b0,hb0⟩:∃ b0,allW deqB zs ys=b0:=⟨_,rfl⟩
 rw[hb0]
 have HB:=hid hb0
 have HR:=hid h
 have HR':=hid h'
 clear h h' hb0
 by_cases hlen:zs.length=ys.length
 rotate_left
 ·have hle:((zs.length:Int)==(ys.length:Int))=false:=beq_eq_false_iff_ne.2 (by omega)
  have Ha:=hid (allW_len (p:=deqB) hlen)
  clear hlen
  go_enter Tryz.func79,Tryz.ntmps79
  go_wp2
  go_loopw [5] (fun x wr=>x=.int .i64 0∧wr=w) (fun _ _=>0)
  case atStart=>exact⟨rfl,rfl⟩
  case round =>
  obtain⟨rfl,rfl⟩:=hrel
  by_cases h0:0<zs.length
  ·go_wp2
   go_ret
   exact⟨ret_bool (by rw[← HB.out,Ha.out]),.refl _⟩
  go_wp2
  go_ret
  exact⟨ret_bool (by rw[← HB.out,Ha.out]),.refl _⟩
 go_enter Tryz.func79,Tryz.ntmps79
 have Hlen:=hid hlen
 have hle:((zs.length:Int)==(ys.length:Int))=true:=by rw[hlen];exact beq_self_eq_true _
 generalize hn:zs.length=n at *
 generalize hn':ys.length=n' at *
 have Hn:=hid hn
 have Hn':=hid hn'
 clear hlen hn hn'
 go_wp2
 go_loopw [5] (fun x wr=>∃ k:Nat,k≤n∧x=.int .i64 k∧(∀ (i:Nat) (x y:De),zs[i]? = some x→ys[i]? = some y→i<k→deqB x y=true)∧Kp w wr) (fun x _=>n-(intOf x).toNat)
 case atStart=>exact⟨0,by omega,rfl,fun i x y _ _ h1=>by omega,.refl _⟩
 case round =>
 obtain⟨k,hk,rfl,hz,hkp⟩:=hrel
 have Hz:=hid hz;clear hz
 by_cases hlt:k<n
 rotate_left
 ·have Ha:=hid (allW_true.2 ⟨Hn.out.trans (Hlen.out.trans Hn'.out.symm),fun i x y hx hy=>Hz.out i x y hx hy (by have:=(List.getElem?_eq_some_iff.1 hx).1;have:=Hn.out;omega)⟩)
  have Hkp:=hid hkp
  clear hkp
  go_wp2
  go_ret
  exact⟨ret_bool (by rw[← HB.out,Ha.out]),Hkp.out⟩
 have hlt2:k<n':=by have:=Hlen.out;omega
 obtain⟨x,hx⟩:∃ x,zs[k]? = some x:=⟨_,List.getElem?_eq_getElem (by rw[Hn.out];exact hlt)⟩
 obtain⟨y,hy⟩:∃ y,ys[k]? = some y:=⟨_,List.getElem?_eq_getElem (by rw[Hn'.out];exact hlt2)⟩
 obtain⟨b,o,rfl,_,h0⟩:=(HR.out.kp hkp) k x hx
 obtain⟨b2,o2,rfl,_,j0⟩:=(HR'.out.kp hkp) k y hy
 have Hg:=hid hx
 have Hg2:=hid hy
 have Hkp:=hid hkp
 have q0:wr.cell? ⟨b,o+k*5,none⟩=some (.string x.name):=h0 0 _ rfl;have q1:wr.cell? ⟨b,o+k*5+1,none⟩=some (.int .i64 x.ln):=h0 1 _ rfl;have q2:wr.cell? ⟨b,o+k*5+2,none⟩=some (.int .i64 x.ld):=h0 2 _ rfl;have q3:wr.cell? ⟨b,o+k*5+3,none⟩=some (.int .i64 x.hn):=h0 3 _ rfl;have q4:wr.cell? ⟨b,o+k*5+4,none⟩=some (.int .i64 x.hd):=h0 4 _ rfl
 have s0:wr.cell? ⟨b2,o2+k*5,none⟩=some (.string y.name):=j0 0 _ rfl;have s1:wr.cell? ⟨b2,o2+k*5+1,none⟩=some (.int .i64 y.ln):=j0 1 _ rfl;have s2:wr.cell? ⟨b2,o2+k*5+2,none⟩=some (.int .i64 y.ld):=j0 2 _ rfl;have s3:wr.cell? ⟨b2,o2+k*5+3,none⟩=some (.int .i64 y.hn):=j0 3 _ rfl;have s4:wr.cell? ⟨b2,o2+k*5+4,none⟩=some (.int .i64 y.hd):=j0 4 _ rfl
 clear h0 j0 hx hy hkp
 cases hq:deqB x y with
 | true =>
  have hxy:=deq_eq hq
  subst hxy
  have Hq:=hid hq
  clear hq
  go_upto_region 4 with fail
  go_quiet (fail)
  go_wp2
  go_roundw
  case measure=>simp[intOf];omega
  case rel =>
  refine⟨k+1,by omega,by go_num,fun i x' y' hx hy hi=>?_,Hkp.out.trans ((Kp.refl wr).drewN _)⟩
  by_cases h:i=k
  ·subst h;rw[Hg.out] at hx;rw[Hg2.out] at hy;cases hx;cases hy;exact Hq.out
  exact Hz.out i x' y' hx hy (by omega)
 | false =>
 have Ha:=hid (allW_false Hg.out Hg2.out hq)
 have hne:=deq_ne hq
 clear hq
 rcases hne with e1 | ⟨e1,e2 | ⟨e2,e3 | ⟨e3,e4 | ⟨e4,e5⟩⟩⟩⟩
 ·have f:=strNe e1
  clear e1
  go_upto_region 4 with fail
  go_quiet (fail)
  go_wp2
  go_ret
  exact⟨ret_bool (by rw[← HB.out,Ha.out]),Hkp.out.trans ((Kp.refl wr).drewN _)⟩
 ·rw[← e1] at s0;have f:(x.ln==y.ln)=false:=beq_eq_false_iff_ne.2 e2
  clear e1 e2
  go_upto_region 4 with fail
  go_quiet (fail)
  go_wp2
  go_ret
  exact⟨ret_bool (by rw[← HB.out,Ha.out]),Hkp.out.trans ((Kp.refl wr).drewN _)⟩
 ·rw[← e1] at s0;rw[← e2] at s1;have f:(x.ld==y.ld)=false:=beq_eq_false_iff_ne.2 e3
  clear e1 e2 e3
  go_upto_region 4 with fail
  go_quiet (fail)
  go_wp2
  go_ret
  exact⟨ret_bool (by rw[← HB.out,Ha.out]),Hkp.out.trans ((Kp.refl wr).drewN _)⟩
 ·rw[← e1] at s0;rw[← e2] at s1;rw[← e3] at s2;have f:(x.hn==y.hn)=false:=beq_eq_false_iff_ne.2 e4
  clear e1 e2 e3 e4
  go_upto_region 4 with fail
  go_quiet (fail)
  go_wp2
  go_ret
  exact⟨ret_bool (by rw[← HB.out,Ha.out]),Hkp.out.trans ((Kp.refl wr).drewN _)⟩
 rw[← e1] at s0;rw[← e2] at s1;rw[← e3] at s2;rw[← e4] at s3;have f:(x.hd==y.hd)=false:=beq_eq_false_iff_ne.2 e5
 clear e1 e2 e3 e4 e5
 go_upto_region 4 with fail
 go_quiet (fail)
 go_wp2
 go_ret
 exact⟨ret_bool (by rw[← HB.out,Ha.out]),Hkp.out.trans ((Kp.refl wr).drewN _)⟩
end
section
open Go.RowKit Go.Sort
set_option maxHeartbeats 8000000 in
set_option maxRecDepth 100000 in
theorem rsame_any (a c:Pr) (w:World) (B:Nat) (ha:a.at w B) (hc:c.at w B):Calls Tryz.prog 24 #[.agg #[.slice a.sa a.ss.length a.sc,.slice a.pa a.ps.length a.pc,.slice a.ma a.ms.length a.mc,.int .i64 a.tn,.int .i64 a.td],.agg #[.slice c.sa c.ss.length c.sc,.slice c.pa c.ps.length c.pc,.slice c.ma c.ms.length c.mc,.int .i64 c.tn,.int .i64 c.td]] w fun e w'=>e=.returned (.bool (peqB a c))∧Kp w w':=by
 have hd:peqB a c=(decide (a.tn=c.tn∧a.td=c.td)&&(allW deqB a.ss c.ss&&(allW deqB a.ps c.ps&&allW meqB a.ms c.ms))):=rfl
 generalize peqB a c=b0 at *
 have k1:Kp w ((w.alloc (.cells #[.slice a.sa a.ss.length a.sc,.slice a.pa a.ps.length a.pc,.slice a.ma a.ms.length a.mc,.int .i64 a.tn,.int .i64 a.td] 27)).alloc (.cells #[.slice c.sa c.ss.length c.sc,.slice c.pa c.ps.length c.pc,.slice c.ma c.ms.length c.mc,.int .i64 c.tn,.int .i64 c.td] 27)):=((Kp.refl w).alloc _).alloc _
 have h0:CellsV ((w.alloc (.cells #[.slice a.sa a.ss.length a.sc,.slice a.pa a.ps.length a.pc,.slice a.ma a.ms.length a.mc,.int .i64 a.tn,.int .i64 a.td] 27)).alloc (.cells #[.slice c.sa c.ss.length c.sc,.slice c.pa c.ps.length c.pc,.slice c.ma c.ms.length c.mc,.int .i64 c.tn,.int .i64 c.td] 27)) w.heap.size 0 a.cells:=(CellsV.new w a.cells _ _ rfl).kp ((Kp.refl _).alloc _)
 have h1:CellsV ((w.alloc (.cells #[.slice a.sa a.ss.length a.sc,.slice a.pa a.ps.length a.pc,.slice a.ma a.ms.length a.mc,.int .i64 a.tn,.int .i64 a.td] 27)).alloc (.cells #[.slice c.sa c.ss.length c.sc,.slice c.pa c.ps.length c.pc,.slice c.ma c.ms.length c.mc,.int .i64 c.tn,.int .i64 c.td] 27)) (w.heap.size+1) 0 c.cells:=CellsV.new _ c.cells _ _ (by simp)
 go_enter Tryz.func24,Tryz.ntmps24
 go_upto_region 1 with fail
 generalize World.alloc _ _=W at *
 obtain⟨hl1,hl2,hl3⟩:=ha.1
 obtain⟨hm1,hm2,hm3⟩:=hc.1
 have HR:=hid (ha.2.2.2.1.kp k1)
 have HR':=hid (hc.2.2.2.1.kp k1)
 have HQA:=hid fun q hq=>Mo.at_kp (ha.2.2.2.2 q hq) k1
 have HQB:=hid fun q hq=>Mo.at_kp (hc.2.2.2.2 q hq) k1
 have HS:=hid fun W' (k:Kp W W')=>sdecls_any a.sa c.sa a.ss c.ss a.sc c.sc B W' (by omega) (by omega) (ha.2.1.1.kp (k1.trans k)) (hc.2.1.1.kp (k1.trans k))
 have HP:=hid fun W' (k:Kp W W')=>sdecls_any a.pa c.pa a.ps c.ps a.pc c.pc B W' (by omega) (by omega) (ha.2.2.1.1.kp (k1.trans k)) (hc.2.2.1.1.kp (k1.trans k))
 have K1:=hid k1
 have H0:=hid h0
 have H1:=hid h1
 clear h0 h1 k1 ha hc
 -- GEN2
 by_cases c3:a.ms.length=c.ms.length
 rotate_left
 ·have e3:((a.ms.length:Int)==(c.ms.length:Int))=false:=beq_eq_false_iff_ne.2 (by omega)
  rw[allW_len c3] at hd
  have Hd:=hid hd
  have h0:=H0.out
  have h1:=H1.out
  have q0:W.cell? ⟨w.heap.size,0,none⟩=some (.slice a.sa a.ss.length a.sc):=h0 0 _ rfl;have q1:W.cell? ⟨w.heap.size,1,none⟩=some (.slice a.pa a.ps.length a.pc):=h0 1 _ rfl;have q2:W.cell? ⟨w.heap.size,2,none⟩=some (.slice a.ma a.ms.length a.mc):=h0 2 _ rfl;have q3:W.cell? ⟨w.heap.size,3,none⟩=some (.int .i64 a.tn):=h0 3 _ rfl;have q4:W.cell? ⟨w.heap.size,4,none⟩=some (.int .i64 a.td):=h0 4 _ rfl
  have p0:W.cell? ⟨(w.heap.size+1),0,none⟩=some (.slice c.sa c.ss.length c.sc):=h1 0 _ rfl;have p1:W.cell? ⟨(w.heap.size+1),1,none⟩=some (.slice c.pa c.ps.length c.pc):=h1 1 _ rfl;have p2:W.cell? ⟨(w.heap.size+1),2,none⟩=some (.slice c.ma c.ms.length c.mc):=h1 2 _ rfl;have p3:W.cell? ⟨(w.heap.size+1),3,none⟩=some (.int .i64 c.tn):=h1 3 _ rfl;have p4:W.cell? ⟨(w.heap.size+1),4,none⟩=some (.int .i64 c.td):=h1 4 _ rfl
  clear hd c3 h0 h1 HR HR' HQA HQB HS HP
  go_wp2
  go_loopw [5] (fun x wr=>x=.int .i64 0∧wr=W) (fun _ _=>0)
  case atStart=>exact⟨rfl,rfl⟩
  case round =>
  obtain⟨rfl,rfl⟩:=hrel
  by_cases h0:0<a.ms.length
  ·go_wp2
   go_ret
   exact⟨ret_bool (by rw[Hd.out];simp),K1.out⟩
  go_wp2
  go_ret
  exact⟨ret_bool (by rw[Hd.out];simp),K1.out⟩
 have e3:((a.ms.length:Int)==(c.ms.length:Int))=true:=by rw[c3];exact beq_self_eq_true _
 obtain⟨bq,hbq⟩:∃ bq,(a.ms.zip c.ms).all (fun z=>meqB z.1 z.2)=bq:=⟨_,rfl⟩
 have hd2:b0=(bq&&(decide (a.tn=c.tn∧a.td=c.td)&&(allW deqB a.ss c.ss&&allW deqB a.ps c.ps))):=by
  rw[hd,← hbq,show allW meqB a.ms c.ms=(a.ms.zip c.ms).all (fun z=>meqB z.1 z.2) by unfold allW;rw[decide_eq_true c3,Bool.true_and]]
  cases (a.ms.zip c.ms).all (fun z=>meqB z.1 z.2) <;> simp
 have HDQ:=hid hd2
 have HZQ:=hid hbq
 have C6:=hid c3
 have hlenm:=hl3
 generalize hn:a.ms.length=n at *
 generalize hn':c.ms.length=n' at *
 have Hn:=hid hn
 have Hn':=hid hn'
 have HST:=hid (Kp.refl W)
 clear hd hd2 hbq c3 hn hn'
 go_wp2
 go_loopw [5] (fun v wr=>∃ i:Nat,i≤n∧v=.int .i64 (i:Int)∧(((a.ms).drop i).zip ((c.ms).drop i)).all (fun z=>meqB z.1 z.2)=bq∧Kp W wr) (fun v _=>n-(intOf v).toNat)
 case atStart=>exact⟨0,by omega,rfl,HZQ.out,.refl _⟩
 case round =>
 obtain⟨i,hi,rfl,hm,hkp⟩:=hrel
 have Hm:=hid hm;clear hm
 have hb1:=H0.out.kp (HST.out.trans hkp)
 have hb2:=H1.out.kp (HST.out.trans hkp)
 have z5:wr.cell? ⟨w.heap.size,2,none⟩=some (.slice a.ma (a.ms).length a.mc):=hb1 2 _ rfl
 have y5:wr.cell? ⟨w.heap.size+1,2,none⟩=some (.slice c.ma (c.ms).length c.mc):=hb2 2 _ rfl
 rw[Hn.out] at z5
 rw[Hn'.out] at y5
 clear hb1 hb2
 by_cases hlt:i<n
 ·have hlt1:i<(a.ms).length:=by rw[Hn.out];exact hlt
  have hlt2:i<(c.ms).length:=by rw[Hn'.out,← C6.out];exact hlt
  have hlt3:i<n':=by rw[← C6.out];exact hlt
  obtain⟨x,hx⟩:∃ x,(a.ms)[i]? = some x:=⟨_,List.getElem?_eq_getElem hlt1⟩
  obtain⟨y,hy⟩:∃ y,(c.ms)[i]? = some y:=⟨_,List.getElem?_eq_getElem hlt2⟩
  have Hd:=hid (show (a.ms).drop i=x::(a.ms).drop (i+1) from (List.drop_eq_getElem_cons hlt1).trans (by rw[(List.getElem?_eq_some_iff.1 hx).2]))
  have Hd':=hid (show (c.ms).drop i=y::(c.ms).drop (i+1) from (List.drop_eq_getElem_cons hlt2).trans (by rw[(List.getElem?_eq_some_iff.1 hy).2]))
  have hxm:=List.mem_of_getElem? hx
  have hym:=List.mem_of_getElem? hy
  obtain⟨b,o,ha,_,h0⟩:=(HR.out.kp (HST.out.trans hkp)) i x hx
  obtain⟨b',o',ha',_,h1⟩:=(HR'.out.kp (HST.out.trans hkp)) i y hy
  have Hkp:=hid hkp
  rw[ha] at z5
  rw[ha'] at y5
  have kd:=(Kp.refl wr).drew
  have hSd:wr.drew.cell? ⟨w.heap.size,2,none⟩=some (.slice (some ⟨b,o,none⟩) n a.mc)∧wr.drew.cell? ⟨w.heap.size+1,2,none⟩=some (.slice (some ⟨b',o',none⟩) n' c.mc)∧wr.drew.cell? ⟨b,o+i*3,none⟩=some (.string x.name)∧wr.drew.cell? ⟨b,o+i*3+1,none⟩=some (.slice x.fa x.fs.length x.fc)∧wr.drew.cell? ⟨b,o+i*3+2,none⟩=some (.slice x.ea x.es.length x.ec)∧wr.drew.cell? ⟨b',o'+i*3,none⟩=some (.string y.name)∧wr.drew.cell? ⟨b',o'+i*3+1,none⟩=some (.slice y.fa y.fs.length y.fc)∧wr.drew.cell? ⟨b',o'+i*3+2,none⟩=some (.slice y.ea y.es.length y.ec):=keepc8 kd ⟨z5,y5,h0 0 _ rfl,h0 1 _ rfl,h0 2 _ rfl,h1 0 _ rfl,h1 1 _ rfl,h1 2 _ rfl⟩
  have hm2:=Hm.out
  rw[Hd.out,Hd'.out,List.zip_cons_cons,List.all_cons] at hm2
  have Hm2:=hid hm2
  have HX2:=hid (smode_any x y B _ (Mo.at_kp (HQA.out x hxm) ((HST.out.trans hkp).trans kd)) (Mo.at_kp (HQB.out y hym) ((HST.out.trans hkp).trans kd)))
  have KD:=hid kd
  clear hx hxm hkp hy hym hlt1 hlt2 hm2 kd h0 h1
  rw[ha,ha']
  go_upto_region 4 with fail
  clear z5
  go_region_held3 (fun w'=>w'.cell? ⟨w.heap.size,2,none⟩=some (.slice (some ⟨b,o,none⟩) n a.mc)∧w'.cell? ⟨w.heap.size+1,2,none⟩=some (.slice (some ⟨b',o',none⟩) n' c.mc)∧w'.cell? ⟨b,o+i*3,none⟩=some (.string x.name)∧w'.cell? ⟨b,o+i*3+1,none⟩=some (.slice x.fa x.fs.length x.fc)∧w'.cell? ⟨b,o+i*3+2,none⟩=some (.slice x.ea x.es.length x.ec)∧w'.cell? ⟨b',o'+i*3,none⟩=some (.string y.name)∧w'.cell? ⟨b',o'+i*3+1,none⟩=some (.slice y.fa y.fs.length y.fc)∧w'.cell? ⟨b',o'+i*3+2,none⟩=some (.slice y.ea y.es.length y.ec)) (first | with_reducible assumption | with_reducible exact keepc8 (by assumption) hSd | fail) (first
   | (go_at_call 78;go_fit HX2.out;rintro r w2 ⟨rfl,k2⟩)
   | fail)
  cases hq:meqB x y with
  | false =>
   have hm3:=Hm2.out
   rw[show meqB (x,y).1 (x,y).2=false from hq,Bool.false_and] at hm3
   have Hm3:=hid hm3
   clear hq hm3
   go_wp2
   go_ret
   exact⟨ret_bool (by rw[HDQ.out,← Hm3.out];simp),K1.out.trans (HST.out.trans (Hkp.out.trans (KD.out.trans k2)))⟩
  | true =>
  have hm3:=Hm2.out
  rw[show meqB (x,y).1 (x,y).2=true from hq,Bool.true_and] at hm3
  have Hm3:=hid hm3
  clear hq hm3
  go_wp2
  go_roundw
  case measure=>simp[intOf];omega
  case rel=>exact⟨i+1,by omega,by go_num,Hm3.out,Hkp.out.trans (KD.out.trans k2)⟩
 obtain rfl:i=n:=by omega
 have hf:=Hm.out
 rw[show (a.ms).drop i=[] from List.drop_eq_nil_of_le (by rw[Hn.out];omega),List.zip_nil_left] at hf
 have Hf:=hid hf
 clear hf y5
 have h0:=H0.out.kp hkp
 have h1:=H1.out.kp hkp
 have q0:wr.cell? ⟨w.heap.size,0,none⟩=some (.slice a.sa a.ss.length a.sc):=h0 0 _ rfl;have q1:wr.cell? ⟨w.heap.size,1,none⟩=some (.slice a.pa a.ps.length a.pc):=h0 1 _ rfl;have q2:wr.cell? ⟨w.heap.size,2,none⟩=some (.slice a.ma a.ms.length a.mc):=h0 2 _ rfl;have q3:wr.cell? ⟨w.heap.size,3,none⟩=some (.int .i64 a.tn):=h0 3 _ rfl;have q4:wr.cell? ⟨w.heap.size,4,none⟩=some (.int .i64 a.td):=h0 4 _ rfl
 have p0:wr.cell? ⟨(w.heap.size+1),0,none⟩=some (.slice c.sa c.ss.length c.sc):=h1 0 _ rfl;have p1:wr.cell? ⟨(w.heap.size+1),1,none⟩=some (.slice c.pa c.ps.length c.pc):=h1 1 _ rfl;have p2:wr.cell? ⟨(w.heap.size+1),2,none⟩=some (.slice c.ma c.ms.length c.mc):=h1 2 _ rfl;have p3:wr.cell? ⟨(w.heap.size+1),3,none⟩=some (.int .i64 c.tn):=h1 3 _ rfl;have p4:wr.cell? ⟨(w.heap.size+1),4,none⟩=some (.int .i64 c.td):=h1 4 _ rfl
 rw[Hn.out] at q2
 rw[Hn'.out] at p2
 have Hkp:=hid hkp
 have hd:=HDQ.out
 rw[← Hf.out] at hd
 have hd:b0=(decide (a.tn=c.tn∧a.td=c.td)&&(allW deqB a.ss c.ss&&allW deqB a.ps c.ps)):=by rw[hd];simp
 clear h0 h1 hkp z5 Hf
 cases g1:allW deqB a.ss c.ss with
 | false =>
  rw[g1] at hd HS
  have Hd:=hid hd
  clear hd g1
  go_wp2_with (first | (go_at_call 79;go_fit (HS.out _ Hkp.out);rintro r w5 ⟨rfl,k5⟩) | fail)
  go_ret
  exact⟨ret_bool (by rw[Hd.out];simp),K1.out.trans (Hkp.out.trans k5)⟩
 | true =>
 rw[g1] at hd HS
 cases g2:allW deqB a.ps c.ps with
 | false =>
  rw[g2] at hd HP
  have Hd:=hid hd
  clear hd g1 g2
  go_wp2_with (first | (go_at_call 79;go_fit (HS.out _ Hkp.out);rintro r w5 ⟨rfl,k5⟩;have h0:=H0.out.kp (Hkp.out.trans k5);have h1:=H1.out.kp (Hkp.out.trans k5);have s0:w5.cell? ⟨w.heap.size,0,none⟩=some (.slice a.sa a.ss.length a.sc):=h0 0 _ rfl;have s1:w5.cell? ⟨w.heap.size,1,none⟩=some (.slice a.pa a.ps.length a.pc):=h0 1 _ rfl;have s2:w5.cell? ⟨w.heap.size,2,none⟩=some (.slice a.ma a.ms.length a.mc):=h0 2 _ rfl;have s3:w5.cell? ⟨w.heap.size,3,none⟩=some (.int .i64 a.tn):=h0 3 _ rfl;have s4:w5.cell? ⟨w.heap.size,4,none⟩=some (.int .i64 a.td):=h0 4 _ rfl;have u0:w5.cell? ⟨(w.heap.size+1),0,none⟩=some (.slice c.sa c.ss.length c.sc):=h1 0 _ rfl;have u1:w5.cell? ⟨(w.heap.size+1),1,none⟩=some (.slice c.pa c.ps.length c.pc):=h1 1 _ rfl;have u2:w5.cell? ⟨(w.heap.size+1),2,none⟩=some (.slice c.ma c.ms.length c.mc):=h1 2 _ rfl;have u3:w5.cell? ⟨(w.heap.size+1),3,none⟩=some (.int .i64 c.tn):=h1 3 _ rfl;have u4:w5.cell? ⟨(w.heap.size+1),4,none⟩=some (.int .i64 c.td):=h1 4 _ rfl;rw[Hn.out] at s2;rw[Hn'.out] at u2;clear h0 h1) | (go_at_call 79;go_fit (HP.out _ (Hkp.out.trans k5));rintro r w6 ⟨rfl,k6⟩) | fail)
  go_ret
  exact⟨ret_bool (by rw[Hd.out];simp),K1.out.trans (Hkp.out.trans (k5.trans k6))⟩
 | true =>
 rw[g2] at hd HP
 clear g1 g2
 by_cases c1:a.tn=c.tn
 rotate_left
 ·rw[decide_eq_false (fun e=>c1 e.1)] at hd
  have e1:(a.tn==c.tn)=false:=beq_eq_false_iff_ne.2 c1
  have Hd:=hid hd
  clear hd c1
  go_wp2_with (first | (go_at_call 79;go_fit (HS.out _ Hkp.out);rintro r w5 ⟨rfl,k5⟩;have h0:=H0.out.kp (Hkp.out.trans k5);have h1:=H1.out.kp (Hkp.out.trans k5);have s0:w5.cell? ⟨w.heap.size,0,none⟩=some (.slice a.sa a.ss.length a.sc):=h0 0 _ rfl;have s1:w5.cell? ⟨w.heap.size,1,none⟩=some (.slice a.pa a.ps.length a.pc):=h0 1 _ rfl;have s2:w5.cell? ⟨w.heap.size,2,none⟩=some (.slice a.ma a.ms.length a.mc):=h0 2 _ rfl;have s3:w5.cell? ⟨w.heap.size,3,none⟩=some (.int .i64 a.tn):=h0 3 _ rfl;have s4:w5.cell? ⟨w.heap.size,4,none⟩=some (.int .i64 a.td):=h0 4 _ rfl;have u0:w5.cell? ⟨(w.heap.size+1),0,none⟩=some (.slice c.sa c.ss.length c.sc):=h1 0 _ rfl;have u1:w5.cell? ⟨(w.heap.size+1),1,none⟩=some (.slice c.pa c.ps.length c.pc):=h1 1 _ rfl;have u2:w5.cell? ⟨(w.heap.size+1),2,none⟩=some (.slice c.ma c.ms.length c.mc):=h1 2 _ rfl;have u3:w5.cell? ⟨(w.heap.size+1),3,none⟩=some (.int .i64 c.tn):=h1 3 _ rfl;have u4:w5.cell? ⟨(w.heap.size+1),4,none⟩=some (.int .i64 c.td):=h1 4 _ rfl;rw[Hn.out] at s2;rw[Hn'.out] at u2;clear h0 h1) | (go_at_call 79;go_fit (HP.out _ (Hkp.out.trans k5));rintro r w6 ⟨rfl,k6⟩;have h0:=H0.out.kp (Hkp.out.trans (k5.trans k6));have h1:=H1.out.kp (Hkp.out.trans (k5.trans k6));have x0:w6.cell? ⟨w.heap.size,0,none⟩=some (.slice a.sa a.ss.length a.sc):=h0 0 _ rfl;have x1:w6.cell? ⟨w.heap.size,1,none⟩=some (.slice a.pa a.ps.length a.pc):=h0 1 _ rfl;have x2:w6.cell? ⟨w.heap.size,2,none⟩=some (.slice a.ma a.ms.length a.mc):=h0 2 _ rfl;have x3:w6.cell? ⟨w.heap.size,3,none⟩=some (.int .i64 a.tn):=h0 3 _ rfl;have x4:w6.cell? ⟨w.heap.size,4,none⟩=some (.int .i64 a.td):=h0 4 _ rfl;have y0:w6.cell? ⟨(w.heap.size+1),0,none⟩=some (.slice c.sa c.ss.length c.sc):=h1 0 _ rfl;have y1:w6.cell? ⟨(w.heap.size+1),1,none⟩=some (.slice c.pa c.ps.length c.pc):=h1 1 _ rfl;have y2:w6.cell? ⟨(w.heap.size+1),2,none⟩=some (.slice c.ma c.ms.length c.mc):=h1 2 _ rfl;have y3:w6.cell? ⟨(w.heap.size+1),3,none⟩=some (.int .i64 c.tn):=h1 3 _ rfl;have y4:w6.cell? ⟨(w.heap.size+1),4,none⟩=some (.int .i64 c.td):=h1 4 _ rfl;rw[Hn.out] at x2;rw[Hn'.out] at y2;clear h0 h1) | fail)
  go_ret
  exact⟨ret_bool (by rw[Hd.out];rfl),K1.out.trans (Hkp.out.trans (k5.trans k6))⟩
 by_cases c2:a.td=c.td
 rotate_left
 ·rw[decide_eq_false (fun e=>c2 e.2)] at hd
  have e1:(a.tn==c.tn)=true:=by rw[c1];exact beq_self_eq_true _
  have e2:(a.td==c.td)=false:=beq_eq_false_iff_ne.2 c2
  have Hd:=hid hd
  clear hd c1 c2
  go_wp2_with (first | (go_at_call 79;go_fit (HS.out _ Hkp.out);rintro r w5 ⟨rfl,k5⟩;have h0:=H0.out.kp (Hkp.out.trans k5);have h1:=H1.out.kp (Hkp.out.trans k5);have s0:w5.cell? ⟨w.heap.size,0,none⟩=some (.slice a.sa a.ss.length a.sc):=h0 0 _ rfl;have s1:w5.cell? ⟨w.heap.size,1,none⟩=some (.slice a.pa a.ps.length a.pc):=h0 1 _ rfl;have s2:w5.cell? ⟨w.heap.size,2,none⟩=some (.slice a.ma a.ms.length a.mc):=h0 2 _ rfl;have s3:w5.cell? ⟨w.heap.size,3,none⟩=some (.int .i64 a.tn):=h0 3 _ rfl;have s4:w5.cell? ⟨w.heap.size,4,none⟩=some (.int .i64 a.td):=h0 4 _ rfl;have u0:w5.cell? ⟨(w.heap.size+1),0,none⟩=some (.slice c.sa c.ss.length c.sc):=h1 0 _ rfl;have u1:w5.cell? ⟨(w.heap.size+1),1,none⟩=some (.slice c.pa c.ps.length c.pc):=h1 1 _ rfl;have u2:w5.cell? ⟨(w.heap.size+1),2,none⟩=some (.slice c.ma c.ms.length c.mc):=h1 2 _ rfl;have u3:w5.cell? ⟨(w.heap.size+1),3,none⟩=some (.int .i64 c.tn):=h1 3 _ rfl;have u4:w5.cell? ⟨(w.heap.size+1),4,none⟩=some (.int .i64 c.td):=h1 4 _ rfl;rw[Hn.out] at s2;rw[Hn'.out] at u2;clear h0 h1) | (go_at_call 79;go_fit (HP.out _ (Hkp.out.trans k5));rintro r w6 ⟨rfl,k6⟩;have h0:=H0.out.kp (Hkp.out.trans (k5.trans k6));have h1:=H1.out.kp (Hkp.out.trans (k5.trans k6));have x0:w6.cell? ⟨w.heap.size,0,none⟩=some (.slice a.sa a.ss.length a.sc):=h0 0 _ rfl;have x1:w6.cell? ⟨w.heap.size,1,none⟩=some (.slice a.pa a.ps.length a.pc):=h0 1 _ rfl;have x2:w6.cell? ⟨w.heap.size,2,none⟩=some (.slice a.ma a.ms.length a.mc):=h0 2 _ rfl;have x3:w6.cell? ⟨w.heap.size,3,none⟩=some (.int .i64 a.tn):=h0 3 _ rfl;have x4:w6.cell? ⟨w.heap.size,4,none⟩=some (.int .i64 a.td):=h0 4 _ rfl;have y0:w6.cell? ⟨(w.heap.size+1),0,none⟩=some (.slice c.sa c.ss.length c.sc):=h1 0 _ rfl;have y1:w6.cell? ⟨(w.heap.size+1),1,none⟩=some (.slice c.pa c.ps.length c.pc):=h1 1 _ rfl;have y2:w6.cell? ⟨(w.heap.size+1),2,none⟩=some (.slice c.ma c.ms.length c.mc):=h1 2 _ rfl;have y3:w6.cell? ⟨(w.heap.size+1),3,none⟩=some (.int .i64 c.tn):=h1 3 _ rfl;have y4:w6.cell? ⟨(w.heap.size+1),4,none⟩=some (.int .i64 c.td):=h1 4 _ rfl;rw[Hn.out] at x2;rw[Hn'.out] at y2;clear h0 h1) | fail)
  go_ret
  exact⟨ret_bool (by rw[Hd.out];rfl),K1.out.trans (Hkp.out.trans (k5.trans k6))⟩
 rw[decide_eq_true ⟨c1,c2⟩] at hd
 have e1:(a.tn==c.tn)=true:=by rw[c1];exact beq_self_eq_true _
 have e2:(a.td==c.td)=true:=by rw[c2];exact beq_self_eq_true _
 have Hd:=hid hd
 clear hd c1 c2
 go_wp2_with (first | (go_at_call 79;go_fit (HS.out _ Hkp.out);rintro r w5 ⟨rfl,k5⟩;have h0:=H0.out.kp (Hkp.out.trans k5);have h1:=H1.out.kp (Hkp.out.trans k5);have s0:w5.cell? ⟨w.heap.size,0,none⟩=some (.slice a.sa a.ss.length a.sc):=h0 0 _ rfl;have s1:w5.cell? ⟨w.heap.size,1,none⟩=some (.slice a.pa a.ps.length a.pc):=h0 1 _ rfl;have s2:w5.cell? ⟨w.heap.size,2,none⟩=some (.slice a.ma a.ms.length a.mc):=h0 2 _ rfl;have s3:w5.cell? ⟨w.heap.size,3,none⟩=some (.int .i64 a.tn):=h0 3 _ rfl;have s4:w5.cell? ⟨w.heap.size,4,none⟩=some (.int .i64 a.td):=h0 4 _ rfl;have u0:w5.cell? ⟨(w.heap.size+1),0,none⟩=some (.slice c.sa c.ss.length c.sc):=h1 0 _ rfl;have u1:w5.cell? ⟨(w.heap.size+1),1,none⟩=some (.slice c.pa c.ps.length c.pc):=h1 1 _ rfl;have u2:w5.cell? ⟨(w.heap.size+1),2,none⟩=some (.slice c.ma c.ms.length c.mc):=h1 2 _ rfl;have u3:w5.cell? ⟨(w.heap.size+1),3,none⟩=some (.int .i64 c.tn):=h1 3 _ rfl;have u4:w5.cell? ⟨(w.heap.size+1),4,none⟩=some (.int .i64 c.td):=h1 4 _ rfl;rw[Hn.out] at s2;rw[Hn'.out] at u2;clear h0 h1) | (go_at_call 79;go_fit (HP.out _ (Hkp.out.trans k5));rintro r w6 ⟨rfl,k6⟩;have h0:=H0.out.kp (Hkp.out.trans (k5.trans k6));have h1:=H1.out.kp (Hkp.out.trans (k5.trans k6));have x0:w6.cell? ⟨w.heap.size,0,none⟩=some (.slice a.sa a.ss.length a.sc):=h0 0 _ rfl;have x1:w6.cell? ⟨w.heap.size,1,none⟩=some (.slice a.pa a.ps.length a.pc):=h0 1 _ rfl;have x2:w6.cell? ⟨w.heap.size,2,none⟩=some (.slice a.ma a.ms.length a.mc):=h0 2 _ rfl;have x3:w6.cell? ⟨w.heap.size,3,none⟩=some (.int .i64 a.tn):=h0 3 _ rfl;have x4:w6.cell? ⟨w.heap.size,4,none⟩=some (.int .i64 a.td):=h0 4 _ rfl;have y0:w6.cell? ⟨(w.heap.size+1),0,none⟩=some (.slice c.sa c.ss.length c.sc):=h1 0 _ rfl;have y1:w6.cell? ⟨(w.heap.size+1),1,none⟩=some (.slice c.pa c.ps.length c.pc):=h1 1 _ rfl;have y2:w6.cell? ⟨(w.heap.size+1),2,none⟩=some (.slice c.ma c.ms.length c.mc):=h1 2 _ rfl;have y3:w6.cell? ⟨(w.heap.size+1),3,none⟩=some (.int .i64 c.tn):=h1 3 _ rfl;have y4:w6.cell? ⟨(w.heap.size+1),4,none⟩=some (.int .i64 c.td):=h1 4 _ rfl;rw[Hn.out] at x2;rw[Hn'.out] at y2;clear h0 h1) | fail)
 go_ret
 exact⟨ret_bool (by rw[Hd.out];rfl),K1.out.trans (Hkp.out.trans (k5.trans k6))⟩
end
end Go.Proofs.YteidgoldnllabaaGreatDoor
