/-
  Walks: tree.decl, mode, Problem.
-/
import Derived.Test.YteidgoldnllabaaGreatDoorTEvdN
set_option maxHeartbeats 4000000
set_option maxRecDepth 20000
namespace Go.Proofs.YteidgoldnllabaaGreatDoor
open Go.RowKit Go.Sort
theorem tdecl_any (d:De) (w:World) (hs:d.name.size≤maxLen):Calls Tryz.prog 125 #[.agg #[.string d.name,.int .i64 d.ln,.int .i64 d.ld,.int .i64 d.hn,.int .i64 d.hd]] w fun e w'=>e=.returned (.bool (declB d))∧Kp w w':=by
 have hd:declB d=(nameB d.name&&(ratB d.ln d.ld&&ratB d.hn d.hd)):=rfl
 generalize declB d=b0 at *
 have k1:Kp w (w.alloc (.cells #[.string d.name,.int .i64 d.ln,.int .i64 d.ld,.int .i64 d.hn,.int .i64 d.hd] 68)):=(Kp.refl w).alloc _
 have h0:CellsV (w.alloc (.cells #[.string d.name,.int .i64 d.ln,.int .i64 d.ld,.int .i64 d.hn,.int .i64 d.hd] 68)) w.heap.size 0 d.cells:=CellsV.new w d.cells _ _ rfl
 go_enter Tryz.func125,Tryz.ntmps125
 go_upto_region 1 with fail
 generalize w.alloc _=W at *
 have HN:=Lib.hid (lname_any d.name W hs)
 have HL:=Lib.hid fun W'=>rvalid_any d.ln d.ld W'
 have HH:=Lib.hid fun W'=>rvalid_any d.hn d.hd W'
 have K1:=Lib.hid k1
 have H0:=Lib.hid h0
 have q0:=h0 0 _ rfl;have q1:=h0 1 _ rfl;have q2:=h0 2 _ rfl;have q3:=h0 3 _ rfl;have q4:=h0 4 _ rfl
 clear h0 k1
 cases h1:nameB d.name with
 | false =>
  rw[h1] at hd HN
  have Hd:=Lib.hid hd
  clear hd h1
  go_wp2_with (first | (go_at_call 104;go_fit HN.out;rintro r w1 ⟨rfl,rfl⟩) | fail)
  go_ret
  exact⟨ret_bool (by rw[Hd.out];rfl),K1.out⟩
 | true =>
 rw[h1] at hd HN
 cases h2:ratB d.ln d.ld with
 | true =>
  rw[h2] at hd HL
  have Hd:=Lib.hid hd
  clear hd h1 h2
  go_wp2_with (first | (go_at_call 104;go_fit HN.out;rintro r w1 ⟨rfl,rfl⟩) | (go_at_call 119;go_fit (HL.out _);rintro r w2 ⟨rfl,k2⟩;have h2:=H0.out.kp k2;have p0:=h2 0 _ rfl;have p1:=h2 1 _ rfl;have p2:=h2 2 _ rfl;have p3:=h2 3 _ rfl;have p4:=h2 4 _ rfl;clear h2) | (go_at_call 119;go_fit (HH.out _);rintro r w3 ⟨rfl,k3⟩) | fail)
  go_ret
  exact⟨ret_bool (by rw[Hd.out];rfl),K1.out.trans (k2.trans k3)⟩
 | false =>
 rw[h2] at hd HL
 have Hd:=Lib.hid hd
 clear hd h1 h2
 go_wp2_with (first | (go_at_call 104;go_fit HN.out;rintro r w1 ⟨rfl,rfl⟩) | (go_at_call 119;go_fit (HL.out _);rintro r w2 ⟨rfl,k2⟩) | fail)
 go_ret
 exact⟨ret_bool (by rw[Hd.out];rfl),K1.out.trans k2⟩
theorem teqn_any (q:Qe) (w:World) (B:Nat) (hat:q.at w B) (hB:B≤w.heap.size):Calls Tryz.prog 179 #[.agg #[.string q.name,.int .i64 q.e.kind,.int .i64 q.e.rn,.int .i64 q.e.rd,.string q.e.name,.int .i64 q.e.pw,.slice q.e.a q.e.l.length q.e.c]] w fun e w'=>e=.returned (.bool (eqnB q))∧Kp w w':=by
 have hd:eqnB q=(nameB q.name&&q.e.ok):=rfl
 generalize eqnB q=b0 at *
 have k1:Kp w (w.alloc (.cells #[.string q.name,.int .i64 q.e.kind,.int .i64 q.e.rn,.int .i64 q.e.rd,.string q.e.name,.int .i64 q.e.pw,.slice q.e.a q.e.l.length q.e.c] 73)):=(Kp.refl w).alloc _
 have h0:CellsV (w.alloc (.cells #[.string q.name,.int .i64 q.e.kind,.int .i64 q.e.rn,.int .i64 q.e.rd,.string q.e.name,.int .i64 q.e.pw,.slice q.e.a q.e.l.length q.e.c] 73)) w.heap.size 0 q.cells:=CellsV.new w q.cells _ _ rfl
 go_enter Tryz.func179,Tryz.ntmps179
 go_upto_region 1 with fail
 generalize w.alloc _=W at *
 have HN:=Lib.hid (lname_any q.name W hat.1)
 have HV:=Lib.hid (tvalid_any q.e B W (Ex.at_kp hat.2 k1) (Nat.le_trans hB k1.size))
 have K1:=Lib.hid k1
 have q0:=h0 0 _ rfl;have q1:=h0 1 _ rfl;have q2:=h0 2 _ rfl;have q3:=h0 3 _ rfl;have q4:=h0 4 _ rfl;have q5:=h0 5 _ rfl;have q6:=h0 6 _ rfl
 clear h0 k1 hat
 cases h1:nameB q.name with
 | true =>
  rw[h1] at hd HN
  have Hd:=Lib.hid hd
  clear hd h1
  go_wp2_with (first | (go_at_call 104;go_fit HN.out;rintro r w1 ⟨rfl,rfl⟩) | (go_at_call 93;go_fit HV.out;rintro r w2 ⟨rfl,k2⟩) | fail)
  go_ret
  exact⟨ret_bool (by rw[Hd.out];rfl),K1.out.trans k2⟩
 | false =>
 rw[h1] at hd HN
 have Hd:=Lib.hid hd
 clear hd h1
 go_wp2_with (first | (go_at_call 104;go_fit HN.out;rintro r w1 ⟨rfl,rfl⟩) | fail)
 go_ret
 exact⟨ret_bool (by rw[Hd.out];rfl),K1.out⟩
theorem treset_any (q:Qe) (w:World) (B:Nat) (hat:q.at w B) (hB:B≤w.heap.size):Calls Tryz.prog 183 #[.agg #[.string q.name,.int .i64 q.e.kind,.int .i64 q.e.rn,.int .i64 q.e.rd,.string q.e.name,.int .i64 q.e.pw,.slice q.e.a q.e.l.length q.e.c]] w fun e w'=>e=.returned (.bool (eqnB q))∧Kp w w':=by
 have hd:eqnB q=(nameB q.name&&q.e.ok):=rfl
 generalize eqnB q=b0 at *
 have k1:Kp w (w.alloc (.cells #[.string q.name,.int .i64 q.e.kind,.int .i64 q.e.rn,.int .i64 q.e.rd,.string q.e.name,.int .i64 q.e.pw,.slice q.e.a q.e.l.length q.e.c] 107)):=(Kp.refl w).alloc _
 have h0:CellsV (w.alloc (.cells #[.string q.name,.int .i64 q.e.kind,.int .i64 q.e.rn,.int .i64 q.e.rd,.string q.e.name,.int .i64 q.e.pw,.slice q.e.a q.e.l.length q.e.c] 107)) w.heap.size 0 q.cells:=CellsV.new w q.cells _ _ rfl
 go_enter Tryz.func183,Tryz.ntmps183
 go_upto_region 1 with fail
 generalize w.alloc _=W at *
 have HN:=Lib.hid (lname_any q.name W hat.1)
 have HV:=Lib.hid (tvalid_any q.e B W (Ex.at_kp hat.2 k1) (Nat.le_trans hB k1.size))
 have K1:=Lib.hid k1
 have q0:=h0 0 _ rfl;have q1:=h0 1 _ rfl;have q2:=h0 2 _ rfl;have q3:=h0 3 _ rfl;have q4:=h0 4 _ rfl;have q5:=h0 5 _ rfl;have q6:=h0 6 _ rfl
 clear h0 k1 hat
 cases h1:nameB q.name with
 | true =>
  rw[h1] at hd HN
  have Hd:=Lib.hid hd
  clear hd h1
  go_wp2_with (first | (go_at_call 104;go_fit HN.out;rintro r w1 ⟨rfl,rfl⟩) | (go_at_call 93;go_fit HV.out;rintro r w2 ⟨rfl,k2⟩) | fail)
  go_ret
  exact⟨ret_bool (by rw[Hd.out];rfl),K1.out.trans k2⟩
 | false =>
 rw[h1] at hd HN
 have Hd:=Lib.hid hd
 clear hd h1
 go_wp2_with (first | (go_at_call 104;go_fit HN.out;rintro r w1 ⟨rfl,rfl⟩) | fail)
 go_ret
 exact⟨ret_bool (by rw[Hd.out];rfl),K1.out⟩
theorem tedge_any (x:Ed) (w:World) (B:Nat) (hat:x.at w B) (hB:B≤w.heap.size):Calls Tryz.prog 181 #[.agg #[.int .i64 x.g.kind,.int .i64 x.g.rn,.int .i64 x.g.rd,.string x.g.name,.int .i64 x.g.pw,.slice x.g.a x.g.l.length x.g.c,.int .i64 x.dir,.string x.tx,.slice x.a x.rs.length x.c]] w fun e w'=>e=.returned (.bool (edgeB x))∧Kp w w':=by
 have hd:edgeB x=(x.g.ok&&((decide (x.dir=1)||decide (x.dir=2))&&(nameB x.tx&&(decide (x.rs.length≤4)&&x.rs.all eqnB)))):=rfl
 generalize edgeB x=b0 at *
 have k1:Kp w (w.alloc (.cells #[.int .i64 x.g.kind,.int .i64 x.g.rn,.int .i64 x.g.rd,.string x.g.name,.int .i64 x.g.pw,.slice x.g.a x.g.l.length x.g.c,.int .i64 x.dir,.string x.tx,.slice x.a x.rs.length x.c] 103)):=(Kp.refl w).alloc _
 have h0:CellsV (w.alloc (.cells #[.int .i64 x.g.kind,.int .i64 x.g.rn,.int .i64 x.g.rd,.string x.g.name,.int .i64 x.g.pw,.slice x.g.a x.g.l.length x.g.c,.int .i64 x.dir,.string x.tx,.slice x.a x.rs.length x.c] 103)) w.heap.size 0 x.cells:=CellsV.new w x.cells _ _ rfl
 go_enter Tryz.func181,Tryz.ntmps181
 go_upto_region 1 with fail
 generalize w.alloc _=W at *
 have HV:=Lib.hid (tvalid_any x.g B W (Ex.at_kp hat.1.1 k1) (Nat.le_trans hB k1.size))
 have HN:=Lib.hid fun W'=>lname_any x.tx W' hat.1.2.1
 have HE:=Lib.hid fun W' (k:Kp W W')=>everyVR x.a x.rs x.c 183 #[] W' B eqnB (by have:=hat.1.2.2;omega) (hat.2.1.kp (k1.trans k)) ⟨fun _ _=>by kernel_rfl,fun q hq w1 h1=>treset_any q w1 B (Qe.at_kp (hat.2.2 q hq) ((k1.trans k).trans h1)) (Nat.le_trans hB ((k1.trans k).trans h1).size)⟩
 have hlen:=hat.1.2.2
 have K1:=Lib.hid k1
 have H0:=Lib.hid h0
 have q0:=h0 0 _ rfl;have q1:=h0 1 _ rfl;have q2:=h0 2 _ rfl;have q3:=h0 3 _ rfl;have q4:=h0 4 _ rfl;have q5:=h0 5 _ rfl;have q6:=h0 6 _ rfl;have q7:=h0 7 _ rfl;have q8:=h0 8 _ rfl
 clear h0 k1 hat
 cases h1:x.g.ok with
 | false =>
  rw[h1] at hd HV
  have Hd:=Lib.hid hd
  clear hd h1
  go_wp2_with (first | (go_at_call 93;go_fit HV.out;rintro r w1 ⟨rfl,k1⟩) | fail)
  go_ret
  exact⟨ret_bool (by rw[Hd.out];rfl),K1.out.trans k1⟩
 | true =>
 rw[h1] at hd HV
 clear h1
 by_cases hx1:x.dir=1
 ·rw[decide_eq_true hx1] at hd
  have e1:(x.dir==1)=true:=by rw[hx1];rfl
  clear hx1
  cases h2:nameB x.tx with
  | false =>
   rw[h2] at hd HN
   have Hd:=Lib.hid hd
   clear hd h2
   go_wp2_with (first | (go_at_call 93;go_fit HV.out;rintro r w1 ⟨rfl,k1⟩;have h2:=H0.out.kp k1;have p0:=h2 0 _ rfl;have p1:=h2 1 _ rfl;have p2:=h2 2 _ rfl;have p3:=h2 3 _ rfl;have p4:=h2 4 _ rfl;have p5:=h2 5 _ rfl;have p6:=h2 6 _ rfl;have p7:=h2 7 _ rfl;have p8:=h2 8 _ rfl;clear h2) | (go_at_call 104;go_fit (HN.out _);rintro r w2 ⟨rfl,rfl⟩) | fail)
   go_ret
   exact⟨ret_bool (by rw[Hd.out];rfl),K1.out.trans k1⟩
  | true =>
  rw[h2] at hd HN
  by_cases h3:x.rs.length≤4
  ·rw[decide_eq_true h3] at hd
   have h3':(x.rs.length:Int)≤4:=by omega
   have Hd:=Lib.hid hd
   clear hd h2 h3
   go_wp2_with (first | (go_at_call 93;go_fit HV.out;rintro r w1 ⟨rfl,k1⟩;have h2:=H0.out.kp k1;have p0:=h2 0 _ rfl;have p1:=h2 1 _ rfl;have p2:=h2 2 _ rfl;have p3:=h2 3 _ rfl;have p4:=h2 4 _ rfl;have p5:=h2 5 _ rfl;have p6:=h2 6 _ rfl;have p7:=h2 7 _ rfl;have p8:=h2 8 _ rfl;clear h2) | (go_at_call 104;go_fit (HN.out _);rintro r w2 ⟨rfl,rfl⟩) | (go_at_call 182;go_fit (HE.out _ k1);rintro r w3 ⟨rfl,k3⟩) | fail)
   go_ret
   exact⟨ret_bool (by rw[Hd.out];rfl),K1.out.trans (k1.trans k3)⟩
  rw[decide_eq_false h3] at hd
  have h3':¬ (x.rs.length:Int)≤4:=by omega
  have Hd:=Lib.hid hd
  clear hd h2 h3
  go_wp2_with (first | (go_at_call 93;go_fit HV.out;rintro r w1 ⟨rfl,k1⟩;have h2:=H0.out.kp k1;have p0:=h2 0 _ rfl;have p1:=h2 1 _ rfl;have p2:=h2 2 _ rfl;have p3:=h2 3 _ rfl;have p4:=h2 4 _ rfl;have p5:=h2 5 _ rfl;have p6:=h2 6 _ rfl;have p7:=h2 7 _ rfl;have p8:=h2 8 _ rfl;clear h2) | (go_at_call 104;go_fit (HN.out _);rintro r w2 ⟨rfl,rfl⟩) | fail)
  go_ret
  exact⟨ret_bool (by rw[Hd.out];rfl),K1.out.trans k1⟩
 rw[decide_eq_false hx1] at hd
 have e1:(x.dir==1)=false:=beq_eq_false_iff_ne.2 hx1
 clear hx1
 by_cases hx2:x.dir=2
 rotate_left
 ·rw[decide_eq_false hx2] at hd
  have e2:(x.dir==2)=false:=beq_eq_false_iff_ne.2 hx2
  have Hd:=Lib.hid hd
  clear hd hx2
  go_wp2_with (first | (go_at_call 93;go_fit HV.out;rintro r w1 ⟨rfl,k1⟩;have h2:=H0.out.kp k1;have p0:=h2 0 _ rfl;have p1:=h2 1 _ rfl;have p2:=h2 2 _ rfl;have p3:=h2 3 _ rfl;have p4:=h2 4 _ rfl;have p5:=h2 5 _ rfl;have p6:=h2 6 _ rfl;have p7:=h2 7 _ rfl;have p8:=h2 8 _ rfl;clear h2) | fail)
  go_ret
  exact⟨ret_bool (by rw[Hd.out];rfl),K1.out.trans k1⟩
 rw[decide_eq_true hx2] at hd
 have e2:(x.dir==2)=true:=by rw[hx2];rfl
 clear hx2
 cases h2:nameB x.tx with
 | false =>
  rw[h2] at hd HN
  have Hd:=Lib.hid hd
  clear hd h2
  go_wp2_with (first | (go_at_call 93;go_fit HV.out;rintro r w1 ⟨rfl,k1⟩;have h2:=H0.out.kp k1;have p0:=h2 0 _ rfl;have p1:=h2 1 _ rfl;have p2:=h2 2 _ rfl;have p3:=h2 3 _ rfl;have p4:=h2 4 _ rfl;have p5:=h2 5 _ rfl;have p6:=h2 6 _ rfl;have p7:=h2 7 _ rfl;have p8:=h2 8 _ rfl;clear h2) | (go_at_call 104;go_fit (HN.out _);rintro r w2 ⟨rfl,rfl⟩) | fail)
  go_ret
  exact⟨ret_bool (by rw[Hd.out];rfl),K1.out.trans k1⟩
 | true =>
 rw[h2] at hd HN
 by_cases h3:x.rs.length≤4
 ·rw[decide_eq_true h3] at hd
  have h3':(x.rs.length:Int)≤4:=by omega
  have Hd:=Lib.hid hd
  clear hd h2 h3
  go_wp2_with (first | (go_at_call 93;go_fit HV.out;rintro r w1 ⟨rfl,k1⟩;have h2:=H0.out.kp k1;have p0:=h2 0 _ rfl;have p1:=h2 1 _ rfl;have p2:=h2 2 _ rfl;have p3:=h2 3 _ rfl;have p4:=h2 4 _ rfl;have p5:=h2 5 _ rfl;have p6:=h2 6 _ rfl;have p7:=h2 7 _ rfl;have p8:=h2 8 _ rfl;clear h2) | (go_at_call 104;go_fit (HN.out _);rintro r w2 ⟨rfl,rfl⟩) | (go_at_call 182;go_fit (HE.out _ k1);rintro r w3 ⟨rfl,k3⟩) | fail)
  go_ret
  exact⟨ret_bool (by rw[Hd.out];rfl),K1.out.trans (k1.trans k3)⟩
 rw[decide_eq_false h3] at hd
 have h3':¬ (x.rs.length:Int)≤4:=by omega
 have Hd:=Lib.hid hd
 clear hd h2 h3
 go_wp2_with (first | (go_at_call 93;go_fit HV.out;rintro r w1 ⟨rfl,k1⟩;have h2:=H0.out.kp k1;have p0:=h2 0 _ rfl;have p1:=h2 1 _ rfl;have p2:=h2 2 _ rfl;have p3:=h2 3 _ rfl;have p4:=h2 4 _ rfl;have p5:=h2 5 _ rfl;have p6:=h2 6 _ rfl;have p7:=h2 7 _ rfl;have p8:=h2 8 _ rfl;clear h2) | (go_at_call 104;go_fit (HN.out _);rintro r w2 ⟨rfl,rfl⟩) | fail)
 go_ret
 exact⟨ret_bool (by rw[Hd.out];rfl),K1.out.trans k1⟩
theorem tmode_any (m:Mo) (w:World) (B:Nat) (hat:m.at w B) (hB:B≤w.heap.size):Calls Tryz.prog 127 #[.agg #[.string m.name,.slice m.fa m.fs.length m.fc,.slice m.ea m.es.length m.ec]] w fun e w'=>e=.returned (.bool (modeB m))∧Kp w w':=by
 have hd:modeB m=(nameB m.name&&(decide (m.fs.length≤4)&&(decide (m.es.length≤4)&&(m.fs.all eqnB&&m.es.all edgeB)))):=rfl
 generalize modeB m=b0 at *
 have k1:Kp w (w.alloc (.cells #[.string m.name,.slice m.fa m.fs.length m.fc,.slice m.ea m.es.length m.ec] 41)):=(Kp.refl w).alloc _
 have h0:CellsV (w.alloc (.cells #[.string m.name,.slice m.fa m.fs.length m.fc,.slice m.ea m.es.length m.ec] 41)) w.heap.size 0 m.cells:=CellsV.new w m.cells _ _ rfl
 go_enter Tryz.func127,Tryz.ntmps127
 go_upto_region 1 with fail
 generalize w.alloc _=W at *
 have hl1:=hat.1.2.1
 have hl2:=hat.1.2.2
 have HN:=Lib.hid (lname_any m.name W hat.1.1)
 have HF:=Lib.hid fun W' (k:Kp W W')=>everyVQ m.fa m.fs m.fc 179 #[] W' B eqnB (by omega) (hat.2.1.1.kp (k1.trans k)) ⟨fun _ _=>by kernel_rfl,fun q hq w1 h1=>teqn_any q w1 B (Qe.at_kp (hat.2.1.2 q hq) ((k1.trans k).trans h1)) (Nat.le_trans hB ((k1.trans k).trans h1).size)⟩
 have HE:=Lib.hid fun W' (k:Kp W W')=>everyVX m.ea m.es m.ec 181 #[] W' B edgeB (by omega) (hat.2.2.1.kp (k1.trans k)) ⟨fun _ _=>by kernel_rfl,fun q hq w1 h1=>tedge_any q w1 B (Ed.at_kp (hat.2.2.2 q hq) ((k1.trans k).trans h1)) (Nat.le_trans hB ((k1.trans k).trans h1).size)⟩
 have K1:=Lib.hid k1
 have H0:=Lib.hid h0
 have q0:=h0 0 _ rfl;have q1:=h0 1 _ rfl;have q2:=h0 2 _ rfl
 clear h0 k1 hat
 cases h1:nameB m.name with
 | false =>
  rw[h1] at hd HN
  have Hd:=Lib.hid hd
  clear hd h1
  go_wp2_with (first | (go_at_call 104;go_fit HN.out;rintro r w1 ⟨rfl,rfl⟩) | fail)
  go_ret
  exact⟨ret_bool (by rw[Hd.out];rfl),K1.out⟩
 | true =>
 rw[h1] at hd HN
 by_cases h2:m.fs.length≤4
 rotate_left
 ·rw[decide_eq_false h2] at hd
  have h2':¬ (m.fs.length:Int)≤4:=by omega
  have Hd:=Lib.hid hd
  clear hd h1 h2
  go_wp2_with (first | (go_at_call 104;go_fit HN.out;rintro r w1 ⟨rfl,rfl⟩) | fail)
  go_ret
  exact⟨ret_bool (by rw[Hd.out];rfl),K1.out⟩
 rw[decide_eq_true h2] at hd
 have h2':(m.fs.length:Int)≤4:=by omega
 by_cases h3:m.es.length≤4
 rotate_left
 ·rw[decide_eq_false h3] at hd
  have h3':¬ (m.es.length:Int)≤4:=by omega
  have Hd:=Lib.hid hd
  clear hd h1 h2 h3
  go_wp2_with (first | (go_at_call 104;go_fit HN.out;rintro r w1 ⟨rfl,rfl⟩) | fail)
  go_ret
  exact⟨ret_bool (by rw[Hd.out];rfl),K1.out⟩
 rw[decide_eq_true h3] at hd
 have h3':(m.es.length:Int)≤4:=by omega
 cases h4:m.fs.all eqnB with
 | true =>
  rw[h4] at hd HF
  have Hd:=Lib.hid hd
  clear hd h1 h2 h3 h4
  go_wp2_with (first | (go_at_call 104;go_fit HN.out;rintro r w1 ⟨rfl,rfl⟩) | (go_at_call 178;go_fit (HF.out _ (Kp.refl _));rintro r w2 ⟨rfl,k2⟩;have h2:=H0.out.kp k2;have p0:=h2 0 _ rfl;have p1:=h2 1 _ rfl;have p2:=h2 2 _ rfl;clear h2) | (go_at_call 180;go_fit (HE.out _ k2);rintro r w3 ⟨rfl,k3⟩) | fail)
  go_ret
  exact⟨ret_bool (by rw[Hd.out];rfl),K1.out.trans (k2.trans k3)⟩
 | false =>
 rw[h4] at hd HF
 have Hd:=Lib.hid hd
 clear hd h1 h2 h3 h4
 go_wp2_with (first | (go_at_call 104;go_fit HN.out;rintro r w1 ⟨rfl,rfl⟩) | (go_at_call 178;go_fit (HF.out _ (Kp.refl _));rintro r w2 ⟨rfl,k2⟩) | fail)
 go_ret
 exact⟨ret_bool (by rw[Hd.out];rfl),K1.out.trans k2⟩
def lensB (p:Pr):Bool:=decide (1≤p.ss.length∧p.ss.length≤4)&&(decide (p.ps.length≤4)&&decide (1≤p.ms.length∧p.ms.length≤8))
theorem probB_lens (p:Pr):probB p=(lensB p&&(p.ss.all declB&&(p.ps.all declB&&(p.ms.all modeB&&ratB p.tn p.td)))):=rfl
theorem lens_no1 {p:Pr} (h:¬ 1≤p.ss.length):lensB p=false:=by unfold lensB;rw[decide_eq_false (by omega:¬ (1≤p.ss.length∧p.ss.length≤4))];rfl
theorem lens_no2 {p:Pr} (h:¬ p.ss.length≤4):lensB p=false:=by unfold lensB;rw[decide_eq_false (by omega:¬ (1≤p.ss.length∧p.ss.length≤4))];rfl
theorem lens_no3 {p:Pr} (h:¬ p.ps.length≤4):lensB p=false:=by unfold lensB;rw[decide_eq_false h,Bool.false_and,Bool.and_false]
theorem lens_no4 {p:Pr} (h:¬ 1≤p.ms.length):lensB p=false:=by unfold lensB;rw[decide_eq_false (by omega:¬ (1≤p.ms.length∧p.ms.length≤8)),Bool.and_false,Bool.and_false]
theorem lens_no5 {p:Pr} (h:¬ p.ms.length≤8):lensB p=false:=by unfold lensB;rw[decide_eq_false (by omega:¬ (1≤p.ms.length∧p.ms.length≤8)),Bool.and_false,Bool.and_false]
theorem lens_yes {p:Pr} (h1:1≤p.ss.length) (h2:p.ss.length≤4) (h3:p.ps.length≤4) (h4:1≤p.ms.length) (h5:p.ms.length≤8):lensB p=true:=by
 unfold lensB;rw[decide_eq_true ⟨h1,h2⟩,decide_eq_true h3,decide_eq_true ⟨h4,h5⟩];rfl
theorem tproblem_any (p:Pr) (w:World) (B:Nat) (hat:p.at w B) (hB:B≤w.heap.size):Calls Tryz.prog 62 #[.agg #[.slice p.sa p.ss.length p.sc,.slice p.pa p.ps.length p.pc,.slice p.ma p.ms.length p.mc,.int .i64 p.tn,.int .i64 p.td]] w fun e w'=>e=.returned (.bool (probB p))∧Kp w w':=by
 have hd:=probB_lens p
 generalize probB p=b0 at *
 have k1:Kp w (w.alloc (.cells #[.slice p.sa p.ss.length p.sc,.slice p.pa p.ps.length p.pc,.slice p.ma p.ms.length p.mc,.int .i64 p.tn,.int .i64 p.td] 27)):=(Kp.refl w).alloc _
 have h0:CellsV (w.alloc (.cells #[.slice p.sa p.ss.length p.sc,.slice p.pa p.ps.length p.pc,.slice p.ma p.ms.length p.mc,.int .i64 p.tn,.int .i64 p.td] 27)) w.heap.size 0 p.cells:=CellsV.new w p.cells _ _ rfl
 go_enter Tryz.func62,Tryz.ntmps62
 go_upto_region 1 with fail
 generalize w.alloc _=W at *
 obtain⟨hl1,hl2,hl3⟩:=hat.1
 have HS:=Lib.hid fun W' (k:Kp W W')=>everyVD p.sa p.ss p.sc 125 #[] W' B declB (by omega) (hat.2.1.1.kp (k1.trans k)) ⟨fun _ _=>by kernel_rfl,fun q hq w1 h1=>tdecl_any q w1 (hat.2.1.2 q hq)⟩
 have HP:=Lib.hid fun W' (k:Kp W W')=>everyVD p.pa p.ps p.pc 125 #[] W' B declB (by omega) (hat.2.2.1.1.kp (k1.trans k)) ⟨fun _ _=>by kernel_rfl,fun q hq w1 h1=>tdecl_any q w1 (hat.2.2.1.2 q hq)⟩
 have HM:=Lib.hid fun W' (k:Kp W W')=>everyVM p.ma p.ms p.mc 127 #[] W' B modeB (by omega) (hat.2.2.2.1.kp (k1.trans k)) ⟨fun _ _=>by kernel_rfl,fun q hq w1 h1=>tmode_any q w1 B (Mo.at_kp (hat.2.2.2.2 q hq) ((k1.trans k).trans h1)) (Nat.le_trans hB ((k1.trans k).trans h1).size)⟩
 have HT:=Lib.hid fun W'=>rvalid_any p.tn p.td W'
 have K1:=Lib.hid k1
 have H0:=Lib.hid h0
 have q0:=h0 0 _ rfl;have q1:=h0 1 _ rfl;have q2:=h0 2 _ rfl;have q3:=h0 3 _ rfl;have q4:=h0 4 _ rfl
 clear h0 k1 hat
 by_cases g1:1≤p.ss.length
 rotate_left
 ·rw[lens_no1 g1,Bool.false_and] at hd
  have g':(p.ss.length:Int)<1:=by omega
  subst hd
  clear g1
  go_wp2_with fail
  go_ret
  exact⟨rfl,K1.out⟩
 have g1':¬ (p.ss.length:Int)<1:=by omega
 by_cases g2:p.ss.length≤4
 rotate_left
 ·rw[lens_no2 g2,Bool.false_and] at hd
  have g':(4:Int)<p.ss.length:=by omega
  subst hd
  clear g1 g2
  go_wp2_with fail
  go_ret
  exact⟨rfl,K1.out⟩
 have g2':¬ (4:Int)<p.ss.length:=by omega
 by_cases g3:p.ps.length≤4
 rotate_left
 ·rw[lens_no3 g3,Bool.false_and] at hd
  have g':(4:Int)<p.ps.length:=by omega
  subst hd
  clear g1 g2 g3
  go_wp2_with fail
  go_ret
  exact⟨rfl,K1.out⟩
 have g3':¬ (4:Int)<p.ps.length:=by omega
 by_cases g4:1≤p.ms.length
 rotate_left
 ·rw[lens_no4 g4,Bool.false_and] at hd
  have g':(p.ms.length:Int)<1:=by omega
  subst hd
  clear g1 g2 g3 g4
  go_wp2_with fail
  go_ret
  exact⟨rfl,K1.out⟩
 have g4':¬ (p.ms.length:Int)<1:=by omega
 by_cases g5:p.ms.length≤8
 rotate_left
 ·rw[lens_no5 g5,Bool.false_and] at hd
  have g':(8:Int)<p.ms.length:=by omega
  subst hd
  clear g1 g2 g3 g4 g5
  go_wp2_with fail
  go_ret
  exact⟨rfl,K1.out⟩
 have g5':¬ (8:Int)<p.ms.length:=by omega
 rw[lens_yes g1 g2 g3 g4 g5,Bool.true_and] at hd
 clear g1 g2 g3 g4 g5
 cases h1:p.ss.all declB with
 | false =>
  rw[h1] at hd HS
  have Hd:=Lib.hid hd
  clear hd h1
  go_wp2_with (first | (go_at_call 124;go_fit (HS.out _ (Kp.refl _));rintro r w2 ⟨rfl,k2⟩) | fail)
  go_ret
  exact⟨ret_bool (by rw[Hd.out];rfl),K1.out.trans k2⟩
 | true =>
 rw[h1] at hd HS
 cases h2:p.ps.all declB with
 | false =>
  rw[h2] at hd HP
  have Hd:=Lib.hid hd
  clear hd h1 h2
  go_wp2_with (first | (go_at_call 124;go_fit (HS.out _ (Kp.refl _));rintro r w2 ⟨rfl,k2⟩;have hh:=H0.out.kp k2;have s0:=hh 0 _ rfl;have s1:=hh 1 _ rfl;have s2:=hh 2 _ rfl;have s3:=hh 3 _ rfl;have s4:=hh 4 _ rfl;clear hh) | (go_at_call 124;go_fit (HP.out _ k2);rintro r w3 ⟨rfl,k3⟩) | fail)
  go_ret
  exact⟨ret_bool (by rw[Hd.out];rfl),K1.out.trans (k2.trans k3)⟩
 | true =>
 rw[h2] at hd HP
 cases h3:p.ms.all modeB with
 | true =>
  rw[h3] at hd HM
  have Hd:=Lib.hid hd
  clear hd h1 h2 h3
  go_wp2_with (first | (go_at_call 124;go_fit (HS.out _ (Kp.refl _));rintro r w2 ⟨rfl,k2⟩;have hh:=H0.out.kp k2;have s0:=hh 0 _ rfl;have s1:=hh 1 _ rfl;have s2:=hh 2 _ rfl;have s3:=hh 3 _ rfl;have s4:=hh 4 _ rfl;clear hh) | (go_at_call 124;go_fit (HP.out _ k2);rintro r w3 ⟨rfl,k3⟩;have hh:=H0.out.kp (k2.trans k3);have t0:=hh 0 _ rfl;have t1:=hh 1 _ rfl;have t2:=hh 2 _ rfl;have t3:=hh 3 _ rfl;have t4:=hh 4 _ rfl;clear hh) | (go_at_call 126;go_fit (HM.out _ (k2.trans k3));rintro r w4 ⟨rfl,k4⟩;have hh:=H0.out.kp ((k2.trans k3).trans k4);have u0:=hh 0 _ rfl;have u1:=hh 1 _ rfl;have u2:=hh 2 _ rfl;have u3:=hh 3 _ rfl;have u4:=hh 4 _ rfl;clear hh) | (go_at_call 119;go_fit (HT.out _);rintro r w5 ⟨rfl,k5⟩) | fail)
  go_ret
  exact⟨ret_bool (by rw[Hd.out];rfl),K1.out.trans (((k2.trans k3).trans k4).trans k5)⟩
 | false =>
 rw[h3] at hd HM
 have Hd:=Lib.hid hd
 clear hd h1 h2 h3
 go_wp2_with (first | (go_at_call 124;go_fit (HS.out _ (Kp.refl _));rintro r w2 ⟨rfl,k2⟩;have hh:=H0.out.kp k2;have s0:=hh 0 _ rfl;have s1:=hh 1 _ rfl;have s2:=hh 2 _ rfl;have s3:=hh 3 _ rfl;have s4:=hh 4 _ rfl;clear hh) | (go_at_call 124;go_fit (HP.out _ k2);rintro r w3 ⟨rfl,k3⟩;have hh:=H0.out.kp (k2.trans k3);have t0:=hh 0 _ rfl;have t1:=hh 1 _ rfl;have t2:=hh 2 _ rfl;have t3:=hh 3 _ rfl;have t4:=hh 4 _ rfl;clear hh) | (go_at_call 126;go_fit (HM.out _ (k2.trans k3));rintro r w4 ⟨rfl,k4⟩) | fail)
 go_ret
 exact⟨ret_bool (by rw[Hd.out];rfl),K1.out.trans ((k2.trans k3).trans k4)⟩
end Go.Proofs.YteidgoldnllabaaGreatDoor
