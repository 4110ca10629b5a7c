/-
  Walks: ref13.rangeOf, decls, edge, mode, Problem.
-/
import Derived.Test.YteidgoldnllabaaGreatDoorTPrbN
set_option maxHeartbeats 8000000
set_option maxRecDepth 20000
namespace Go.Proofs.YteidgoldnllabaaGreatDoor
open Go.RowKit Go.Sort
theorem all_no {α:Type} {zs:List α} {p:α→Bool} {k:Nat} {s:α} (h:zs[k]? = some s) (hp:p s=false):zs.all p=false:=List.all_eq_false.2 ⟨s,List.mem_of_getElem? h,by rw[hp];decide⟩
theorem all_yes {α:Type} {zs:List α} {p:α→Bool} (h:∀ (i:Nat) (s:α),zs[i]? = some s→i<zs.length→p s=true):zs.all p=true:=List.all_eq_true.2 fun s hs=>by
 obtain⟨i,hi⟩:=List.getElem?_of_mem hs
 exact h i s hi (List.getElem?_eq_some_iff.1 hi).1
theorem all_step {α:Type} {zs:List α} {p:α→Bool} {k:Nat} {s:α} (hs:zs[k]? = some s) (hp:p s=true) (h:∀ (i:Nat) (z:α),zs[i]? = some z→i<k→p z=true):∀ (i:Nat) (z:α),zs[i]? = some z→i<k+1→p z=true:=fun i z hz hi=>by
 by_cases e:i=k
 ·subst e;rw[hs] at hz;cases hz;exact hp
 ·exact h i z hz (by omega)
theorem rrange_any (a b c d:Int) (w:World):Calls Tryz.prog 186 #[.agg #[.int .i64 a,.int .i64 b,.int .i64 c,.int .i64 d]] w fun e w'=>e=.returned (.bool (ratB a b&&ratB c d))∧Kp w w':=by
 have k1:Kp w (w.alloc (.cells #[.int .i64 a,.int .i64 b,.int .i64 c,.int .i64 d] 66)):=(Kp.refl w).alloc _
 have h0:CellsV (w.alloc (.cells #[.int .i64 a,.int .i64 b,.int .i64 c,.int .i64 d] 66)) w.heap.size 0 [.int .i64 a,.int .i64 b,.int .i64 c,.int .i64 d]:=CellsV.new w _ _ _ rfl
 go_enter Tryz.func186,Tryz.ntmps186
 go_upto_region 1 with fail
 generalize w.alloc _=W at *
 have HL:=Lib.hid fun W'=>r4valid_any a b W'
 have HH:=Lib.hid fun W'=>r4valid_any c d W'
 have K1:=Lib.hid k1
 have H0:=Lib.hid h0
 have q0:=h0 0 _ rfl
 have q1:=h0 1 _ rfl
 clear h0 k1
 cases h2:ratB a b with
 | true =>
  rw[h2] at HL
  have Hr:=Lib.hid h2
  clear h2
  go_wp2_with (first | (go_at_call 27;go_fit (HL.out _);rintro r w2 ⟨rfl,k2⟩;have h2:=H0.out.kp k2;have p2:=h2 2 _ rfl;have p3:=h2 3 _ rfl;clear h2) | (go_at_call 27;go_fit (HH.out _);rintro r w3 ⟨rfl,k3⟩) | fail)
  go_ret
  exact⟨ret_bool (by rw[Hr.out,Bool.true_and]),K1.out.trans (k2.trans k3)⟩
 | false =>
 rw[h2] at HL
 have Hr:=Lib.hid h2
 clear h2
 go_wp2_with (first | (go_at_call 27;go_fit (HL.out _);rintro r w2 ⟨rfl,k2⟩) | fail)
 go_ret
 exact⟨ret_bool (by rw[Hr.out];rfl),K1.out.trans k2⟩
theorem rdecls_any (a:Option Addr) (zs:List De) (c B:Nat) (w:World) (hm:zs.length≤1100000) (hrow:RowV De.cells 5 w B a zs) (hs:∀ d∈zs,d.name.size≤maxLen) :
  Calls Tryz.prog 132 #[.slice a zs.length c] w fun e w'=>e=.returned (.bool (zs.all declB))∧Kp w w':=by
 have HR:=Lib.hid hrow
 have HS:=Lib.hid hs
 obtain⟨b0,hb0⟩:∃ b0,zs.all declB=b0:=⟨_,rfl⟩
 rw[hb0]
 have HB:=Lib.hid hb0
 clear hrow hs hb0
 go_enter Tryz.func132,Tryz.ntmps132
 go_wp2
 go_loopw [3] (fun x wr=>∃ k:Nat,k≤zs.length∧x=.int .i64 k∧(∀ (i:Nat) (s:De),zs[i]? = some s→i<k→declB s=true)∧Kp w wr) (fun x _=>zs.length-(intOf x).toNat)
 case atStart=>exact⟨0,by omega,rfl,fun i s _ h=>absurd h (Nat.not_lt_zero _),.refl _⟩
 case round =>
 obtain⟨k,hk,rfl,hz,hkp⟩:=hrel
 have Hz:=Lib.hid hz
 have Hk:=Lib.hid hkp
 clear hz
 by_cases hlt:k<zs.length
 rotate_left
 ·obtain rfl:k=zs.length:=by omega
  have Ha:=Lib.hid ((all_yes Hz.out).symm.trans HB.out)
  clear hkp
  go_wp2
  go_ret
  exact⟨ret_bool Ha.out,Hk.out⟩
 obtain⟨s,hs⟩:∃ s,zs[k]? = some s:=⟨_,List.getElem?_eq_getElem hlt⟩
 obtain⟨b,o,rfl,_,h0⟩:=HR.out.kp hkp k s hs
 have Hs:=Lib.hid hs
 have H0:=Lib.hid h0
 have q0:wr.cell? ⟨b,o+k*5,none⟩=some (.string s.name):=h0 0 _ rfl;have q1:=h0 1 _ rfl;have q2:=h0 2 _ rfl;have q3:=h0 3 _ rfl;have q4:=h0 4 _ rfl
 have HN:=Lib.hid (r12name_any s.name wr (HS.out s (List.mem_of_getElem? hs)))
 have HG:=Lib.hid fun W'=>rrange_any s.ln s.ld s.hn s.hd W'
 have hd:declB s=(nameB s.name&&(ratB s.ln s.ld&&ratB s.hn s.hd)):=rfl
 clear hs hkp h0
 cases h1:nameB s.name with
 | false =>
  rw[h1] at hd HN
  have Ha:=Lib.hid ((all_no Hs.out hd).symm.trans HB.out)
  clear h1 hd
  go_wp2_with (first | (go_at_call 184;go_fit HN.out;rintro r w2 ⟨rfl,k2⟩) | fail)
  go_ret
  exact⟨ret_bool Ha.out,Hk.out.trans k2⟩
 | true =>
 rw[h1] at hd HN
 obtain⟨q,hq⟩:∃ q,(ratB s.ln s.ld&&ratB s.hn s.hd)=q:=⟨_,rfl⟩
 rw[hq] at hd HG
 rw[Bool.true_and] at hd
 clear h1 hq
 cases q with
 | false =>
  have Ha:=Lib.hid ((all_no Hs.out hd).symm.trans HB.out)
  clear hd
  go_wp2_with (first | (go_at_call 184;go_fit HN.out;rintro r w2 ⟨rfl,k2⟩;have h2:=H0.out.kp k2;have p0:w2.cell? ⟨b,o+k*5,none⟩=some (.string s.name):=h2 0 _ rfl;have p1:=h2 1 _ rfl;have p2:=h2 2 _ rfl;have p3:=h2 3 _ rfl;have p4:=h2 4 _ rfl;clear h2) | (go_at_call 186;go_fit (HG.out _);rintro r w3 ⟨rfl,k3⟩) | fail)
  go_ret
  exact⟨ret_bool Ha.out,Hk.out.trans (k2.trans k3)⟩
 | true =>
 have Hd:=Lib.hid hd
 clear hd
 go_wp2_with (first | (go_at_call 184;go_fit HN.out;rintro r w2 ⟨rfl,k2⟩;have h2:=H0.out.kp k2;have p0:w2.cell? ⟨b,o+k*5,none⟩=some (.string s.name):=h2 0 _ rfl;have p1:=h2 1 _ rfl;have p2:=h2 2 _ rfl;have p3:=h2 3 _ rfl;have p4:=h2 4 _ rfl;clear h2) | (go_at_call 186;go_fit (HG.out _);rintro r w3 ⟨rfl,k3⟩) | fail)
 go_roundw
 case measure=>simp[intOf];omega
 case rel=>exact⟨k+1,by omega,by go_num,all_step Hs.out Hd.out Hz.out,Hk.out.trans (k2.trans k3)⟩
theorem redge_any (x:Ed) (w:World) (B:Nat) (hat:x.at w B):Calls Tryz.prog 185 #[.agg #[.int .i64 x.g.kind,.int .i64 x.g.rn,.int .i64 x.g.rd,.string x.g.name,.int .i64 x.g.pw,.slice x.g.a x.g.l.length x.g.c,.int .i64 x.dir,.string x.tx,.slice x.a x.rs.length x.c]] w fun e w'=>e=.returned (.bool (edgeB x))∧Kp w w':=by
 have hd:edgeB x=(x.g.ok&&((decide (x.dir=1)||decide (x.dir=2))&&(nameB x.tx&&(decide (x.rs.length≤4)&&x.rs.all eqnB)))):=rfl
 generalize edgeB x=b0 at *
 have k1:Kp w (w.alloc (.cells #[.int .i64 x.g.kind,.int .i64 x.g.rn,.int .i64 x.g.rd,.string x.g.name,.int .i64 x.g.pw,.slice x.g.a x.g.l.length x.g.c,.int .i64 x.dir,.string x.tx,.slice x.a x.rs.length x.c] 103)):=(Kp.refl w).alloc _
 have h0:CellsV (w.alloc (.cells #[.int .i64 x.g.kind,.int .i64 x.g.rn,.int .i64 x.g.rd,.string x.g.name,.int .i64 x.g.pw,.slice x.g.a x.g.l.length x.g.c,.int .i64 x.dir,.string x.tx,.slice x.a x.rs.length x.c] 103)) w.heap.size 0 x.cells:=CellsV.new w x.cells _ _ rfl
 go_enter Tryz.func185,Tryz.ntmps185
 go_upto_region 1 with fail
 generalize w.alloc _=W at *
 have HV1:=Lib.hid (rvalid13_any x.g B W (Ex.at_kp hat.1.1 k1))
 have HN1:=Lib.hid fun W'=>r12name_any x.tx W' hat.1.2.1
 have HR:=Lib.hid (hat.2.1.kp k1)
 have HQA:=Lib.hid fun q hq=>Qe.at_kp (hat.2.2 q hq) k1
 have hlen:=hat.1.2.2
 have K1:=Lib.hid k1
 have H0:=Lib.hid h0
 have q0:=h0 0 _ rfl;have q1:=h0 1 _ rfl;have q2:=h0 2 _ rfl;have q3:=h0 3 _ rfl;have q4:=h0 4 _ rfl;have q5:=h0 5 _ rfl;have q6:=h0 6 _ rfl;have q7:=h0 7 _ rfl;have q8:=h0 8 _ rfl
 clear h0 k1 hat
 cases h1:x.g.ok with
 | false =>
  rw[h1] at hd HV1
  have Hd:=Lib.hid hd
  clear hd h1
  go_wp2_with (first | (go_at_call 98;go_fit HV1.out;rintro r w1 ⟨rfl,k1⟩) | fail)
  go_ret
  exact⟨ret_bool (by rw[Hd.out];rfl),K1.out.trans k1⟩
 | true =>
 rw[h1] at hd HV1
 clear h1
 by_cases hx:x.dir=1∨x.dir=2
 rotate_left
 ·rw[decide_eq_false (fun e=>hx (.inl e)),decide_eq_false (fun e=>hx (.inr e))] at hd
  have e1:(x.dir != 1)=true:=bne_iff_ne.2 (fun e=>hx (.inl e))
  have e2:(x.dir != 2)=true:=bne_iff_ne.2 (fun e=>hx (.inr e))
  have Hd:=Lib.hid hd
  clear hd hx
  go_wp2_with (first | (go_at_call 98;go_fit HV1.out;rintro r w1 ⟨rfl,k1⟩;have h2:=H0.out.kp k1;have p0:=h2 0 _ rfl;have p1:=h2 1 _ rfl;have p2:=h2 2 _ rfl;have p3:=h2 3 _ rfl;have p4:=h2 4 _ rfl;have p5:=h2 5 _ rfl;have p6:=h2 6 _ rfl;have p7:=h2 7 _ rfl;have p8:=h2 8 _ rfl;clear h2) | fail)
  go_ret
  exact⟨ret_bool (by rw[Hd.out];rfl),K1.out.trans k1⟩
 have hdir:(decide (x.dir=1)||decide (x.dir=2))=true:=by rcases hx with h | h <;> rw[h] <;> rfl
 rw[hdir] at hd
 have e12:(x.dir != 1)=false∨((x.dir != 1)=true∧(x.dir != 2)=false):=by
  rcases hx with h | h
  ·exact .inl (by rw[h];rfl)
  ·exact .inr ⟨by rw[h];rfl,by rw[h];rfl⟩
 clear hx hdir
 cases h2:nameB x.tx with
 | false =>
  rw[h2] at hd HN1
  have Hd:=Lib.hid hd
  clear hd h2
  rcases e12 with e1 | ⟨e1,e2⟩
  all_goals
   go_wp2_with (first | (go_at_call 98;go_fit HV1.out;rintro r w1 ⟨rfl,k1⟩;have h2:=H0.out.kp k1;have p0:=h2 0 _ rfl;have p1:=h2 1 _ rfl;have p2:=h2 2 _ rfl;have p3:=h2 3 _ rfl;have p4:=h2 4 _ rfl;have p5:=h2 5 _ rfl;have p6:=h2 6 _ rfl;have p7:=h2 7 _ rfl;have p8:=h2 8 _ rfl;clear h2) | (go_at_call 184;go_fit (HN1.out _);rintro r w2 ⟨rfl,k2⟩) | fail)
   go_ret
   exact⟨ret_bool (by rw[Hd.out];rfl),K1.out.trans (k1.trans k2)⟩
 | true =>
 rw[h2] at hd HN1
 by_cases h3:x.rs.length≤4
 rotate_left
 ·rw[decide_eq_false h3] at hd
  have h3':(4:Int)<x.rs.length:=by omega
  have Hd:=Lib.hid hd
  clear hd h2 h3
  rcases e12 with e1 | ⟨e1,e2⟩
  all_goals
   go_wp2_with (first | (go_at_call 98;go_fit HV1.out;rintro r w1 ⟨rfl,k1⟩;have h2:=H0.out.kp k1;have p0:=h2 0 _ rfl;have p1:=h2 1 _ rfl;have p2:=h2 2 _ rfl;have p3:=h2 3 _ rfl;have p4:=h2 4 _ rfl;have p5:=h2 5 _ rfl;have p6:=h2 6 _ rfl;have p7:=h2 7 _ rfl;have p8:=h2 8 _ rfl;clear h2) | (go_at_call 184;go_fit (HN1.out _);rintro r w2 ⟨rfl,k2⟩;have h3:=H0.out.kp (k1.trans k2);have s0:=h3 0 _ rfl;have s1:=h3 1 _ rfl;have s2:=h3 2 _ rfl;have s3:=h3 3 _ rfl;have s4:=h3 4 _ rfl;have s5:=h3 5 _ rfl;have s6:=h3 6 _ rfl;have s7:=h3 7 _ rfl;have s8:=h3 8 _ rfl;clear h3) | fail)
   go_ret
   exact⟨ret_bool (by rw[Hd.out];rfl),K1.out.trans (k1.trans k2)⟩
 rw[decide_eq_true h3] at hd
 have h3':¬ (4:Int)<x.rs.length:=by omega
 have hd2:b0=x.rs.all eqnB:=by rw[hd];simp
 have HD:=Lib.hid hd2
 clear hd hd2 h2 h3
 rcases e12 with e1 | ⟨e1,e2⟩
 all_goals
  go_wp2_with (first | (go_at_call 98;go_fit HV1.out;rintro r w1 ⟨rfl,k1⟩;have h2:=H0.out.kp k1;have p0:=h2 0 _ rfl;have p1:=h2 1 _ rfl;have p2:=h2 2 _ rfl;have p3:=h2 3 _ rfl;have p4:=h2 4 _ rfl;have p5:=h2 5 _ rfl;have p6:=h2 6 _ rfl;have p7:=h2 7 _ rfl;have p8:=h2 8 _ rfl;clear h2) | (go_at_call 184;go_fit (HN1.out _);rintro r w2 ⟨rfl,k2⟩;have h3:=H0.out.kp (k1.trans k2);have s0:=h3 0 _ rfl;have s1:=h3 1 _ rfl;have s2:=h3 2 _ rfl;have s3:=h3 3 _ rfl;have s4:=h3 4 _ rfl;have s5:=h3 5 _ rfl;have s6:=h3 6 _ rfl;have s7:=h3 7 _ rfl;have s8:=h3 8 _ rfl;clear h3) | fail)
  have HST:=Lib.hid (k1.trans k2)
  clear q0 p0 s0 q1 p1 s1 q2 p2 s2 q3 p3 s3 q4 p4 s4 q5 p5 s5 q6 p6 s6 q7 p7 s7 q8 p8 s8 k1 k2
  go_loopw [3] (fun y wr=>∃ k:Nat,k≤x.rs.length∧y=.int .i64 k∧(∀ (i:Nat) (s:Qe),x.rs[i]? = some s→i<k→eqnB s=true)∧Kp w2 wr) (fun y _=>x.rs.length-(intOf y).toNat)
  case atStart=>exact⟨0,by omega,rfl,fun i s _ h=>absurd h (Nat.not_lt_zero _),.refl _⟩
  case round =>
   obtain⟨k,hk,rfl,hz,hkp⟩:=hrel
   have Hz:=Lib.hid hz
   have Hk:=Lib.hid hkp
   have hbx:=H0.out.kp (HST.out.trans hkp)
   have z5:=hbx 8 _ rfl
   clear hz hbx
   by_cases hlt:k<x.rs.length
   ·obtain⟨s,hs⟩:∃ s,x.rs[k]? = some s:=⟨_,List.getElem?_eq_getElem hlt⟩
    obtain⟨b,o,ha,_,h0⟩:=HR.out.kp (HST.out.trans hkp) k s hs
    have Hs:=Lib.hid hs
    have HQ:=Lib.hid h0
    have hqa:=HQA.out s (List.mem_of_getElem? hs)
    have HN:=Lib.hid (r12name_any s.name wr hqa.1)
    have HV:=Lib.hid fun W' (k':Kp wr W')=>rvalid13_any s.e B W' (Ex.at_kp hqa.2 ((HST.out.trans hkp).trans k'))
    have hd:eqnB s=(nameB s.name&&s.e.ok):=rfl
    rw[ha] at z5 ⊢
    have q0:wr.cell? ⟨b,o+k*7,none⟩=some (.string s.name):=h0 0 _ rfl;have q1:=h0 1 _ rfl;have q2:=h0 2 _ rfl;have q3:=h0 3 _ rfl;have q4:=h0 4 _ rfl;have q5:=h0 5 _ rfl;have q6:=h0 6 _ rfl
    clear hs hkp h0 hqa
    cases h1:nameB s.name with
    | false =>
     rw[h1] at hd HN
     have Ha:=Lib.hid (all_no Hs.out hd)
     clear h1 hd
     go_wp2_with (first | (go_at_call 184;go_fit HN.out;rintro r w2 ⟨rfl,k2⟩) | fail)
     go_ret
     exact⟨ret_bool (by rw[HD.out,Ha.out]),K1.out.trans (HST.out.trans (Hk.out.trans k2))⟩
    | true =>
     rw[h1] at hd HN
     rw[Bool.true_and] at hd
     cases h2:s.e.ok with
     | false =>
      rw[h2] at hd HV
      have Ha:=Lib.hid (all_no Hs.out hd)
      clear h1 h2 hd
      go_wp2_with (first | (go_at_call 184;go_fit HN.out;rintro r w2 ⟨rfl,k2⟩;have h2:=HQ.out.kp k2;have p0:w2.cell? ⟨b,o+k*7,none⟩=some (.string s.name):=h2 0 _ rfl;have p1:=h2 1 _ rfl;have p2:=h2 2 _ rfl;have p3:=h2 3 _ rfl;have p4:=h2 4 _ rfl;have p5:=h2 5 _ rfl;have p6:=h2 6 _ rfl;clear h2;have y5:=k2.cell z5) | (go_at_call 98;go_fit (HV.out _ k2);rintro r w3 ⟨rfl,k3⟩) | fail)
      go_ret
      exact⟨ret_bool (by rw[HD.out,Ha.out]),K1.out.trans (HST.out.trans (Hk.out.trans (k2.trans k3)))⟩
     | true =>
      rw[h2] at hd HV
      have Hd:=Lib.hid hd
      clear h1 h2 hd
      go_wp2_with (first | (go_at_call 184;go_fit HN.out;rintro r w2 ⟨rfl,k2⟩;have h2:=HQ.out.kp k2;have p0:w2.cell? ⟨b,o+k*7,none⟩=some (.string s.name):=h2 0 _ rfl;have p1:=h2 1 _ rfl;have p2:=h2 2 _ rfl;have p3:=h2 3 _ rfl;have p4:=h2 4 _ rfl;have p5:=h2 5 _ rfl;have p6:=h2 6 _ rfl;clear h2;have y5:=k2.cell z5) | (go_at_call 98;go_fit (HV.out _ k2);rintro r w3 ⟨rfl,k3⟩) | fail)
      go_roundw
      case rel=>exact⟨k+1,by omega,by go_num,all_step Hs.out Hd.out Hz.out,Hk.out.trans (k2.trans k3)⟩
      case measure=>simp[intOf];omega
   ·obtain rfl:k=x.rs.length:=by omega
    have Ha:=Lib.hid (all_yes Hz.out)
    clear hkp
    go_wp2
    go_ret
    exact⟨ret_bool (by rw[HD.out,Ha.out]),K1.out.trans (HST.out.trans Hk.out)⟩
theorem rmode_any (x:Mo) (w:World) (B:Nat) (hat:x.at w B):Calls Tryz.prog 131 #[.agg #[.string x.name,.slice x.fa x.fs.length x.fc,.slice x.ea x.es.length x.ec]] w fun e w'=>e=.returned (.bool (modeB x))∧Kp w w':=by
 have hd:modeB x=(nameB x.name&&(decide (x.fs.length≤4)&&(decide (x.es.length≤4)&&(x.fs.all eqnB&&x.es.all edgeB)))):=rfl
 generalize modeB x=b0 at *
 have k1:Kp w (w.alloc (.cells #[.string x.name,.slice x.fa x.fs.length x.fc,.slice x.ea x.es.length x.ec] 41)):=(Kp.refl w).alloc _
 have h0:CellsV (w.alloc (.cells #[.string x.name,.slice x.fa x.fs.length x.fc,.slice x.ea x.es.length x.ec] 41)) w.heap.size 0 x.cells:=CellsV.new w x.cells _ _ rfl
 go_enter Tryz.func131,Tryz.ntmps131
 go_upto_region 1 with fail
 generalize w.alloc _=W at *
 have HN1:=Lib.hid fun W'=>r12name_any x.name W' hat.1.1
 have HR:=Lib.hid (hat.2.1.1.kp k1)
 have HQA:=Lib.hid fun q hq=>Qe.at_kp (hat.2.1.2 q hq) k1
 have HR2:=Lib.hid (hat.2.2.1.kp k1)
 have HQA2:=Lib.hid fun q hq=>Ed.at_kp (hat.2.2.2 q hq) k1
 have hl1:=hat.1.2.1
 have hl2:=hat.1.2.2
 have K1:=Lib.hid k1
 have H0:=Lib.hid h0
 have q0:=h0 0 _ rfl;have q1:=h0 1 _ rfl;have q2:=h0 2 _ rfl
 clear h0 k1 hat
 cases h1:nameB x.name with
 | false =>
  rw[h1] at hd HN1
  have Hd:=Lib.hid hd
  clear hd h1
  go_wp2_with (first | (go_at_call 184;go_fit (HN1.out _);rintro r w1 ⟨rfl,k1⟩) | fail)
  go_ret
  exact⟨ret_bool (by rw[Hd.out];rfl),K1.out.trans k1⟩
 | true =>
 rw[h1] at hd HN1
 by_cases h2:x.fs.length≤4
 rotate_left
 ·rw[decide_eq_false h2] at hd
  have h2':(4:Int)<x.fs.length:=by omega
  have Hd:=Lib.hid hd
  clear hd h1 h2
  go_wp2_with (first | (go_at_call 184;go_fit (HN1.out _);rintro r w1 ⟨rfl,k1⟩;have h2:=H0.out.kp k1;have p0:=h2 0 _ rfl;have p1:=h2 1 _ rfl;have p2:=h2 2 _ rfl;clear h2) | fail)
  go_ret
  exact⟨ret_bool (by rw[Hd.out];rfl),K1.out.trans k1⟩
 rw[decide_eq_true h2] at hd
 have h2':¬ (4:Int)<x.fs.length:=by omega
 by_cases h3:x.es.length≤4
 rotate_left
 ·rw[decide_eq_false h3] at hd
  have h3':(4:Int)<x.es.length:=by omega
  have Hd:=Lib.hid hd
  clear hd h1 h2 h3
  go_wp2_with (first | (go_at_call 184;go_fit (HN1.out _);rintro r w1 ⟨rfl,k1⟩;have h2:=H0.out.kp k1;have p0:=h2 0 _ rfl;have p1:=h2 1 _ rfl;have p2:=h2 2 _ rfl;clear h2) | fail)
  go_ret
  exact⟨ret_bool (by rw[Hd.out];rfl),K1.out.trans k1⟩
 rw[decide_eq_true h3] at hd
 have h3':¬ (4:Int)<x.es.length:=by omega
 have hd2:b0=(x.fs.all eqnB&&x.es.all edgeB):=by rw[hd];simp
 have HD:=Lib.hid hd2
 clear hd hd2 h1 h2 h3
 go_wp2_with (first | (go_at_call 184;go_fit (HN1.out _);rintro r w1 ⟨rfl,k1⟩;have h2:=H0.out.kp k1;have p0:=h2 0 _ rfl;have p1:=h2 1 _ rfl;have p2:=h2 2 _ rfl;clear h2) | fail)
 have HST:=Lib.hid k1
 clear q0 q1 q2 p0 p1 p2 k1
 go_loopw [3] (fun y wr=>∃ k:Nat,k≤x.fs.length∧y=.int .i64 k∧(∀ (i:Nat) (s:Qe),x.fs[i]? = some s→i<k→eqnB s=true)∧Kp w1 wr) (fun y _=>x.fs.length-(intOf y).toNat)
 case atStart=>exact⟨0,by omega,rfl,fun i s _ h=>absurd h (Nat.not_lt_zero _),.refl _⟩
 case round =>
 obtain⟨k,hk,rfl,hz,hkp⟩:=hrel
 have Hz:=Lib.hid hz
 have Hk:=Lib.hid hkp
 have hbx:=H0.out.kp (HST.out.trans hkp)
 have z5:=hbx 1 _ rfl
 clear hz hbx
 by_cases hlt:k<x.fs.length
 ·obtain⟨s,hs⟩:∃ s,x.fs[k]? = some s:=⟨_,List.getElem?_eq_getElem hlt⟩
  obtain⟨b,o,ha,_,h0⟩:=HR.out.kp (HST.out.trans hkp) k s hs
  have Hs:=Lib.hid hs
  have HQ:=Lib.hid h0
  have hqa:=HQA.out s (List.mem_of_getElem? hs)
  have HN:=Lib.hid (r12name_any s.name wr hqa.1)
  have HV:=Lib.hid fun W' (k':Kp wr W')=>rvalid13_any s.e B W' (Ex.at_kp hqa.2 ((HST.out.trans hkp).trans k'))
  have hd:eqnB s=(nameB s.name&&s.e.ok):=rfl
  rw[ha] at z5 ⊢
  have q0:wr.cell? ⟨b,o+k*7,none⟩=some (.string s.name):=h0 0 _ rfl;have q1:=h0 1 _ rfl;have q2:=h0 2 _ rfl;have q3:=h0 3 _ rfl;have q4:=h0 4 _ rfl;have q5:=h0 5 _ rfl;have q6:=h0 6 _ rfl
  clear hs hkp h0 hqa
  cases h1:nameB s.name with
  | false =>
   rw[h1] at hd HN
   have Ha:=Lib.hid (all_no Hs.out hd)
   clear h1 hd
   go_wp2_with (first | (go_at_call 184;go_fit HN.out;rintro r w2 ⟨rfl,k2⟩) | fail)
   go_ret
   exact⟨ret_bool (by rw[HD.out,Ha.out,Bool.false_and]),K1.out.trans (HST.out.trans (Hk.out.trans k2))⟩
  | true =>
  rw[h1] at hd HN
  rw[Bool.true_and] at hd
  cases h2:s.e.ok with
  | false =>
   rw[h2] at hd HV
   have Ha:=Lib.hid (all_no Hs.out hd)
   clear h1 h2 hd
   go_wp2_with (first | (go_at_call 184;go_fit HN.out;rintro r w2 ⟨rfl,k2⟩;have h2:=HQ.out.kp k2;have p0:w2.cell? ⟨b,o+k*7,none⟩=some (.string s.name):=h2 0 _ rfl;have p1:=h2 1 _ rfl;have p2:=h2 2 _ rfl;have p3:=h2 3 _ rfl;have p4:=h2 4 _ rfl;have p5:=h2 5 _ rfl;have p6:=h2 6 _ rfl;clear h2;have y5:=k2.cell z5) | (go_at_call 98;go_fit (HV.out _ k2);rintro r w3 ⟨rfl,k3⟩) | fail)
   go_ret
   exact⟨ret_bool (by rw[HD.out,Ha.out,Bool.false_and]),K1.out.trans (HST.out.trans (Hk.out.trans (k2.trans k3)))⟩
  | true =>
  rw[h2] at hd HV
  have Hd:=Lib.hid hd
  clear h1 h2 hd
  go_wp2_with (first | (go_at_call 184;go_fit HN.out;rintro r w2 ⟨rfl,k2⟩;have h2:=HQ.out.kp k2;have p0:w2.cell? ⟨b,o+k*7,none⟩=some (.string s.name):=h2 0 _ rfl;have p1:=h2 1 _ rfl;have p2:=h2 2 _ rfl;have p3:=h2 3 _ rfl;have p4:=h2 4 _ rfl;have p5:=h2 5 _ rfl;have p6:=h2 6 _ rfl;clear h2;have y5:=k2.cell z5) | (go_at_call 98;go_fit (HV.out _ k2);rintro r w3 ⟨rfl,k3⟩) | fail)
  go_roundw
  case measure=>simp[intOf];omega
  case rel=>exact⟨k+1,by omega,by go_num,all_step Hs.out Hd.out Hz.out,Hk.out.trans (k2.trans k3)⟩
 obtain rfl:k=x.fs.length:=by omega
 have Ha:=Lib.hid (all_yes Hz.out)
 have HST2:=Lib.hid (HST.out.trans hkp)
 obtain⟨w8,hw8⟩:∃ w8:World,w8=wr:=⟨_,rfl⟩
 subst hw8
 clear hkp
 go_wp2
 go_loopw [4] (fun y wr=>∃ k:Nat,k≤x.es.length∧y=.int .i64 k∧(∀ (i:Nat) (s:Ed),x.es[i]? = some s→i<k→edgeB s=true)∧Kp w8 wr) (fun y _=>x.es.length-(intOf y).toNat)
 case atStart=>exact⟨0,by omega,rfl,fun i s _ h=>absurd h (Nat.not_lt_zero _),.refl _⟩
 case round =>
 obtain⟨k,hk,rfl,hz,hkp⟩:=hrel
 have Hz2:=Lib.hid hz
 have Hk2:=Lib.hid hkp
 have hbx:=H0.out.kp (HST2.out.trans hkp)
 have z6:=hbx 2 _ rfl
 clear hz hbx z5
 by_cases hlt2:k<x.es.length
 rotate_left
 ·obtain rfl:k=x.es.length:=by omega
  have Ha2:=Lib.hid (all_yes Hz2.out)
  clear hkp
  go_wp2
  go_ret
  exact⟨ret_bool (by rw[HD.out,Ha.out,Ha2.out];rfl),K1.out.trans (HST2.out.trans Hk2.out)⟩
 obtain⟨s,hs⟩:∃ s,x.es[k]? = some s:=⟨_,List.getElem?_eq_getElem hlt2⟩
 obtain⟨b,o,ha,_,h0⟩:=HR2.out.kp (HST2.out.trans hkp) k s hs
 have Hs:=Lib.hid hs
 have HE:=Lib.hid (redge_any s wr B (Ed.at_kp (HQA2.out s (List.mem_of_getElem? hs)) (HST2.out.trans hkp)))
 rw[ha] at z6 ⊢
 have q0:wr.cell? ⟨b,o+k*9,none⟩=some (.int .i64 s.g.kind):=h0 0 _ rfl;have q1:=h0 1 _ rfl;have q2:=h0 2 _ rfl;have q3:=h0 3 _ rfl;have q4:=h0 4 _ rfl;have q5:=h0 5 _ rfl;have q6:=h0 6 _ rfl;have q7:=h0 7 _ rfl;have q8:=h0 8 _ rfl
 clear hs hkp h0
 cases h1:edgeB s with
 | false =>
  rw[h1] at HE
  have Ha2:=Lib.hid (all_no Hs.out h1)
  clear h1
  go_wp2_with (first | (go_at_call 185;go_fit HE.out;rintro r w2 ⟨rfl,k2⟩) | fail)
  go_ret
  exact⟨ret_bool (by rw[HD.out,Ha2.out,Bool.and_false]),K1.out.trans (HST2.out.trans (Hk2.out.trans k2))⟩
 | true =>
 rw[h1] at HE
 have Hd:=Lib.hid h1
 clear h1
 go_wp2_with (first | (go_at_call 185;go_fit HE.out;rintro r w2 ⟨rfl,k2⟩) | fail)
 go_roundw
 case measure=>simp[intOf];omega
 case rel=>exact⟨k+1,by omega,by go_num,all_step Hs.out Hd.out Hz2.out,Hk2.out.trans k2⟩
theorem rproblem_any (p:Pr) (w:World) (B:Nat) (hat:p.at w B):Calls Tryz.prog 68 #[.agg #[.slice p.sa p.ss.length p.sc,.slice p.pa p.ps.length p.pc,.slice p.ma p.ms.length p.mc,.int .i64 p.tn,.int .i64 p.td]] w fun e w'=>e=.returned (.bool (probB p))∧Kp w w':=by
 have hd:=probB_lens p
 generalize probB p=b0 at *
 have k1:Kp w (w.alloc (.cells #[.slice p.sa p.ss.length p.sc,.slice p.pa p.ps.length p.pc,.slice p.ma p.ms.length p.mc,.int .i64 p.tn,.int .i64 p.td] 27)):=(Kp.refl w).alloc _
 have h0:CellsV (w.alloc (.cells #[.slice p.sa p.ss.length p.sc,.slice p.pa p.ps.length p.pc,.slice p.ma p.ms.length p.mc,.int .i64 p.tn,.int .i64 p.td] 27)) w.heap.size 0 p.cells:=CellsV.new w p.cells _ _ rfl
 go_enter Tryz.func68,Tryz.ntmps68
 go_upto_region 1 with fail
 generalize w.alloc _=W at *
 obtain⟨hl1,hl2,hl3⟩:=hat.1
 have HS:=Lib.hid fun W' (k:Kp W W')=>rdecls_any p.sa p.ss p.sc B W' (by omega) (hat.2.1.1.kp (k1.trans k)) hat.2.1.2
 have HP:=Lib.hid fun W' (k:Kp W W')=>rdecls_any p.pa p.ps p.pc B W' (by omega) (hat.2.2.1.1.kp (k1.trans k)) hat.2.2.1.2
 have HR:=Lib.hid (hat.2.2.2.1.kp k1)
 have HQA:=Lib.hid fun q hq=>Mo.at_kp (hat.2.2.2.2 q hq) k1
 have HT:=Lib.hid fun W'=>r4valid_any p.tn p.td W'
 have K1:=Lib.hid k1
 have H0:=Lib.hid h0
 have q0:=h0 0 _ rfl;have q1:=h0 1 _ rfl;have q2:=h0 2 _ rfl;have q3:=h0 3 _ rfl;have q4:=h0 4 _ rfl
 clear h0 k1 hat
 by_cases g1:1≤p.ss.length
 rotate_left
 ·rw[lens_no1 g1,Bool.false_and] at hd
  have g':(p.ss.length:Int)<1:=by omega
  subst hd
  clear g1
  go_wp2_with fail
  go_ret
  exact⟨rfl,K1.out⟩
 have g1':¬ (p.ss.length:Int)<1:=by omega
 by_cases g2:p.ss.length≤4
 rotate_left
 ·rw[lens_no2 g2,Bool.false_and] at hd
  have g':(4:Int)<p.ss.length:=by omega
  subst hd
  clear g1 g2
  go_wp2_with fail
  go_ret
  exact⟨rfl,K1.out⟩
 have g2':¬ (4:Int)<p.ss.length:=by omega
 by_cases g3:p.ps.length≤4
 rotate_left
 ·rw[lens_no3 g3,Bool.false_and] at hd
  have g':(4:Int)<p.ps.length:=by omega
  subst hd
  clear g1 g2 g3
  go_wp2_with fail
  go_ret
  exact⟨rfl,K1.out⟩
 have g3':¬ (4:Int)<p.ps.length:=by omega
 by_cases g4:1≤p.ms.length
 rotate_left
 ·rw[lens_no4 g4,Bool.false_and] at hd
  have g':(p.ms.length:Int)<1:=by omega
  subst hd
  clear g1 g2 g3 g4
  go_wp2_with fail
  go_ret
  exact⟨rfl,K1.out⟩
 have g4':¬ (p.ms.length:Int)<1:=by omega
 by_cases g5:p.ms.length≤8
 rotate_left
 ·rw[lens_no5 g5,Bool.false_and] at hd
  have g':(8:Int)<p.ms.length:=by omega
  subst hd
  clear g1 g2 g3 g4 g5
  go_wp2_with fail
  go_ret
  exact⟨rfl,K1.out⟩
 have g5':¬ (8:Int)<p.ms.length:=by omega
 rw[lens_yes g1 g2 g3 g4 g5,Bool.true_and] at hd
 have HD:=Lib.hid hd
 clear g1 g2 g3 g4 g5 hd
 go_wp2
 go_loopw [3] (fun y wr=>∃ k:Nat,k≤p.ms.length∧y=.int .i64 k∧(∀ (i:Nat) (s:Mo),p.ms[i]? = some s→i<k→modeB s=true)∧Kp W wr) (fun y _=>p.ms.length-(intOf y).toNat)
 case atStart=>exact⟨0,by omega,rfl,fun i s _ h=>absurd h (Nat.not_lt_zero _),.refl _⟩
 case round =>
 obtain⟨k,hk,rfl,hz,hkp⟩:=hrel
 have Hz:=Lib.hid hz
 have Hk:=Lib.hid hkp
 have hbx:=H0.out.kp hkp
 have z5:=hbx 2 _ rfl
 clear hz hbx q0 q1 q2 q3 q4
 by_cases hlt:k<p.ms.length
 ·obtain⟨s,hs⟩:∃ s,p.ms[k]? = some s:=⟨_,List.getElem?_eq_getElem hlt⟩
  obtain⟨b,o,ha,_,h0⟩:=HR.out.kp hkp k s hs
  have Hs:=Lib.hid hs
  have HE:=Lib.hid (rmode_any s wr B (Mo.at_kp (HQA.out s (List.mem_of_getElem? hs)) hkp))
  rw[ha] at z5 ⊢
  have q0:wr.cell? ⟨b,o+k*3,none⟩=some (.string s.name):=h0 0 _ rfl;have q1:=h0 1 _ rfl;have q2:=h0 2 _ rfl
  clear hs hkp h0
  cases h1:modeB s with
  | false =>
   rw[h1] at HE
   have Ha2:=Lib.hid (all_no Hs.out h1)
   clear h1
   go_wp2_with (first | (go_at_call 131;go_fit HE.out;rintro r w2 ⟨rfl,k2⟩) | fail)
   go_ret
   exact⟨ret_bool (by rw[HD.out,Ha2.out];simp),K1.out.trans (Hk.out.trans k2)⟩
  | true =>
  rw[h1] at HE
  have Hd:=Lib.hid h1
  clear h1
  go_wp2_with (first | (go_at_call 131;go_fit HE.out;rintro r w2 ⟨rfl,k2⟩) | fail)
  go_roundw
  case measure=>simp[intOf];omega
  case rel=>exact⟨k+1,by omega,by go_num,all_step Hs.out Hd.out Hz.out,Hk.out.trans k2⟩
 obtain rfl:k=p.ms.length:=by omega
 have hd:=HD.out
 rw[all_yes Hz.out,Bool.true_and] at hd
 have hbx:=H0.out.kp hkp
 have q0:=hbx 0 _ rfl;have q1:=hbx 1 _ rfl;have q2:=hbx 2 _ rfl;have q3:=hbx 3 _ rfl;have q4:=hbx 4 _ rfl
 clear hbx hkp
 cases h1:p.ss.all declB with
 | false =>
  rw[h1] at hd HS
  have Hd:=Lib.hid hd
  clear hd h1
  go_wp2_with (first | (go_at_call 132;go_fit (HS.out _ Hk.out);rintro r w2 ⟨rfl,k2⟩) | fail)
  go_ret
  exact⟨ret_bool (by rw[Hd.out];rfl),K1.out.trans (Hk.out.trans k2)⟩
 | true =>
 rw[h1] at hd HS
 cases h2:p.ps.all declB with
 | true =>
  rw[h2] at hd HP
  have Hd:=Lib.hid hd
  clear hd h1 h2
  go_wp2_with (first | (go_at_call 132;go_fit (HS.out _ Hk.out);rintro r w2 ⟨rfl,k2⟩;have hh:=H0.out.kp (Hk.out.trans k2);have s0:=hh 0 _ rfl;have s1:=hh 1 _ rfl;have s2:=hh 2 _ rfl;have s3:=hh 3 _ rfl;have s4:=hh 4 _ rfl;clear hh) | (go_at_call 132;go_fit (HP.out _ (Hk.out.trans k2));rintro r w3 ⟨rfl,k3⟩;have hh:=H0.out.kp (Hk.out.trans (k2.trans k3));have t0:=hh 0 _ rfl;have t1:=hh 1 _ rfl;have t2:=hh 2 _ rfl;have t3:=hh 3 _ rfl;have t4:=hh 4 _ rfl;clear hh) | (go_at_call 27;go_fit (HT.out _);rintro r w4 ⟨rfl,k4⟩) | fail)
  go_ret
  exact⟨ret_bool (by rw[Hd.out];rfl),K1.out.trans (Hk.out.trans ((k2.trans k3).trans k4))⟩
 | false =>
 rw[h2] at hd HP
 have Hd:=Lib.hid hd
 clear hd h1 h2
 go_wp2_with (first | (go_at_call 132;go_fit (HS.out _ Hk.out);rintro r w2 ⟨rfl,k2⟩;have hh:=H0.out.kp (Hk.out.trans k2);have s0:=hh 0 _ rfl;have s1:=hh 1 _ rfl;have s2:=hh 2 _ rfl;have s3:=hh 3 _ rfl;have s4:=hh 4 _ rfl;clear hh) | (go_at_call 132;go_fit (HP.out _ (Hk.out.trans k2));rintro r w3 ⟨rfl,k3⟩) | fail)
 go_ret
 exact⟨ret_bool (by rw[Hd.out];rfl),K1.out.trans (Hk.out.trans (k2.trans k3))⟩
end Go.Proofs.YteidgoldnllabaaGreatDoor
