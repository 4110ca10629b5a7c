/-
  Walks: ProblemFinds.
-/
import Derived.Test.YteidgoldnllabaaGreatDoorMRmoN
import Derived.Test.YteidgoldnllabaaGreatDoorMSamR
namespace Go.Proofs.YteidgoldnllabaaGreatDoor
open Go.RowKit Go.Sort
theorem mplF_find {s:ByteArray}:∀ {l:List Mo},(∃ (j:Nat) (m:Mo),l.find? (fun m=>decide (m.name=s))=some m∧mplF s l=j∧l[j]? = some m)∨(l.find? (fun m=>decide (m.name=s))=none∧mplF s l=-1)
 | []=>.inr ⟨rfl,rfl⟩
 | x::r=>by
  by_cases h:x.name=s
  ·refine .inl ⟨0,x,?_,?_,rfl⟩
   ·rw[List.find?_cons,decide_eq_true h]
   ·unfold mplF;rw[if_pos h];rfl
  ·rcases mplF_find (s:=s) (l:=r) with ⟨j,m,h1,h2,h3⟩ | ⟨h1,h2⟩
   ·refine .inl ⟨j+1,m,?_,?_,?_⟩
    ·rw[List.find?_cons,decide_eq_false h];exact h1
    ·unfold mplF;rw[if_neg h,h2,if_neg (by omega)];omega
    ·simpa using h3
   ·refine .inr ⟨?_,?_⟩
    ·rw[List.find?_cons,decide_eq_false h];exact h1
    ·unfold mplF;rw[if_neg h,h2,if_pos (by decide)]
theorem modeO_pl (p:Pr) (s:ByteArray):(∃ (j:Nat) (m:Mo),modeO p s=some m∧rmpF p s=j∧p.ms[j]? = some m)∨(modeO p s=none∧rmpF p s=-1):=by
 unfold modeO rmpF
 split
 ·exact mplF_find
 exact .inr ⟨rfl,rfl⟩
theorem Qe.at_up {q:Qe} {w:World} {B B':Nat} (h:q.at w B) (hB:B≤B'):q.at w B':=⟨h.1,Ex.at_up h.2 hB⟩
theorem Ed.at_up {x:Ed} {w:World} {B B':Nat} (h:x.at w B) (hB:B≤B'):x.at w B':=⟨⟨Ex.at_up h.1.1 hB,h.1.2⟩,h.2.1.up hB,fun q hq=>Qe.at_up (h.2.2 q hq) hB⟩
theorem Mo.at_up {m:Mo} {w:World} {B B':Nat} (h:m.at w B) (hB:B≤B'):m.at w B':=⟨h.1,⟨h.2.1.1.up hB,fun q hq=>Qe.at_up (h.2.1.2 q hq) hB⟩,h.2.2.1.up hB,fun x hx=>Ed.at_up (h.2.2.2 x hx) hB⟩
theorem Pr.at_up {p:Pr} {w:World} {B B':Nat} (h:p.at w B) (hB:B≤B'):p.at w B':=⟨h.1,⟨h.2.1.1.up hB,h.2.1.2⟩,⟨h.2.2.1.1.up hB,h.2.2.1.2⟩,h.2.2.2.1.up hB,fun m hm=>Mo.at_up (h.2.2.2.2 m hm) hB⟩
theorem rowM_again {w:World} {B g o:Nat} {zs:List Mo} (h:RowV Mo.cells 3 w B (some ⟨g,o,none⟩) zs) {k:Nat} {m:Mo} (hk:zs[k]? = some m) {W:World} (hW:(((w.setCell ⟨g,o+k*3,none⟩ (.string m.name)).setCell ⟨g,o+k*3+1,none⟩ (.slice m.fa m.fs.length m.fc)).setCell ⟨g,o+k*3+2,none⟩ (.slice m.ea m.es.length m.ec))=W):RowV Mo.cells 3 W B (some ⟨g,o,none⟩) zs:=by
 subst hW
 obtain⟨b0,o0,e0,hb0,hc0⟩:=h k m hk
 cases e0
 have c0:w.cell? ⟨g,o+k*3,none⟩=some (.string m.name):=hc0 0 _ rfl
 have c1:w.cell? ⟨g,o+k*3+1,none⟩=some (.slice m.fa m.fs.length m.fc):=hc0 1 _ rfl
 have c2:w.cell? ⟨g,o+k*3+2,none⟩=some (.slice m.ea m.es.length m.ec):=hc0 2 _ rfl
 have same:∀ {u:World} {q:Addr} {v:Value} (p:Addr) (x:Value),u.cell? q=some v→p=q→x=v→(u.setCell p x).cell? q=some v:=fun {u q v} p x hq e1 e2=>by
  subst e1 e2
  apply World.cell?_setCell_same;exact hq
 have keep:∀ {u:World} {q:Addr} {v:Value} (p:Addr) (x:Value) (hp:u.cell? p=some x),u.cell? q=some v→(u.setCell p x).cell? q=some v:=fun {u q v} p x hp hq=>by
  by_cases e:p=q
  ·subst e
   rw[hq] at hp
   injection hp with hp
   subst hp
   apply World.cell?_setCell_same;exact hq
  ·rw[World.cell?_setCell_other]
   ·exact hq
   ·exact e
 have d1:=keep ⟨g,o+k*3,none⟩ (.string m.name) c0 c1
 have d2:=keep ⟨g,o+k*3,none⟩ (.string m.name) c0 c2
 have d3:=keep ⟨g,o+k*3+1,none⟩ (.slice m.fa m.fs.length m.fc) d1 d2
 intro i x hx
 obtain⟨b,o2,e,hb,hc⟩:=h i x hx
 cases e
 exact⟨g,o,rfl,hb,fun j v hj=>keep _ _ d3 (keep _ _ d1 (keep _ _ c0 (hc j v hj)))⟩
theorem OwnV.froz {α:Type} {cells:α→List Value} {k:Nat} {T:TypeId} {wb w:World} {b o n c:Nat} {zs:List α} (h:OwnV cells k T wb w (.slice (some ⟨b,o,none⟩) n c) zs) (i:Nat):w.frozen? ⟨b,i,none⟩=false:=by
 obtain⟨_,⟨_,h3⟩⟩:=h
 rcases h3 with ⟨e,_⟩ | ⟨g,cap,cur,e,hb,hg,_⟩
 ·cases e
 cases e
 unfold World.frozen?
 rw[hg]
 simp
theorem rowM_off {w:World} {B g b o:Nat} {zs:List Mo} (h:RowV Mo.cells 3 w B (some ⟨b,o,none⟩) zs) (hn:b≠g) {i:Nat} {v:Value}:RowV Mo.cells 3 (w.setCell ⟨g,i,none⟩ v) B (some ⟨b,o,none⟩) zs:=fun k x hx=>by
 obtain⟨b2,o2,e,hb,hc⟩:=h k x hx
 cases e
 exact⟨b,o,rfl,hb,fun j u hj=>by rw[cellV_ne (fun e=>hn (by injection e with e1;exact e1.symm))];exact hc j u hj⟩
theorem mode_yes (p:Pr) (s:ByteArray) (m:Mo) (w:World) (B:Nat) (hat:p.at w B) (hB:B≤w.heap.size) (h:modeO p s=some m) :
  Calls Tryz.prog 18 #[.agg #[.slice p.sa p.ss.length p.sc,.slice p.pa p.ps.length p.pc,.slice p.ma p.ms.length p.mc,.int .i64 p.tn,.int .i64 p.td],.string s] w fun r w'=>r=.returned (.tuple #[.agg #[.string m.name,.slice m.fa m.fs.length m.fc,.slice m.ea m.es.length m.ec],.bool true])∧Kp w w':=by
 have:=pmode_any p s w B hat hB
 rw[h] at this
 exact this
theorem mode_not (p:Pr) (s:ByteArray) (w:World) (B:Nat) (hat:p.at w B) (hB:B≤w.heap.size) (h:modeO p s=none) :
  Calls Tryz.prog 18 #[.agg #[.slice p.sa p.ss.length p.sc,.slice p.pa p.ps.length p.pc,.slice p.ma p.ms.length p.mc,.int .i64 p.tn,.int .i64 p.td],.string s] w fun r w'=>r=.returned (.tuple #[.agg #[.string ⟨#[]⟩,.slice none 0 0,.slice none 0 0],.bool false])∧Kp w w':=by
 have:=pmode_any p s w B hat hB
 rw[h] at this
 exact this
theorem eqS_self (a1 a2:Option Addr) (c1 c2:Nat) (xs:List ByteArray) (w:World) (h1:RowS w a1 xs) (h2:RowS w a2 xs) (hx:xs.length≤1100000) :
  Calls Tryz.prog 20 #[.slice a1 xs.length c1,.slice a2 xs.length c2] w fun e w'=>e=.returned (.bool true)∧Kp w w':=by
 have:=eqS_any a1 a2 c1 c2 xs xs w h1 h2 hx hx
 rw[decide_eq_true rfl] at this
 exact this
set_option maxHeartbeats 16000000 in
set_option maxRecDepth 20000 in
theorem Finds_ok (p:Pr) (s:ByteArray) (w:World) (hat:p.at w w.heap.size) (_hs:s.size≤maxLen) (hT:Tab w) :
  Calls Tryz.prog 4 #[.agg #[.slice p.sa p.ss.length p.sc,.slice p.pa p.ps.length p.pc,.slice p.ma p.ms.length p.mc,.int .i64 p.tn,.int .i64 p.td],.string s] w fun r w'=>r=.returned (.bool true)∧Kp w w':=by
 have k1:Kp w (w.alloc (.cells #[.slice p.sa p.ss.length p.sc,.slice p.pa p.ps.length p.pc,.slice p.ma p.ms.length p.mc,.int .i64 p.tn,.int .i64 p.td] 27)):=(Kp.refl w).alloc _
 have h0:BoxV (w.alloc (.cells #[.slice p.sa p.ss.length p.sc,.slice p.pa p.ps.length p.pc,.slice p.ma p.ms.length p.mc,.int .i64 p.tn,.int .i64 p.td] 27)) w.heap.size p.cells:=BoxV.new w p.cells _ _ rfl
 go_enter Tryz.func4,Tryz.ntmps4
 go_upto_region 1 with fail
 generalize w.alloc _=W at *
 have HAW:=Lib.hid (awakeq_any W (hT.kp k1))
 have HAT:=Lib.hid (Pr.at_kp hat k1)
 have HBW:=Lib.hid k1.size
 have HSm:=Lib.hid fun W' (k:Kp W W')=>small_any p W' w.heap.size (Pr.at_kp HAT.out k) (Nat.le_trans HBW.out k.size)
 have HRm:=Lib.hid fun W' (k:Kp W W')=>r16Mode_any p s W' w.heap.size (Pr.at_kp HAT.out k)
 have HNa:=Lib.hid fun W' (k:Kp W W')=>pnamesV_any p W' w.heap.size (Pr.at_kp HAT.out k) (Nat.le_trans HBW.out k.size)
 have HRn:=Lib.hid fun W' (k:Kp W W')=>r16Names_any p W' w.heap.size (Pr.at_kp HAT.out k)
 have H0:=Lib.hid h0
 have K1:=Lib.hid k1
 have hnl:(nmsF p).length≤2100000:=by
  unfold nmsF allN
  split
  ·have:=hat.1.1;have:=hat.1.2.1;rw[List.length_append,List.length_map,List.length_map];omega
  ·simp
 have hnl2:(nmsF p).length≤1100000:=by
  unfold nmsF
  split
  ·rename_i ho
   have:=probB_ss (okF_prob ho)
   unfold allN
   rw[List.length_append,List.length_map,List.length_map];omega
  ·simp
 clear h0 k1 hat hT hnl
 go_upto_region 3 with (first | (go_at_call 13;go_fit HAW.out;rintro r w2 ⟨rfl,k2⟩) | fail)
 have hq:=H0.out.kp k2
 have q0:=hq.cell 0 rfl;have q1:=hq.cell 1 rfl;have q2:=hq.cell 2 rfl;have q3:=hq.cell 3 rfl;have q4:=hq.cell 4 rfl
 have K2:=Lib.hid k2
 clear hq k2
 by_cases hlen:(50:Int)<(s.size:Int)
 ·go_wp2_with (first | (go_at_call 14;go_fit (HSm.out w2 K2.out);rintro r w3 ⟨b,rfl,k3⟩;cases b) | fail)
  all_goals
   go_ret
   exact⟨rfl,K1.out.trans (K2.out.trans k3)⟩
 go_upto_region 5 with (first | (go_at_call 14;go_fit (HSm.out w2 K2.out);rintro r w3 ⟨b,rfl,k3⟩;cases b) | fail)
 ·go_ret
  exact⟨rfl,K1.out.trans (K2.out.trans k3)⟩
 have hq:=H0.out.kp (K2.out.trans k3)
 clear q0 q1 q2 q3 q4
 have q0:=hq.cell 0 rfl;have q1:=hq.cell 1 rfl;have q2:=hq.cell 2 rfl;have q3:=hq.cell 3 rfl;have q4:=hq.cell 4 rfl
 have K3:=Lib.hid (K2.out.trans k3)
 clear hq k3
 -- GEN
 rcases modeO_pl p s with ⟨j,m,hmo,hrm,hj⟩ | ⟨hmo,hrm⟩
 rotate_left
 ·have HMd:=Lib.hid fun W' (k:Kp W W')=>mode_not p s W' w.heap.size (Pr.at_kp HAT.out k) (Nat.le_trans HBW.out k.size) hmo
  rw[hrm] at HRm
  clear hmo hrm
  go_upto_region 6 with (first | (go_at_call 18;go_fit (HMd.out w3 K3.out);rintro r w4 ⟨rfl,k4⟩) | fail)
  have kA:=k4.alloc (.cells #[.string ⟨#[]⟩,.slice none 0 0,.slice none 0 0] 41)
  have hm:=BoxV.new w4 [.string ⟨#[]⟩,.slice none 0 0,.slice none 0 0] 41 _ rfl
  generalize World.alloc w4 _=X0 at *
  have K4:=Lib.hid (K3.out.trans kA)
  have HM:=Lib.hid hm
  clear q0 q1 q2 q3 q4 k4 kA hm
  have hq:=H0.out.kp K4.out
  have q0:=hq.cell 0 rfl;have q1:=hq.cell 1 rfl;have q2:=hq.cell 2 rfl;have q3:=hq.cell 3 rfl;have q4:=hq.cell 4 rfl
  clear hq
  go_upto_region 7 with (first | (go_at_call 19;go_fit (HRm.out X0 K4.out);rintro r X ⟨rfl,k5⟩) | fail)
  have HKX:=Lib.hid (K4.out.trans k5)
  have HMX:=Lib.hid (HM.out.kp k5)
  clear q0 q1 q2 q3 q4 k5
  have hq:=H0.out.kp HKX.out
  have q0:=hq.cell 0 rfl;have q1:=hq.cell 1 rfl;have q2:=hq.cell 2 rfl;have q3:=hq.cell 3 rfl;have q4:=hq.cell 4 rfl
  clear hq
  have hSd:X.drew.cell? ⟨w.heap.size,0,none⟩=some (.slice p.sa p.ss.length p.sc)∧X.drew.cell? ⟨w.heap.size,1,none⟩=some (.slice p.pa p.ps.length p.pc)∧X.drew.cell? ⟨w.heap.size,2,none⟩=some (.slice p.ma p.ms.length p.mc)∧X.drew.cell? ⟨w.heap.size,3,none⟩=some (.int .i64 p.tn)∧X.drew.cell? ⟨w.heap.size,4,none⟩=some (.int .i64 p.td):=keep5 (Kp.refl X).drew ⟨q0,q1,q2,q3,q4⟩
  have HSd:=Lib.hid hSd
  clear q0 q1 q2 q3 q4
  refine wp_region_held_drew (S:=fun w'=>w'.cell? ⟨w.heap.size,0,none⟩=some (.slice p.sa p.ss.length p.sc)∧w'.cell? ⟨w.heap.size,1,none⟩=some (.slice p.pa p.ps.length p.pc)∧w'.cell? ⟨w.heap.size,2,none⟩=some (.slice p.ma p.ms.length p.mc)∧w'.cell? ⟨w.heap.size,3,none⟩=some (.int .i64 p.tn)∧w'.cell? ⟨w.heap.size,4,none⟩=some (.int .i64 p.td)) (by kernel_rfl) hSd (fun hHeld=>?_)
  clear hSd
  refine tk 0 ?_;refine tk 1 ?_;refine tk 2 ?_;refine tk 3 ?_;refine tk 4 ?_;refine tk 5 ?_;refine tk 7 ?_;(try simp only[Act.put,List.getElem_toArray,List.getElem_cons_zero,List.getElem_cons_succ,List.setIfInBounds_toArray,List.set_cons_zero,List.set_cons_succ])
  refine cm 6 (fun K hK=>?_)
  (go_simp;go_fit (HNa.out _ (HKX.out.trans (Kp.refl X).drew));rintro r w6 ⟨v6,rfl,hO6⟩)
  refine hK.out _ _ (keep5 hO6.1 HSd.out) (fun hHeld=>?_)
  clear hK K
  obtain⟨na,nc,rfl,hn6⟩:=hO6.sl
  refine cm 8 (fun K hK=>?_)
  (go_simp;go_fit (HRn.out _ (HKX.out.trans ((Kp.refl X).drew.trans hO6.1)));rintro r w7 ⟨v7,rfl,hO7⟩)
  refine hK.out _ _ (keep5 (hO6.1.trans hO7.1) HSd.out) (fun hHeld=>?_)
  clear hK K
  obtain⟨ra,rc,rfl,hn7⟩:=hO7.sl
  refine cm 9 (fun K hK=>?_)
  (go_simp;go_fit (eqS_self na ra nc rc (nmsF p) w7 (hn6.kp hO7.1) hn7 hnl2);rintro r w8 ⟨rfl,k8⟩)
  refine hK.out _ _ (keep5 (hO6.1.trans (hO7.1.trans k8)) HSd.out) (fun hHeld=>?_)
  clear hK K
  refine tk 10 ?_;refine tk 11 ?_;(try simp only[Act.put,List.getElem_toArray,List.getElem_cons_zero,List.getElem_cons_succ,List.setIfInBounds_toArray,List.set_cons_zero,List.set_cons_succ])
  refine wpAnyH_done (by kernel_rfl) ?_ _
  have HKY:=Lib.hid ((Kp.refl X).drew.trans (hO6.1.trans (hO7.1.trans k8)))
  clear hn6 hn7 hO6 hO7 k8 hHeld
  obtain⟨Y,hY⟩:∃ Y:World,Y=w8:=⟨_,rfl⟩
  subst hY
  have HMY:=HMX.out.kp HKY.out
  have HKYW:=Lib.hid (HKX.out.trans HKY.out)
  have z0:=HMY.cell 0 rfl
  have z1:=HMY.cell 1 rfl
  have z2:=HMY.cell 2 rfl
  clear HMY
  go_wp2
  go_ret
  exact⟨rfl,K1.out.trans HKYW.out⟩
 have HMd:=Lib.hid fun W' (k:Kp W W')=>mode_yes p s m W' w.heap.size (Pr.at_kp HAT.out k) (Nat.le_trans HBW.out k.size) hmo
 rw[hrm] at HRm
 have HJ:=Lib.hid hj
 have hj0:(0:Int)≤(j:Int):=by omega
 clear hmo hrm hj
 go_upto_region 6 with (first | (go_at_call 18;go_fit (HMd.out w3 K3.out);rintro r w4 ⟨rfl,k4⟩) | fail)
 have kA:=k4.alloc (.cells #[.string m.name,.slice m.fa m.fs.length m.fc,.slice m.ea m.es.length m.ec] 41)
 have hm:=BoxV.new w4 m.cells 41 _ rfl
 have hmE:(w4.alloc (.cells #[.string m.name,.slice m.fa m.fs.length m.fc,.slice m.ea m.es.length m.ec] 41))=(w4.alloc (.cells m.cells.toArray 41)):=rfl
 rw[← hmE] at hm
 have hlt4:w4.heap.size<(w4.alloc (.cells #[.string m.name,.slice m.fa m.fs.length m.fc,.slice m.ea m.es.length m.ec] 41)).heap.size:=by simp
 clear hmE
 generalize World.alloc w4 _=X0 at *
 have K4:=Lib.hid (K3.out.trans kA)
 have HM:=Lib.hid hm
 clear q0 q1 q2 q3 q4 k4 kA hm
 have hq:=H0.out.kp K4.out
 have q0:=hq.cell 0 rfl;have q1:=hq.cell 1 rfl;have q2:=hq.cell 2 rfl;have q3:=hq.cell 3 rfl;have q4:=hq.cell 4 rfl
 clear hq
 go_upto_region 7 with (first | (go_at_call 19;go_fit (HRm.out X0 K4.out);rintro r X ⟨rfl,k5⟩) | fail)
 have HKX:=Lib.hid (K4.out.trans k5)
 have HMX:=Lib.hid (HM.out.kp k5)
 clear q0 q1 q2 q3 q4 k5
 have hq:=H0.out.kp HKX.out
 have q0:=hq.cell 0 rfl;have q1:=hq.cell 1 rfl;have q2:=hq.cell 2 rfl;have q3:=hq.cell 3 rfl;have q4:=hq.cell 4 rfl
 clear hq
 have hSd:X.drew.cell? ⟨w.heap.size,0,none⟩=some (.slice p.sa p.ss.length p.sc)∧X.drew.cell? ⟨w.heap.size,1,none⟩=some (.slice p.pa p.ps.length p.pc)∧X.drew.cell? ⟨w.heap.size,2,none⟩=some (.slice p.ma p.ms.length p.mc)∧X.drew.cell? ⟨w.heap.size,3,none⟩=some (.int .i64 p.tn)∧X.drew.cell? ⟨w.heap.size,4,none⟩=some (.int .i64 p.td):=keep5 (Kp.refl X).drew ⟨q0,q1,q2,q3,q4⟩
 have HSd:=Lib.hid hSd
 clear q0 q1 q2 q3 q4
 refine wp_region_held_drew (S:=fun w'=>w'.cell? ⟨w.heap.size,0,none⟩=some (.slice p.sa p.ss.length p.sc)∧w'.cell? ⟨w.heap.size,1,none⟩=some (.slice p.pa p.ps.length p.pc)∧w'.cell? ⟨w.heap.size,2,none⟩=some (.slice p.ma p.ms.length p.mc)∧w'.cell? ⟨w.heap.size,3,none⟩=some (.int .i64 p.tn)∧w'.cell? ⟨w.heap.size,4,none⟩=some (.int .i64 p.td)) (by kernel_rfl) hSd (fun hHeld=>?_)
 clear hSd
 refine tk 0 ?_;refine tk 1 ?_;refine tk 2 ?_;refine tk 3 ?_;refine tk 4 ?_;refine tk 5 ?_;refine tk 7 ?_;(try simp only[Act.put,List.getElem_toArray,List.getElem_cons_zero,List.getElem_cons_succ,List.setIfInBounds_toArray,List.set_cons_zero,List.set_cons_succ])
 refine cm 6 (fun K hK=>?_)
 (go_simp;go_fit (HNa.out _ (HKX.out.trans (Kp.refl X).drew));rintro r w6 ⟨v6,rfl,hO6⟩)
 refine hK.out _ _ (keep5 hO6.1 HSd.out) (fun hHeld=>?_)
 clear hK K
 obtain⟨na,nc,rfl,hn6⟩:=hO6.sl
 refine cm 8 (fun K hK=>?_)
 (go_simp;go_fit (HRn.out _ (HKX.out.trans ((Kp.refl X).drew.trans hO6.1)));rintro r w7 ⟨v7,rfl,hO7⟩)
 refine hK.out _ _ (keep5 (hO6.1.trans hO7.1) HSd.out) (fun hHeld=>?_)
 clear hK K
 obtain⟨ra,rc,rfl,hn7⟩:=hO7.sl
 refine cm 9 (fun K hK=>?_)
 (go_simp;go_fit (eqS_self na ra nc rc (nmsF p) w7 (hn6.kp hO7.1) hn7 hnl2);rintro r w8 ⟨rfl,k8⟩)
 refine hK.out _ _ (keep5 (hO6.1.trans (hO7.1.trans k8)) HSd.out) (fun hHeld=>?_)
 clear hK K
 refine tk 10 ?_;refine tk 11 ?_;(try simp only[Act.put,List.getElem_toArray,List.getElem_cons_zero,List.getElem_cons_succ,List.setIfInBounds_toArray,List.set_cons_zero,List.set_cons_succ])
 refine wpAnyH_done (by kernel_rfl) ?_ _
 have HKY:=Lib.hid ((Kp.refl X).drew.trans (hO6.1.trans (hO7.1.trans k8)))
 clear hn6 hn7 hO6 hO7 k8 hHeld
 obtain⟨Y,hY⟩:∃ Y:World,Y=w8:=⟨_,rfl⟩
 subst hY
 have HMY:=Lib.hid (HMX.out.kp HKY.out)
 have HKYW:=Lib.hid (HKX.out.trans HKY.out)
 have hq:=H0.out.kp HKYW.out
 have q0:=hq.cell 0 rfl;have q1:=hq.cell 1 rfl;have q2:=hq.cell 2 rfl;have q3:=hq.cell 3 rfl;have q4:=hq.cell 4 rfl
 clear hq
 have kq:=(Kp.refl Y).alloc (.cells #[.slice p.sa p.ss.length p.sc,.slice p.pa p.ps.length p.pc,.slice p.ma p.ms.length p.mc,.int .i64 p.tn,.int .i64 p.td] 27)
 have hqb:=BoxV.new Y p.cells 27 _ rfl
 have hqE:(Y.alloc (.cells #[.slice p.sa p.ss.length p.sc,.slice p.pa p.ps.length p.pc,.slice p.ma p.ms.length p.mc,.int .i64 p.tn,.int .i64 p.td] 27))=(Y.alloc (.cells p.cells.toArray 27)):=rfl
 rw[← hqE] at hqb
 clear hqE
 go_upto_region 12 with fail
 generalize World.alloc Y _=Z at *
 clear q0 q1 q3 q4
 have HQB:=Lib.hid hqb
 have HKZ:=Lib.hid (HKYW.out.trans kq)
 have HMZ:=Lib.hid (HMY.out.kp kq)
 have HYK:=Lib.hid kq
 have HYZ:=Lib.hid (show Y.heap.size<Z.heap.size from hqb.2.2)
 clear q2 hqb
 have q2:=(H0.out.kp HKZ.out).cell 2 rfl
 have HCl:=Lib.hid (cloneMode p.ma p.mc p.ms Z w.heap.size (HAT.out.2.2.2.1.kp HKZ.out) (by have:=HAT.out.1.2.2;omega))
 clear kq
 go_upto_region 13 with (first | (go_at_call 23;go_fit HCl.out;rintro r w9 ⟨v9,rfl,hO9⟩;obtain⟨a9,c9,rfl,hc9,hr9⟩:=OwnV.row (cells:=Mo.cells) (k:=3) (fun _=>rfl) (fun x=>oneC rfl) hO9;have hqb:=HQB.out.kp hO9.1;have z2:=hqb.cell 2 rfl;have g2:=hqb.2.1 2;clear hqb) | fail)
 obtain⟨b9,o9,e9,hb9,hm9⟩:=hr9 j m HJ.out
 subst e9
 have K9:=Lib.hid hO9.1
 have HRow:=Lib.hid hr9
 have HB9:=Lib.hid (show Z.heap.size≤b9 from (hO9.2.lt b9 (by simp[Value.ownBlock])).1)
 have HF9:=Lib.hid (show ∀ i,w9.frozen? ⟨b9,i,none⟩=false from fun i=>OwnV.froz hO9 i)
 have hqs:=(HQB.out.kp hO9.1).set (i:=2) (by simp[Pr.cells]) (.slice (some ⟨b9,o9,none⟩) p.ms.length c9)
 have kqs:Kp Y (w9.setCell ⟨Y.heap.size,2,none⟩ (.slice (some ⟨b9,o9,none⟩) p.ms.length c9)):=(HYK.out.trans hO9.1).set (Nat.le_refl _) _
 have hrs:RowV Mo.cells 3 (w9.setCell ⟨Y.heap.size,2,none⟩ (.slice (some ⟨b9,o9,none⟩) p.ms.length c9)) w9.heap.size (some ⟨b9,o9,none⟩) p.ms:=rowM_off hr9 (by have:=HYZ.out;have:=HB9.out;omega)
 have hfs:∀ i,(w9.setCell ⟨Y.heap.size,2,none⟩ (.slice (some ⟨b9,o9,none⟩) p.ms.length c9)).frozen? ⟨b9,i,none⟩=false:=fun i=>by rw[World.frozen?_setCell];exact HF9.out i
 have hss:(w9.setCell ⟨Y.heap.size,2,none⟩ (.slice (some ⟨b9,o9,none⟩) p.ms.length c9)).heap.size=w9.heap.size:=by simp
 clear q2 z2 g2 hO9 hr9 hm9 hb9
 generalize World.setCell w9 _ _=U at *
 have hjl:(j:Int)<(p.ms.length:Int):=by
  have:=List.getElem?_eq_some_iff.mp HJ.out
  obtain⟨hh,_⟩:=this
  omega
 have hmu:=HMZ.out.kp K9.out
 have hmU:=HMZ.out.kp (HYK.out.trans K9.out |> fun _=>K9.out)
 have HQS:=Lib.hid hqs
 have HKU:=Lib.hid kqs
 have HHR:=Lib.hid hrs
 have u2:=hqs.cell 2 (by rfl)
 have hmY:=HMY.out.kp kqs
 have m0:=hmY.cell 0 rfl
 have m1:=hmY.cell 1 rfl
 have m2:=hmY.cell 2 rfl
 have f0:=hfs (o9+j*3)
 have f1:=hfs (o9+j*3+1)
 have f2:=hfs (o9+j*3+2)
 obtain⟨b9',o9',e9,hb9,hc9s⟩:=hrs j m HJ.out
 cases e9
 have c0:U.cell? ⟨b9,o9+j*3,none⟩=some (.string m.name):=hc9s 0 _ rfl
 have c1:U.cell? ⟨b9,o9+j*3+1,none⟩=some (.slice m.fa m.fs.length m.fc):=hc9s 1 _ rfl
 have c2:U.cell? ⟨b9,o9+j*3+2,none⟩=some (.slice m.ea m.es.length m.ec):=hc9s 2 _ rfl
 have d1:(U.setCell ⟨b9,o9+j*3,none⟩ (.string m.name)).cell? ⟨b9,o9+j*3+1,none⟩=some (.slice m.fa m.fs.length m.fc):=cellV_ne (fun e=>by injection e with _ e2;omega) |>.trans c1
 have d2:((U.setCell ⟨b9,o9+j*3,none⟩ (.string m.name)).setCell ⟨b9,o9+j*3+1,none⟩ (.slice m.fa m.fs.length m.fc)).cell? ⟨b9,o9+j*3+2,none⟩=some (.slice m.ea m.es.length m.ec):=(cellV_ne (fun e=>by injection e with _ e2;omega)).trans ((cellV_ne (fun e=>by injection e with _ e2;omega)).trans c2)
 have g1:(U.setCell ⟨b9,o9+j*3,none⟩ (.string m.name)).frozen? ⟨b9,o9+j*3+1,none⟩=false:=by rw[World.frozen?_setCell];exact f1
 have g2:((U.setCell ⟨b9,o9+j*3,none⟩ (.string m.name)).setCell ⟨b9,o9+j*3+1,none⟩ (.slice m.fa m.fs.length m.fc)).frozen? ⟨b9,o9+j*3+2,none⟩=false:=by rw[World.frozen?_setCell,World.frozen?_setCell];exact f2
 clear hqs kqs hrs hmu hmU hmY hfs hc9s hb9
 go_upto_region 14 with fail
 have hbY:Y.heap.size≤b9:=Nat.le_of_lt (Nat.lt_of_lt_of_le HYZ.out HB9.out)
 have hbn:Y.heap.size≠b9:=Nat.ne_of_lt (Nat.lt_of_lt_of_le HYZ.out HB9.out)
 have hqV:=((HQS.out.other (i:=o9+j*3) hbn (.string m.name)).other (i:=o9+j*3+1) hbn (.slice m.fa m.fs.length m.fc)).other (i:=o9+j*3+2) hbn (.slice m.ea m.es.length m.ec)
 have kV:Kp Y (((U.setCell ⟨b9,o9+j*3,none⟩ (.string m.name)).setCell ⟨b9,o9+j*3+1,none⟩ (.slice m.fa m.fs.length m.fc)).setCell ⟨b9,o9+j*3+2,none⟩ (.slice m.ea m.es.length m.ec)):=((HKU.out.set hbY _).set hbY _).set hbY _
 have hrV:=rowM_again HHR.out HJ.out rfl
 clear u2 m0 m1 m2 f0 f1 f2 c0 c1 c2 d1 d2 g1 g2
 generalize World.setCell (World.setCell (World.setCell U _ _) _ _) _ _=V at *
 have hpV:=Pr.at_kp HAT.out (HKYW.out.trans kV)
 have hle:w.heap.size≤w9.heap.size:=Nat.le_trans HBW.out (Nat.le_trans HKZ.out.size K9.out.size)
 have hcV:Pr.at ({p with ma:=some ⟨b9,o9,none⟩,mc:=c9}:Pr) V w9.heap.size :=
  have h:=Pr.at_up hpV hle
  ⟨h.1,h.2.1,h.2.2.1,hrV,h.2.2.2.2⟩
 have hSm:Calls Tryz.prog 24 #[.agg #[.slice p.sa p.ss.length p.sc,.slice p.pa p.ps.length p.pc,.slice p.ma p.ms.length p.mc,.int .i64 p.tn,.int .i64 p.td],.agg #[.slice p.sa p.ss.length p.sc,.slice p.pa p.ps.length p.pc,.slice (some ⟨b9,o9,none⟩) p.ms.length c9,.int .i64 p.tn,.int .i64 p.td]] V fun e w'=>e=.returned (.bool true)∧Kp V w':=by
  have:=rsame_any p {p with ma:=some ⟨b9,o9,none⟩,mc:=c9} V w9.heap.size (Pr.at_up hpV hle) hcV
  rw[show peqB p {p with ma:=some ⟨b9,o9,none⟩,mc:=c9}=true from peqB_refl p] at this
  exact this
 have HS:=Lib.hid hSm
 have KV:=Lib.hid (HKYW.out.trans kV)
 have v0:V.cell? ⟨Y.heap.size,0,none⟩=some (.slice p.sa p.ss.length p.sc):=hqV.cell 0 rfl
 have v1:V.cell? ⟨Y.heap.size,1,none⟩=some (.slice p.pa p.ps.length p.pc):=hqV.cell 1 rfl
 have v2:V.cell? ⟨Y.heap.size,2,none⟩=some (.slice (some ⟨b9,o9,none⟩) p.ms.length c9):=hqV.cell 2 rfl
 have v3:V.cell? ⟨Y.heap.size,3,none⟩=some (.int .i64 p.tn):=hqV.cell 3 rfl
 have v4:V.cell? ⟨Y.heap.size,4,none⟩=some (.int .i64 p.td):=hqV.cell 4 rfl
 clear hqV kV hrV hpV hcV hSm hle hbY hbn
 have hq:=H0.out.kp KV.out
 have q0:=hq.cell 0 rfl;have q1:=hq.cell 1 rfl;have q2:=hq.cell 2 rfl;have q3:=hq.cell 3 rfl;have q4:=hq.cell 4 rfl
 clear hq
 go_wp2_with (first | (go_at_call 24;go_fit HS.out;rintro r w10 ⟨rfl,k10⟩) | fail)
 all_goals
  go_ret
  exact⟨rfl,K1.out.trans (KV.out.trans k10)⟩
end Go.Proofs.YteidgoldnllabaaGreatDoor
