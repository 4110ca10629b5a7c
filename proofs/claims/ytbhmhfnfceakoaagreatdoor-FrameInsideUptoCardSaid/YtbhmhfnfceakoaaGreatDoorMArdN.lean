/-
  Walks: linear.around.
-/
import Derived.Deep.CutRange
import Derived.Test.YtbhmhfnfceakoaaGreatDoorMRepN
import Derived.Test.YtbhmhfnfceakoaaGreatDoorMLinP
import Derived.Deep.DeepFit
import Derived.Laws.EntriesVeiled
import Derived.Test.YtbhmhfnfceakoaaGreatDoorMEchM
import Derived.Deep.RegionHeld3
import Derived.Test.YtbhmhfnfceakoaaGreatDoorMBndN
import Derived.Test.YtbhmhfnfceakoaaGreatDoorMMulN
namespace Go.Proofs.YtbhmhfnfceakoaaGreatDoor
open Go.RowKit
open Lib (hid)
theorem set3of7 {w:World} {g b:Nat} (n:b≠g) {v0 v1 v2 x0 x1 x2 x3 x4 x5 x6:Value} (h:w.cell? ⟨b,0,none⟩=some v0∧w.cell? ⟨b,1,none⟩=some v1∧w.cell? ⟨b,2,none⟩=some v2) :
  (fun W:World=>W.cell? ⟨b,0,none⟩=some v0∧W.cell? ⟨b,1,none⟩=some v1∧W.cell? ⟨b,2,none⟩=some v2)
   (((((((w.setCell ⟨g,0,none⟩ x0).setCell ⟨g,1,none⟩ x1).setCell ⟨g,2,none⟩ x2).setCell ⟨g,3,none⟩ x3).setCell ⟨g,4,none⟩ x4).setCell ⟨g,5,none⟩ x5).setCell ⟨g,6,none⟩ x6):=by
 have ne (i j:Nat):(⟨g,i,none⟩:Addr)≠⟨b,j,none⟩:=fun e=>n (by injection e with e1;exact e1.symm)
 have key (j:Nat):(((((((w.setCell ⟨g,0,none⟩ x0).setCell ⟨g,1,none⟩ x1).setCell ⟨g,2,none⟩ x2).setCell ⟨g,3,none⟩ x3).setCell ⟨g,4,none⟩ x4).setCell ⟨g,5,none⟩ x5).setCell ⟨g,6,none⟩ x6).cell? ⟨b,j,none⟩=w.cell? ⟨b,j,none⟩:=by
  rw[cell_set_ne (ne 6 j),cell_set_ne (ne 5 j),cell_set_ne (ne 4 j),cell_set_ne (ne 3 j),cell_set_ne (ne 2 j),cell_set_ne (ne 1 j),cell_set_ne (ne 0 j)]
 simp only[key]
 exact h
theorem tabM_const_row (n:Nat) (X:PI):(List.range n).map (fun _=>X)=List.replicate n X:=by
 rw[List.map_const',List.length_range]
theorem plR_rep (n:Nat) (y:RI):plR (List.replicate n y)=rowF n (fun _=>y.pl):=by
 unfold rowF plR
 rw[List.map_replicate,tabM_const_row]
set_option maxRecDepth 100000 in
set_option maxHeartbeats 8000000 in
theorem laround_any (n:Nat) (d:RD) (w:World) (h1:1≤n) (h8:n≤8) (hd:d.ok w) (hp:0≤d.dy.iv) :
   Calls Tryz.prog 144 #[.int .i64 n,.agg #[.bool d.neg,.slice d.a d.xs.length d.c,.int .i64 d.e]] w (MatV w (tabM n n fun _ _=>⟨d.dy.opp,d.dy,false⟩)):=by
 have k0:=(Kp.refl w).alloc (.cells #[.bool d.neg,.slice d.a d.xs.length d.c,.int .i64 d.e] 38)
 have HD:=hid (hd.kp k0)
 obtain⟨X,hX⟩:∃ X:PI,X=⟨d.dy.opp,d.dy,false⟩:=⟨_,rfl⟩
 have HX:=hid hX
 have HK:=hid k0
 have HP:=hid (show ∀ z:RD,z.dy=d.dy.opp→z.dy.iv≤d.dy.iv from fun z hz=>by rw[hz,Dy.opp_iv];omega)
 have H18:=hid (And.intro h1 h8)
 rw[← hX]
 clear hd hX hp k0
 go_enter Tryz.func144,Tryz.ntmps144
 go_upto_region 1 with fail
 generalize hW:w.alloc _=W at *
 have hS0:W.cell? ⟨w.heap.size,0,none⟩=some (.bool d.neg)∧W.cell? ⟨w.heap.size,1,none⟩=some (.slice d.a d.xs.length d.c)∧W.cell? ⟨w.heap.size,2,none⟩=some (.int .i64 d.e):=by rw[← hW];simp
 have hsz:w.heap.size<W.heap.size:=by rw[← hW];simp
 generalize w.heap.size=B at *
 clear hW
 go_cut [5] from 7 to 10 (fun s wx=>∃ b1:Nat,s=.pointer (some ⟨b1,0,none⟩)∧HasI W wx b1 X)
 case first =>
   have kd:=hid (Kp.refl W).drew
   have KZ:=hid (show Kp W (W.drew.alloc (.cells #[.bool false,.slice none 0 0,.int .i64 0,.bool false,.slice none 0 0,.int .i64 0,.bool false] 44)) from kd.out.alloc _)
   have KZ2:=hid (show Kp W (W.alloc (.cells #[.bool false,.slice none 0 0,.int .i64 0,.bool false,.slice none 0 0,.int .i64 0,.bool false] 44)).drew from ((Kp.refl W).alloc _).drew)
   have HS0:=hid hS0
   have hSd:=keep3 kd.out hS0
   have HSZ:=hid (keep3 KZ2.out hS0)
   have BZ:=hid (show Box7 (W.alloc (.cells #[.bool false,.slice none 0 0,.int .i64 0,.bool false,.slice none 0 0,.int .i64 0,.bool false] 44)).drew W.heap.size _ _ _ _ _ _ _∧Frz (W.alloc (.cells #[.bool false,.slice none 0 0,.int .i64 0,.bool false,.slice none 0 0,.int .i64 0,.bool false] 44)).drew W.heap.size from ⟨Box7.new W.drew _ _ _ _ _ _ _ _,Frz.new W.drew _ _ _ _ _ _ _ _⟩)
   have n1:B≠W.heap.size:=Nat.ne_of_lt hsz
   clear hS0
   go_region_held3 (fun w'=>w'.cell? ⟨B,0,none⟩=some (.bool d.neg)∧w'.cell? ⟨B,1,none⟩=some (.slice d.a d.xs.length d.c)∧w'.cell? ⟨B,2,none⟩=some (.int .i64 d.e)) (first | with_reducible assumption | with_reducible exact keep3 (by assumption) (by assumption) | with_reducible exact keep3 ((Kp.refl _).alloc _) (by assumption) | with_reducible exact set3of7 (by assumption) (by assumption) | with_reducible exact HSZ.out | fail)
     (first
       | (go_at_call 67; (with_reducible refine (Neg_ok d _ (HD.out.kp kd.out)).mono ?_); rintro e v1 ⟨z, rfl, rz, dz, vz, j1⟩
          have KJ:=hid (kd.out.trans j1)
          have hS1:=keep3 KJ.out HS0.out
          have GF:=hid KJ.out.size
          have n3:B≠v1.heap.size:=by have:=GF.out;omega
          have OZ:=hid (And.intro (show z.ok v1 from ⟨rz,vz (Dy.opp_ok2 (rdok_dy HD.out))⟩) (show z.dy=d.dy.opp from dz))
          clear rz dz vz)
       | (go_at_call 67; (with_reducible refine (Neg_ok d _ (HD.out.kp KZ2.out)).mono ?_); rintro e v1 ⟨z, rfl, rz, dz, vz, j1⟩
          have KJ:=hid (KZ2.out.trans j1)
          have hS1:=keep3 KJ.out HS0.out
          have GF:=hid (Nat.le_refl W.heap.size)
          have BF:=hid (And.intro (BZ.out.1.kp j1) (BZ.out.2.kp BZ.out.1 j1))
          have OZ:=hid (And.intro (show z.ok v1 from ⟨rz,vz (Dy.opp_ok2 (rdok_dy HD.out))⟩) (show z.dy=d.dy.opp from dz))
          clear rz dz vz
          obtain⟨⟨q0,q1,q2,q3,q4,q5,q6⟩,f0,f1,f2,f3,f4,f5,f6⟩:=id BF.out)
       | fail)
   all_goals
     go_wp2_with fail
     go_meet
     case rel=>first
       | exact⟨_,rfl,hasI_store BF.out.1 BF.out.2 nofun nofun nofun nofun nofun nofun nofun (z:=⟨z,d,false⟩) ⟨OZ.out.1.1,(HD.out.kp KJ.out).1⟩ (by show PI.mk z.dy d.dy false=X;rw[OZ.out.2,HX.out]) (vl_mk2 OZ.out.1.2 HD.out.2 (HP.out z OZ.out.2)) KJ.out GF.out⟩
       | exact⟨_,rfl,hasI_alloc (z:=⟨z,d,false⟩) ⟨OZ.out.1.1,(HD.out.kp KJ.out).1⟩ (by show PI.mk z.dy d.dy false=X;rw[OZ.out.2,HX.out]) (vl_mk2 OZ.out.1.2 HD.out.2 (HP.out z OZ.out.2)) KJ.out _⟩
 case rest =>
 obtain⟨b1,rfl,hI⟩:=hcut
 obtain⟨W1,hW1⟩:∃ X:World,X=wc:=⟨_,rfl⟩
 subst hW1
 obtain⟨z,hB,hzr,hzp,hzv,hk,hg⟩:=hI
 have HB:=hid hB
 have HZ:=hid (And.intro hzr (And.intro hzp hzv))
 have HKW:=hid (HK.out.trans hk)
 clear hB hzr hzp hzv hk hg hS0 hsz HP HX HD
 go_wp2_with fail
 go_loopg [6,12] n (fun q v t wr=>∃ (R:List (List RI)) (us:List Value),R.length+q=n∧t=.int .i64 (R.length:Int)∧OwnM W1 wr v us R∧plM R=tabM R.length n (fun _ _=>X)∧okM R)
 case atStart=>exact⟨[],[],by simp,rfl,OwnM.nil (Kp.refl _),rfl,fun r h=>by simp at h⟩
 case round =>
 obtain⟨R,us,hRq,rfl,hO,hpl,hok⟩:=hrel
 have HH:=hid (And.intro hpl hok)
 have HO:=hid hO
 have HKR:=hid hO.1
 clear hpl hok hO
 by_cases hlt:R.length<n
 rotate_left
 · have hRe:R.length=n:=by omega
   obtain⟨va,vc,rfl,hvc1,hvc2,hrm⟩:=HO.out.value
   have HRe:=hid (And.intro hRe hrm)
   clear hRe hRq hrm
   go_wp2_with fail
   refine bodyPost_ret (v:=.slice va R.length vc) (by simp[results,Tryz.results144,go_sem]) rfl ?_
   refine⟨va,R,vc,rfl,HRe.out.2,?_,HH.out.2,by have:=HRe.out.1;have:=H18.out.2;omega,HKW.out.trans HKR.out⟩
   rw[HH.out.1,HRe.out.1]
 have Hlt:=hid (And.intro hlt hRq)
 clear hRq
 obtain⟨⟨s0,s1,s2,s3,s4,s5,s6⟩,_⟩:=HB.out.kp HKR.out
 have hj1:(0:Int)≤(R.length:Int):=by omega
 have hj2:(R.length:Int)<(n:Int):=by omega
 have kA:=(Kp.refl wr).alloc (.cells #[.bool z.lo.neg,.slice z.lo.a z.lo.xs.length z.lo.c,.int .i64 z.lo.e,.bool z.hi.neg,.slice z.hi.a z.hi.xs.length z.hi.c,.int .i64 z.hi.e,.bool z.all] 44)
 have HR:=hid (repeat_any z wr.heap.size 1 n (wr.alloc (.cells #[.bool z.lo.neg,.slice z.lo.a z.lo.xs.length z.lo.c,.int .i64 z.lo.e,.bool z.hi.neg,.slice z.hi.a z.hi.xs.length z.hi.c,.int .i64 z.hi.e,.bool z.all] 44)) (HZ.out.1.kp (HKR.out.trans kA)) (by simp) H18.out.1 H18.out.2)
 have HKA:=hid kA
 clear kA
 go_wp2_with fail
 go_fit HR.out
 rintro e v1 ⟨g,rfl,hrow,j1,hg1,hg2⟩
 have kB:=(Kp.refl v1).alloc (.cells #[.slice (some ⟨g,0,none⟩) (List.replicate n z).length n] 24)
 have HOA:=HO.out.kp (HKA.out.trans (j1.trans kB))
 have hrowA:=hrow.kp kB
 have hlen:(List.replicate n z).length=n:=List.length_replicate
 have hoff:=(show ∀ u:Value,OwnM W1 wr u us R→Off u (some ⟨g,0,none⟩) (v1.alloc (.cells #[.slice (some ⟨g,0,none⟩) (List.replicate n z).length n] 24)) from by
   intro u hu p hp
   cases hp
   refine⟨fun e=>?_,by simp;omega⟩
   have h1:=hu.new g e
   have h2:=HKA.out.size
   simp at hg1
   omega) _ HO.out
 rw[hlen] at HOA hrowA hoff
 have hcl2:(List.replicate n z).length≤1100000:=by have:=H18.out.2;omega
 have hRl:R.length+1≤9000000:=by have:=H18.out.2;omega
 have hcell:(v1.alloc (.cells #[.slice (some ⟨g,0,none⟩) n n] 24)).cell? ⟨v1.heap.size,0,none⟩=some (.slice (some ⟨g,0,none⟩) (List.replicate n z).length n):=by rw[hlen];simp
 have HRP:=hid (show plR (List.replicate n z)=rowF n (fun _=>X) by rw[plR_rep,HZ.out.2.1])
 have HRV:=hid (show ∀ x∈List.replicate n z,x.vl=true from fun x hx=>by rw[List.eq_of_mem_replicate hx];exact HZ.out.2.2)
 have HCL:=hid hcl2
 have HRW:=hid hrowA
 clear hrow hg1 hg2 kB hlen hcl2 hrowA s0 s1 s2 s3 s4 s5 s6
 go_wp2_with (at_builtin;refine wpList_append_rowi rfl _ _ rfl W1 _ us R rfl HOA _ _ rfl (some ⟨g,0,none⟩) n (List.replicate n z) HRW.out hoff HCL.out hcell hRl ?_;intro v' us' w9 hM9)
 go_roundg (gk-1)
 case measure=>have:=Hlt.out;omega
 case rel =>
 refine⟨R++[List.replicate n z],us',by have:=Hlt.out;rw[List.length_append,List.length_singleton];omega,by rw[List.length_append,List.length_singleton];go_num,hM9,?_,okM_snoc HH.out.2 HRV.out⟩
 rw[plM_snoc,HH.out.1,List.length_append,List.length_singleton,tabM_snoc,HRP.out]
theorem lprecise_any (p:Int) (w:World) :
  Calls Tryz.prog 105 #[.int .i64 p] w fun e w'=>e=.returned (.bool (preB p))∧w=w':=by
 by_cases h1:8≤p
 rotate_left
 ·have H:=hid (show preB p=false from decide_eq_false (by omega))
  go_enter Tryz.func105,Tryz.ntmps105
  go_wp2_with fail
  go_ret
  exact⟨ret_bool (by first | exact H.out.symm | (rw[H.out];simp;omega)),rfl⟩
 by_cases h2:p≤512
 ·have H:=hid (show preB p=true from decide_eq_true ⟨h1,h2⟩)
  go_enter Tryz.func105,Tryz.ntmps105
  go_wp2_with fail
  go_ret
  exact⟨ret_bool (by first | exact H.out.symm | (rw[H.out];simp;omega)),rfl⟩
 have H:=hid (show preB p=false from decide_eq_false (by omega))
 go_enter Tryz.func105,Tryz.ntmps105
 go_wp2_with fail
 go_ret
 exact⟨ret_bool (by first | exact H.out.symm | (rw[H.out];simp;omega)),rfl⟩
set_option maxHeartbeats 2000000 in
theorem ln11_any (x:RD) (w:World) (hx:x.rd w) :
  Calls Tryz.prog 168 #[.agg #[.bool x.neg,.slice x.a x.xs.length x.c,.int .i64 x.e]] w fun e w'=>e=.returned (.bool (!x.vl))∧Kp w w':=by
 have k1:=(Kp.refl w).alloc (.cells #[.bool x.neg,.slice x.a x.xs.length x.c,.int .i64 x.e] 38)
 have HX:=hid (hx.kp k1)
 clear hx
 go_enter Tryz.func168,Tryz.ntmps168
 go_upto_region 1 with fail
 generalize hW:w.alloc _=W at *
 obtain⟨s0,s1,s2⟩:W.cell? ⟨w.heap.size,0,none⟩=some (.bool x.neg)∧W.cell? ⟨w.heap.size,1,none⟩=some (.slice x.a x.xs.length x.c)∧W.cell? ⟨w.heap.size,2,none⟩=some (.int .i64 x.e):=by rw[← hW];simp
 clear hW
 go_wp2_with fail
 go_fit (Valid_raw x _ HX.out)
 rintro e w1 ⟨rfl,k2⟩
 go_wp2_with fail
 go_ret
 exact⟨rfl,k1.trans k2⟩
set_option maxHeartbeats 2000000 in
theorem ln1_any (r:List RD) (n:Nat) (ra:Option Addr) (rc bn:Nat) (w:World) (hr:RowD w ra r) (hrl:r.length≤1100000)
  (h1:w.cell? ⟨bn,0,none⟩=some (.int .i64 (n:Int))) :
  Calls Tryz.prog 167 #[.slice ra r.length rc,.pointer (some ⟨bn,0,none⟩)] w fun e w'=>e=.returned (.bool (badF n r))∧Kp w w':=by
 have hp:AnsD Tryz.prog 168 #[] w r (fun x=>!x.vl):=⟨fun _ _=>by kernel_rfl,fun x hx w1 k=>ln11_any x w1 ((hr.rd hx).kp k)⟩
 have HC:=hid (containsD ra r rc _ _ w _ hrl hr hp)
 clear hp hr
 by_cases hlen:r.length=n
 rotate_left
 ·have hne:((r.length:Int) != (n:Int))=true:=by simpa using (by omega:¬ (r.length:Int)=(n:Int))
  have HB:=hid (show badF n r=true by unfold badF;rw[decide_eq_true (by simpa using hlen)];rfl)
  clear hlen
  go_enter Tryz.func167,Tryz.ntmps167
  go_wp2_with fail
  go_ret
  exact⟨ret_bool HB.out.symm,.refl _⟩
 have hne:((r.length:Int) != (n:Int))=false:=by rw[hlen];simp
 have HB:=hid (show badF n r=r.any (fun x=>!x.vl) by unfold badF;rw[decide_eq_false (by simpa using hlen)];rfl)
 clear hlen
 go_enter Tryz.func167,Tryz.ntmps167
 go_wp2_with fail
 go_fit HC.out
 rintro e w1 ⟨rfl,k1⟩
 go_wp2_with fail
 go_ret
 exact⟨ret_bool HB.out.symm,k1⟩
theorem sqN_any (m:List (List RD)):sqN m=(decide (1≤m.length∧m.length≤8)&&!m.any (badF m.length)):=by
 rw[Bool.eq_iff_iff,sqN_iff,Bool.and_eq_true,decide_eq_true_eq,Bool.not_eq_true',List.any_eq_false]
 refine and_congr_right fun _=>forall_congr' fun r=>forall_congr' fun _=>?_
 unfold badF
 simp
set_option maxHeartbeats 4000000 in
theorem lnumbers_any (m:List (List RD)) (a:Option Addr) (c:Nat) (w:World) (hm:RowN w a m) (hl:m.length≤1100000) :
  Calls Tryz.prog 106 #[.slice a m.length c] w fun e w'=>e=.returned (.bool (sqN m))∧Kp w w':=by
 have HV:=hid (sqN_any m)
 have HM:=hid hm
 have kk:=(Kp.refl w).alloc (.cells #[.int .i64 (m.length:Int)] 3)
 clear hm
 by_cases h1:m.length<1
 ·have H:=hid (show sqN m=false by rw[HV.out,decide_eq_false (by omega)];rfl)
  have g1:(m.length:Int)<1:=by omega
  clear h1 HV
  go_enter Tryz.func106,Tryz.ntmps106
  go_wp2_with fail
  go_ret
  exact⟨ret_bool H.out.symm,kk⟩
 have g1:¬ (m.length:Int)<1:=by omega
 by_cases h2:8<m.length
 ·have H:=hid (show sqN m=false by rw[HV.out,decide_eq_false (by omega)];rfl)
  have g2:(8:Int)<(m.length:Int):=by omega
  clear h1 h2 HV
  go_enter Tryz.func106,Tryz.ntmps106
  go_wp2_with fail
  go_ret
  exact⟨ret_bool H.out.symm,kk⟩
 have g2:¬ (8:Int)<(m.length:Int):=by omega
 have H:=hid (show sqN m=!m.any (badF m.length) by rw[HV.out,decide_eq_true (by omega)];rfl)
 have hc0:(w.alloc (.cells #[.int .i64 (m.length:Int)] 3)).cell? ⟨w.heap.size,0,none⟩=some (.int .i64 (m.length:Int)):=by simp
 have HC:=hid (containsN a m c 167 #[.pointer (some ⟨w.heap.size,0,none⟩)] _ (badF m.length) hl (HM.out.kp kk) ⟨fun _ _=>by kernel_rfl,fun r hr ra rc w2 k hrow=>ln1_any r m.length ra rc _ w2 hrow.1 hrow.2 (k.cell hc0)⟩)
 clear h1 h2 HV
 go_enter Tryz.func106,Tryz.ntmps106
 go_upto_region 3 with fail
 generalize w.alloc _=W at *
 go_wp2_with fail
 go_fit HC.out
 rintro e w1 ⟨rfl,k1⟩
 go_wp2_with fail
 go_ret
 exact⟨ret_bool (by rw[H.out]),kk.trans k1⟩
theorem sqN_cols {m:List (List RD)} (h:sqN m=true):vlN m=true∧colsN m=m.length∧1≤m.length∧m.length≤8:=by
 have h1:=(sqN_iff.1 h).1
 unfold sqN at h
 rw[Bool.and_eq_true,decide_eq_true_eq] at h
 exact⟨h.1,h.2.symm,h1⟩
theorem ofF_sq {m:List (List RD)} (h:sqN m=true):ofF m=tabM m.length m.length (fun i j=>ptP (atN m i j)):=by
 obtain⟨h1,h2,_⟩:=sqN_cols h
 unfold ofF
 rw[if_pos h1,h2]
theorem resQ_congr {n p:Nat} {V V' A A':Nat→Nat→PI} (hn:1≤n) (hV:∀ i j,i<n→j<n→V i j=V' i j) (hA:∀ i j,i<n→j<n→A i j=A' i j):resQ n p V A=resQ n p V' A':=by
 unfold resQ
 refine tabM_congr fun i j hi hj=>?_
 rw[dotF_congr (n-1) fun t ht=>⟨hV i t hi (by omega),hA t j (by omega) hj⟩]
theorem corB_off {a v:List (List RD)} {p:Int} (h:corB a v p=false):corC a v p=([],1):=by unfold corC;rw[if_neg (by rw[h];decide)]
set_option maxRecDepth 100000 in
set_option maxHeartbeats 8000000 in
theorem lcorrect_any (m v:List (List RD)) (a b:Option Addr) (c d:Nat) (p:Int) (w:World) (hm:RowN w a m) (hv:RowN w b v) (hl:m.length≤1100000) (hl2:v.length≤1100000) (hT:Tab w) :
   Calls Tryz.prog 75 #[.slice a m.length c,.slice b v.length d,.int .i64 p] w (MatE w (corC m v p).1 (corC m v p).2):=by
 have HM:=hid hm
 have HV:=hid hv
 have HT:=hid hT
 obtain⟨D,hD⟩:∃ D,D=corC m v p:=⟨_,rfl⟩
 have HD:=hid hD
 rw[← hD]
 clear hm hv hT hD
 go_enter Tryz.func75,Tryz.ntmps75
 go_wp2_with fail
 go_fit (lprecise_any p _)
 rintro e w0 ⟨rfl,rfl⟩
 cases hp:preB p with
 | false =>
   have HE:=hid (show D=([],1) by rw[HD.out];refine corB_off ?_;unfold corB;rw[hp];rfl)
   clear hp
   go_wp2_with fail
   rw[HE.out]
   refine bodyPost_ret (v:=.tuple #[.slice none 0 0,.int .i64 1]) (by simp[results,Tryz.results75,go_sem]) rfl ?_
   exact matE_nil rfl (Kp.refl _)
 | true =>
 have HP:=hid hp
 clear hp
 go_wp2_with fail
 go_fit (lnumbers_any m a c _ HM.out hl)
 rintro e w1 ⟨rfl,k1⟩
 cases hs:sqN m with
 | false =>
   have HE:=hid (show D=([],1) by rw[HD.out];refine corB_off ?_;unfold corB;rw[HP.out,hs];rfl)
   clear hs
   go_wp2_with fail
   rw[HE.out]
   refine bodyPost_ret (v:=.tuple #[.slice none 0 0,.int .i64 1]) (by simp[results,Tryz.results75,go_sem]) rfl ?_
   exact matE_nil rfl k1
 | true =>
 have HS:=hid hs
 have HK1:=hid k1
 clear hs
 go_wp2_with fail
 go_fit (lnumbers_any v b d _ (HV.out.kp HK1.out) hl2)
 rintro e w2 ⟨rfl,k2⟩
 have HK2:=hid (HK1.out.trans k2)
 clear k1 k2 HK1
 cases hs:sqN v with
 | false =>
   have HE:=hid (show D=([],1) by rw[HD.out];refine corB_off ?_;unfold corB;rw[HP.out,HS.out,hs];rfl)
   clear hs
   go_wp2_with fail
   rw[HE.out]
   refine bodyPost_ret (v:=.tuple #[.slice none 0 0,.int .i64 1]) (by simp[results,Tryz.results75,go_sem]) rfl ?_
   exact matE_nil rfl HK2.out
 | true =>
 have HS2:=hid hs
 clear hs
 by_cases hlen:m.length=v.length
 rotate_left
 · have HE:=hid (show D=([],1) by rw[HD.out];refine corB_off ?_;unfold corB;rw[HP.out,HS.out,HS2.out,decide_eq_false hlen];rfl)
   have hne:((m.length:Int) != (v.length:Int))=true:=by rw[bne,beq_eq_false_iff_ne.2 (by omega)];rfl
   clear hlen
   go_wp2_with fail
   rw[HE.out]
   refine bodyPost_ret (v:=.tuple #[.slice none 0 0,.int .i64 1]) (by simp[results,Tryz.results75,go_sem]) rfl ?_
   exact matE_nil rfl HK2.out
 have hne:((m.length:Int) != (v.length:Int))=false:=by rw[hlen];simp
 obtain⟨q,hq⟩:∃ q:Nat,q=p.toNat:=⟨_,rfl⟩
 have hpq:p=(q:Int):=by have:=preB_iff.1 HP.out;omega
 have hq0:8≤q:=by have:=preB_iff.1 HP.out;omega
 have hq1:q≤512:=by have:=preB_iff.1 HP.out;omega
 have HLN:=hid hlen
 have HN:=hid (sqN_cols HS.out).2.2
 have HE0:=hid (show D=corO m v q (corD m v q) by
   rw[HD.out];unfold corC
   rw[if_pos (by unfold corB;rw[HP.out,HS.out,HS2.out,decide_eq_true hlen];rfl),← hq])
 rw[hpq]
 clear hlen hq hpq HD
 go_wp2_with fail
 go_fit (mof_any b v d _ (HV.out.kp HK2.out) hl2)
 rintro e w3 ⟨a3,Z,c3,rfl,hZ,pZ,oZ,lZ,k3⟩
 have HK3:=hid (HK2.out.trans k3)
 have HZ:=hid (And.intro hZ (And.intro ((pZ.trans (ofF_sq HS2.out)).trans (by rw[← HLN.out])) oZ))
 have HlZ:=hid lZ
 clear hZ pZ oZ k3 HK2 lZ
 go_wp2_with fail
 go_fit (mof_any a m c _ (HM.out.kp HK3.out) hl)
 rintro e w4 ⟨a4,Y,c4,rfl,hY,pY,oY,lY,k4⟩
 have HK4:=hid (HK3.out.trans k4)
 have HT4:=hid (HT.out.kp HK4.out)
 have HB:=hid (by
   obtain⟨hZ,pZ,oZ⟩:=HZ.out
   have pY2:=pY.trans (ofF_sq HS.out)
   have hn:=HN.out
   have:=lbound_any Z Y a3 a4 c3 c4 m.length q w4 (hZ.kp k4) hY (vlM_tab pZ oZ hn hn) (vlM_tab pY2 oY hn hn) (tab_len pZ) (colsM_tab pZ hn.1) (tab_len pY2) (colsM_tab pY2 hn.1) hq0 hq1 HT4.out
   rw[show bndQ (resQ m.length q (atP Z) (atP Y)) q=corD m v q by
     rw[corD_eq]
     exact congrArg (fun x=>bndQ x q) (resQ_congr hn.1 (fun i j hi hj=>atP_tab pZ hi hj) (fun i j hi hj=>atP_tab pY2 hi hj))] at this
   exact this)
 have HCp:=hid (show ∀ x,corD m v q=some x→x.ok∧0≤x.iv from fun x hx=>bndQ_pos hq0 hq1 ((corD_eq m v q).symm.trans hx))
 have HZ4:=hid (HZ.out.1.kp k4)
 clear hY pY oY k4 HK3 lY
 obtain⟨C,hC⟩:∃ C,C=corD m v q:=⟨_,rfl⟩
 rw[← hC] at HB HE0 HCp
 clear hC
 go_wp2_with fail
 go_fit HB.out
 rintro e w5 ⟨y,rfl,yr,yd,yv,k5⟩
 have kA:=(Kp.refl w5).alloc (.cells #[.bool y.neg,.slice y.a y.xs.length y.c,.int .i64 y.e] 38)
 have HK5:=hid (HK4.out.trans (k5.trans kA))
 cases C with
 | none =>
   have HE:=hid (show D=([],15) by rw[HE0.out];rfl)
   clear yd
   go_wp2_with fail
   rw[HE.out]
   refine bodyPost_ret (v:=.tuple #[.slice none 0 0,.int .i64 15]) (by simp[results,Tryz.results75,go_sem]) rfl ?_
   exact matE_nil rfl HK5.out
 | some dd =>
 have HE:=hid (show D=(corF m v q dd,0) by rw[HE0.out];rfl)
 have HY:=hid (And.intro (show y.ok (w5.alloc (.cells #[.bool y.neg,.slice y.a y.xs.length y.c,.int .i64 y.e] 38)) from ⟨yr.kp kA,yv⟩) (show y.dy=dd from yd))
 have HYp:=hid (show 0≤y.dy.iv by rw[HY.out.2];exact (HCp.out dd rfl).2)
 have hy3:(w5.alloc (.cells #[.bool y.neg,.slice y.a y.xs.length y.c,.int .i64 y.e] 38)).cell? ⟨w5.heap.size,0,none⟩=some (.bool y.neg)∧(w5.alloc (.cells #[.bool y.neg,.slice y.a y.xs.length y.c,.int .i64 y.e] 38)).cell? ⟨w5.heap.size,1,none⟩=some (.slice y.a y.xs.length y.c)∧(w5.alloc (.cells #[.bool y.neg,.slice y.a y.xs.length y.c,.int .i64 y.e] 38)).cell? ⟨w5.heap.size,2,none⟩=some (.int .i64 y.e):=by simp
 have HZ5:=hid (HZ4.out.kp (k5.trans kA))
 have HT5:=hid (HT4.out.kp (k5.trans kA))
 clear yd yr yv k5 kA HT4 HK4 HB HE0 HCp
 go_upto_region 6 with fail
 generalize hW5:w5.alloc _=W5 at *
 clear hW5
 generalize w5.heap.size=b8 at *
 have KJ:=hid (Kp.refl W5).drew
 have hSd:=keep3 KJ.out hy3
 have HS6:=hid hy3
 clear hy3
 go_region_held3 (fun w'=>w'.cell? ⟨b8,0,none⟩=some (.bool y.neg)∧w'.cell? ⟨b8,1,none⟩=some (.slice y.a y.xs.length y.c)∧w'.cell? ⟨b8,2,none⟩=some (.int .i64 y.e)) (first | with_reducible assumption | with_reducible exact keep3 (by assumption) (by assumption) | fail)
   (first
     | (go_at_call 36; (with_reducible refine (midn_any m.length _ HN.out.1 HN.out.2 (HT5.out.kp KJ.out)).mono ?_); rintro e v1 ⟨aJ, J, cJ, rfl, hJ, pJ, oJ, lJ, j1⟩
        have HJ:=hid (And.intro hJ (And.intro pJ oJ))
        have HlJ:=hid lJ
        replace KJ:=hid (KJ.out.trans j1)
        clear hJ pJ oJ lJ
        have hSn:=keep3 KJ.out HS6.out)
     | (go_at_call 144; (with_reducible refine (laround_any m.length y _ HN.out.1 HN.out.2 (HY.out.1.kp KJ.out) HYp.out).mono ?_); rintro e v2 ⟨aR, R, cR, rfl, hR, pR, oR, lR, j1⟩
        have HR:=hid (And.intro hR (And.intro pR oR))
        have HlR:=hid lR
        replace KJ:=hid (KJ.out.trans j1)
        have HJ2:=hid (HJ.out.1.kp j1)
        clear hR pR oR lR
        have HAdd:=hid (madd_any aJ aR J R cJ cR (q:Int) v2 HJ2.out HR.out.1 HlJ.out HlR.out (HT5.out.kp KJ.out))
        have hSn:=keep3 KJ.out HS6.out)
     | (go_at_call 143; (with_reducible refine HAdd.out.mono ?_); rintro e v3 ⟨aS, S, cS, rfl, hS, pS, oS, lS, j1⟩
        replace KJ:=hid (KJ.out.trans j1)
        have hSn:=keep3 KJ.out HS6.out)
     | fail)
 have HE3:=hid (show entC (fun q X Y=>pAdd X Y q) J R (q:Int)=(tabM m.length m.length (fun i j=>pAdd (idP i j) ⟨dd.opp,dd,false⟩ q),0) from by
   obtain⟨_,pJ,oJ⟩:=HJ.out
   obtain⟨_,pR,oR⟩:=HR.out
   have hn:=HN.out
   rw[entC_sq (vlM_tab pJ oJ hn hn) (vlM_tab pR oR hn hn) (tab_len pJ) (colsM_tab pJ hn.1) (tab_len pR) (colsM_tab pR hn.1) hq0 hq1]
   refine congrArg (fun m=>(m,(0:Int))) (tabM_congr fun i j hi hj=>?_)
   rw[atP_tab pJ hi hj,atP_tab pR hi hj,HY.out.2])
 rw[HE3.out]
 rw[HE3.out] at pS
 have HSS:=hid (And.intro hS (And.intro pS oS))
 have HlS:=hid lS
 have HV9:=hid (HV.out.kp (HK5.out.trans KJ.out))
 have HK9:=hid (HK5.out.trans KJ.out)
 clear hS pS oS lS j1 hSn hSd HE3 HAdd HJ2 HR HlR HJ HlJ
 go_wp2_with fail
 go_fit (mof_any b v d _ HV9.out hl2)
 rintro e w6 ⟨a6,U,c6,rfl,hU,pU,oU,lU,k6⟩
 have HS6:=hid (HSS.out.1.kp k6)
 have HK10:=hid (HK9.out.trans k6)
 have HMu:=hid (mmul_any aS a6 S U cS c6 (q:Int) w6 HS6.out hU HlS.out lU (HT.out.kp HK10.out))
 have HE4:=hid (show mulC S U (q:Int)=(corF m v q dd,0) from by
   obtain⟨_,pS,oS⟩:=HSS.out
   have pU2:=(pU.trans (ofF_sq HS2.out)).trans (show tabM v.length v.length _=tabM m.length m.length _ by rw[← HLN.out])
   have hn:=HN.out
   rw[mulC_sq (vlM_tab pS oS hn hn) (vlM_tab pU2 oU hn hn) (tab_len pS) (colsM_tab pS hn.1) (tab_len pU2) (colsM_tab pU2 hn.1) hq0 hq1]
   unfold corF
   refine congrArg (fun m=>(m,(0:Int))) (tabM_congr fun i j hi hj=>?_)
   exact dotF_congr _ fun t ht=>⟨atP_tab pS hi (by omega),atP_tab pU2 (by omega) hj⟩)
 rw[HE4.out] at HMu
 clear hU pU oU lU k6 HE4 HSS
 go_wp2_with fail
 go_fit HMu.out
 rintro e w7 ⟨a7,X,c7,rfl,hX,pX,oX,lX,k7⟩
 have HX:=hid (And.intro hX (And.intro pX (And.intro oX lX)))
 have HK11:=hid (HK10.out.trans k7)
 clear hX pX oX lX k7
 go_wp2_with fail
 rw[HE.out]
 refine bodyPost_ret (v:=.tuple #[.slice a7 X.length c7,.int .i64 0]) (by simp[results,Tryz.results75,go_sem]) rfl ?_
 exact⟨a7,X,c7,rfl,HX.out.1,HX.out.2.1,HX.out.2.2.1,HX.out.2.2.2,HK11.out⟩
def atX (X:List (List PI)) (i j:Nat):PI:=(X.getD i []).getD j .whole
theorem atX_tab {r c:Nat} {F:Nat→Nat→PI} {i j:Nat} (hi:i<r) (hj:j<c):atX (tabM r c F) i j=F i j:=by
 have h1:(tabM r c F).getD i []=rowF c (F i):=by
  unfold tabM
  rw[List.getD_eq_getElem?_getD,List.getElem?_map,List.getElem?_range hi];rfl
 unfold atX
 rw[h1]
 unfold rowF
 rw[List.getD_eq_getElem?_getD,List.getElem?_map,List.getElem?_range hj];rfl
def crdE (f g:RF) (j:List (List RI)) (z:List RI) (p:Int):Int :=
 if (vlF f&&(vlF g&&(vlM j&&z.all RI.vl)))=false then 1 else if preB p=false then 2 else
 if g.cs.length≠f.cs.length∨z.length≠f.cs.length∨j.length≠f.cs.length∨colsM j≠f.cs.length then 3 else 0
def crdX (f g:RF) (j:List (List RI)) (z:List RI) (W:Nat→Nat→PI) (q:Nat):List PI :=
 rowF f.cs.length fun i=>pAdd (dotF q (W i) (fun t=>pSub (rowG z t) (ptP (g.cs.getD t rdZero)) q) (f.cs.length-1))
  (dotF q (fun t=>dotF q (W i) (fun s=>dotF q (atP j s) (fun u=>ptP (atN f.ms u t)) (f.cs.length-1)) (f.cs.length-1)) (rowG f.rs) (f.cs.length-1)) q
def crdV (X:List PI):List PI×Int:=if (X.any fun x=>x.all)=true then ([],11) else (X,0)
def crdC (f g:RF) (j:List (List RI)) (z:List RI) (v:List (List RD)) (p:Int):List PI×Int :=
 if crdE f g j z p≠0 then ([],crdE f g j z p) else if (corC g.ms v p).2≠0 then ([],(corC g.ms v p).2) else crdV (crdX f g j z (atX (corC g.ms v p).1) p.toNat)
theorem crdE_zero {f g:RF} {j:List (List RI)} {z:List RI} {p:Int} (h:crdE f g j z p=0):(vlF f=true∧vlF g=true∧vlM j=true∧∀ x∈z,x.vl=true)∧preB p=true∧g.cs.length=f.cs.length∧z.length=f.cs.length∧j.length=f.cs.length∧colsM j=f.cs.length:=by
 unfold crdE at h
 split at h
 ·cases h
 next h1 =>
 split at h
 ·cases h
 next h2 =>
 split at h
 ·cases h
 next h3 =>
 rw[Bool.not_eq_false,Bool.and_eq_true,Bool.and_eq_true,Bool.and_eq_true,List.all_eq_true] at h1
 exact⟨⟨h1.1,h1.2.1,h1.2.2.1,h1.2.2.2⟩,by simpa using h2,Classical.byContradiction fun h=>h3 (.inl h),Classical.byContradiction fun h=>h3 (.inr (.inl h)),Classical.byContradiction fun h=>h3 (.inr (.inr (.inl h))),Classical.byContradiction fun h=>h3 (.inr (.inr (.inr h)))⟩
theorem corC_tab {a v:List (List RD)} {p:Int} (h:(corC a v p).2=0):∃ F,(corC a v p).1=tabM a.length a.length F:=by
 unfold corC at h ⊢
 split
 ·next hb =>
  rw[if_pos hb] at h
  cases hd:corD a v p.toNat with
  | some d=>exact⟨_,rfl⟩
  | none=>rw[hd] at h;cases h
 next hb=>rw[if_neg hb] at h;cases h
theorem applyC_sq {Z:List (List RI)} {x:List RI} {n q:Nat} (vZ:vlM Z=true) (l1:Z.length=n) (l2:colsM Z=n) (hx:∀ y∈x,y.vl=true) (l3:x.length=n) (h0:8≤q) (h1:q≤512) :
  applyC Z x (q:Int)=(rowF n fun i=>dotF q (atP Z i) (rowG x) (n-1),0):=by
 unfold applyC
 rw[if_neg (by rw[vZ];decide),if_neg (by
  rw[Bool.not_eq_true,List.any_eq_false]
  intro y hy
  rw[hx y hy];decide),if_neg (by rw[show preB (q:Int)=true from preB_iff.2 ⟨by omega,by omega⟩];decide),if_neg (by omega),l1,l2]
 rfl
theorem rowG_row {r:List RI} {n:Nat} {F:Nat→PI} (h:plR r=rowF n F) {i:Nat} (hi:i<n):rowG r i=F i:=by
 have hl:r.length=n:=by have:=congrArg List.length h;simpa [plR,rowF] using this
 obtain⟨x,hx⟩:∃ x,r[i]? = some x:=⟨_,List.getElem?_eq_getElem (by omega)⟩
 have h1:=congrArg (fun l=>l[i]?) h
 unfold plR rowF at h1
 simp only[List.getElem?_map,hx,List.getElem?_range hi,Option.map_some,Option.some.injEq] at h1
 rw[rowG_eq hx,h1]
end Go.Proofs.YtbhmhfnfceakoaaGreatDoor
