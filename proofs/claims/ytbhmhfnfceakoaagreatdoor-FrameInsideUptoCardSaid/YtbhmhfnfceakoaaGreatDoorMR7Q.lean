/-
  Walks: the seventh reference's Numbers; the fifth's Has.
-/
import Derived.Deep.LoopGhost
import Derived.Test.YtbhmhfnfceakoaaGreatDoorMEchM
import Derived.Test.YtbhmhfnfceakoaaGreatDoorMR2I
namespace Go.Proofs.YtbhmhfnfceakoaaGreatDoor
open Go.RowKit
open Lib (hid)
theorem vlN_bad {m:List (List RD)} {i:Nat} {r:List RD} (h:m[i]? = some r) (hb:badN m r=true):vlN m=false:=by
 rw[vlN_any]
 have:m.any (badN m)=true:=List.any_eq_true.2 ⟨r,List.mem_of_getElem? h,hb⟩
 rw[this];simp
theorem vlN_good {m:List (List RD)} (h1:1≤m.length∧m.length≤8) (h2:1≤colsN m∧colsN m≤8) (h:∀ (i:Nat) r,m[i]? = some r→badN m r=false):vlN m=true:=by
 rw[vlN_any]
 have:m.any (badN m)=false:=by
  rw[List.any_eq_false]
  intro r hr
  obtain⟨i,hi⟩:=List.getElem?_of_mem hr
  rw[h i r hi];decide
 rw[this,decide_eq_true h1,decide_eq_true h2];rfl
theorem colsN_eq {m:List (List RD)} {r0:List RD} (h:m[0]? = some r0):colsN m=r0.length:=by
 unfold colsN
 cases m with
 | cons x t=>simp at h;subst h;rfl
 | nil=>simp at h
set_option maxHeartbeats 4000000 in
theorem r7numbers_any (a:Option Addr) (m:List (List RD)) (c:Nat) (w:World) (hm:RowN w a m) (hl:m.length≤1100000) :
  Calls Tryz.prog 51 #[.slice a m.length c] w fun e w'=>e=.returned (.bool (vlN m))∧Kp w w':=by
 have HV:=hid (vlN_any m)
 rcases Nat.eq_zero_or_pos m.length with hz | hpos
 ·have H:=hid (show vlN m=false by rw[HV.out,hz];rfl)
  rw[hz]
  clear hz HV
  go_enter Tryz.func51,Tryz.ntmps51
  go_wp2_with fail
  go_ret
  exact⟨ret_bool H.out.symm,.refl _⟩
 have hn1:¬ (m.length:Int)<1:=by omega
 by_cases h8:8<m.length
 ·have H:=hid (show vlN m=false by rw[HV.out,decide_eq_false (by omega)];rfl)
  have hn2:(8:Int)<(m.length:Int):=by omega
  clear h8 HV hpos
  go_enter Tryz.func51,Tryz.ntmps51
  go_wp2_with fail
  go_ret
  exact⟨ret_bool H.out.symm,.refl _⟩
 have hn2:¬ (8:Int)<(m.length:Int):=by omega
 have hn3:(0:Int)<(m.length:Int):=by omega
 obtain⟨r0,h0⟩:∃ r0,m[0]? = some r0:=⟨_,List.getElem?_eq_getElem hpos⟩
 have hc0:=colsN_eq h0
 obtain⟨b,o,ra0,rc0,rfl,hcell,_,hl0⟩:=hm 0 r0 h0
 rw[Nat.add_zero] at hcell
 have HV1:=hid (show vlN m=(decide (1≤r0.length∧r0.length≤8)&&!m.any (badN m)) by rw[HV.out,hc0,decide_eq_true (by omega)];rfl)
 by_cases hz:r0.length=0
 ·have H:=hid (show vlN m=false by rw[HV1.out,decide_eq_false (by omega)];rfl)
  have g1:(r0.length:Int)<1:=by omega
  clear HV HV1 h0 hc0 hm hpos h8 hz
  go_enter Tryz.func51,Tryz.ntmps51
  go_wp2_with fail
  go_ret
  exact⟨ret_bool H.out.symm,.refl _⟩
 have g1:¬ (r0.length:Int)<1:=by omega
 by_cases h9:8<r0.length
 ·have H:=hid (show vlN m=false by rw[HV1.out,decide_eq_false (by omega)];rfl)
  have g2:(8:Int)<(r0.length:Int):=by omega
  clear HV HV1 h0 hc0 hm hpos h8 hz h9
  go_enter Tryz.func51,Tryz.ntmps51
  go_wp2_with fail
  go_ret
  exact⟨ret_bool H.out.symm,.refl _⟩
 have g2:¬ (8:Int)<(r0.length:Int):=by omega
 have HB:=hid (And.intro (show 1≤m.length∧m.length≤8 by omega) (show 1≤colsN m∧colsN m≤8 by omega))
 have HC0:=hid hc0
 have HM:=hid hm
 clear HV HV1 h0 hc0 h8 hz h9 hm
 go_enter Tryz.func51,Tryz.ntmps51
 go_wp2_with fail
 clear g1 g2 hn1 hn2
 go_loopg [3] m.length (fun q v wr=>∃ i:Nat,i+q=m.length∧v=.int .i64 i∧(∀ (j:Nat) r,m[j]? = some r→j<i→badN m r=false)∧Kp w wr)
 case atStart=>exact⟨0,by omega,rfl,fun j r _ h=>by omega,.refl _⟩
 case round =>
 obtain⟨i,hiq,rfl,hbad,hk⟩:=hrel
 have Hbad:=hid hbad
 have hcellr:=hk.cell hcell
 clear hbad
 by_cases hlt:i<m.length
 rotate_left
 ·have HE:=hid (vlN_good HB.out.1 HB.out.2 (fun j y hy=>Hbad.out j y hy (by have:=(List.getElem?_eq_some_iff.1 hy).1;omega)))
  go_wp2_with fail
  go_ret
  exact⟨ret_bool HE.out.symm,hk⟩
 obtain⟨r,hr⟩:∃ r,m[i]? = some r:=⟨_,List.getElem?_eq_getElem hlt⟩
 obtain⟨b2,o2,ra,rc,e2,hrc,hrow,hrl⟩:=HM.out i r hr
 cases e2
 have hrc1:=hk.cell hrc
 have Hr:=hid hr
 have hi1:(0:Int)≤(i:Int):=by omega
 have hi2:(i:Int)<(m.length:Int):=by omega
 clear hr
 by_cases hlen:r.length=r0.length
 rotate_left
 ·have hne:((r.length:Int) != (r0.length:Int))=true:=by simpa using (by omega:¬ (r.length:Int)=(r0.length:Int))
  have HE:=hid (vlN_bad Hr.out (show badN m r=true by
   unfold badN
   rw[Bool.or_eq_true]
   exact .inl (decide_eq_true (by have:=HC0.out;omega))))
  clear hlen
  have kd:=(Kp.refl wr).drew
  have hSd:wr.drew.cell? ⟨b,o+i,none⟩=some (.slice ra r.length rc)∧wr.drew.cell? ⟨b,o,none⟩=some (.slice ra0 r0.length rc0):=⟨kd.cell hrc1,kd.cell hcellr⟩
  replace hk:=hk.trans kd
  clear kd
  go_upto_region 6 with fail
  go_region_held3 (fun w'=>w'.cell? ⟨b,o+i,none⟩=some (.slice ra r.length rc)∧w'.cell? ⟨b,o,none⟩=some (.slice ra0 r0.length rc0)) (with_reducible assumption) (fail)
  go_wp2_with fail
  go_ret
  exact⟨ret_bool HE.out.symm,hk⟩
 have hne:((r.length:Int) != (r0.length:Int))=false:=by rw[hlen];simp
 have Hlen:=hid hlen
 clear hlen
 have kd:=(Kp.refl wr).drew
 have hSd:wr.drew.cell? ⟨b,o+i,none⟩=some (.slice ra r.length rc)∧wr.drew.cell? ⟨b,o,none⟩=some (.slice ra0 r0.length rc0):=⟨kd.cell hrc1,kd.cell hcellr⟩
 replace hk:=hk.trans kd
 clear kd
 go_upto_region 6 with fail
 go_region_held3 (fun w'=>w'.cell? ⟨b,o+i,none⟩=some (.slice ra r.length rc)∧w'.cell? ⟨b,o,none⟩=some (.slice ra0 r0.length rc0)) (with_reducible assumption) (fail)
 go_wp2_with fail
 clear hrc1 hcellr hSd
 have HW:=hid hk
 have HRow:=hid hrow
 clear hk hrow
 obtain⟨W1,hW1⟩:∃ x:World,x=wr:=⟨_,rfl⟩
 subst hW1
 generalize W1.drew=W2 at *
 obtain⟨gk1,hgk1⟩:∃ x:Nat,x=gk:=⟨_,rfl⟩
 subst hgk1
 go_loopg [4] r.length (fun q v wr=>∃ k:Nat,k+q=r.length∧v=.int .i64 k∧(∀ (j:Nat) x,r[j]? = some x→j<k→x.vl=true)∧Kp w wr)
 case atStart=>exact⟨0,by omega,rfl,fun j x _ h=>by omega,HW.out⟩
 case round =>
 obtain⟨k,hkq,rfl,hgood,hk⟩:=hrel
 have Hgood:=hid hgood
 have hrc1:=hk.cell hrc
 clear hgood
 by_cases hlt2:k<r.length
 rotate_left
 ·have HG:=hid (show badN m r=false by
   unfold badN
   rw[Bool.or_eq_false_iff]
   refine⟨decide_eq_false (by have:=Hlen.out;have:=HC0.out;omega),List.any_eq_false.2 fun x hx=>?_⟩
   obtain⟨j,hj⟩:=List.getElem?_of_mem hx
   rw[Hgood.out j x hj (by have:=(List.getElem?_eq_some_iff.1 hj).1;omega)];decide)
  go_wp2_with fail
  go_roundg (gk1-1)
  case measure=>omega
  case rel =>
  refine⟨i+1,by omega,by go_num,fun j y hy hj=>?_,hk⟩
  by_cases h:j=i
  ·subst h;rw[Hr.out] at hy;cases hy;exact HG.out
  exact Hbad.out j y hy (by omega)
 obtain⟨x,hx⟩:∃ x,r[k]? = some x:=⟨_,List.getElem?_eq_getElem hlt2⟩
 obtain⟨b3,o3,e3,hrd,s0,s1,s2⟩:=(HRow.out.kp hk) k x hx
 subst e3
 have Hx:=hid hx
 have HRD:=hid hrd
 have hj1:(0:Int)≤(k:Int):=by omega
 have hj2:(k:Int)<(r.length:Int):=by omega
 clear hx hrd
 go_wp2_with fail
 go_fit (r2Valid_raw x _ HRD.out)
 rintro e w2 ⟨rfl,k2⟩
 cases hv:x.vl with
 | false =>
  have HE:=hid (vlN_bad Hr.out (show badN m r=true by
   unfold badN
   rw[Bool.or_eq_true]
   exact .inr (List.any_eq_true.2 ⟨x,List.mem_of_getElem? Hx.out,by rw[hv];rfl⟩)))
  have hkk:=hk.trans k2
  clear hv s0 s1 s2 hrc1
  go_wp2_with fail
  go_ret
  exact⟨ret_bool HE.out.symm,hkk⟩
 | true =>
 have Hv:=hid hv
 have hkk:=hk.trans k2
 clear hv s0 s1 s2 hrc1
 go_wp2_with fail
 go_roundg (gk-1)
 case measure=>omega
 case rel =>
 refine⟨k+1,by omega,by go_num,fun j y hy hj=>?_,hkk⟩
 by_cases h:j=k
 ·subst h;rw[Hx.out] at hy;cases hy;exact Hv.out
 exact Hgood.out j y hy (by omega)
set_option maxHeartbeats 4000000 in
theorem r5has_ok (x:RI) (d:RD) (w:World) (hx:x.ok w) (hd:d.ok w) :
  Calls Tryz.prog 54 #[.agg #[.bool x.lo.neg,.slice x.lo.a x.lo.xs.length x.lo.c,.int .i64 x.lo.e,.bool x.hi.neg,.slice x.hi.a x.hi.xs.length x.hi.c,.int .i64 x.hi.e,.bool false],.agg #[.bool d.neg,.slice d.a d.xs.length d.c,.int .i64 d.e]] w fun e w'=>e=.returned (.bool (hasI x d))∧Kp w w':=by
 have H:=hid (show hasI x d=(decide (cmpZ x.lo.iv d.iv≤0)&&decide (cmpZ d.iv x.hi.iv≤0)) by rw[leZ,leZ];rfl)
 have C1:=hid (fun (W:World) (k:Kp w W)=>r5Valid_raw x W (hx.1.kp k))
 have C2:=hid (fun (W:World) (k:Kp w W)=>r2Valid_raw d W (hd.1.kp k))
 rw[hx.2.2,hx.2.1] at C1
 rw[hd.2] at C2
 go_enter Tryz.func54,Tryz.ntmps54
 go_wp2_with fail
 generalize hW:((w.alloc _).alloc _)=W at *
 have hk:Kp w W:=hW▸((Kp.refl w).alloc _).alloc _
 have hS:(W.cell? ⟨w.heap.size,0,none⟩=some (.bool x.lo.neg)∧W.cell? ⟨w.heap.size,1,none⟩=some (.slice x.lo.a x.lo.xs.length x.lo.c)∧W.cell? ⟨w.heap.size,2,none⟩=some (.int .i64 x.lo.e)∧W.cell? ⟨w.heap.size,3,none⟩=some (.bool x.hi.neg)∧W.cell? ⟨w.heap.size,4,none⟩=some (.slice x.hi.a x.hi.xs.length x.hi.c)∧W.cell? ⟨w.heap.size,5,none⟩=some (.int .i64 x.hi.e)∧W.cell? ⟨w.heap.size,6,none⟩=some (.bool false))∧W.cell? ⟨w.heap.size+1,0,none⟩=some (.bool d.neg)∧W.cell? ⟨w.heap.size+1,1,none⟩=some (.slice d.a d.xs.length d.c)∧W.cell? ⟨w.heap.size+1,2,none⟩=some (.int .i64 d.e):=by rw[← hW];simp
 clear hW
 go_fit (C1.out _ hk)
 rintro e w1 ⟨rfl,hk1⟩
 have hS1:=keep73 hk1 hS
 have hk2:=hk.trans hk1
 clear hS hk hk1
 go_wp2_with fail
 go_fit (C2.out _ hk2)
 rintro e w3 ⟨rfl,hk3⟩
 have hS2:=keep73 hk3 hS1
 have hk4:=hk2.trans hk3
 clear hS1 hk2 hk3
 go_wp2_with fail
 refine (r2cmp_raw x.lo d _ (hx.lo.kp hk4).1 (hd.kp hk4).1 hx.lo.2 hd.2).mono ?_
 rintro e w5 ⟨rfl,hk5⟩
 have hS3:=keep73 hk5 hS2
 have hk6:=hk4.trans hk5
 clear hS2 hk4 hk5
 by_cases hc:cmpZ x.lo.iv d.iv≤0
 ·have hd2:=decide_eq_true hc
  rw[hd2] at H
  clear hc
  go_wp2_with fail
  refine (r2cmp_raw d x.hi _ (hd.kp hk6).1 (hx.hi.kp hk6).1 hd.2 hx.hi.2).mono ?_
  rintro e w7 ⟨rfl,hk7⟩
  go_wp2_with fail
  go_ret
  exact⟨ret_bool (by rw[H.out];simp),hk6.trans hk7⟩
 have hd2:=decide_eq_false hc
 rw[hd2] at H
 clear hc
 go_wp2_with fail
 go_ret
 exact⟨ret_bool (by rw[H.out];simp),hk6⟩
theorem r5has_zero (x:RI) (w:World) (hx:x.ok w) :
  Calls Tryz.prog 54 #[.agg #[.bool x.lo.neg,.slice x.lo.a x.lo.xs.length x.lo.c,.int .i64 x.lo.e,.bool x.hi.neg,.slice x.hi.a x.hi.xs.length x.hi.c,.int .i64 x.hi.e,.bool false],.agg #[.bool false,.slice none 0 0,.int .i64 0]] w fun e w'=>e=.returned (.bool (goodZ x))∧Kp w w':=by
 have h:=r5has_ok x rdZero w hx ⟨rdZero_rd _,rdZero_vl⟩
 have e:hasI x rdZero=goodZ x:=by
  unfold goodZ hasI
  rw[hx.2.1,hx.2.2,show rdZero.iv=0 from Dy.iv_zero]
  rfl
 rw[e] at h
 exact h
end Go.Proofs.YtbhmhfnfceakoaaGreatDoor
