/-
  Walks: matrix.each of a valid matrix of intervals.
-/
import Derived.Deep.AppendLies
import Derived.Deep.RegionLaw
import Derived.Test.YtbhmhfnfceakoaaGreatDoorMMulN
import Derived.Deep.DeepFit
import Derived.Laws.EntriesVeiled
import Derived.Test.YtbhmhfnfceakoaaGreatDoorMOpen
import Derived.Test.YtbhmhfnfceakoaaGreatDoorMSig
import Derived.Test.YtbhmhfnfceakoaaGreatDoorMRoAdd
import Derived.Deep.LoopGhost
import Derived.Deep.RegionHeld3
import Derived.Test.YtbhmhfnfceakoaaGreatDoorMNrmP
import Derived.Test.YtbhmhfnfceakoaaGreatDoorMRoQ
namespace Go.Proofs.YtbhmhfnfceakoaaGreatDoor
open Go.RowKit
open Lib (hid)
def MatV (w:World) (X:List (List PI)) (e:Ending) (w':World):Prop :=
 ∃ (a:Option Addr) (Z:List (List RI)) (c:Nat),e=.returned (.slice a Z.length c)∧RowM w' a Z∧plM Z=X∧okM Z∧Z.length≤1100000∧Kp w w'
def FunE (P:Program) (g:FuncId) (cap:Array Value) (w:World) (m:List (List RI)) (F:Nat→Nat→PI):Prop :=
 Enters P g∧∀ (i j:Nat) (r:List RI) (x:RI),m[i]? = some r→r[j]? = some x→∀ w1,Kp w w1→x.rd w1→Calls P g (#[.int .i64 (i:Int),.int .i64 (j:Int),.agg #[.bool x.lo.neg,.slice x.lo.a x.lo.xs.length x.lo.c,.int .i64 x.lo.e,.bool x.hi.neg,.slice x.hi.a x.hi.xs.length x.hi.c,.int .i64 x.hi.e,.bool x.all]]++cap) w1 (IvOut w1 (F i j))
set_option maxRecDepth 100000 in
set_option maxHeartbeats 8000000 in
theorem each_any (a:Option Addr) (m:List (List RI)) (c:Nat) (g:FuncId) (cap:Array Value) (F:Nat→Nat→PI) (w:World) (hm:RowM w a m) (hvm:vlM m=true) (hF:FunE Tryz.prog g cap w m F) :
   Calls Tryz.prog 223 #[.slice a m.length c,.func (.func g) #[] cap] w (MatV w (tabM m.length (colsM m) F)):=by
 have hgo:∀ args w,(callFunc g args).run Tryz.prog w=.ok (.enter g args) w:=hF.1
 have HFN:=hid hF.2
 have HM:=hid hm
 have HVM:=hid hvm
 have hml:=(vlM_iff.1 hvm).1
 have hmc:=(vlM_iff.1 hvm).2.1
 have hm8:m.length≤8:=hml.2
 have hmk:=make_rows (m.length:Int) m.length rfl (by omega)
 obtain⟨r0,hr0,hc0⟩:=vlM_row0 hvm
 obtain⟨ba,oa,_,_,rfl,_⟩:=hm 0 r0 hr0
 have HML:=hid (And.intro hml hmc)
 clear hF hm hvm hml hmc hr0 hc0
 go_enter Tryz.func223,Tryz.ntmps223
 go_wp2_with fail
 have hO:=OutH.made w m.length
 generalize hW1:w.alloc _=W1 at *
 have HO:=hid hO
 clear hW1 hmk hO
 go_loopg [15] m.length (fun q v wr=>∃ R:List (List RI),R.length+q=m.length∧v=.int .i64 (R.length:Int)∧OutH w wr w.heap.size m.length R∧plM R=tabM R.length (colsM m) F∧okM R)
 case atStart=>exact⟨[],by simp,rfl,HO.out,rfl,fun r h=>by simp at h⟩
 case round =>
 obtain⟨R,hRq,rfl,hO,hpl,hok⟩:=hrel
 clear HO
 have HH:=hid (And.intro hpl hok)
 have HOH:=hid hO
 have hkr:=hO.2.1
 clear hpl hok hO
 by_cases hlt:R.length<m.length
 rotate_left
 · have hRe:R.length=m.length:=by omega
   have HRe:=hid hRe
   clear hRe hRq
   go_wp2_with fail
   go_ret
   refine⟨some ⟨w.heap.size,0,none⟩,R,m.length,by rw[HRe.out];rfl,HOH.out.rowM,?_,HH.out.2,by have:=HML.out;have:=HRe.out;omega,hkr⟩
   rw[HH.out.1,HRe.out]
 obtain⟨r,hr⟩:∃ r,m[R.length]? = some r:=⟨_,List.getElem?_eq_getElem hlt⟩
 obtain⟨b2,o2,ra2,rc2,e2,hrc,hrow,hrl⟩:=HM.out R.length r hr
 cases e2
 have hrc1:=hkr.cell hrc
 have HRW:=hid (And.intro hr (And.intro hrow (vlM_row HVM.out hr)))
 have HMO:=hid (HOH.out.open hlt)
 have Hlt:=hid (And.intro hlt hRq)
 have hr8:r.length≤8:=by have:=(vlM_row HVM.out hr).1;have:=HML.out.2;omega
 clear hr hrc hrow hrl hRq
 have hk1:(0:Int)≤(R.length:Int):=by omega
 have hk2:(R.length:Int)<(m.length:Int):=by omega
 go_wp2_with fail
 clear HOH hrc1
 obtain⟨gk1,hgk1⟩:∃ x:Nat,x=gk:=⟨_,rfl⟩
 subst hgk1
 obtain⟨wr1,hwr1⟩:∃ x:World,x=wr:=⟨_,rfl⟩
 subst hwr1
 go_loopg [22] r.length (fun q v wr=>∃ (u:Value) (cur:List RI),cur.length+q=r.length∧v=.int .i64 (cur.length:Int)∧OutM w wr w.heap.size m.length R u cur∧plR cur=rowF cur.length (F R.length)∧∀ x∈cur,x.vl=true)
 case atStart=>exact⟨_,[],by simp,rfl,HMO.out,rfl,fun x h=>by simp at h⟩
 case round =>
 obtain⟨u,cur,hcq,rfl,hM,hpc,hvc⟩:=hrel
 clear HMO
 by_cases hlt2:cur.length<r.length
 rotate_left
 · have hce:cur.length=r.length:=by omega
   have hcl:cur.length≤1100000:=by omega
   have hcc:=hid (hM.close hcl)
   have HPC:=hid (And.intro hpc (And.intro hvc hce))
   clear hpc hvc hcq hM hce hcl
   go_wp2_with fail
   go_roundg (gk1-1)
   case measure=>have:=Hlt.out;omega
   case rel =>
   refine⟨R++[cur],by have:=Hlt.out;rw[List.length_append,List.length_singleton];omega,by rw[List.length_append,List.length_singleton];go_num,hcc.out,?_,okM_snoc HH.out.2 HPC.out.2.1⟩
   rw[plM_snoc,HH.out.1,List.length_append,List.length_singleton,tabM_snoc,HPC.out.1,HPC.out.2.2,HRW.out.2.2.1]
 obtain⟨x,hx⟩:∃ x,r[cur.length]? = some x:=⟨_,List.getElem?_eq_getElem hlt2⟩
 obtain⟨b3,o3,e3,hrd,s0,s1,s2,s3,s4,s5,s6⟩:=(HRW.out.2.1.kp hM.2.1.1) cur.length x hx
 subst e3
 have HPC:=hid (And.intro hpc (And.intro hvc (And.intro hcq hlt2)))
 have hj1:(0:Int)≤(cur.length:Int):=by omega
 have hj2:(cur.length:Int)<(r.length:Int):=by omega
 have kA:=(Kp.refl wr).alloc (.cells #[.bool x.lo.neg,.slice x.lo.a x.lo.xs.length x.lo.c,.int .i64 x.lo.e,.bool x.hi.neg,.slice x.hi.a x.hi.xs.length x.hi.c,.int .i64 x.hi.e,.bool x.all] 44)
 have HX:=hid (And.intro hx (hrd.kp kA))
 have hM3:=hM.kp kA
 clear hpc hvc hcq hx hrd hM
 go_upto_region 8 with fail
 clear s0 s1 s2 s3 s4 s5 s6
 generalize hW3:wr.alloc _=W3 at *
 have hxb:W3.cell? ⟨wr.heap.size,0,none⟩=some (.bool x.lo.neg)∧W3.cell? ⟨wr.heap.size,1,none⟩=some (.slice x.lo.a x.lo.xs.length x.lo.c)∧W3.cell? ⟨wr.heap.size,2,none⟩=some (.int .i64 x.lo.e)∧W3.cell? ⟨wr.heap.size,3,none⟩=some (.bool x.hi.neg)∧W3.cell? ⟨wr.heap.size,4,none⟩=some (.slice x.hi.a x.hi.xs.length x.hi.c)∧W3.cell? ⟨wr.heap.size,5,none⟩=some (.int .i64 x.hi.e)∧W3.cell? ⟨wr.heap.size,6,none⟩=some (.bool x.all):=by rw[← hW3];simp
 clear hW3 kA
 have kd:=(Kp.refl W3).drew
 have hk3':=hM3.2.1.1
 obtain⟨hc1,hf1⟩:=hM3.cellF
 have HM3:=hid hM3
 have HCF:=hid (HFN.out R.length cur.length r x HRW.out.1 HX.out.1 W3.drew (hk3'.trans kd) (HX.out.2.kp kd))
 have HD3:=hid kd
 have hcl:cur.length+1≤9000000:=by omega
 obtain⟨s0,s1,s2,s3,s4,s5,s6⟩:=id hxb
 clear hM3 hk3' kd
 go_region_law (first
   | (go_simp; (with_reducible refine HCF.out.mono ?_); rintro e v1 ⟨z, rfl, hz, hzp, hzv, j1⟩
      have kZ:=(HD3.out.trans j1).alloc (.cells #[.bool z.lo.neg,.slice z.lo.a z.lo.xs.length z.lo.c,.int .i64 z.lo.e,.bool z.hi.neg,.slice z.hi.a z.hi.xs.length z.hi.c,.int .i64 z.hi.e,.bool z.all] 44)
      have hM4:=HM3.out.kp (HD3.out.trans j1)
      obtain⟨hc1,hf1⟩:=hM4.cellF
      have hM5:=HM3.out.kp kZ
      obtain⟨hc1,hf1⟩:=hM5.cellF
      have hown:=hM5.2.1
      have hzA:=hz.kp ((Kp.refl v1).alloc (.cells #[.bool z.lo.neg,.slice z.lo.a z.lo.xs.length z.lo.c,.int .i64 z.lo.e,.bool z.hi.neg,.slice z.hi.a z.hi.xs.length z.hi.c,.int .i64 z.hi.e,.bool z.all] 44))
      have ZP:=hid (And.intro hzp hzv)
      have HM5:=hid hM5
      clear hz hzp hzv kZ hM5 hM4)
   | (refine step_append_ivg (by rfl) _ _ (by rfl) w u cur (by rfl) hown _ _ (by rfl) z hzA (by simp) hcl ?_; intro a' c' w9 hown9 hgrow hblk
      obtain⟨hc1,hf1⟩:=HM5.out.cellG hgrow)
   | fail)
 all_goals
   have hst:=OutM.step HM5.out hown9 hgrow hblk HM5.out.2.1.noU
   go_wp2_with fail
   go_roundg (gk-1)
   case measure=>have:=HPC.out.2.2;omega
   case rel =>
     refine⟨_,cur++[z],by have:=HPC.out.2.2;rw[List.length_append,List.length_singleton];omega,by rw[List.length_append,List.length_singleton];go_num,hst,?_,ok_snoc HPC.out.2.1 ZP.out.2⟩
     rw[plR_snoc,HPC.out.1,List.length_append,List.length_singleton,rowF_snoc,ZP.out.1]
def colsN (m:List (List RD)):Nat:=(m.headD []).length
def vlN (m:List (List RD)):Bool:=decide (1≤m.length∧m.length≤8)&&(decide (1≤colsN m∧colsN m≤8)&&m.all fun r=>decide (r.length=colsN m)&&r.all RD.vl)
theorem vlN_iff {m:List (List RD)}:vlN m=true↔(1≤m.length∧m.length≤8)∧(1≤colsN m∧colsN m≤8)∧∀ r∈m,r.length=colsN m∧∀ x∈r,x.vl=true:=by
 unfold vlN
 simp only[Bool.and_eq_true,decide_eq_true_eq,List.all_eq_true]
theorem enters_DValid:Enters Tryz.prog 56:=fun _ _=>by kernel_rfl
theorem storeFN (a:Addr) (f:Fn) (ts cap:Array Value) (m:Mode) (w:World):(store a (.func f ts cap) m).run Tryz.prog w=Go.stored Tryz.prog w a (.func f ts cap) m:=run_store _ w a _ m rfl
set_option maxHeartbeats 2000000 in
theorem recn11_any (x:RD) (b:Nat) (w:World) (hx:x.rd w) (hf:w.cell? ⟨b,0,none⟩=some (.func (.func 56) #[] #[])) :
  Calls Tryz.prog 199 #[.agg #[.bool x.neg,.slice x.a x.xs.length x.c,.int .i64 x.e],.pointer (some ⟨b,0,none⟩)] w fun e w'=>e=.returned (.bool (!x.vl))∧Kp w w':=by
 have hgo:∀ args w,(callFunc 56 args).run Tryz.prog w=.ok (.enter 56 args) w:=enters_DValid
 have k1:=(Kp.refl w).alloc (.cells #[.bool x.neg,.slice x.a x.xs.length x.c,.int .i64 x.e] 38)
 have hf1:=k1.cell hf
 have hlt:=World.block_lt_of_cell? w _ hf
 clear hf
 go_enter Tryz.func199,Tryz.ntmps199
 go_wp2_with fail
 go_fit (Valid_raw x _ (hx.kp k1))
 rintro e w1 ⟨rfl,k2⟩
 cases hv:x.vl with
 | false =>
  go_wp2_with fail
  go_ret
  exact⟨ret_bool (by rw[hv];rfl),k1.trans k2⟩
 | true =>
 go_wp2_with fail
 go_ret
 exact⟨ret_bool (by rw[hv];rfl),k1.trans k2⟩
def badN (m:List (List RD)) (r:List RD):Bool:=decide (r.length≠colsN m)||r.any fun x=>!x.vl
theorem vlN_any (m:List (List RD)):vlN m=(decide (1≤m.length∧m.length≤8)&&(decide (1≤colsN m∧colsN m≤8)&&!m.any (badN m))):=by
 unfold vlN
 congr 2
 rw[List.not_any_eq_all_not]
 congr 1
 funext r
 unfold badN
 rw[Bool.not_or,List.not_any_eq_all_not]
 simp
set_option maxHeartbeats 4000000 in
theorem recn1_any (m:List (List RD)) (r:List RD) (a ra:Option Addr) (c rc bm bo:Nat) (w:World) (hm:RowN w a m) (hm0:0<m.length) (hl:m.length≤1100000) (hr:RowD w ra r) (hrl:r.length≤1100000)
  (h1:w.cell? ⟨bm,0,none⟩=some (.slice a m.length c)) (h2:w.cell? ⟨bo,0,none⟩=some (.func (.func 56) #[] #[])) :
  Calls Tryz.prog 198 #[.slice ra r.length rc,.pointer (some ⟨bm,0,none⟩),.pointer (some ⟨bo,0,none⟩)] w fun e w'=>e=.returned (.bool (badN m r))∧Kp w w':=by
 obtain⟨r0,h0⟩:∃ r0,m[0]? = some r0:=⟨_,List.getElem?_eq_getElem hm0⟩
 have hc0:colsN m=r0.length:=by
  unfold colsN
  cases m with
  | nil=>simp at hm0
  | cons x t=>simp at h0;subst h0;rfl
 obtain⟨b,o,ra0,rc0,rfl,hcell,_,hl0⟩:=hm 0 r0 h0
 rw[Nat.add_zero] at hcell
 have HB:=hid (show badN m r=(decide (r.length≠r0.length)||r.any fun x=>!x.vl) by unfold badN;rw[hc0])
 have hp:AnsD Tryz.prog 199 #[.pointer (some ⟨bo,0,none⟩)] w r (fun x=>!x.vl):=⟨fun _ _=>by kernel_rfl,fun x hx w1 k=>recn11_any x bo w1 ((hr.rd hx).kp k) (k.cell h2)⟩
 have hcn:=containsD ra r rc _ _ w _ hrl hr hp
 have HC:=hid hcn
 have hi0:(0:Int)<(m.length:Int):=by omega
 clear hm hm0 hc0 h0 hp hcn hr
 by_cases hlen:r.length=r0.length
 rotate_left
 ·have hne:((r.length:Int) != (r0.length:Int))=true:=by simpa using (by omega:¬ (r.length:Int)=(r0.length:Int))
  have HB2:=hid (show badN m r=true by rw[HB.out,decide_eq_true (by simpa using hlen)];rfl)
  clear hlen HB
  go_enter Tryz.func198,Tryz.ntmps198
  go_wp2_with fail
  go_ret
  exact⟨ret_bool HB2.out.symm,.refl _⟩
 have hne:((r.length:Int) != (r0.length:Int))=false:=by rw[hlen];simp
 have HB2:=hid (show badN m r=r.any (fun x=>!x.vl) by rw[HB.out,decide_eq_false (by simpa using hlen)];rfl)
 clear hlen HB
 go_enter Tryz.func198,Tryz.ntmps198
 go_wp2_with fail
 go_fit HC.out
 rintro e w1 ⟨rfl,k1⟩
 go_wp2_with fail
 go_ret
 exact⟨ret_bool HB2.out.symm,k1⟩
set_option maxHeartbeats 4000000 in
theorem recn_any (a:Option Addr) (m:List (List RD)) (c:Nat) (w:World) (hm:RowN w a m) (hl:m.length≤1100000) :
  Calls Tryz.prog 149 #[.slice a m.length c,.func (.func 56) #[] #[]] w fun e w'=>e=.returned (.bool (vlN m))∧Kp w w':=by
 have HV:=hid (vlN_any m)
 have hsf:=storeFN
 rcases Nat.eq_zero_or_pos m.length with hz | hpos
 ·have H:=hid (show vlN m=false by rw[HV.out,hz];rfl)
  rw[hz]
  clear hz HV
  go_enter Tryz.func149,Tryz.ntmps149
  go_wp2_with fail
  go_ret
  exact⟨ret_bool H.out.symm,((Kp.refl w).alloc _).alloc _⟩
 have hn1:¬ (m.length:Int)<1:=by omega
 by_cases h8:8<m.length
 ·have H:=hid (show vlN m=false by rw[HV.out,decide_eq_false (by omega)];rfl)
  have hn2:(8:Int)<(m.length:Int):=by omega
  clear h8 HV hpos
  go_enter Tryz.func149,Tryz.ntmps149
  go_wp2_with fail
  go_ret
  exact⟨ret_bool H.out.symm,((Kp.refl w).alloc _).alloc _⟩
 have hn2:¬ (8:Int)<(m.length:Int):=by omega
 have hn3:(0:Int)<(m.length:Int):=by omega
 obtain⟨r0,h0⟩:∃ r0,m[0]? = some r0:=⟨_,List.getElem?_eq_getElem hpos⟩
 have hc0:colsN m=r0.length:=by
  unfold colsN
  cases m with
  | nil=>simp at hpos
  | cons x t=>simp at h0;subst h0;rfl
 obtain⟨b,o,ra0,rc0,rfl,hcell,_,hl0⟩:=hm 0 r0 h0
 rw[Nat.add_zero] at hcell
 have HV1:=hid (show vlN m=(decide (1≤r0.length∧r0.length≤8)&&!m.any (badN m)) by rw[HV.out,hc0,decide_eq_true (by omega)];rfl)
 have hk2:=((Kp.refl w).alloc (.cells #[.slice (some ⟨b,o,none⟩) m.length c] 23)).alloc (.cells #[.func (.func 56) #[] #[]] 80)
 have hcl:=hk2.cell hcell
 have hlt:=World.block_lt_of_cell? w _ hcell
 by_cases hz:r0.length=0
 ·have H:=hid (show vlN m=false by rw[HV1.out,decide_eq_false (by omega)];rfl)
  have g1:(r0.length:Int)<1:=by omega
  clear HV HV1 h0 hc0 hm hpos h8 hz
  go_enter Tryz.func149,Tryz.ntmps149
  go_wp2_with fail
  go_ret
  exact⟨ret_bool H.out.symm,((Kp.refl w).alloc _).alloc _⟩
 have g1:¬ (r0.length:Int)<1:=by omega
 by_cases h9:8<r0.length
 ·have H:=hid (show vlN m=false by rw[HV1.out,decide_eq_false (by omega)];rfl)
  have g2:(8:Int)<(r0.length:Int):=by omega
  clear HV HV1 h0 hc0 hm hpos h8 hz h9
  go_enter Tryz.func149,Tryz.ntmps149
  go_wp2_with fail
  go_ret
  exact⟨ret_bool H.out.symm,((Kp.refl w).alloc _).alloc _⟩
 have g2:¬ (8:Int)<(r0.length:Int):=by omega
 have H:=hid (show vlN m=!m.any (badN m) by rw[HV1.out,decide_eq_true (by omega)];rfl)
 have HM:=hid hm
 have Hpos:=hid hpos
 clear HV HV1 h0 hc0 hpos h8 hz h9 hm
 go_enter Tryz.func149,Tryz.ntmps149
 go_wp2_with fail
 have hA:AnsN Tryz.prog 198 #[.pointer (some ⟨w.heap.size,0,none⟩),.pointer (some ⟨w.heap.size+1,0,none⟩)] ((w.alloc (.cells #[.slice (some ⟨b,o,none⟩) m.length c] 23)).alloc (.cells #[.func (.func 56) #[] #[]] 80)) m (badN m):=⟨fun _ _=>by kernel_rfl,fun r hr ra rc w1 k hrow=>recn1_any m r _ ra c rc _ _ w1 ((HM.out.kp hk2).kp k) Hpos.out hl hrow.1 hrow.2 (k.cell (by simp)) (k.cell (by simp))⟩
 go_fit (containsN _ m c _ _ _ (badN m) hl (HM.out.kp hk2) hA)
 rintro e w1 ⟨rfl,k1⟩
 go_wp2_with fail
 go_ret
 exact⟨ret_bool H.out.symm,hk2.trans k1⟩
theorem vlN_row {m:List (List RD)} (h:vlN m=true) {i:Nat} {r:List RD} (hi:m[i]? = some r):r.length=colsN m∧∀ x∈r,x.vl=true :=
 (vlN_iff.1 h).2.2 r (List.mem_of_getElem? hi)
theorem vlN_row0 {m:List (List RD)} (h:vlN m=true):∃ r,m[0]? = some r∧r.length=colsN m:=by
 have h0:0<m.length:=(vlN_iff.1 h).1.1
 exact⟨_,List.getElem?_eq_getElem h0,(vlN_row h (List.getElem?_eq_getElem h0)).1⟩
def FunN (P:Program) (g:FuncId) (cap:Array Value) (w:World) (m:List (List RD)) (F:Nat→Nat→PI):Prop :=
 Enters P g∧∀ (i j:Nat) (r:List RD) (x:RD),m[i]? = some r→r[j]? = some x→∀ w1,Kp w w1→x.rd w1→Calls P g (#[.int .i64 (i:Int),.int .i64 (j:Int),.agg #[.bool x.neg,.slice x.a x.xs.length x.c,.int .i64 x.e]]++cap) w1 (IvOut w1 (F i j))
set_option maxRecDepth 100000 in
set_option maxHeartbeats 8000000 in
theorem eachN_any (a:Option Addr) (m:List (List RD)) (c:Nat) (g:FuncId) (cap:Array Value) (F:Nat→Nat→PI) (w:World) (hm:RowN w a m) (hvm:vlN m=true) (hF:FunN Tryz.prog g cap w m F) :
   Calls Tryz.prog 150 #[.slice a m.length c,.func (.func g) #[] cap] w (MatV w (tabM m.length (colsN m) F)):=by
 have hgo:∀ args w,(callFunc g args).run Tryz.prog w=.ok (.enter g args) w:=hF.1
 have HFN:=hid hF.2
 have HM:=hid hm
 have HVM:=hid hvm
 have hml:=(vlN_iff.1 hvm).1
 have hmc:=(vlN_iff.1 hvm).2.1
 have hm8:m.length≤8:=hml.2
 have hmk:=make_rows (m.length:Int) m.length rfl (by omega)
 obtain⟨r0,hr0,hc0⟩:=vlN_row0 hvm
 obtain⟨ba,oa,_,_,rfl,_⟩:=hm 0 r0 hr0
 have HML:=hid (And.intro hml hmc)
 clear hF hm hvm hml hmc hr0 hc0
 go_enter Tryz.func150,Tryz.ntmps150
 go_wp2_with fail
 have hO:=OutH.made w m.length
 generalize hW1:w.alloc _=W1 at *
 have HO:=hid hO
 clear hW1 hmk hO
 go_loopg [15] m.length (fun q v wr=>∃ R:List (List RI),R.length+q=m.length∧v=.int .i64 (R.length:Int)∧OutH w wr w.heap.size m.length R∧plM R=tabM R.length (colsN m) F∧okM R)
 case atStart=>exact⟨[],by simp,rfl,HO.out,rfl,fun r h=>by simp at h⟩
 case round =>
 obtain⟨R,hRq,rfl,hO,hpl,hok⟩:=hrel
 clear HO
 have HH:=hid (And.intro hpl hok)
 have HOH:=hid hO
 have hkr:=hO.2.1
 clear hpl hok hO
 by_cases hlt:R.length<m.length
 rotate_left
 · have hRe:R.length=m.length:=by omega
   have HRe:=hid hRe
   clear hRe hRq
   go_wp2_with fail
   go_ret
   refine⟨some ⟨w.heap.size,0,none⟩,R,m.length,by rw[HRe.out];rfl,HOH.out.rowM,?_,HH.out.2,by have:=HML.out;have:=HRe.out;omega,hkr⟩
   rw[HH.out.1,HRe.out]
 obtain⟨r,hr⟩:∃ r,m[R.length]? = some r:=⟨_,List.getElem?_eq_getElem hlt⟩
 obtain⟨b2,o2,ra2,rc2,e2,hrc,hrow,hrl⟩:=HM.out R.length r hr
 cases e2
 have hrc1:=hkr.cell hrc
 have HRW:=hid (And.intro hr (And.intro hrow (vlN_row HVM.out hr)))
 have HMO:=hid (HOH.out.open hlt)
 have Hlt:=hid (And.intro hlt hRq)
 have hr8:r.length≤8:=by have:=(vlN_row HVM.out hr).1;have:=HML.out.2;omega
 clear hr hrc hrow hrl hRq
 have hk1:(0:Int)≤(R.length:Int):=by omega
 have hk2:(R.length:Int)<(m.length:Int):=by omega
 go_wp2_with fail
 clear HOH hrc1
 obtain⟨gk1,hgk1⟩:∃ x:Nat,x=gk:=⟨_,rfl⟩
 subst hgk1
 obtain⟨wr1,hwr1⟩:∃ x:World,x=wr:=⟨_,rfl⟩
 subst hwr1
 go_loopg [22] r.length (fun q v wr=>∃ (u:Value) (cur:List RI),cur.length+q=r.length∧v=.int .i64 (cur.length:Int)∧OutM w wr w.heap.size m.length R u cur∧plR cur=rowF cur.length (F R.length)∧∀ x∈cur,x.vl=true)
 case atStart=>exact⟨_,[],by simp,rfl,HMO.out,rfl,fun x h=>by simp at h⟩
 case round =>
 obtain⟨u,cur,hcq,rfl,hM,hpc,hvc⟩:=hrel
 clear HMO
 by_cases hlt2:cur.length<r.length
 rotate_left
 · have hce:cur.length=r.length:=by omega
   have hcl:cur.length≤1100000:=by omega
   have hcc:=hid (hM.close hcl)
   have HPC:=hid (And.intro hpc (And.intro hvc hce))
   clear hpc hvc hcq hM hce hcl
   go_wp2_with fail
   go_roundg (gk1-1)
   case measure=>have:=Hlt.out;omega
   case rel =>
   refine⟨R++[cur],by have:=Hlt.out;rw[List.length_append,List.length_singleton];omega,by rw[List.length_append,List.length_singleton];go_num,hcc.out,?_,okM_snoc HH.out.2 HPC.out.2.1⟩
   rw[plM_snoc,HH.out.1,List.length_append,List.length_singleton,tabM_snoc,HPC.out.1,HPC.out.2.2,HRW.out.2.2.1]
 obtain⟨x,hx⟩:∃ x,r[cur.length]? = some x:=⟨_,List.getElem?_eq_getElem hlt2⟩
 obtain⟨b3,o3,e3,hrd,s0,s1,s2⟩:=(HRW.out.2.1.kp hM.2.1.1) cur.length x hx
 subst e3
 have HPC:=hid (And.intro hpc (And.intro hvc (And.intro hcq hlt2)))
 have hj1:(0:Int)≤(cur.length:Int):=by omega
 have hj2:(cur.length:Int)<(r.length:Int):=by omega
 have kA:=(Kp.refl wr).alloc (.cells #[.bool x.neg,.slice x.a x.xs.length x.c,.int .i64 x.e] 38)
 have HX:=hid (And.intro hx (hrd.kp kA))
 have hM3:=hM.kp kA
 clear hpc hvc hcq hx hrd hM
 go_upto_region 8 with fail
 clear s0 s1 s2
 generalize hW3:wr.alloc _=W3 at *
 have hxb:W3.cell? ⟨wr.heap.size,0,none⟩=some (.bool x.neg)∧W3.cell? ⟨wr.heap.size,1,none⟩=some (.slice x.a x.xs.length x.c)∧W3.cell? ⟨wr.heap.size,2,none⟩=some (.int .i64 x.e):=by rw[← hW3];simp
 clear hW3 kA
 have kd:=(Kp.refl W3).drew
 have hk3':=hM3.2.1.1
 obtain⟨hc1,hf1⟩:=hM3.cellF
 have HM3:=hid hM3
 have HCF:=hid (HFN.out R.length cur.length r x HRW.out.1 HX.out.1 W3.drew (hk3'.trans kd) (HX.out.2.kp kd))
 have HD3:=hid kd
 have hcl:cur.length+1≤9000000:=by omega
 obtain⟨s0,s1,s2⟩:=id hxb
 clear hM3 hk3' kd
 go_region_law (first
   | (go_simp; (with_reducible refine HCF.out.mono ?_); rintro e v1 ⟨z, rfl, hz, hzp, hzv, j1⟩
      have kZ:=(HD3.out.trans j1).alloc (.cells #[.bool z.lo.neg,.slice z.lo.a z.lo.xs.length z.lo.c,.int .i64 z.lo.e,.bool z.hi.neg,.slice z.hi.a z.hi.xs.length z.hi.c,.int .i64 z.hi.e,.bool z.all] 44)
      have hM4:=HM3.out.kp (HD3.out.trans j1)
      obtain⟨hc1,hf1⟩:=hM4.cellF
      have hM5:=HM3.out.kp kZ
      obtain⟨hc1,hf1⟩:=hM5.cellF
      have hown:=hM5.2.1
      have hzA:=hz.kp ((Kp.refl v1).alloc (.cells #[.bool z.lo.neg,.slice z.lo.a z.lo.xs.length z.lo.c,.int .i64 z.lo.e,.bool z.hi.neg,.slice z.hi.a z.hi.xs.length z.hi.c,.int .i64 z.hi.e,.bool z.all] 44))
      have ZP:=hid (And.intro hzp hzv)
      have HM5:=hid hM5
      clear hz hzp hzv kZ hM5 hM4)
   | (refine step_append_ivg (by rfl) _ _ (by rfl) w u cur (by rfl) hown _ _ (by rfl) z hzA (by simp) hcl ?_; intro a' c' w9 hown9 hgrow hblk
      obtain⟨hc1,hf1⟩:=HM5.out.cellG hgrow)
   | fail)
 all_goals
   have hst:=OutM.step HM5.out hown9 hgrow hblk HM5.out.2.1.noU
   go_wp2_with fail
   go_roundg (gk-1)
   case measure=>have:=HPC.out.2.2;omega
   case rel =>
     refine⟨_,cur++[z],by have:=HPC.out.2.2;rw[List.length_append,List.length_singleton];omega,by rw[List.length_append,List.length_singleton];go_num,hst,?_,ok_snoc HPC.out.2.1 ZP.out.2⟩
     rw[plR_snoc,HPC.out.1,List.length_append,List.length_singleton,rowF_snoc,ZP.out.1]
def ptP (d:RD):PI:=⟨d.dy,d.dy,false⟩
def atN (m:List (List RD)) (i j:Nat):RD:=(m.getD i []).getD j rdZero
theorem atN_eq {m:List (List RD)} {i j:Nat} {r:List RD} {x:RD} (hr:m[i]? = some r) (hx:r[j]? = some x):atN m i j=x:=by
 unfold atN
 rw[List.getD_eq_getElem?_getD,List.getD_eq_getElem?_getD,hr]
 show (r[j]?).getD rdZero=x
 rw[hx];rfl
def ofF (m:List (List RD)):List (List PI):=if vlN m=true then tabM m.length (colsN m) (fun i j=>ptP (atN m i j)) else []
set_option maxHeartbeats 2000000 in
theorem of1_any (i j:Int) (x:RD) (w:World) (hx:x.ok w) :
  Calls Tryz.prog 151 #[.int .i64 i,.int .i64 j,.agg #[.bool x.neg,.slice x.a x.xs.length x.c,.int .i64 x.e]] w (IvOut w (ptP x)):=by
 have k1:=((Kp.refl w).alloc (.cells #[.bool x.neg,.slice x.a x.xs.length x.c,.int .i64 x.e] 38)).alloc (.cells #[.bool false,.slice none 0 0,.int .i64 0,.bool false,.slice none 0 0,.int .i64 0,.bool false] 44)
 have HX:=hid (hx.kp k1)
 have hV:=Var7.new (w.alloc (.cells #[.bool x.neg,.slice x.a x.xs.length x.c,.int .i64 x.e] 38)) 44
 rw[World.size_alloc] at hV
 have hS:((w.alloc (.cells #[.bool x.neg,.slice x.a x.xs.length x.c,.int .i64 x.e] 38)).alloc (.cells #[.bool false,.slice none 0 0,.int .i64 0,.bool false,.slice none 0 0,.int .i64 0,.bool false] 44)).cell? ⟨w.heap.size,0,none⟩=some (.bool x.neg)∧((w.alloc (.cells #[.bool x.neg,.slice x.a x.xs.length x.c,.int .i64 x.e] 38)).alloc (.cells #[.bool false,.slice none 0 0,.int .i64 0,.bool false,.slice none 0 0,.int .i64 0,.bool false] 44)).cell? ⟨w.heap.size,1,none⟩=some (.slice x.a x.xs.length x.c)∧((w.alloc (.cells #[.bool x.neg,.slice x.a x.xs.length x.c,.int .i64 x.e] 38)).alloc (.cells #[.bool false,.slice none 0 0,.int .i64 0,.bool false,.slice none 0 0,.int .i64 0,.bool false] 44)).cell? ⟨w.heap.size,2,none⟩=some (.int .i64 x.e):=keep3 ((Kp.refl _).alloc _) (by simp)
 clear hx
 go_enter Tryz.func151,Tryz.ntmps151
 go_upto_region 1 with fail
 generalize ((w.alloc _).alloc _)=W at *
 obtain⟨s0,s1,s2⟩:=hS
 go_wp2_with fail
 go_fit (IPoint_pt x _ HX.out)
 rintro e w1 ⟨rfl,k2⟩
 have hV1:=hV.kp k2
 have HX1:=hid (HX.out.kp k2)
 have hk1:=k1.trans k2
 clear hV s0 s1 s2 k1 k2
 obtain⟨⟨q0,q1,q2,q3,q4,q5,q6⟩,f0,f1,f2,f3,f4,f5,f6⟩:=id hV1
 go_wp2_with fail
 generalize hW9:((((((w1.setCell _ _).setCell _ _).setCell _ _).setCell _ _).setCell _ _).setCell _ _).setCell _ _=W9
 obtain⟨⟨s0,s1,s2,s3,s4,s5,s6⟩,hU⟩:=stored7 (show Box7 w1 _ _ _ _ _ _ _ _ from ⟨q0,q1,q2,q3,q4,q5,q6⟩) nofun nofun nofun nofun nofun nofun nofun _ _ _ _ _ _ _ hW9
 clear hW9 q0 q1 q2 q3 q4 q5 q6 f0 f1 f2 f3 f4 f5 f6
 refine bodyPost_ret (v:=.agg #[.bool (ptI x).lo.neg,.slice (ptI x).lo.a (ptI x).lo.xs.length (ptI x).lo.c,.int .i64 (ptI x).lo.e,.bool (ptI x).hi.neg,.slice (ptI x).hi.a (ptI x).hi.xs.length (ptI x).hi.c,.int .i64 (ptI x).hi.e,.bool (ptI x).all]) (by simp[results,Tryz.results151,go_sem,s0,s1,s2,s3,s4,s5,s6]) rfl ?_
 exact⟨ptI x,rfl,hU.rdI (ptI_rd HX1.out.1),rfl,(ptI_ok HX1.out).2.2,hU.2.2.1 _ hk1 (by omega)⟩
set_option maxHeartbeats 2000000 in
theorem mof_any (a:Option Addr) (m:List (List RD)) (c:Nat) (w:World) (hm:RowN w a m) (hl:m.length≤1100000) :
  Calls Tryz.prog 78 #[.slice a m.length c] w (MatV w (ofF m)):=by
 have H:=hid (recn_any a m c w hm hl)
 have HM:=hid hm
 obtain⟨D,hD⟩:∃ D,D=ofF m:=⟨_,rfl⟩
 have HD:=hid hD
 rw[← hD]
 clear hm hD
 go_enter Tryz.func78,Tryz.ntmps78
 go_wp2_with fail
 go_fit H.out
 rintro e w1 ⟨rfl,k1⟩
 cases hv:vlN m with
 | false =>
  have HE:=hid (show D=[] by rw[HD.out];unfold ofF;rw[if_neg (by rw[hv];decide)])
  clear hv
  go_wp2_with fail
  go_ret
  rw[HE.out]
  exact⟨none,[],0,rfl,fun i r h=>by simp at h,rfl,fun r h=>by simp at h,by simp,k1⟩
 | true =>
 have HV:=hid hv
 have HE:=hid (eachN_any a m c 151 #[] (fun i j=>ptP (atN m i j)) w1 (HM.out.kp k1) hv ⟨fun _ _=>by kernel_rfl,fun i j r x hi hj w2 k2 hx=>by
  have:=of1_any (i:Int) (j:Int) x w2 ⟨hx,(vlN_row HV.out hi).2 x (List.mem_of_getElem? hj)⟩
  have e:(fun i j=>ptP (atN m i j)) i j=ptP x:=by show ptP (atN m i j)=_;rw[atN_eq hi hj]
  rw[e];exact this⟩)
 have HE2:=hid (show D=tabM m.length (colsN m) (fun i j=>ptP (atN m i j)) by rw[HD.out];unfold ofF;rw[if_pos hv])
 clear hv
 go_wp2_with fail
 go_fit HE.out
 rintro e w2 ⟨a2,Z,c2,rfl,r2,p2,o2,l2,k2⟩
 go_wp2_with fail
 go_ret
 rw[HE2.out]
 exact⟨a2,Z,c2,rfl,r2,p2,o2,l2,k1.trans k2⟩
def RowT (w:World) (a:Option Addr) (m:List (List (List RI))):Prop :=
 ∀ i r,m[i]? = some r→∃ b o ra rc,a=some ⟨b,o,none⟩∧w.cell? ⟨b,o+i,none⟩=some (.slice ra r.length rc)∧RowM w ra r∧r.length≤1100000
theorem RowT.kp {w w':World} {a:Option Addr} {m:List (List (List RI))} (h:RowT w a m) (k:Kp w w'):RowT w' a m:=by
 intro i r hi
 obtain⟨b,o,ra,rc,h1,h2,h3,h4⟩:=h i r hi
 exact⟨b,o,ra,rc,h1,k.cell h2,h3.kp k,h4⟩
theorem limbs_one7 {m:Nat} (h0:0<m) (h1:m<4294967296):limbs m=[m]:=by
 rw[limbs_pos (by omega),Nat.mod_eq_of_lt h1,Nat.div_eq_of_lt h1,limbs_zero]
theorem intD_oks {n:Int} (h:n.natAbs≤1000):(intD n).ok:=(intD_isP (p:=10) (by decide) (by decide) (by omega)).1
theorem intD_eqs {d:Dy} {n:Int} (hd:d.ok) (hn:n.natAbs≤1000) (h:d.iv=n*2 ^ 16384):d=intD n:=Dy.iv_inj hd (intD_oks hn) (h.trans (intD_iv n).symm)
theorem Box3.setN {w:World} {g:Nat} {x0 x1 x2:Value} (h:Box3 w g x0 x1 x2) (hx:∀ n:Int,x2≠.int .u32 n) (v:Value):Box3 (w.setCell ⟨g,2,none⟩ v) g x0 x1 v∧Upd g w (w.setCell ⟨g,2,none⟩ v):=by
 obtain⟨h0,h1,h2,f0,f1,f2⟩:=h
 have U:=(Upd.refl g w).step h2 hx v
 exact⟨⟨set_at (by decide) h0,set_at (by decide) h1,cell_set_eq h2,(U.1 _).trans f0,(U.1 _).trans f1,(U.1 _).trans f2⟩,U⟩
theorem Box3.setM {w:World} {g:Nat} {x0 x1 x2:Value} (h:Box3 w g x0 x1 x2) (hx:∀ n:Int,x1≠.int .u32 n) (v:Value):Box3 (w.setCell ⟨g,1,none⟩ v) g x0 v x2∧Upd g w (w.setCell ⟨g,1,none⟩ v):=by
 obtain⟨h0,h1,h2,f0,f1,f2⟩:=h
 have U:=(Upd.refl g w).step h1 hx v
 exact⟨⟨set_at (by decide) h0,cell_set_eq h1,set_at (by decide) h2,(U.1 _).trans f0,(U.1 _).trans f1,(U.1 _).trans f2⟩,U⟩
theorem Upd.box3 {g b:Nat} {w W:World} (h:Upd g w W) (hb:b≠g) {x0 x1 x2:Value} (f:Box3 w b x0 x1 x2):Box3 W b x0 x1 x2:=by
 obtain⟨h1,_,_,h4,_⟩:=h
 have key (i:Nat):W.cell? ⟨b,i,none⟩=w.cell? ⟨b,i,none⟩:=h4 _ hb
 unfold Box3
 simp only[key,h1]
 exact f
def idP (i t:Nat):PI:=if i=t then pnI 1 1 else pnI 0 0
theorem intD_zero:intD 0=.zero:=rfl
theorem intD_le {a b:Int} (h:a≤b):(intD a).iv≤(intD b).iv:=by
 rw[intD_iv,intD_iv]
 have hp:=twoK_pos 16384
 generalize ((2:Int) ^ 16384)=q at *
 exact Int.mul_le_mul_of_nonneg_right h (by omega)
theorem intD_lt {a b:Int} (h:a<b):(intD a).iv<(intD b).iv:=by
 rw[intD_iv,intD_iv]
 have hp:=twoK_pos 16384
 generalize ((2:Int) ^ 16384)=q at *
 exact Int.mul_lt_mul_of_pos_right h (by omega)
theorem vl_int {w:World} {x y:RD} {a b:Int} (hx:x.ok w) (hy:y.ok w) (dx:x.dy=intD a) (dy:y.dy=intD b) (h:a≤b):RI.vl ⟨x,y,false⟩=true :=
 vl_mk2 hx.2 hy.2 (by show x.dy.iv≤y.dy.iv;rw[dx,dy];exact intD_le h)
theorem pl_int {x y:RD} {a b:Int} (dx:x.dy=intD a) (dy:y.dy=intD b):RI.pl ⟨x,y,false⟩=pnI a b:=by unfold RI.pl pnI;rw[dx,dy]
structure RF where
 ca:Option Addr
 cs:List RD
 cc:Nat
 aa:Option Addr
 ms:List (List RD)
 ac:Nat
 ra:Option Addr
 rs:List RI
 rc:Nat
def RF.rd (w:World) (f:RF):Prop:=(RowD w f.ca f.cs∧f.cs.length≤1100000)∧(RowN w f.aa f.ms∧f.ms.length≤1100000)∧(RowI w f.ra f.rs∧f.rs.length≤1100000)
theorem RF.rd.kp {w w':World} {f:RF} (h:f.rd w) (k:Kp w w'):f.rd w':=⟨⟨h.1.1.kp k,h.1.2⟩,⟨h.2.1.1.kp k,h.2.1.2⟩,⟨h.2.2.1.kp k,h.2.2.2⟩⟩
def goodZ (x:RI):Bool:=!x.all&&(x.vl&&(decide (x.lo.iv≤0)&&decide (0≤x.hi.iv)))
theorem goodZ_iff {x:RI}:goodZ x=true↔x.all=false∧x.vl=true∧x.lo.iv≤0∧0≤x.hi.iv:=by
 unfold goodZ
 simp only[Bool.and_eq_true,Bool.not_eq_true',decide_eq_true_eq]
def vlF (f:RF):Bool:=decide (1≤f.cs.length∧f.cs.length≤8)&&(decide (f.ms.length=f.cs.length∧f.rs.length=f.cs.length)&&(f.cs.all RD.vl&&(f.ms.all (fun r=>decide (r.length=f.cs.length)&&r.all RD.vl)&&f.rs.all goodZ)))
theorem vlF_iff {f:RF}:vlF f=true↔(1≤f.cs.length∧f.cs.length≤8)∧(f.ms.length=f.cs.length∧f.rs.length=f.cs.length)∧(∀ x∈f.cs,x.vl=true)∧(∀ r∈f.ms,r.length=f.cs.length∧∀ x∈r,x.vl=true)∧∀ x∈f.rs,goodZ x=true:=by
 unfold vlF
 simp only[Bool.and_eq_true,decide_eq_true_eq,List.all_eq_true]
theorem vlF_N {f:RF} (h:vlF f=true):vlN f.ms=true∧colsN f.ms=f.cs.length:=by
 obtain⟨h1,h2,h3,h4,h5⟩:=vlF_iff.1 h
 have hpos:0<f.ms.length:=by omega
 have hc:colsN f.ms=f.cs.length:=by
  unfold colsN
  cases hm:f.ms with
  | nil=>rw[hm] at hpos;simp at hpos
  | cons r t=>exact (h4 r (by rw[hm];exact .head _)).1
 refine⟨vlN_iff.2 ⟨by omega,by rw[hc];exact h1,fun r hr=>?_⟩,hc⟩
 rw[hc];exact h4 r hr
def ptR:List RD→List RD→Dy→Option Dy
 | [],_,s=>some s
 | _::_,[],_=>none
 | a::r,y::z,s=>if (chk (prodD a.dy y.dy)).2≠0 then none else if (chk (sumD s (chk (prodD a.dy y.dy)).1)).2≠0 then none else ptR r z (chk (sumD s (chk (prodD a.dy y.dy)).1)).1
theorem drop_at {α:Type} {l:List α} {k:Nat} {x:α} (h:l[k]? = some x):l.drop k=x::l.drop (k+1):=by
 obtain⟨hk,e⟩:=List.getElem?_eq_some_iff.1 h
 rw[List.drop_eq_getElem_cons hk,e]
theorem ptR_mul {r z:List RD} {k:Nat} {a y:RD} {s:Dy} (ha:r[k]? = some a) (hy:z[k]? = some y) (h:(chk (prodD a.dy y.dy)).2≠0):ptR (r.drop k) (z.drop k) s=none:=by
 rw[drop_at ha,drop_at hy];unfold ptR;rw[if_pos h]
theorem ptR_add {r z:List RD} {k:Nat} {a y:RD} {s p:Dy} (ha:r[k]? = some a) (hy:z[k]? = some y) (h:(chk (prodD a.dy y.dy)).2=0) (hp:p=(chk (prodD a.dy y.dy)).1) (h2:(chk (sumD s p)).2≠0):ptR (r.drop k) (z.drop k) s=none:=by
 subst hp
 rw[drop_at ha,drop_at hy];unfold ptR;rw[if_neg (by omega),if_pos h2]
theorem ptR_next {r z:List RD} {k:Nat} {a y:RD} {s p q:Dy} (ha:r[k]? = some a) (hy:z[k]? = some y) (h:(chk (prodD a.dy y.dy)).2=0) (hp:p=(chk (prodD a.dy y.dy)).1) (h2:(chk (sumD s p)).2=0) (hq:q=(chk (sumD s p)).1):ptR (r.drop k) (z.drop k) s=ptR (r.drop (k+1)) (z.drop (k+1)) q:=by
 subst hp;subst hq
 rw[drop_at ha,drop_at hy];conv=>lhs;unfold ptR
 rw[if_neg (by omega),if_neg (by omega)]
def ptM (z:List RD):List (RD×List RD)→Option (List Dy)
 | []=>some []
 | (c,r)::m=>match ptR r z c.dy with
  | none=>none
  | some s=>match ptM z m with
   | none=>none
   | some l=>some (s::l)
def boxF (f:RF) (p:Nat):List PI:=rowF f.cs.length fun i=>pAdd (ptP (f.cs.getD i rdZero)) (dotF p (fun t=>ptP (atN f.ms i t)) (rowG f.rs) (f.cs.length-1)) p
section
open Go.ChangeShapes Go.WideShapes Go.RowKit Go.Deep
section
variable {H:Type} {enc:TypeId×Value→H} {w:World} {base:Nat} {spare:Nat→Bool} {held:Bool}
theorem cellsFrm:Tryz.prog.cellsOf 26=3:=by kernel_rfl
theorem cellsRowsN:Tryz.prog.cellsOf 23=1:=by kernel_rfl
theorem cellsRowsI:Tryz.prog.cellsOf 24=1:=by kernel_rfl
theorem cellsRowsD:Tryz.prog.cellsOf 22=1:=by kernel_rfl
theorem open_frm {fuel:Nat} {cs:List Value} {x:DataW H×List MemPlace} (h:DataW.trod enc Tryz.prog w base spare held fuel 26 cs=some x) (hb:Rows.uptoBulk x.1≤1048576) :
  ∃ f:RF,cs=[.slice f.ca f.cs.length f.cc,.slice f.aa f.ms.length f.ac,.slice f.ra f.rs.length f.rc]∧f.rd w:=by
 obtain⟨xs,n,_,hx,hlen,hxl,hf⟩:=DataW.trod_struct Tryz.underlying26 h
 replace hlen:=hlen.trans cellsFrm
 obtain⟨c0,c1,c2,rfl⟩:=list3 hlen
 obtain⟨y0,y1,y2,rfl⟩:=list3 hxl
 have h0:DataW.trod enc Tryz.prog w base spare held n 22 (([c0,c1,c2].drop 0).take (Tryz.prog.cellsOf 22))=some y0:=hf 0 _ rfl
 have h1:DataW.trod enc Tryz.prog w base spare held n 23 (([c0,c1,c2].drop 1).take (Tryz.prog.cellsOf 23))=some y1:=hf 1 _ rfl
 have h2:DataW.trod enc Tryz.prog w base spare held n 24 (([c0,c1,c2].drop 2).take (Tryz.prog.cellsOf 24))=some y2:=hf 2 _ rfl
 rw[cellsRowsD] at h0
 rw[cellsRowsN] at h1
 rw[cellsRowsI] at h2
 have h0:DataW.trod enc Tryz.prog w base spare held n 22 [c0]=some y0:=h0
 have h1:DataW.trod enc Tryz.prog w base spare held n 23 [c1]=some y1:=h1
 have h2:DataW.trod enc Tryz.prog w base spare held n 24 [c2]=some y2:=h2
 have b0:Rows.uptoBulk y0.1≤Rows.uptoBulk x.1:=by rw[hx];exact bulk_agg (by simp)
 have b1:Rows.uptoBulk y1.1≤Rows.uptoBulk x.1:=by rw[hx];exact bulk_agg (by simp)
 have b2:Rows.uptoBulk y2.1≤Rows.uptoBulk x.1:=by rw[hx];exact bulk_agg (by simp)
 obtain⟨ca,cs,cc,e0,r0,l0⟩:=open_rowD h0 (by omega)
 obtain⟨aa,ms,ac,e1,r1,l1⟩:=open_rowN h1 (by omega)
 obtain⟨ra,rs,rc,e2,r2,l2⟩:=open_rowI h2 (by omega)
 simp only[List.cons.injEq,and_true] at e0 e1 e2
 subst e0 e1 e2
 exact⟨⟨ca,cs,cc,aa,ms,ac,ra,rs,rc⟩,rfl,⟨r0,by show cs.length≤_;omega⟩,⟨r1,by show ms.length≤_;omega⟩,⟨r2,by show rs.length≤_;omega⟩⟩
end
end
def hasX (X:PI) (v:Int):Bool:=X.all||(decide (X.lo.iv≤v)&&decide (v≤X.hi.iv))
theorem IHas_vl (x:RI) (d:RD) (w:World) (hx:x.rd w) (hd:d.rd w) (vx:x.vl=true) (vd:d.vl=true) :
  Calls Tryz.prog 88 #[.agg #[.bool x.lo.neg,.slice x.lo.a x.lo.xs.length x.lo.c,.int .i64 x.lo.e,.bool x.hi.neg,.slice x.hi.a x.hi.xs.length x.hi.c,.int .i64 x.hi.e,.bool x.all],.agg #[.bool d.neg,.slice d.a d.xs.length d.c,.int .i64 d.e]] w fun e w'=>e=.returned (.bool (hasX x.pl d.iv))∧Kp w w':=by
 cases hxa:x.all with
 | false =>
  have ox:x.ok w:=ok_of hx vx hxa
  refine (Has_ok x d w ox ⟨hd,vd⟩).mono ?_
  rintro e w' ⟨rfl,k⟩
  refine⟨?_,k⟩
  congr 2
  unfold hasX hasI
  rw[show x.pl.all=false from hxa]
  rfl
 | true =>
 have H:=hid (show hasX x.pl d.iv=true by unfold hasX;rw[show x.pl.all=true from hxa];rfl)
 have C1:=hid (fun (W:World) (k:Kp w W)=>IValid_raw x W (hx.kp k))
 have C2:=hid (fun (W:World) (k:Kp w W)=>Valid_rok d W ⟨hd.kp k,vd⟩)
 rw[vx,hxa] at C1
 clear hx hd vx vd hxa
 go_enter Tryz.func88,Tryz.ntmps88
 go_wp2_with fail
 generalize hW:((w.alloc _).alloc _)=W at *
 have hk:Kp w W:=hW▸((Kp.refl w).alloc _).alloc _
 have hS:(W.cell? ⟨w.heap.size,0,none⟩=some (.bool x.lo.neg)∧W.cell? ⟨w.heap.size,1,none⟩=some (.slice x.lo.a x.lo.xs.length x.lo.c)∧W.cell? ⟨w.heap.size,2,none⟩=some (.int .i64 x.lo.e)∧W.cell? ⟨w.heap.size,3,none⟩=some (.bool x.hi.neg)∧W.cell? ⟨w.heap.size,4,none⟩=some (.slice x.hi.a x.hi.xs.length x.hi.c)∧W.cell? ⟨w.heap.size,5,none⟩=some (.int .i64 x.hi.e)∧W.cell? ⟨w.heap.size,6,none⟩=some (.bool true))∧W.cell? ⟨w.heap.size+1,0,none⟩=some (.bool d.neg)∧W.cell? ⟨w.heap.size+1,1,none⟩=some (.slice d.a d.xs.length d.c)∧W.cell? ⟨w.heap.size+1,2,none⟩=some (.int .i64 d.e):=by rw[← hW];exact keep73 (Kp.refl _) (by simp)
 clear hW
 go_fit (C1.out _ hk)
 rintro e w1 ⟨rfl,k1⟩
 have hS1:=keep73 k1 hS
 have hk1:=hk.trans k1
 obtain⟨⟨s0,s1,s2,s3,s4,s5,s6⟩,t0,t1,t2⟩:=id hS1
 go_wp2_with fail
 go_fit (C2.out _ hk1)
 rintro e w2 ⟨rfl,k2⟩
 clear s0 s1 s2 s3 s4 s5 s6 t0 t1 t2
 obtain⟨⟨s0,s1,s2,s3,s4,s5,s6⟩,t0,t1,t2⟩:=keep73 k2 hS1
 have hk2:=hk1.trans k2
 go_wp2_with fail
 go_ret
 exact⟨ret_bool H.out.symm,hk2⟩
theorem IHas_raw (x:RI) (d:RD) (w:World) (hx:x.rd w) (hd:d.rd w) (vd:d.vl=true) :
  Calls Tryz.prog 88 #[.agg #[.bool x.lo.neg,.slice x.lo.a x.lo.xs.length x.lo.c,.int .i64 x.lo.e,.bool x.hi.neg,.slice x.hi.a x.hi.xs.length x.hi.c,.int .i64 x.hi.e,.bool x.all],.agg #[.bool d.neg,.slice d.a d.xs.length d.c,.int .i64 d.e]] w fun e w'=>e=.returned (.bool (x.vl&&hasX x.pl d.iv))∧Kp w w':=by
 cases hv:x.vl with
 | true=>exact (IHas_vl x d w hx hd hv vd).mono fun e w' h=>by simpa using h
 | false =>
 have C1:=hid (fun (W:World) (k:Kp w W)=>IValid_raw x W (hx.kp k))
 rw[hv] at C1
 rw[Bool.false_and]
 clear hx hd vd hv
 go_enter Tryz.func88,Tryz.ntmps88
 go_wp2_with fail
 generalize hW:((w.alloc _).alloc _)=W at *
 have hk:Kp w W:=hW▸((Kp.refl w).alloc _).alloc _
 have hS:(W.cell? ⟨w.heap.size,0,none⟩=some (.bool x.lo.neg)∧W.cell? ⟨w.heap.size,1,none⟩=some (.slice x.lo.a x.lo.xs.length x.lo.c)∧W.cell? ⟨w.heap.size,2,none⟩=some (.int .i64 x.lo.e)∧W.cell? ⟨w.heap.size,3,none⟩=some (.bool x.hi.neg)∧W.cell? ⟨w.heap.size,4,none⟩=some (.slice x.hi.a x.hi.xs.length x.hi.c)∧W.cell? ⟨w.heap.size,5,none⟩=some (.int .i64 x.hi.e)∧W.cell? ⟨w.heap.size,6,none⟩=some (.bool x.all))∧W.cell? ⟨w.heap.size+1,0,none⟩=some (.bool d.neg)∧W.cell? ⟨w.heap.size+1,1,none⟩=some (.slice d.a d.xs.length d.c)∧W.cell? ⟨w.heap.size+1,2,none⟩=some (.int .i64 d.e):=by rw[← hW];exact keep73 (Kp.refl _) (by simp)
 clear hW
 go_fit (C1.out _ hk)
 rintro e w1 ⟨rfl,k1⟩
 have hk1:=hk.trans k1
 go_wp2_with fail
 go_ret
 exact⟨rfl,hk1⟩
theorem fprecise_any (p:Int) (w:World) :
  Calls Tryz.prog 95 #[.int .i64 p] w fun e w'=>e=.returned (.bool (preB p))∧w=w':=by
 by_cases h1:8≤p
 rotate_left
 ·have H:=hid (show preB p=false from decide_eq_false (by omega))
  go_enter Tryz.func95,Tryz.ntmps95
  go_wp2_with fail
  go_ret
  exact⟨ret_bool (by first | exact H.out.symm | (rw[H.out];simp;omega)),rfl⟩
 by_cases h2:p≤512
 ·have H:=hid (show preB p=true from decide_eq_true ⟨h1,h2⟩)
  go_enter Tryz.func95,Tryz.ntmps95
  go_wp2_with fail
  go_ret
  exact⟨ret_bool (by first | exact H.out.symm | (rw[H.out];simp;omega)),rfl⟩
 have H:=hid (show preB p=false from decide_eq_false (by omega))
 go_enter Tryz.func95,Tryz.ntmps95
 go_wp2_with fail
 go_ret
 exact⟨ret_bool (by first | exact H.out.symm | (rw[H.out];simp;omega)),rfl⟩
def badF (n:Nat) (r:List RD):Bool:=decide (r.length≠n)||r.any fun x=>!x.vl
theorem vlF_any (f:RF):vlF f=(decide (1≤f.cs.length∧f.cs.length≤8)&&(decide (f.ms.length=f.cs.length∧f.rs.length=f.cs.length)&&(!(f.cs.any fun x=>!x.vl)&&(!f.ms.any (badF f.cs.length)&&!f.rs.any fun x=>!goodZ x)))):=by
 unfold vlF
 congr 2
 rw[List.not_any_eq_all_not,List.not_any_eq_all_not,List.not_any_eq_all_not]
 congr 1
 ·congr 1;funext x;simp
 congr 1
 ·congr 1
  funext r
  unfold badF
  rw[Bool.not_or,List.not_any_eq_all_not]
  simp
 congr 1;funext x;simp
theorem storeFv (a:Addr) (f:Fn) (ts cap:Array Value) (m:Mode) (w:World):(store a (.func f ts cap) m).run Tryz.prog w=Go.stored Tryz.prog w a (.func f ts cap) m:=run_store _ w a _ m rfl
set_option maxHeartbeats 2000000 in
theorem fv1_any (x:RD) (w:World) (hx:x.rd w) :
  Calls Tryz.prog 83 #[.agg #[.bool x.neg,.slice x.a x.xs.length x.c,.int .i64 x.e]] w fun e w'=>e=.returned (.bool (!x.vl))∧Kp w w':=by
 have k1:=(Kp.refl w).alloc (.cells #[.bool x.neg,.slice x.a x.xs.length x.c,.int .i64 x.e] 38)
 have HX:=hid (hx.kp k1)
 clear hx
 go_enter Tryz.func83,Tryz.ntmps83
 go_upto_region 1 with fail
 generalize hW:w.alloc _=W at *
 obtain⟨s0,s1,s2⟩:W.cell? ⟨w.heap.size,0,none⟩=some (.bool x.neg)∧W.cell? ⟨w.heap.size,1,none⟩=some (.slice x.a x.xs.length x.c)∧W.cell? ⟨w.heap.size,2,none⟩=some (.int .i64 x.e):=by rw[← hW];simp
 clear hW
 go_wp2_with fail
 go_fit (Valid_raw x _ HX.out)
 rintro e w1 ⟨rfl,k2⟩
 go_wp2_with fail
 go_ret
 exact⟨rfl,k1.trans k2⟩
set_option maxHeartbeats 2000000 in
theorem fp1_any (x:RD) (w:World) (hx:x.rd w) :
  Calls Tryz.prog 93 #[.agg #[.bool x.neg,.slice x.a x.xs.length x.c,.int .i64 x.e]] w fun e w'=>e=.returned (.bool (!x.vl))∧Kp w w':=by
 have k1:=(Kp.refl w).alloc (.cells #[.bool x.neg,.slice x.a x.xs.length x.c,.int .i64 x.e] 38)
 have HX:=hid (hx.kp k1)
 clear hx
 go_enter Tryz.func93,Tryz.ntmps93
 go_upto_region 1 with fail
 generalize hW:w.alloc _=W at *
 obtain⟨s0,s1,s2⟩:W.cell? ⟨w.heap.size,0,none⟩=some (.bool x.neg)∧W.cell? ⟨w.heap.size,1,none⟩=some (.slice x.a x.xs.length x.c)∧W.cell? ⟨w.heap.size,2,none⟩=some (.int .i64 x.e):=by rw[← hW];simp
 clear hW
 go_wp2_with fail
 go_fit (Valid_raw x _ HX.out)
 rintro e w1 ⟨rfl,k2⟩
 go_wp2_with fail
 go_ret
 exact⟨rfl,k1.trans k2⟩
set_option maxHeartbeats 2000000 in
theorem fv2_any (r:List RD) (n:Nat) (ra:Option Addr) (rc bn bo:Nat) (w:World) (hr:RowD w ra r) (hrl:r.length≤1100000)
  (h1:w.cell? ⟨bn,0,none⟩=some (.int .i64 (n:Int))) (h2:w.cell? ⟨bo,0,none⟩=some (.func (.func 83) #[] #[])) :
  Calls Tryz.prog 86 #[.slice ra r.length rc,.pointer (some ⟨bn,0,none⟩),.pointer (some ⟨bo,0,none⟩)] w fun e w'=>e=.returned (.bool (badF n r))∧Kp w w':=by
 have hp:AnsD Tryz.prog 83 #[] w r (fun x=>!x.vl):=⟨fun _ _=>by kernel_rfl,fun x hx w1 k=>fv1_any x w1 ((hr.rd hx).kp k)⟩
 have HC:=hid (containsD ra r rc _ _ w _ hrl hr hp)
 clear hp hr
 by_cases hlen:r.length=n
 rotate_left
 ·have hne:((r.length:Int) != (n:Int))=true:=by simpa using (by omega:¬ (r.length:Int)=(n:Int))
  have HB:=hid (show badF n r=true by unfold badF;rw[decide_eq_true (by simpa using hlen)];rfl)
  clear hlen
  go_enter Tryz.func86,Tryz.ntmps86
  go_wp2_with fail
  go_ret
  exact⟨ret_bool HB.out.symm,.refl _⟩
 have hne:((r.length:Int) != (n:Int))=false:=by rw[hlen];simp
 have HB:=hid (show badF n r=r.any (fun x=>!x.vl) by unfold badF;rw[decide_eq_false (by simpa using hlen)];rfl)
 clear hlen
 go_enter Tryz.func86,Tryz.ntmps86
 go_wp2_with fail
 go_fit HC.out
 rintro e w1 ⟨rfl,k1⟩
 go_wp2_with fail
 go_ret
 exact⟨ret_bool HB.out.symm,k1⟩
theorem IHas_zero (x:RI) (w:World) (hx:x.rd w) (ha:x.all=false) :
  Calls Tryz.prog 88 #[.agg #[.bool x.lo.neg,.slice x.lo.a x.lo.xs.length x.lo.c,.int .i64 x.lo.e,.bool x.hi.neg,.slice x.hi.a x.hi.xs.length x.hi.c,.int .i64 x.hi.e,.bool false],.agg #[.bool false,.slice none 0 0,.int .i64 0]] w fun e w'=>e=.returned (.bool (goodZ x))∧Kp w w':=by
 have h:=IHas_raw x rdZero w hx (rdZero_rd _) rdZero_vl
 have e:(x.vl&&hasX x.pl rdZero.iv)=goodZ x:=by
  unfold goodZ hasX
  rw[show x.pl.all=false from ha,ha,show rdZero.iv=0 from Dy.iv_zero]
  rfl
 rw[e,ha] at h
 exact h
set_option maxHeartbeats 2000000 in
theorem fv3_any (x:RI) (w:World) (hx:x.rd w) :
  Calls Tryz.prog 87 #[.agg #[.bool x.lo.neg,.slice x.lo.a x.lo.xs.length x.lo.c,.int .i64 x.lo.e,.bool x.hi.neg,.slice x.hi.a x.hi.xs.length x.hi.c,.int .i64 x.hi.e,.bool x.all]] w fun e w'=>e=.returned (.bool (!goodZ x))∧Kp w w':=by
 cases ha:x.all with
 | true =>
  have H:=hid (show (!goodZ x)=true by unfold goodZ;rw[ha];rfl)
  have k1:=(Kp.refl w).alloc (.cells #[.bool x.lo.neg,.slice x.lo.a x.lo.xs.length x.lo.c,.int .i64 x.lo.e,.bool x.hi.neg,.slice x.hi.a x.hi.xs.length x.hi.c,.int .i64 x.hi.e,.bool true] 44)
  clear hx ha
  go_enter Tryz.func87,Tryz.ntmps87
  go_upto_region 1 with fail
  generalize hW:w.alloc _=W at *
  obtain⟨s0,s1,s2,s3,s4,s5,s6⟩:W.cell? ⟨w.heap.size,0,none⟩=some (.bool x.lo.neg)∧W.cell? ⟨w.heap.size,1,none⟩=some (.slice x.lo.a x.lo.xs.length x.lo.c)∧W.cell? ⟨w.heap.size,2,none⟩=some (.int .i64 x.lo.e)∧W.cell? ⟨w.heap.size,3,none⟩=some (.bool x.hi.neg)∧W.cell? ⟨w.heap.size,4,none⟩=some (.slice x.hi.a x.hi.xs.length x.hi.c)∧W.cell? ⟨w.heap.size,5,none⟩=some (.int .i64 x.hi.e)∧W.cell? ⟨w.heap.size,6,none⟩=some (.bool true):=by rw[← hW];simp
  clear hW
  go_wp2_with fail
  go_ret
  exact⟨ret_bool H.out.symm,k1⟩
 | false =>
 have k1:=(Kp.refl w).alloc (.cells #[.bool x.lo.neg,.slice x.lo.a x.lo.xs.length x.lo.c,.int .i64 x.lo.e,.bool x.hi.neg,.slice x.hi.a x.hi.xs.length x.hi.c,.int .i64 x.hi.e,.bool false] 44)
 have HC:=hid (IHas_zero x _ (hx.kp k1) ha)
 clear hx ha
 go_enter Tryz.func87,Tryz.ntmps87
 go_upto_region 1 with fail
 generalize hW:w.alloc _=W at *
 obtain⟨s0,s1,s2,s3,s4,s5,s6⟩:W.cell? ⟨w.heap.size,0,none⟩=some (.bool x.lo.neg)∧W.cell? ⟨w.heap.size,1,none⟩=some (.slice x.lo.a x.lo.xs.length x.lo.c)∧W.cell? ⟨w.heap.size,2,none⟩=some (.int .i64 x.lo.e)∧W.cell? ⟨w.heap.size,3,none⟩=some (.bool x.hi.neg)∧W.cell? ⟨w.heap.size,4,none⟩=some (.slice x.hi.a x.hi.xs.length x.hi.c)∧W.cell? ⟨w.heap.size,5,none⟩=some (.int .i64 x.hi.e)∧W.cell? ⟨w.heap.size,6,none⟩=some (.bool false):=by rw[← hW];simp
 clear hW
 go_wp2_with fail
 go_fit HC.out
 rintro e w1 ⟨rfl,k2⟩
 go_wp2_with fail
 go_ret
 exact⟨rfl,k1.trans k2⟩
theorem cell_new1 (w:World) (v:Value) (t:TypeId):(w.alloc (.cells #[v] t)).cell? ⟨w.heap.size,0,none⟩=some v:=by simp
theorem cell_new3 (w:World) (o1 o2:Obj) (v:Value) (t:TypeId):(((w.alloc o1).alloc o2).alloc (.cells #[v] t)).cell? ⟨w.heap.size+1+1,0,none⟩=some v:=by
 have:=cell_new1 ((w.alloc o1).alloc o2) v t
 rwa [World.size_alloc,World.size_alloc] at this
theorem keepF {w w':World} (k:Kp w w') {g:Nat} {f:RF} (h:w.cell? ⟨g,0,none⟩=some (.slice f.ca f.cs.length f.cc)∧w.cell? ⟨g,1,none⟩=some (.slice f.aa f.ms.length f.ac)∧w.cell? ⟨g,2,none⟩=some (.slice f.ra f.rs.length f.rc)):w'.cell? ⟨g,0,none⟩=some (.slice f.ca f.cs.length f.cc)∧w'.cell? ⟨g,1,none⟩=some (.slice f.aa f.ms.length f.ac)∧w'.cell? ⟨g,2,none⟩=some (.slice f.ra f.rs.length f.rc):=keep3 k h
set_option maxRecDepth 100000 in
set_option maxHeartbeats 8000000 in
theorem fval_any (f:RF) (w:World) (hf:f.rd w) :
  Calls Tryz.prog 27 #[.agg #[.slice f.ca f.cs.length f.cc,.slice f.aa f.ms.length f.ac,.slice f.ra f.rs.length f.rc]] w fun e w'=>e=.returned (.bool (vlF f))∧Kp w w':=by
 have HV:=hid (vlF_any f)
 have HF:=hid hf
 have hsf:=storeFv
 clear hf
 by_cases h1:f.cs.length<1
 ·have H:=hid (show vlF f=false by rw[HV.out,decide_eq_false (by omega)];rfl)
  have g1:(f.cs.length:Int)<1:=by omega
  have kk:=((Kp.refl w).alloc (.cells #[.slice f.ca f.cs.length f.cc,.slice f.aa f.ms.length f.ac,.slice f.ra f.rs.length f.rc] 26)).alloc (.cells #[.int .i64 (f.cs.length:Int)] 3)
  clear h1 HV
  go_enter Tryz.func27,Tryz.ntmps27
  go_wp2_with fail
  go_ret
  exact⟨ret_bool H.out.symm,kk⟩
 have g1:¬ (f.cs.length:Int)<1:=by omega
 by_cases h2:8<f.cs.length
 ·have H:=hid (show vlF f=false by rw[HV.out,decide_eq_false (by omega)];rfl)
  have g2:(8:Int)<(f.cs.length:Int):=by omega
  have kk:=((Kp.refl w).alloc (.cells #[.slice f.ca f.cs.length f.cc,.slice f.aa f.ms.length f.ac,.slice f.ra f.rs.length f.rc] 26)).alloc (.cells #[.int .i64 (f.cs.length:Int)] 3)
  clear h1 h2 HV
  go_enter Tryz.func27,Tryz.ntmps27
  go_wp2_with fail
  go_ret
  exact⟨ret_bool H.out.symm,kk⟩
 have g2:¬ (8:Int)<(f.cs.length:Int):=by omega
 by_cases h3:f.ms.length=f.cs.length
 case neg =>
  have H:=hid (show vlF f=false by rw[HV.out,decide_eq_true (by omega),decide_eq_false (by omega)];rfl)
  have g3:((f.ms.length:Int) != (f.cs.length:Int))=true:=by simpa using (by omega:¬ (f.ms.length:Int)=(f.cs.length:Int))
  have kk:=((Kp.refl w).alloc (.cells #[.slice f.ca f.cs.length f.cc,.slice f.aa f.ms.length f.ac,.slice f.ra f.rs.length f.rc] 26)).alloc (.cells #[.int .i64 (f.cs.length:Int)] 3)
  clear h1 h2 h3 HV
  go_enter Tryz.func27,Tryz.ntmps27
  go_wp2_with fail
  go_ret
  exact⟨ret_bool H.out.symm,kk⟩
 have g3:((f.ms.length:Int) != (f.cs.length:Int))=false:=by rw[h3];simp
 by_cases h4:f.rs.length=f.cs.length
 case neg =>
  have H:=hid (show vlF f=false by rw[HV.out,decide_eq_true (by omega),decide_eq_false (by omega)];rfl)
  have g4:((f.rs.length:Int) != (f.cs.length:Int))=true:=by simpa using (by omega:¬ (f.rs.length:Int)=(f.cs.length:Int))
  have kk:=((Kp.refl w).alloc (.cells #[.slice f.ca f.cs.length f.cc,.slice f.aa f.ms.length f.ac,.slice f.ra f.rs.length f.rc] 26)).alloc (.cells #[.int .i64 (f.cs.length:Int)] 3)
  clear h1 h2 h3 h4 HV
  go_enter Tryz.func27,Tryz.ntmps27
  go_wp2_with fail
  go_ret
  exact⟨ret_bool H.out.symm,kk⟩
 have g4:((f.rs.length:Int) != (f.cs.length:Int))=false:=by rw[h4];simp
 have H:=hid (show vlF f=(!(f.cs.any fun x=>!x.vl)&&(!f.ms.any (badF f.cs.length)&&!f.rs.any fun x=>!goodZ x)) by rw[HV.out,decide_eq_true (by omega),decide_eq_true (by omega)];rfl)
 clear HV h1 h2 h3 h4
 have kk:=(((Kp.refl w).alloc (.cells #[.slice f.ca f.cs.length f.cc,.slice f.aa f.ms.length f.ac,.slice f.ra f.rs.length f.rc] 26)).alloc (.cells #[.int .i64 (f.cs.length:Int)] 3)).alloc (.cells #[.func (.func 83) #[] #[]] 80)
 go_enter Tryz.func27,Tryz.ntmps27
 go_upto_region 5 with fail
 generalize hW:(((w.alloc _).alloc _).alloc _)=W at *
 have hS:(W.cell? ⟨w.heap.size,0,none⟩=some (.slice f.ca f.cs.length f.cc)∧W.cell? ⟨w.heap.size,1,none⟩=some (.slice f.aa f.ms.length f.ac)∧W.cell? ⟨w.heap.size,2,none⟩=some (.slice f.ra f.rs.length f.rc))∧W.cell? ⟨w.heap.size+1,0,none⟩=some (.int .i64 (f.cs.length:Int))∧W.cell? ⟨w.heap.size+1+1,0,none⟩=some (.func (.func 83) #[] #[]):=by
  rw[← hW]
  refine⟨keep3 ((Kp.refl _).alloc _) (keep3 ((Kp.refl _).alloc _) (by simp)),((Kp.refl _).alloc _).cell (by simp),cell_new3 _ _ _ _ _⟩
 clear hW
 obtain⟨⟨s0,s1,s2⟩,n0,f0⟩:=id hS
 go_wp2_with fail
 go_fit (containsD f.ca f.cs f.cc 83 #[] _ (fun x=>!x.vl) HF.out.1.2 (HF.out.1.1.kp kk) ⟨fun _ _=>by kernel_rfl,fun x hx w1 k=>fv1_any x w1 (((HF.out.1.1.kp kk).rd hx).kp k)⟩)
 rintro e w1 ⟨rfl,k1⟩
 have hS1:=And.intro (keepF k1 hS.1) (And.intro (k1.cell hS.2.1) (k1.cell hS.2.2))
 have hk1:=kk.trans k1
 clear s0 s1 s2 n0 f0 hS kk k1
 cases hc:f.cs.any fun x=>!x.vl with
 | true =>
  have H2:=hid (show vlF f=false by rw[H.out,hc];rfl)
  clear hc
  go_wp2_with fail
  go_ret
  exact⟨ret_bool H2.out.symm,hk1⟩
 | false =>
 have H2:=hid (show vlF f=(!f.ms.any (badF f.cs.length)&&!f.rs.any fun x=>!goodZ x) by rw[H.out,hc];rfl)
 have HS1:=hid hS1
 have HK1:=hid hk1
 obtain⟨⟨s0,s1,s2⟩,n0,f0⟩:=id hS1
 have hlt1:=World.block_lt_of_cell? w1 _ n0
 have hlt2:=World.block_lt_of_cell? w1 _ f0
 clear hc H hS1 hk1
 go_wp2_with fail
 go_fit (containsN f.aa f.ms f.ac 86 #[.pointer (some ⟨w.heap.size+1,0,none⟩),.pointer (some ⟨w.heap.size+1+1,0,none⟩)] _ (badF f.cs.length) HF.out.2.1.2 (HF.out.2.1.1.kp HK1.out) ⟨fun _ _=>by kernel_rfl,fun r hr ra rc w2 k hrow=>fv2_any r f.cs.length ra rc _ _ w2 hrow.1 hrow.2 (k.cell HS1.out.2.1) (k.cell HS1.out.2.2)⟩)
 rintro e w2 ⟨rfl,k2⟩
 have hS2:=keepF k2 HS1.out.1
 have hk2:=HK1.out.trans k2
 clear s0 s1 s2 n0 f0 k2 hlt1 hlt2
 cases hc:f.ms.any (badF f.cs.length) with
 | true =>
  have H3:=hid (show vlF f=false by rw[H2.out,hc];rfl)
  clear hc
  go_wp2_with fail
  go_ret
  exact⟨ret_bool H3.out.symm,hk2⟩
 | false =>
 have H3:=hid (show vlF f=!f.rs.any (fun x=>!goodZ x) by rw[H2.out,hc];rfl)
 have HK2:=hid hk2
 obtain⟨s0,s1,s2⟩:=hS2
 clear hc H2 hk2
 go_wp2_with fail
 go_fit (containsI f.ra f.rs f.rc 87 #[] _ (fun x=>!goodZ x) HF.out.2.2.2 (HF.out.2.2.1.kp HK2.out) ⟨fun _ _=>by kernel_rfl,fun x hx w3 k=>fv3_any x w3 (((HF.out.2.2.1.kp HK2.out).rdI hx).kp k)⟩)
 rintro e w3 ⟨rfl,k3⟩
 go_wp2_with fail
 go_ret
 exact⟨ret_bool H3.out.symm,HK2.out.trans k3⟩
def RowE (w:World) (X:List PI) (f:Int) (e:Ending) (w':World):Prop :=
 ∃ (a:Option Addr) (Z:List RI) (c:Nat),e=.returned (.tuple #[.slice a Z.length c,.int .i64 f])∧RowI w' a Z∧plR Z=X∧(∀ x∈Z,x.vl=true)∧Z.length≤1100000∧Kp w w'
theorem rowE_nil {w w':World} {f:Int} {e:Ending} (h:e=.returned (.tuple #[.slice none 0 0,.int .i64 f])) (k:Kp w w'):RowE w [] f e w':=⟨none,[],0,h,fun i x h=>by simp at h,rfl,fun x h=>by simp at h,by simp,k⟩
def applyC (m:List (List RI)) (x:List RI) (p:Int):List PI×Int :=
 if vlM m=false then ([],1) else if (x.any fun y=>!y.vl)=true then ([],1) else if preB p=false then ([],2) else if colsM m≠x.length then ([],3) else (rowF m.length fun i=>dotF p.toNat (atP m i) (rowG x) (colsM m-1),0)
theorem any_vl {x:List RI} (h:(x.any fun y=>!y.vl)=false):∀ y∈x,y.vl=true:=fun y hy=>by
 have:=List.any_eq_false.1 h y hy
 simpa using this
set_option maxHeartbeats 4000000 in
theorem ap1_any (x:RI) (w:World) (hx:x.rd w) :
  Calls Tryz.prog 152 #[.agg #[.bool x.lo.neg,.slice x.lo.a x.lo.xs.length x.lo.c,.int .i64 x.lo.e,.bool x.hi.neg,.slice x.hi.a x.hi.xs.length x.hi.c,.int .i64 x.hi.e,.bool x.all]] w fun e w'=>e=.returned (.bool (!x.vl))∧Kp w w':=by
 have k1:=(Kp.refl w).alloc (.cells #[.bool x.lo.neg,.slice x.lo.a x.lo.xs.length x.lo.c,.int .i64 x.lo.e,.bool x.hi.neg,.slice x.hi.a x.hi.xs.length x.hi.c,.int .i64 x.hi.e,.bool x.all] 44)
 have HX:=hid (hx.kp k1)
 clear hx
 go_enter Tryz.func152,Tryz.ntmps152
 go_upto_region 1 with fail
 generalize hW:w.alloc _=W at *
 obtain⟨s0,s1,s2,s3,s4,s5,s6⟩:W.cell? ⟨w.heap.size,0,none⟩=some (.bool x.lo.neg)∧W.cell? ⟨w.heap.size,1,none⟩=some (.slice x.lo.a x.lo.xs.length x.lo.c)∧W.cell? ⟨w.heap.size,2,none⟩=some (.int .i64 x.lo.e)∧W.cell? ⟨w.heap.size,3,none⟩=some (.bool x.hi.neg)∧W.cell? ⟨w.heap.size,4,none⟩=some (.slice x.hi.a x.hi.xs.length x.hi.c)∧W.cell? ⟨w.heap.size,5,none⟩=some (.int .i64 x.hi.e)∧W.cell? ⟨w.heap.size,6,none⟩=some (.bool x.all):=by rw[← hW];simp
 clear hW
 go_wp2_with fail
 go_fit (IValid_raw x _ HX.out)
 rintro e w1 ⟨rfl,k2⟩
 go_wp2_with fail
 go_ret
 exact⟨rfl,k1.trans k2⟩
set_option maxHeartbeats 4000000 in
theorem ap2_any (x:List RI) (a:Option Addr) (c k bb:Nat) (w:World) (hx:RowI w a x) (hv:∀ y∈x,y.vl=true) (_hl:x.length≤8) (hb:w.cell? ⟨bb,0,none⟩=some (.slice a x.length c)) (hk:k<x.length) :
  Calls Tryz.prog 153 #[.int .i64 (k:Int),.pointer (some ⟨bb,0,none⟩)] w (IvOut w (rowG x k)):=by
 obtain⟨y,hy⟩:∃ y,x[k]? = some y:=⟨_,List.getElem?_eq_getElem hk⟩
 have HX:=hid (And.intro (rowG_eq hy) (hv y (List.mem_of_getElem? hy)))
 obtain⟨b3,o3,rfl,hrd,hS⟩:=hx k y hy
 have k1:=(Kp.refl w).alloc (.cells #[.bool false,.slice none 0 0,.int .i64 0,.bool false,.slice none 0 0,.int .i64 0,.bool false] 44)
 have hi1:(0:Int)≤(k:Int):=by omega
 have hi2:(k:Int)<(x.length:Int):=by omega
 have HR:=hid (hrd.kp k1)
 have hb1:=k1.cell hb
 have hS1:=keep7 k1 hS
 have hV:=Var7.new w 44
 clear hx hv hy hb hS hrd
 go_enter Tryz.func153,Tryz.ntmps153
 go_upto_region 1 with fail
 generalize w.alloc _=W at *
 obtain⟨⟨q0,q1,q2,q3,q4,q5,q6⟩,f0,f1,f2,f3,f4,f5,f6⟩:=id hV
 obtain⟨s0,s1,s2,s3,s4,s5,s6⟩:=hS1
 go_wp2_with fail
 generalize hW9:((((((W.setCell _ _).setCell _ _).setCell _ _).setCell _ _).setCell _ _).setCell _ _).setCell _ _=W9
 obtain⟨⟨s0,s1,s2,s3,s4,s5,s6⟩,hU⟩:=stored7 (show Box7 W _ _ _ _ _ _ _ _ from ⟨q0,q1,q2,q3,q4,q5,q6⟩) nofun nofun nofun nofun nofun nofun nofun _ _ _ _ _ _ _ hW9
 clear hW9 q0 q1 q2 q3 q4 q5 q6 f0 f1 f2 f3 f4 f5 f6
 refine bodyPost_ret (v:=.agg #[.bool y.lo.neg,.slice y.lo.a y.lo.xs.length y.lo.c,.int .i64 y.lo.e,.bool y.hi.neg,.slice y.hi.a y.hi.xs.length y.hi.c,.int .i64 y.hi.e,.bool y.all]) (by simp[results,Tryz.results153,go_sem,s0,s1,s2,s3,s4,s5,s6]) rfl ?_
 exact⟨y,rfl,hU.rdI HR.out,HX.out.1.symm,HX.out.2,hU.2.2.1 _ k1 (by omega)⟩
set_option maxRecDepth 100000 in
set_option maxHeartbeats 8000000 in
theorem mapply_any (a b:Option Addr) (m:List (List RI)) (x:List RI) (c d:Nat) (p:Int) (w:World) (hm:RowM w a m) (hx:RowI w b x) (hl:m.length≤1100000) (hl2:x.length≤1100000) (hT:Tab w) :
  Calls Tryz.prog 79 #[.slice a m.length c,.slice b x.length d,.int .i64 p] w (RowE w (applyC m x p).1 (applyC m x p).2):=by
 have HM:=hid hm
 have HN:=hid hx
 have HT:=hid hT
 obtain⟨D,hD⟩:∃ D,D=applyC m x p:=⟨_,rfl⟩
 have HD:=hid hD
 rw[← hD]
 clear hm hx hT hD
 go_enter Tryz.func79,Tryz.ntmps79
 go_wp2_with fail
 generalize hW:w.alloc _=W at *
 have hk:Kp w W:=hW▸(Kp.refl w).alloc _
 have hbox:W.cell? ⟨w.heap.size,0,none⟩=some (.slice b x.length d):=by rw[← hW];simp
 clear hW
 go_fit (mvalid_any a m c _ (HM.out.kp hk) hl)
 rintro e w1 ⟨rfl,k1⟩
 have hk1:=hk.trans k1
 have hbox1:=k1.cell hbox
 clear hk hbox k1
 cases hvm:vlM m with
 | false =>
  have HE:=hid (show D=([],1) by rw[HD.out];unfold applyC;rw[if_pos hvm])
  clear hvm
  go_wp2_with fail
  rw[HE.out]
  refine bodyPost_ret (v:=.tuple #[.slice none 0 0,.int .i64 1]) (by simp[results,Tryz.results79,go_sem]) rfl ?_
  exact rowE_nil rfl hk1
 | true =>
 have HVM:=hid hvm
 clear hvm
 go_wp2_with fail
 go_fit (containsI b x d 152 #[] _ (fun y=>!y.vl) hl2 (HN.out.kp hk1) ⟨fun _ _=>by kernel_rfl,fun y hy w1 k=>ap1_any y w1 (((HN.out.kp hk1).kp k).rdI hy)⟩)
 rintro e w2 ⟨rfl,k2⟩
 have hk2:=hk1.trans k2
 have hbox2:=k2.cell hbox1
 clear hk1 hbox1 k2
 cases hvx:x.any fun y=>!y.vl with
 | true =>
  have HE:=hid (show D=([],1) by rw[HD.out];unfold applyC;rw[HVM.out,hvx];rfl)
  clear hvx
  go_wp2_with fail
  rw[HE.out]
  refine bodyPost_ret (v:=.tuple #[.slice none 0 0,.int .i64 1]) (by simp[results,Tryz.results79,go_sem]) rfl ?_
  exact rowE_nil rfl hk2
 | false =>
 have HVX:=hid hvx
 clear hvx
 go_wp2_with fail
 go_fit (mprecise_any p _)
 rintro e w3 ⟨rfl,rfl⟩
 cases hp:preB p with
 | false =>
  have HE:=hid (show D=([],2) by rw[HD.out];unfold applyC;rw[HVM.out,HVX.out,hp];rfl)
  clear hp
  go_wp2_with fail
  rw[HE.out]
  refine bodyPost_ret (v:=.tuple #[.slice none 0 0,.int .i64 2]) (by simp[results,Tryz.results79,go_sem]) rfl ?_
  exact rowE_nil rfl hk2
 | true =>
 have HP:=hid hp
 clear hp
 obtain⟨r0,hr0,hc0⟩:=vlM_row0 HVM.out
 have hml:=(vlM_iff.1 HVM.out).1
 have hmc:=(vlM_iff.1 HVM.out).2.1
 obtain⟨ba,oa,ra,rc,rfl,hrow,_⟩:=HM.out 0 r0 hr0
 rw[Nat.add_zero] at hrow
 have hi1:(0:Int)<(m.length:Int):=by omega
 have HC0:=hid hc0
 have kd:=(Kp.refl w2).drew
 have hbr:=(hk2.trans kd).cell hrow
 have hbb:=kd.cell hbox2
 replace hk2:=hk2.trans kd
 have hlr:r0.length≤8:=by omega
 have HML:=hid (And.intro hml hmc)
 clear hr0 hrow hc0 kd hbox2 hml hmc
 go_upto_region 5 with fail
 go_region
 generalize w2.drew=W0 at *
 by_cases hne:r0.length=x.length
 rotate_left
 ·have hne1:((r0.length:Int) != (x.length:Int))=true:=by simpa using (by omega:¬ (r0.length:Int)=(x.length:Int))
  have HE:=hid (show D=([],3) by
   rw[HD.out];unfold applyC
   rw[HVM.out,HVX.out,HP.out,if_neg (by decide),if_neg (by decide),if_neg (by decide),if_pos (by have:=HC0.out;omega)])
  clear hne
  go_wp2_with fail
  rw[hne1]
  go_wp2_with fail
  rw[HE.out]
  refine bodyPost_ret (v:=.tuple #[.slice none 0 0,.int .i64 3]) (by simp[results,Tryz.results79,go_sem]) rfl ?_
  exact rowE_nil rfl hk2
 have hne1:((r0.length:Int) != (x.length:Int))=false:=by rw[hne];simp
 obtain⟨q,hq⟩:∃ q:Nat,q=p.toNat:=⟨_,rfl⟩
 have hpq:p=(q:Int):=by
  have:=preB_iff.1 HP.out
  omega
 have hq0:8≤q:=by have:=preB_iff.1 HP.out;omega
 have hq1:q≤512:=by have:=preB_iff.1 HP.out;omega
 obtain⟨F,hF⟩:∃ F:Nat→PI,F=fun i=>dotF q (atP m i) (rowG x) (colsM m-1):=⟨_,rfl⟩
 have HDm:=hid (show D=(rowF m.length F,0) by
  rw[HD.out];unfold applyC
  rw[HVM.out,HVX.out,HP.out,if_neg (by decide),if_neg (by decide),if_neg (by decide),if_neg (by have:=HC0.out;omega),hF,hq])
 have HNE:=hid hne
 have HF:=hid hF
 rw[hpq]
 have HQ:=hid hq
 have HK2:=hid hk2
 have HB:=hid hbb
 have hxl:x.length≤8:=by omega
 clear hne hq hpq hF hk2
 go_wp2_with fail
 rw[hne1]
 clear hne1 hbr hbb
 go_wp2_with fail
 go_loopg [8,33] m.length (fun z v t wr=>∃ cur:List RI,cur.length+z=m.length∧t=.int .i64 (cur.length:Int)∧OwnN W0 wr v cur∧plR cur=rowF cur.length F∧∀ x∈cur,x.vl=true)
 case atStart=>exact⟨[],by simp,rfl,OwnN.nil (Kp.refl _),rfl,fun x h=>by simp at h⟩
 case round =>
 obtain⟨cur,hcq,rfl,hown0,hpc,hvc⟩:=hrel
 have hk9:=hown0.1
 by_cases hlt:cur.length<m.length
 rotate_left
 ·have hRe:cur.length=m.length:=by omega
  obtain⟨va,vc,rfl,hvc1,hvc2,hrm⟩:=hown0.value
  have HRe:=hid (And.intro hRe (And.intro hrm (And.intro hpc hvc)))
  have HML8:=hid (show cur.length≤1100000 by have:=HML.out;omega)
  have HK9:=hid (HK2.out.trans hk9)
  clear hRe hcq hrm hpc hvc hown0 hk9
  go_wp2_with fail
  rw[HDm.out]
  refine bodyPost_ret (v:=.tuple #[.slice va cur.length vc,.int .i64 0]) (by simp[results,Tryz.results79,go_sem]) rfl ?_
  refine⟨va,cur,vc,rfl,HRe.out.2.1,?_,HRe.out.2.2.2,HML8.out,HK9.out⟩
  rw[HRe.out.2.2.1,HRe.out.1]
 obtain⟨r,hr⟩:∃ r,m[cur.length]? = some r:=⟨_,List.getElem?_eq_getElem hlt⟩
 obtain⟨b2,o2,ra2,rc2,e2,hrc,hrow,hrl⟩:=HM.out cur.length r hr
 cases e2
 have hrcr:=(HK2.out.trans hk9).cell hrc
 have HRW:=hid (And.intro (hrow.kp (HK2.out.trans hk9)) (vlM_row HVM.out hr))
 have HG:=hid (show rowG r=atP m cur.length by rw[← rowG_at,List.getD_eq_getElem?_getD,hr];rfl)
 have HPC:=hid (And.intro hpc (And.intro hvc (And.intro hcq hlt)))
 have hk1:(0:Int)≤(cur.length:Int):=by omega
 have hk2:(cur.length:Int)<(m.length:Int):=by omega
 have hcl:cur.length+1≤9000000:=by omega
 have HOW:=hid hown0
 have HK9:=hid hk9
 have HAT:=hid (show AtI Tryz.prog 153 #[.pointer (some ⟨w.heap.size,0,none⟩)] wr r.length (rowG x) from
  ⟨fun _ _=>by kernel_rfl,fun k hk w1 k'=>ap2_any x b d k _ w1 (HN.out.kp ((HK2.out.trans HK9.out).trans k')) (any_vl HVX.out) hxl ((HK9.out.trans k').cell HB.out) (by have:=HRW.out.2.1;have:=HNE.out;have:=HC0.out;omega)⟩)
 have HZ:=hid (show dotF q (rowG r) (rowG x) (r.length-1)=F cur.length by rw[HF.out,HG.out,HRW.out.2.1])
 have HRN:=hid (show 0<r.length∧r.length≤8 by have:=HRW.out.2.1;have:=HML.out;omega)
 clear hr hrc hrow hrl hpc hvc hcq hlt hown0 hk9
 go_wp2_with fail
 go_fit (dot_any _ r rc2 153 #[.pointer (some ⟨w.heap.size,0,none⟩)] q (rowG x) _ HRW.out.1 HRW.out.2.2 HRN.out.1 HRN.out.2 HAT.out hq0 hq1 (HT.out.kp (HK2.out.trans HK9.out)))
 rintro e v1 ⟨z,rfl,hz,hzp,hzv,j1⟩
 have hownA:=HOW.out.kp (j1.alloc (.cells #[.bool z.lo.neg,.slice z.lo.a z.lo.xs.length z.lo.c,.int .i64 z.lo.e,.bool z.hi.neg,.slice z.hi.a z.hi.xs.length z.hi.c,.int .i64 z.hi.e,.bool z.all] 44))
 have hzA:=hz.kp ((Kp.refl v1).alloc (.cells #[.bool z.lo.neg,.slice z.lo.a z.lo.xs.length z.lo.c,.int .i64 z.lo.e,.bool z.hi.neg,.slice z.hi.a z.hi.xs.length z.hi.c,.int .i64 z.hi.e,.bool z.all] 44))
 have ZP:=hid (And.intro (hzp.trans HZ.out) hzv)
 clear hz hzp hzv j1 hrcr
 go_wp2_with (at_builtin;refine wpList_append_ivg rfl _ _ rfl W0 _ cur rfl hownA _ _ rfl z hzA (by simp) hcl ?_;intro a' c' w9 hown9 hgrow hblk)
 go_roundg (gk-1)
 case measure=>have:=HPC.out.2.2;omega
 case rel =>
 refine⟨cur++[z],by have:=HPC.out.2.2;rw[List.length_append,List.length_singleton];omega,by rw[List.length_append,List.length_singleton];go_num,by simpa using hown9,?_,ok_snoc HPC.out.2.1 ZP.out.2⟩
 rw[plR_snoc,HPC.out.1,List.length_append,List.length_singleton,rowF_snoc,ZP.out.1]
end Go.Proofs.YtbhmhfnfceakoaaGreatDoor
