/-
  Walks: the thirty-first reference's Valid.
-/
import Derived.Deep.LoopGhost
import Derived.Deep.DeepFit
import Derived.Test.YtbhmhfnfceakoaaGreatDoorMEchM
import Derived.Test.YtbhmhfnfceakoaaGreatDoorMR7Q
import Derived.Deep.CutRange
import Derived.Deep.RegionLaw
import Derived.Deep.RegionHeld3
import Derived.Deep.RegionWith
import Derived.Test.YtbhmhfnfceakoaaGreatDoorMImgF
import Derived.Test.YtbhmhfnfceakoaaGreatDoorMOpen
import Derived.Test.YtbhmhfnfceakoaaGreatDoorMSmF
namespace Go.Proofs.YtbhmhfnfceakoaaGreatDoor
open Go.RowKit
open Lib (hid)
set_option maxRecDepth 100000 in
set_option maxHeartbeats 8000000 in
theorem r31valid_any (f:RF) (w:World) (hf:f.rd w) :
  Calls Tryz.prog 10 #[.agg #[.slice f.ca f.cs.length f.cc,.slice f.aa f.ms.length f.ac,.slice f.ra f.rs.length f.rc]] w fun e w'=>e=.returned (.bool (vlF f))∧Kp w w':=by
 have HV:=hid (show vlF f=true↔_ from vlF_iff (f:=f))
 have HF:=hid hf
 have kk:=(Kp.refl w).alloc (.cells #[.slice f.ca f.cs.length f.cc,.slice f.aa f.ms.length f.ac,.slice f.ra f.rs.length f.rc] 26)
 clear hf
 by_cases h1:f.cs.length<1
 ·have H:=hid (show vlF f=false from Bool.eq_false_iff.2 fun h=>by have:=(HV.out.1 h).1;omega)
  have g1:(f.cs.length:Int)<1:=by omega
  clear h1 HV
  go_enter Tryz.func10,Tryz.ntmps10
  go_wp2_with fail
  go_ret
  exact⟨ret_bool H.out.symm,kk⟩
 have g1:¬ (f.cs.length:Int)<1:=by omega
 by_cases h2:8<f.cs.length
 ·have H:=hid (show vlF f=false from Bool.eq_false_iff.2 fun h=>by have:=(HV.out.1 h).1;omega)
  have g2:(8:Int)<(f.cs.length:Int):=by omega
  clear h1 h2 HV
  go_enter Tryz.func10,Tryz.ntmps10
  go_wp2_with fail
  go_ret
  exact⟨ret_bool H.out.symm,kk⟩
 have g2:¬ (8:Int)<(f.cs.length:Int):=by omega
 by_cases h3:f.ms.length=f.cs.length
 case neg =>
  have H:=hid (show vlF f=false from Bool.eq_false_iff.2 fun h=>by have:=(HV.out.1 h).2.1;omega)
  have g3:((f.ms.length:Int) != (f.cs.length:Int))=true:=by simpa using (by omega:¬ (f.ms.length:Int)=(f.cs.length:Int))
  clear h1 h2 h3 HV
  go_enter Tryz.func10,Tryz.ntmps10
  go_wp2_with fail
  go_ret
  exact⟨ret_bool H.out.symm,kk⟩
 have g3:((f.ms.length:Int) != (f.cs.length:Int))=false:=by rw[h3];simp
 by_cases h4:f.rs.length=f.cs.length
 case neg =>
  have H:=hid (show vlF f=false from Bool.eq_false_iff.2 fun h=>by have:=(HV.out.1 h).2.1;omega)
  have g4:((f.rs.length:Int) != (f.cs.length:Int))=true:=by simpa using (by omega:¬ (f.rs.length:Int)=(f.cs.length:Int))
  clear h1 h2 h3 h4 HV
  go_enter Tryz.func10,Tryz.ntmps10
  go_wp2_with fail
  go_ret
  exact⟨ret_bool H.out.symm,kk⟩
 have g4:((f.rs.length:Int) != (f.cs.length:Int))=false:=by rw[h4];simp
 have HL:=hid (show (1≤f.cs.length∧f.cs.length≤8)∧f.ms.length=f.cs.length∧f.rs.length=f.cs.length by omega)
 clear h1 h2 h3 h4
 go_enter Tryz.func10,Tryz.ntmps10
 go_upto_region 2 with fail
 generalize hW:w.alloc _=W at *
 obtain⟨s0,s1,s2⟩:W.cell? ⟨w.heap.size,0,none⟩=some (.slice f.ca f.cs.length f.cc)∧W.cell? ⟨w.heap.size,1,none⟩=some (.slice f.aa f.ms.length f.ac)∧W.cell? ⟨w.heap.size,2,none⟩=some (.slice f.ra f.rs.length f.rc):=by rw[← hW];simp
 have HSF:=hid (show W.cell? ⟨w.heap.size,0,none⟩=some (.slice f.ca f.cs.length f.cc)∧W.cell? ⟨w.heap.size,1,none⟩=some (.slice f.aa f.ms.length f.ac)∧W.cell? ⟨w.heap.size,2,none⟩=some (.slice f.ra f.rs.length f.rc) from ⟨s0,s1,s2⟩)
 clear hW
 go_wp2_with fail
 go_fit (r7numbers_any f.aa f.ms f.ac _ (HF.out.2.1.1.kp kk) HF.out.2.1.2)
 rintro e w1 ⟨rfl,k1⟩
 have HS1:=hid (keepF k1 HSF.out)
 have HK1:=hid (kk.trans k1)
 clear s0 s1 s2 kk k1
 cases hn:vlN f.ms with
 | false =>
  have H:=hid (show vlF f=false from Bool.eq_false_iff.2 fun h=>by rw[(vlF_N h).1] at hn;cases hn)
  clear hn
  go_wp2_with fail
  go_ret
  exact⟨ret_bool H.out.symm,HK1.out⟩
 | true =>
 have HN:=hid hn
 clear hn
 obtain⟨r0,hr0,hc0⟩:=vlN_row0 HN.out
 obtain⟨ba,oa,ra0,rc0,ea,hrow0,_,_⟩:=HF.out.2.1.1 0 r0 hr0
 rw[Nat.add_zero] at hrow0
 have hrow1:=HK1.out.cell hrow0
 have HC0:=hid hc0
 obtain⟨s0,s1,s2⟩:=id HS1.out
 rw[ea] at s1
 clear ea
 have hi1:(0:Int)<(f.ms.length:Int):=by have:=HL.out;omega
 clear hr0 hrow0 hc0
 by_cases h5:r0.length=f.cs.length
 case neg =>
  have H:=hid (show vlF f=false from Bool.eq_false_iff.2 fun h=>by have:=(vlF_N h).2;have:=HC0.out;omega)
  have g5:((r0.length:Int) != (f.cs.length:Int))=true:=by simpa using (by omega:¬ (r0.length:Int)=(f.cs.length:Int))
  clear h5 HV
  go_wp2_with fail
  go_ret
  exact⟨ret_bool H.out.symm,HK1.out⟩
 have g5:((r0.length:Int) != (f.cs.length:Int))=false:=by rw[h5];simp
 have H5:=hid h5
 clear h5
 go_wp2_with fail
 clear g1 g2 g3 g4 g5 hi1 hrow1 s0 s1 s2
 go_loopg [4] f.cs.length (fun q v wr=>∃ i:Nat,i+q=f.cs.length∧v=.int .i64 i∧(∀ (j:Nat) x,f.cs[j]? = some x→j<i→x.vl=true)∧(∀ (j:Nat) x,f.rs[j]? = some x→j<i→goodZ x=true)∧Kp w1 wr)
 case atStart=>exact⟨0,by omega,rfl,fun j x _ h=>by omega,fun j x _ h=>by omega,.refl _⟩
 case round =>
 obtain⟨i,hiq,rfl,hc,hr,hk⟩:=hrel
 have Hc:=hid hc
 have Hr:=hid hr
 have HK:=hid hk
 clear hc hr hk
 obtain⟨s0,s1,s2⟩:=keepF HK.out HS1.out
 by_cases hlt:i<f.cs.length
 rotate_left
 ·have H:=hid (show vlF f=true from HV.out.2 ⟨HL.out.1,HL.out.2,fun x hx=>by
    obtain⟨j,hj⟩:=List.getElem?_of_mem hx
    exact Hc.out j x hj (by have:=(List.getElem?_eq_some_iff.1 hj).1;omega),fun r hr=>by
    have:=(vlN_iff.1 HN.out).2.2 r hr
    exact⟨by have:=HC0.out;have:=H5.out;omega,this.2⟩,fun x hx=>by
    obtain⟨j,hj⟩:=List.getElem?_of_mem hx
    exact Hr.out j x hj (by have:=(List.getElem?_eq_some_iff.1 hj).1;have:=HL.out;omega)⟩)
  go_wp2_with fail
  go_ret
  exact⟨ret_bool H.out.symm,HK1.out.trans HK.out⟩
 obtain⟨c,hcc⟩:∃ c,f.cs[i]? = some c:=⟨_,List.getElem?_eq_getElem hlt⟩
 obtain⟨x,hx⟩:∃ x,f.rs[i]? = some x:=⟨_,List.getElem?_eq_getElem (by have:=HL.out;omega)⟩
 obtain⟨b3,o3,e3,hxr,x0,x1,x2,x3,x4,x5,x6⟩:=(HF.out.2.2.1.kp (HK1.out.trans HK.out)) i x hx
 have kA:=(Kp.refl wr).alloc (.cells #[.bool x.lo.neg,.slice x.lo.a x.lo.xs.length x.lo.c,.int .i64 x.lo.e,.bool x.hi.neg,.slice x.hi.a x.hi.xs.length x.hi.c,.int .i64 x.hi.e,.bool x.all] 44)
 obtain⟨b4,o4,e4,hcr,c0,c1,c2⟩:=(HF.out.1.1.kp ((HK1.out.trans HK.out).trans kA)) i c hcc
 have Hcx:=hid (And.intro hcc (And.intro hx (And.intro hcr (hxr.kp kA))))
 have Hlt:=hid (And.intro hiq hlt)
 have hi2:(0:Int)≤(i:Int):=by omega
 have hi3:(i:Int)<(f.cs.length:Int):=by omega
 have hi9:f.cs.length≤8:=HL.out.1.2
 have hi4:(i:Int)<(f.rs.length:Int):=by have:=HL.out;omega
 have HKA:=hid (HK.out.trans kA)
 have hSA:=keepF kA ⟨s0,s1,s2⟩
 have HSA:=hid hSA
 rw[e3] at s2
 clear e3
 clear hcc hx hcr hxr
 go_upto_region 8 with fail
 clear x0 x1 x2 x3 x4 x5 x6 s0 s1 s2
 generalize hW3:wr.alloc _=W3 at *
 have HB:=hid (show W3.cell? ⟨wr.heap.size,0,none⟩=some (.bool x.lo.neg)∧W3.cell? ⟨wr.heap.size,1,none⟩=some (.slice x.lo.a x.lo.xs.length x.lo.c)∧W3.cell? ⟨wr.heap.size,2,none⟩=some (.int .i64 x.lo.e)∧W3.cell? ⟨wr.heap.size,3,none⟩=some (.bool x.hi.neg)∧W3.cell? ⟨wr.heap.size,4,none⟩=some (.slice x.hi.a x.hi.xs.length x.hi.c)∧W3.cell? ⟨wr.heap.size,5,none⟩=some (.int .i64 x.hi.e)∧W3.cell? ⟨wr.heap.size,6,none⟩=some (.bool x.all) by rw[← hW3];simp)
 clear hW3
 obtain⟨s0,s1,s2⟩:=id hSA
 rw[e4] at s0
 clear e4 hSA
 go_wp2_with fail
 go_fit (r2Valid_raw c _ Hcx.out.2.2.1)
 rintro e w2 ⟨rfl,k2⟩
 have HK2:=hid (HKA.out.trans k2)
 have HB2:=hid (keep7 k2 HB.out)
 have HX2:=hid (Hcx.out.2.2.2.kp k2)
 clear s0 s1 s2 c0 c1 c2 kA k2
 cases hv:c.vl with
 | false =>
  have H:=hid (show vlF f=false from Bool.eq_false_iff.2 fun h=>by have:=(HV.out.1 h).2.2.1 c (List.mem_of_getElem? Hcx.out.1);rw[hv] at this;cases this)
  clear hv
  go_wp2_with fail
  go_ret
  exact⟨ret_bool H.out.symm,HK1.out.trans HK2.out⟩
 | true =>
 have Hcv:=hid hv
 obtain⟨x0,x1,x2,x3,x4,x5,x6⟩:=HB2.out
 clear hv
 go_wp2_with fail
 go_fit (r5Valid_raw x _ HX2.out)
 rintro e w3 ⟨rfl,k3⟩
 have HK3:=hid (HK2.out.trans k3)
 have HX3:=hid (HX2.out.kp k3)
 have HB3:=hid (keep7 k3 HB2.out)
 clear x0 x1 x2 x3 x4 x5 x6 k3
 cases hv:x.vl with
 | false =>
  have H:=hid (show vlF f=false from Bool.eq_false_iff.2 fun h=>by have:=(goodZ_iff.1 ((HV.out.1 h).2.2.2.2 x (List.mem_of_getElem? Hcx.out.2.1))).2.1;rw[hv] at this;cases this)
  clear hv
  go_wp2_with fail
  go_ret
  exact⟨ret_bool H.out.symm,HK1.out.trans HK3.out⟩
 | true =>
 have Hxv:=hid hv
 have hB3:=HB3.out
 clear hv
 cases ha:x.all with
 | true =>
  have H:=hid (show vlF f=false from Bool.eq_false_iff.2 fun h=>by have:=(goodZ_iff.1 ((HV.out.1 h).2.2.2.2 x (List.mem_of_getElem? Hcx.out.2.1))).1;rw[ha] at this;cases this)
  rw[ha] at hB3
  obtain⟨x0,x1,x2,x3,x4,x5,x6⟩:=hB3
  clear ha
  go_wp2_with fail
  go_ret
  exact⟨ret_bool H.out.symm,HK1.out.trans HK3.out⟩
 | false =>
 rw[ha] at hB3
 obtain⟨x0,x1,x2,x3,x4,x5,x6⟩:=hB3
 have HZ:=hid (r5has_zero x _ (ok_of HX3.out Hxv.out ha))
 clear ha
 go_wp2_with fail
 go_fit HZ.out
 rintro e w4 ⟨rfl,k4⟩
 have HK4:=hid (HK3.out.trans k4)
 clear x0 x1 x2 x3 x4 x5 x6 k4
 cases hz:goodZ x with
 | false =>
  have H:=hid (show vlF f=false from Bool.eq_false_iff.2 fun h=>by have:=(HV.out.1 h).2.2.2.2 x (List.mem_of_getElem? Hcx.out.2.1);rw[hz] at this;cases this)
  clear hz
  go_wp2_with fail
  go_ret
  exact⟨ret_bool H.out.symm,HK1.out.trans HK4.out⟩
 | true =>
 have Hz:=hid hz
 clear hz
 go_wp2_with fail
 go_roundg (gk-1)
 case measure=>have:=Hlt.out;omega
 case rel =>
 refine⟨i+1,by have:=Hlt.out;omega,by go_num,fun j y hy hj=>?_,fun j y hy hj=>?_,HK4.out⟩
 ·by_cases h:j=i
  ·subst h;rw[Hcx.out.1] at hy;cases hy;exact Hcv.out
  exact Hc.out j y hy (by omega)
 by_cases h:j=i
 ·subst h;rw[Hcx.out.2.1] at hy;cases hy;exact Hz.out
 exact Hr.out j y hy (by omega)
def sqrL (m:List (List RI)) (n:Int):Bool:=decide ((m.length:Int)=n)&&!(m.any fun r=>!decide ((r.length:Int)=n))
set_option maxHeartbeats 4000000 in
theorem sqr1_any (r:List RI) (a:Option Addr) (c b:Nat) (n:Int) (w:World) (hb:w.cell? ⟨b,0,none⟩=some (.int .i64 n)) :
  Calls Tryz.prog 55 #[.slice a r.length c,.pointer (some ⟨b,0,none⟩)] w fun e w'=>e=.returned (.bool (!decide ((r.length:Int)=n)))∧Kp w w':=by
 by_cases h:(r.length:Int)=n
 ·have g:((r.length:Int) != n)=false:=by rw[h];simp
  rw[decide_eq_true h]
  clear h
  go_enter Tryz.func55,Tryz.ntmps55
  go_wp2_with fail
  go_ret
  exact⟨ret_bool rfl,.refl _⟩
 have g:((r.length:Int) != n)=true:=by rw[bne,beq_eq_false_iff_ne.2 h];rfl
 rw[decide_eq_false h]
 clear h
 go_enter Tryz.func55,Tryz.ntmps55
 go_wp2_with fail
 go_ret
 exact⟨ret_bool rfl,.refl _⟩
set_option maxHeartbeats 4000000 in
theorem sqrL_any (m:List (List RI)) (a:Option Addr) (c:Nat) (n:Int) (w:World) (hm:RowM w a m) (hl:m.length≤1100000) :
  Calls Tryz.prog 11 #[.slice a m.length c,.int .i64 n] w fun e w'=>e=.returned (.bool (sqrL m n))∧Kp w w':=by
 have kk:=(Kp.refl w).alloc (.cells #[.int .i64 n] 3)
 have hb:(w.alloc (.cells #[.int .i64 n] 3)).cell? ⟨w.heap.size,0,none⟩=some (.int .i64 n):=by simp
 have HC:=hid (containsR a m c 55 #[.pointer (some ⟨w.heap.size,0,none⟩)] (w.alloc (.cells #[.int .i64 n] 3)) (fun r=>!decide ((r.length:Int)=n)) hl (hm.kp kk) ⟨fun _ _=>by kernel_rfl,fun r hr ra rc w1 k hrow=>sqr1_any r ra rc _ n w1 (k.cell hb)⟩)
 clear hm
 by_cases h:(m.length:Int)=n
 rotate_left
 ·have g:((m.length:Int)==n)=false:=beq_eq_false_iff_ne.2 h
  have H:=hid (show sqrL m n=false by unfold sqrL;rw[decide_eq_false h];rfl)
  clear h
  go_enter Tryz.func11,Tryz.ntmps11
  go_wp2_with fail
  go_ret
  exact⟨ret_bool H.out.symm,kk⟩
 have g:((m.length:Int)==n)=true:=by rw[h];simp
 have H:=hid (show sqrL m n=!(m.any fun r=>!decide ((r.length:Int)=n)) by unfold sqrL;rw[decide_eq_true h];rfl)
 clear h
 go_enter Tryz.func11,Tryz.ntmps11
 go_wp2_with fail
 go_fit HC.out
 rintro e w1 ⟨rfl,k1⟩
 go_wp2_with fail
 go_ret
 exact⟨ret_bool H.out.symm,kk.trans k1⟩
end Go.Proofs.YtbhmhfnfceakoaaGreatDoor
