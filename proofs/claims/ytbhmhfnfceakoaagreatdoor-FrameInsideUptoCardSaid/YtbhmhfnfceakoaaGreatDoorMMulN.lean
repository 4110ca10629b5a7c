/-
  Walks: matrix.Mul.
-/
import Derived.Deep.AppendLies
import Derived.Test.YtbhmhfnfceakoaaGreatDoorMRoQ
import Derived.Test.YtbhmhfnfceakoaaGreatDoorMR2I
namespace Go.Proofs.YtbhmhfnfceakoaaGreatDoor
open Go.RowKit
open Lib (hid)
def MatE (w:World) (X:List (List PI)) (f:Int) (e:Ending) (w':World):Prop :=
 ∃ (a:Option Addr) (Z:List (List RI)) (c:Nat),e=.returned (.tuple #[.slice a Z.length c,.int .i64 f])∧RowM w' a Z∧plM Z=X∧okM Z∧Z.length≤1100000∧Kp w w'
theorem rowM_nil (w:World) (a:Option Addr):RowM w a []:=fun i r h=>by simp at h
theorem matE_nil {w w':World} {f:Int} {e:Ending} (h:e=.returned (.tuple #[.slice none 0 0,.int .i64 f])) (k:Kp w w'):MatE w [] f e w':=⟨none,[],0,h,rowM_nil _ _,rfl,fun r h=>by simp at h,by simp,k⟩
def mulC (m n:List (List RI)) (p:Int):List (List PI)×Int :=
 if (!vlM m||!vlM n)=true then ([],1) else if preB p=false then ([],2) else if colsM m≠n.length then ([],3) else (mulF m n p.toNat,0)
theorem vlM_row0 {m:List (List RI)} (h:vlM m=true):∃ r,m[0]? = some r∧r.length=colsM m:=by
 have h0:0<m.length:=(vlM_iff.1 h).1.1
 exact⟨_,List.getElem?_eq_getElem h0,(vlM_row h (List.getElem?_eq_getElem h0)).1⟩
set_option maxRecDepth 100000 in
set_option maxHeartbeats 8000000 in
theorem mmul_any (a b:Option Addr) (m n:List (List RI)) (c d:Nat) (p:Int) (w:World) (hm:RowM w a m) (hn:RowM w b n) (hl:m.length≤1100000) (hl2:n.length≤1100000) (hT:Tab w) :
   Calls Tryz.prog 77 #[.slice a m.length c,.slice b n.length d,.int .i64 p] w (MatE w (mulC m n p).1 (mulC m n p).2):=by
 have HM:=hid hm
 have HN:=hid hn
 have HT:=hid hT
 obtain⟨D,hD⟩:∃ D,D=mulC m n p:=⟨_,rfl⟩
 have HD:=hid hD
 rw[← hD]
 clear hm hn hT hD
 go_enter Tryz.func77,Tryz.ntmps77
 go_wp2_with fail
 generalize hW:w.alloc _=W at *
 have hk:Kp w W:=hW▸(Kp.refl w).alloc _
 have hbox:W.cell? ⟨w.heap.size,0,none⟩=some (.slice b n.length d):=by rw[← hW];simp
 clear hW
 go_fit (mvalid_any a m c _ (HM.out.kp hk) hl)
 rintro e w1 ⟨rfl,k1⟩
 have hk1:=hk.trans k1
 have hbox1:=k1.cell hbox
 clear hk hbox k1
 cases hvm:vlM m with
 | false =>
   have HE:=hid (show D=([],1) by rw[HD.out];unfold mulC;rw[hvm];rfl)
   clear hvm
   go_wp2_with fail
   rw[HE.out]
   refine bodyPost_ret (v:=.tuple #[.slice none 0 0,.int .i64 1]) (by simp[results,Tryz.results77,go_sem]) rfl ?_
   exact matE_nil rfl hk1
 | true =>
 have HVM:=hid hvm
 clear hvm
 go_wp2_with fail
 go_fit (mvalid_any b n d _ (HN.out.kp hk1) hl2)
 rintro e w2 ⟨rfl,k2⟩
 have hk2:=hk1.trans k2
 have hbox2:=k2.cell hbox1
 clear hk1 hbox1 k2
 cases hvn:vlM n with
 | false =>
   have HE:=hid (show D=([],1) by rw[HD.out];unfold mulC;rw[HVM.out,hvn];rfl)
   clear hvn
   go_wp2_with fail
   rw[HE.out]
   refine bodyPost_ret (v:=.tuple #[.slice none 0 0,.int .i64 1]) (by simp[results,Tryz.results77,go_sem]) rfl ?_
   exact matE_nil rfl hk2
 | true =>
 have HVN:=hid hvn
 clear hvn
 go_wp2_with fail
 go_fit (mprecise_any p _)
 rintro e w3 ⟨rfl,rfl⟩
 cases hp:preB p with
 | false =>
   have HE:=hid (show D=([],2) by rw[HD.out];unfold mulC;rw[HVM.out,HVN.out,hp];rfl)
   clear hp
   go_wp2_with fail
   rw[HE.out]
   refine bodyPost_ret (v:=.tuple #[.slice none 0 0,.int .i64 2]) (by simp[results,Tryz.results77,go_sem]) rfl ?_
   exact matE_nil rfl hk2
 | true =>
 have HP:=hid hp
 clear hp
 obtain⟨r0,hr0,hc0⟩:=vlM_row0 HVM.out
 obtain⟨s0,hs0,hd0⟩:=vlM_row0 HVN.out
 have hml:=(vlM_iff.1 HVM.out).1
 have hmc:=(vlM_iff.1 HVM.out).2.1
 have hnl:=(vlM_iff.1 HVN.out).1
 have hnc:=(vlM_iff.1 HVN.out).2.1
 obtain⟨ba,oa,ra,rc,rfl,hrow,_⟩:=HM.out 0 r0 hr0
 obtain⟨bb,ob,rb,rd,rfl,hrowb,_⟩:=HN.out 0 s0 hs0
 rw[Nat.add_zero] at hrow hrowb
 have hi1:(0:Int)<(m.length:Int):=by omega
 have hi2:(0:Int)<(n.length:Int):=by omega
 have HC0:=hid (And.intro hc0 hd0)
 have kd:=(Kp.refl w2).drew
 have hrow2:=(hk2.trans kd).cell hrow
 have hrowb2:=hid (And.intro hrowb (hk2.cell hrowb))
 have hbox3:=kd.cell hbox2
 have hSd:w2.drew.cell? ⟨ba,oa,none⟩=some (.slice ra r0.length rc)∧w2.drew.cell? ⟨w.heap.size,0,none⟩=some (.slice (some ⟨bb,ob,none⟩) n.length d):=⟨hrow2,hbox3⟩
 replace hk2:=hk2.trans kd
 have hlr:r0.length≤8:=by omega
 have hln:n.length≤8:=by omega
 have HML:=hid (And.intro hml (And.intro hmc (And.intro hnl hnc)))
 clear hr0 hs0 hrow hrowb hc0 hd0 kd hbox2 hrow2 hbox3 hml hmc hnl hnc
 go_upto_region 5 with fail
 obtain⟨hbr,hbb⟩:=id hSd
 go_region
 obtain⟨hbr,hbb⟩:=hSd
 generalize w2.drew=W0 at *
 by_cases hne:r0.length=n.length
 rotate_left
 · have hne1:((r0.length:Int) != (n.length:Int))=true:=by simpa using (by omega:¬ (r0.length:Int)=(n.length:Int))
   have HE:=hid (show D=([],3) by
     rw[HD.out];unfold mulC
     rw[HVM.out,HVN.out,HP.out,if_neg (by decide),if_neg (by decide),if_pos (by have:=HC0.out;omega)])
   clear hne
   go_wp2_with fail
   rw[HE.out]
   refine bodyPost_ret (v:=.tuple #[.slice none 0 0,.int .i64 3]) (by simp[results,Tryz.results77,go_sem]) rfl ?_
   exact matE_nil rfl hk2
 have hne1:((r0.length:Int) != (n.length:Int))=false:=by rw[hne];simp
 have HDm:=hid (show D=(mulF m n p.toNat,0) by
   rw[HD.out];unfold mulC
   rw[HVM.out,HVN.out,HP.out,if_neg (by decide),if_neg (by decide),if_neg (by have:=HC0.out;omega)])
 have HNE:=hid hne
 clear hne
 have hmk:=make_rows (m.length:Int) m.length rfl (by omega)
 go_wp2_with fail
 rw[hne1]
 have hO:=OutH.made W0 m.length
 generalize hW1:W0.alloc _=W1 at *
 have HK2:=hid hk2
 have HB:=hid (And.intro hbr hbb)
 clear hW1 hne1 hmk hbr hbb hk2
 obtain⟨q,hq⟩:∃ q:Nat,q=p.toNat:=⟨_,rfl⟩
 have hpq:p=(q:Int):=by
   have:=preB_iff.1 HP.out
   omega
 have hq0:8≤q:=by have:=preB_iff.1 HP.out;omega
 have hq1:q≤512:=by have:=preB_iff.1 HP.out;omega
 rw[hpq]
 have HQ:=hid hq
 clear hq hpq
 obtain⟨F,hF⟩:∃ F:Nat→Nat→PI,F=fun i j=>dotF q (atP m i) (fun t=>atP n t j) (colsM m-1):=⟨_,rfl⟩
 have HF:=hid hF
 clear hF
 have HO:=hid hO
 clear hO
 go_loopg [37] m.length (fun q v wr=>∃ R:List (List RI),R.length+q=m.length∧v=.int .i64 (R.length:Int)∧OutH W0 wr W0.heap.size m.length R∧plM R=tabM R.length (colsM n) F∧okM R)
 case atStart=>exact⟨[],by simp,rfl,HO.out,rfl,fun r h=>by simp at h⟩
 case round =>
 obtain⟨R,hRq,rfl,hO,hpl,hok⟩:=hrel
 clear HO
 have HH:=hid (And.intro hpl hok)
 have HOH:=hid hO
 have hkr:=hO.2.1
 have hbbr:=hkr.cell HB.out.2
 have hrbr:=hkr.cell ((HK2.out).cell hrowb2.out.1)
 clear hpl hok hO
 by_cases hlt:R.length<m.length
 rotate_left
 · have hRe:R.length=m.length:=by omega
   have HRe:=hid hRe
   clear hbbr hrbr hRe hRq
   go_wp2_with fail
   rw[HDm.out]
   refine bodyPost_ret (v:=.tuple #[.slice (some ⟨W0.heap.size,0,none⟩) m.length m.length,.int .i64 0]) (by simp[results,Tryz.results77,go_sem]) rfl ?_
   refine⟨_,R,m.length,by rw[HRe.out],HOH.out.rowM,?_,HH.out.2,by have:=HML.out;have:=HRe.out;omega,HK2.out.trans hkr⟩
   rw[HH.out.1,HRe.out,HF.out,HQ.out];rfl
 obtain⟨r,hr⟩:∃ r,m[R.length]? = some r:=⟨_,List.getElem?_eq_getElem hlt⟩
 obtain⟨b2,o2,ra2,rc2,e2,hrc,hrow,hrl⟩:=HM.out R.length r hr
 cases e2
 have HRW:=hid (And.intro hrc (And.intro hrow (vlM_row HVM.out hr)))
 have HG:=hid (show rowG r=atP m R.length by rw[← rowG_at,List.getD_eq_getElem?_getD,hr];rfl)
 have HMO:=hid (HOH.out.open hlt)
 have Hlt:=hid (And.intro hlt hRq)
 clear hr hrc hrow hrl hRq
 have hk1:(0:Int)≤(R.length:Int):=by omega
 have hk2:(R.length:Int)<(m.length:Int):=by omega
 have hk3:m.length≤8:=HML.out.1.2
 go_wp2_with fail
 clear hbbr hrbr HOH
 obtain⟨gk1,hgk1⟩:∃ x:Nat,x=gk:=⟨_,rfl⟩
 subst hgk1
 obtain⟨wr1,hwr1⟩:∃ x:World,x=wr:=⟨_,rfl⟩
 subst hwr1
 go_loopg [44] s0.length (fun q v wr=>∃ (u:Value) (cur:List RI),cur.length+q=s0.length∧v=.int .i64 (cur.length:Int)∧OutM W0 wr W0.heap.size m.length R u cur∧plR cur=rowF cur.length (F R.length)∧∀ x∈cur,x.vl=true)
 case atStart=>exact⟨_,[],by simp,rfl,HMO.out,rfl,fun x h=>by simp at h⟩
 case round =>
 obtain⟨u,cur,hcq,rfl,hM,hpc,hvc⟩:=hrel
 clear HMO
 by_cases hlt2:cur.length<s0.length
 rotate_left
 · have hce:cur.length=s0.length:=by omega
   have hcl:cur.length≤1100000:=by have:=HC0.out;have:=HML.out;omega
   have hcc:=hid (hM.close hcl)
   have HPC:=hid (And.intro hpc (And.intro hvc hce))
   clear hpc hvc hcq hM hce hcl
   go_wp2_with fail
   go_roundg (gk1-1)
   case measure=>have:=Hlt.out;omega
   case rel =>
   refine⟨R++[cur],by have:=Hlt.out;rw[List.length_append,List.length_singleton];omega,by rw[List.length_append,List.length_singleton];go_num,hcc.out,?_,okM_snoc HH.out.2 HPC.out.2.1⟩
   rw[plM_snoc,HH.out.1,List.length_append,List.length_singleton,tabM_snoc,HPC.out.1,HPC.out.2.2,HC0.out.2]
 have HPC:=hid (And.intro hpc (And.intro hvc (And.intro hcq hlt2)))
 have hs8:s0.length≤8:=by have:=HC0.out;have:=HML.out;omega
 clear hpc hvc hcq
 go_upto_region 14 with fail
 have kA:=(Kp.refl wr).alloc (.cells #[.int .i64 (cur.length:Int)] 3)
 have hM3:=hM.kp kA
 generalize hW3:wr.alloc _=W3 at *
 have hjb:W3.cell? ⟨wr.heap.size,0,none⟩=some (.int .i64 (cur.length:Int)):=by rw[← hW3];simp
 clear hW3 hM kA
 have kd:=(Kp.refl W3).drew
 have hk3':=hM3.2.1.1
 have hcell:=hM3.cellF
 obtain⟨hc1,hf1⟩:=id hcell
 have hrowc:=(HK2.out.trans hk3').cell HRW.out.1
 have HM3:=hid hM3
 have HAT:=hid (show AtI Tryz.prog 148 #[.pointer (some ⟨w.heap.size,0,none⟩),.pointer (some ⟨wr.heap.size,0,none⟩)] W3.drew r.length (fun t=>atP n t cur.length) from
   ⟨fun _ _=>by kernel_rfl,fun k hk w1 k'=>mulat_any n (some ⟨bb,ob,none⟩) d k cur.length _ _ w1 (HN.out.kp (((HK2.out.trans hk3').trans kd).trans k')) HVN.out ((hk3'.trans (kd.trans k')).cell HB.out.2) ((kd.trans k').cell hjb) (by have:=HRW.out.2.2.1;have:=HNE.out;have:=HC0.out;omega) (by have:=HC0.out;omega)⟩)
 have HRI:=hid (HRW.out.2.1.kp ((HK2.out.trans hk3').trans kd))
 have HRN:=hid (show 0<r.length∧r.length≤8 by have:=HRW.out.2.2.1;have:=HML.out;omega)
 have HT3:=hid (HT.out.kp ((HK2.out.trans hk3').trans kd))
 have HD3:=hid kd
 have HZ:=hid (show dotF q (rowG r) (fun t=>atP n t cur.length) (r.length-1)=F R.length cur.length by rw[HF.out,HG.out,HRW.out.2.2.1])
 have hcl:cur.length+1≤9000000:=by omega
 clear hM3 hk3' hjb kd hcell
 go_region_law (first
   | (go_simp; go_at_call 147; (with_reducible refine (dot_any _ r rc2 _ _ q _ _ HRI.out HRW.out.2.2.2 HRN.out.1 HRN.out.2 HAT.out hq0 hq1 HT3.out).mono ?_); rintro e v1 ⟨z, rfl, hz, hzp, hzv, j1⟩
      have kZ:=(HD3.out.trans j1).alloc (.cells #[.bool z.lo.neg,.slice z.lo.a z.lo.xs.length z.lo.c,.int .i64 z.lo.e,.bool z.hi.neg,.slice z.hi.a z.hi.xs.length z.hi.c,.int .i64 z.hi.e,.bool z.all] 44)
      have hM4:=HM3.out.kp (HD3.out.trans j1)
      obtain⟨hc1,hf1⟩:=hM4.cellF
      have hM5:=HM3.out.kp kZ
      obtain⟨hc1,hf1⟩:=hM5.cellF
      have hown:=hM5.2.1
      have hzA:=hz.kp ((Kp.refl v1).alloc (.cells #[.bool z.lo.neg,.slice z.lo.a z.lo.xs.length z.lo.c,.int .i64 z.lo.e,.bool z.hi.neg,.slice z.hi.a z.hi.xs.length z.hi.c,.int .i64 z.hi.e,.bool z.all] 44))
      have ZP:=hid (And.intro (hzp.trans HZ.out) hzv)
      have HM5:=hid hM5
      clear hz hzp hzv kZ hM5 hM4)
   | (refine step_append_ivg (by rfl) _ _ (by rfl) W0 u cur (by rfl) hown _ _ (by rfl) z hzA (by simp) hcl ?_; intro a' c' w9 hown9 hgrow hblk
      obtain⟨hc1,hf1⟩:=HM5.out.cellG hgrow)
   | fail)
 all_goals
   have hst:=OutM.step HM5.out hown9 hgrow hblk HM5.out.2.1.noU
   go_wp2_with fail
   go_roundg (gk-1)
   case measure=>have:=HPC.out.2.2;omega
   case rel =>
     refine⟨_,cur++[z],by have:=HPC.out.2.2;rw[List.length_append,List.length_singleton];omega,by rw[List.length_append,List.length_singleton];go_num,hst,?_,ok_snoc HPC.out.2.1 ZP.out.2⟩
     rw[plR_snoc,HPC.out.1,List.length_append,List.length_singleton,rowF_snoc,ZP.out.1]
end Go.Proofs.YtbhmhfnfceakoaaGreatDoor
