/-
  Walks: the law FrameInside.
-/
import Derived.Deep.LoopGhost
import Derived.Deep.CutRange
import Derived.Deep.CutBlock
import Derived.Deep.DeepFit
import Derived.Deep.RegionHeld3
import Derived.Test.YtbhmhfnfceakoaaGreatDoorMCrdL
import Derived.Test.YtbhmhfnfceakoaaGreatDoorMAwkF
import Derived.Test.YtbhmhfnfceakoaaGreatDoorMSmF
import Derived.Test.YtbhmhfnfceakoaaGreatDoorMInsF
import Derived.Test.YtbhmhfnfceakoaaGreatDoorMCrdQ
import Derived.Test.YtbhmhfnfceakoaaGreatDoorMFrN
namespace Go.Proofs.YtbhmhfnfceakoaaGreatDoor
open Go.RowKit
open Lib (hid)
theorem ptC_ok (f:RF) (r:List RD):(ptC f r).2≠0∨∃ l,ptC f r=(l,0)∧ptM r (f.cs.zip f.ms)=some l:=by
 unfold ptC
 split
 ·exact .inl (by decide)
 split
 ·exact .inl (by decide)
 split
 ·exact .inl (by decide)
 cases h:ptM r (f.cs.zip f.ms) with
 | some l=>exact .inr ⟨l,rfl,rfl⟩
 | none=>exact .inl (by decide)
theorem insQ_eq {f g:RF} {j j':List (List RI)} {z z':List RI} {v:List (List RD)} {p:Int} (hI:vlF f=true→vlF g=true→IdnJ f j z) (hI':vlF f=true→vlF g=true→IdnJ f j' z') :
  insQ f g j z v p=(decide ((crdC f g j' z' v p).2=0)&&insL (crdC f g j' z' v p).1 g.rs):=by
 by_cases h:vlF f=true∧vlF g=true
 ·unfold insQ
  rw[h.1,h.2,Bool.true_and,Bool.true_and,crdC_congr h.1 (hI h.1 h.2) (hI' h.1 h.2)]
 have h0:(crdC f g j' z' v p).2≠0:=fun h0=>h ⟨(crdE_zero (crdC_zero h0).1).1.1,(crdE_zero (crdC_zero h0).1).1.2.1⟩
 rw[decide_eq_false h0,Bool.false_and]
 unfold insQ
 cases h1:vlF f with
 | false=>rfl
 | true =>
 cases h2:vlF g with
 | true=>exact absurd ⟨h1,h2⟩ h
 | false=>rfl
set_option maxRecDepth 100000 in
set_option maxHeartbeats 16000000 in
theorem FInside_ok (f g:RF) (va:Option Addr) (v:List (List RD)) (vc:Nat) (p:Int) (w:World) (hf:f.rd w) (hg:g.rd w) (hv:RowN w va v) (hl3:v.length≤1100000) (hT:Tab w) :
   Calls Tryz.prog 6 #[.agg #[.slice f.ca f.cs.length f.cc,.slice f.aa f.ms.length f.ac,.slice f.ra f.rs.length f.rc],.agg #[.slice g.ca g.cs.length g.cc,.slice g.aa g.ms.length g.ac,.slice g.ra g.rs.length g.rc],.slice va v.length vc,.int .i64 p] w fun e w'=>e=.returned (.bool true)∧Kp w w':=by
 have HF:=hid hf
 have HG:=hid hg
 have HV:=hid hv
 have HT:=hid hT
 have kk:=((Kp.refl w).alloc (.cells #[.slice f.ca f.cs.length f.cc,.slice f.aa f.ms.length f.ac,.slice f.ra f.rs.length f.rc] 26)).alloc (.cells #[.slice g.ca g.cs.length g.cc,.slice g.aa g.ms.length g.ac,.slice g.ra g.rs.length g.rc] 26)
 clear hf hg hv hT
 go_enter Tryz.func6,Tryz.ntmps6
 go_upto_region 1 with fail
 have HS:=hid (show ((w.alloc (.cells #[.slice f.ca f.cs.length f.cc,.slice f.aa f.ms.length f.ac,.slice f.ra f.rs.length f.rc] 26)).alloc (.cells #[.slice g.ca g.cs.length g.cc,.slice g.aa g.ms.length g.ac,.slice g.ra g.rs.length g.rc] 26)).cell? ⟨w.heap.size,0,none⟩=some (.slice f.ca f.cs.length f.cc)∧((w.alloc (.cells #[.slice f.ca f.cs.length f.cc,.slice f.aa f.ms.length f.ac,.slice f.ra f.rs.length f.rc] 26)).alloc (.cells #[.slice g.ca g.cs.length g.cc,.slice g.aa g.ms.length g.ac,.slice g.ra g.rs.length g.rc] 26)).cell? ⟨w.heap.size,1,none⟩=some (.slice f.aa f.ms.length f.ac)∧((w.alloc (.cells #[.slice f.ca f.cs.length f.cc,.slice f.aa f.ms.length f.ac,.slice f.ra f.rs.length f.rc] 26)).alloc (.cells #[.slice g.ca g.cs.length g.cc,.slice g.aa g.ms.length g.ac,.slice g.ra g.rs.length g.rc] 26)).cell? ⟨w.heap.size,2,none⟩=some (.slice f.ra f.rs.length f.rc) from keep3 ((Kp.refl _).alloc _) (show (w.alloc (.cells #[.slice f.ca f.cs.length f.cc,.slice f.aa f.ms.length f.ac,.slice f.ra f.rs.length f.rc] 26)).cell? ⟨w.heap.size,0,none⟩=some (.slice f.ca f.cs.length f.cc)∧(w.alloc (.cells #[.slice f.ca f.cs.length f.cc,.slice f.aa f.ms.length f.ac,.slice f.ra f.rs.length f.rc] 26)).cell? ⟨w.heap.size,1,none⟩=some (.slice f.aa f.ms.length f.ac)∧(w.alloc (.cells #[.slice f.ca f.cs.length f.cc,.slice f.aa f.ms.length f.ac,.slice f.ra f.rs.length f.rc] 26)).cell? ⟨w.heap.size,2,none⟩=some (.slice f.ra f.rs.length f.rc) by simp))
 have HSG:=hid (show ((w.alloc (.cells #[.slice f.ca f.cs.length f.cc,.slice f.aa f.ms.length f.ac,.slice f.ra f.rs.length f.rc] 26)).alloc (.cells #[.slice g.ca g.cs.length g.cc,.slice g.aa g.ms.length g.ac,.slice g.ra g.rs.length g.rc] 26)).cell? ⟨w.heap.size+1,0,none⟩=some (.slice g.ca g.cs.length g.cc)∧((w.alloc (.cells #[.slice f.ca f.cs.length f.cc,.slice f.aa f.ms.length f.ac,.slice f.ra f.rs.length f.rc] 26)).alloc (.cells #[.slice g.ca g.cs.length g.cc,.slice g.aa g.ms.length g.ac,.slice g.ra g.rs.length g.rc] 26)).cell? ⟨w.heap.size+1,1,none⟩=some (.slice g.aa g.ms.length g.ac)∧((w.alloc (.cells #[.slice f.ca f.cs.length f.cc,.slice f.aa f.ms.length f.ac,.slice f.ra f.rs.length f.rc] 26)).alloc (.cells #[.slice g.ca g.cs.length g.cc,.slice g.aa g.ms.length g.ac,.slice g.ra g.rs.length g.rc] 26)).cell? ⟨w.heap.size+1,2,none⟩=some (.slice g.ra g.rs.length g.rc) by simp)
 generalize hW:(w.alloc _).alloc _=W at *
 clear hW
 go_wp2_with fail
 go_fit (awakeF_any _ (HT.out.kp kk))
 rintro e w1 ⟨rfl,k1⟩
 have HK1:=hid (kk.trans k1)
 obtain⟨s0,s1,s2⟩:=keepF k1 HS.out
 obtain⟨t0,t1,t2⟩:=keepF k1 HSG.out
 have HS1:=hid (And.intro (keepF k1 HS.out) (keepF k1 HSG.out))
 clear k1 kk HS HSG s0 s1 s2 t0 t1 t2
 obtain⟨s0,s1,s2⟩:=HS1.out.1
 go_wp2_with fail
 go_fit (greatF_any f _ (HF.out.kp HK1.out))
 rintro e w2 ⟨rfl,k2⟩
 have HK2:=hid (HK1.out.trans k2)
 have HS2:=hid (And.intro (keepF k2 HS1.out.1) (keepF k2 HS1.out.2))
 clear k2 HS1 HK1
 clear s0 s1 s2
 cases hh:greatF f with
 | true =>
   clear hh
   go_wp2_with fail
   go_ret
   exact⟨rfl,HK2.out⟩
 | false =>
 clear hh
 obtain⟨t0,t1,t2⟩:=HS2.out.2
 go_wp2_with fail
 go_fit (greatF_any g _ (HG.out.kp HK2.out))
 rintro e w3 ⟨rfl,k3⟩
 have HK3:=hid (HK2.out.trans k3)
 have HS3:=hid (And.intro (keepF k3 HS2.out.1) (keepF k3 HS2.out.2))
 clear k3 HS2 HK2
 clear t0 t1 t2
 cases hh:greatF g with
 | true =>
   clear hh
   go_wp2_with fail
   go_ret
   exact⟨rfl,HK3.out⟩
 | false =>
 clear hh
 go_wp2_with fail
 go_fit (rowsF_any v va vc _ (HV.out.kp HK3.out) hl3)
 rintro e w4 ⟨rfl,k4⟩
 have HK4:=hid (HK3.out.trans k4)
 have HS4:=hid (And.intro (keepF k4 HS3.out.1) (keepF k4 HS3.out.2))
 clear k4 HS3 HK3
 cases hh:rowsF v with
 | true =>
   clear hh
   go_wp2_with fail
   go_ret
   exact⟨rfl,HK4.out⟩
 | false =>
 clear hh
 go_wp2_with fail
 go_fit (fineF_any p _)
 rintro e w5 ⟨rfl,rfl⟩
 cases hh:fineF p with
 | false =>
   clear hh
   go_wp2_with fail
   go_ret
   exact⟨rfl,HK4.out⟩
 | true =>
 clear hh
 obtain⟨s0,s1,s2⟩:=HS4.out.1
 obtain⟨t0,t1,t2⟩:=HS4.out.2
 by_cases h3:3<f.cs.length
 · have h3':(3:Int)<(f.cs.length:Int):=by omega
   go_wp2_with fail
   go_ret
   exact⟨rfl,HK4.out⟩
 have h3':¬ (3:Int)<(f.cs.length:Int):=by omega
 have H3:=hid h3
 clear h3
 go_wp2_with fail
 go_fit (finside_any f g va v vc p _ (HF.out.kp HK4.out) (HG.out.kp HK4.out) (HV.out.kp HK4.out) hl3 (HT.out.kp HK4.out))
 rintro e w5 ⟨j1,z1,hI1,rfl,k5⟩
 have HI1:=hid hI1
 have HK5:=hid (HK4.out.trans k5)
 have HS5:=hid (And.intro (keepF k5 HS4.out.1) (keepF k5 HS4.out.2))
 clear k5 HS4 HK4 s0 s1 s2 t0 t1 t2 hI1 h3'
 obtain⟨G,hG⟩:∃ G,G=insQ f g j1 z1 v p:=⟨_,rfl⟩
 have HGv:=hid hG
 rw[← hG]
 clear hG
 obtain⟨s0,s1,s2⟩:=id HS5.out.1
 go_upto_region 7 with fail
 obtain⟨A,hA⟩:∃ A,A=f.ca:=⟨_,rfl⟩
 go_cut [52,53,54] from 51 to 55 (fun s1 s2 s3 wx=>s1=.slice A f.cs.length f.cc∧s2=.int .i64 (f.cs.length:Int)∧s3=.int .i64 0∧wx=w5)
 case first =>
   go_wp2_with fail
   go_meet
   case rel=>exact⟨by rw[hA],rfl,rfl,rfl⟩
 case rest =>
 have HA:=hid hA
 clear hA
 obtain⟨rfl,rfl,rfl,hwc⟩:=hcut
 subst hwc
 obtain⟨W5,hW5⟩:∃ x:World,x=wc:=⟨_,rfl⟩
 subst hW5
 clear s0 s1 s2
 have hn3:f.cs.length≤3:=by have:=H3.out;omega
 have HN3:=hid hn3
 clear hn3
 go_upto_block 0 with fail
 go_cut [10] from 54 to 64 (fun s wx=>∃ (aZ:Option Addr) (L:List RI) (cZ:Nat),s=.slice aZ L.length cZ∧L=f.cs.map ptW∧RowI wx aZ L∧Kp W5 wx)
 case first =>
   have HAS:=hid (show f.cs.length=0∨∃ b o,A=some ⟨b,o,none⟩ from by
     rcases Nat.eq_zero_or_pos f.cs.length with h | h
     · exact .inl h
     · obtain⟨b2,o2,e2,_⟩:=HF.out.1.1 0 f.cs[0] (List.getElem?_eq_getElem h)
       exact .inr ⟨b2,o2,HA.out.trans e2⟩)
   rcases HAS.out with hn0 | ⟨bA,oA,rfl⟩
   · have HN0:=hid hn0
     clear hn0
     go_wp2_with fail
     go_loopg [10,54] f.cs.length (fun q vv x wr=>∃ k:Nat,k+q=f.cs.length∧x=.int .i64 (k:Int)∧OwnI W5 wr vv ((f.cs.take k).map ptW))
     case atStart=>exact⟨0,by omega,rfl,OwnI.nil (Kp.refl _)⟩
     case round =>
     obtain⟨k,hkq,rfl,hown⟩:=hrel
     have HOW:=hid hown
     have hlen:=hid (show ((f.cs.take k).map ptW).length+1≤9000000 by have:=HN3.out;rw[List.length_map,List.length_take];omega)
     obtain⟨L,hL⟩:∃ L,L=(f.cs.take k).map ptW:=⟨_,rfl⟩
     rw[← hL] at HOW hlen
     have HL:=hid hL
     clear hL hown
     by_cases hlt:k<f.cs.length
     · have:=HN0.out;omega
     obtain⟨aZ,cZ,rfl,hz1,hz2,hz3⟩:=HOW.out.value
     have hke:=hid (show k=f.cs.length by omega)
     have HLE:=hid (show L=f.cs.map ptW by rw[HL.out,hke.out,List.take_length])
     have hle:¬ (k:Int)<(f.cs.length:Int):=by omega
     clear hlt hkq hz1 hz2
     go_wp2_with fail
     go_meet
     case rel=>exact⟨aZ,L,cZ,rfl,HLE.out,hz3,HOW.out.1.2⟩
   go_wp2_with fail
   go_loopg [10,54] f.cs.length (fun q vv x wr=>∃ k:Nat,k+q=f.cs.length∧x=.int .i64 (k:Int)∧OwnI W5 wr vv ((f.cs.take k).map ptW))
   case atStart=>exact⟨0,by omega,rfl,OwnI.nil (Kp.refl _)⟩
   case round =>
   obtain⟨k,hkq,rfl,hown⟩:=hrel
   have HOW:=hid hown
   have hlen:=hid (show ((f.cs.take k).map ptW).length+1≤9000000 by have:=HN3.out;rw[List.length_map,List.length_take];omega)
   obtain⟨L,hL⟩:∃ L,L=(f.cs.take k).map ptW:=⟨_,rfl⟩
   rw[← hL] at HOW hlen
   have HL:=hid hL
   clear hL hown
   by_cases hlt:k<f.cs.length
   rotate_left
   · obtain⟨aZ,cZ,rfl,hz1,hz2,hz3⟩:=HOW.out.value
     have hke:=hid (show k=f.cs.length by omega)
     have HLE:=hid (show L=f.cs.map ptW by rw[HL.out,hke.out,List.take_length])
     have hle:¬ (k:Int)<(f.cs.length:Int):=by omega
     clear hlt hkq hz1 hz2
     go_wp2_with fail
     go_meet
     case rel=>exact⟨aZ,L,cZ,rfl,HLE.out,hz3,HOW.out.1.2⟩
   obtain⟨y,hy⟩:∃ y,f.cs[k]? = some y:=⟨_,List.getElem?_eq_getElem hlt⟩
   have hk2:=HK5.out.trans HOW.out.1.2
   obtain⟨b2,o2,e2,hyw,c0,c1,c2⟩:=(HF.out.1.1.kp hk2) k y hy
   have HY:=hid hyw
   have HYW:=hid (show y.rd W5 from (HF.out.1.1.kp HK5.out).rd (List.mem_of_getElem? hy))
   have Hs:=hid (map_snoc (f:=ptW) hy)
   have Hkq:=hid (And.intro hkq hlt)
   have hi1:(0:Int)≤(k:Int):=by omega
   have hi2:(k:Int)<(f.cs.length:Int):=by omega
   have hk3:k<3:=by have:=HN3.out;omega
   cases HA.out.trans e2
   clear e2 hy hyw hkq hlt hk2
   go_upto_region 10 with fail
   have hk3:=(Kp.refl wr).alloc (.cells #[.bool y.neg,.slice y.a y.xs.length y.c,.int .i64 y.e] 38)
   go_wp2_with fail
   go_fit (IPoint_any y _ (HY.out.kp hk3))
   rintro e w6 ⟨rfl,k6⟩
   have hown6:=HOW.out.kp ((hk3.trans k6).alloc (.cells #[.bool (ptW y).lo.neg,.slice (ptW y).lo.a (ptW y).lo.xs.length (ptW y).lo.c,.int .i64 (ptW y).lo.e,.bool (ptW y).hi.neg,.slice (ptW y).hi.a (ptW y).hi.xs.length (ptW y).hi.c,.int .i64 (ptW y).hi.e,.bool (ptW y).all] 44))
   have hzok:(ptW y).rd W5:=ptW_rd HYW.out
   go_wp2_with (at_builtin;refine wpList_append_ivl rfl _ _ rfl W5 _ _ rfl hown6 _ _ rfl (ptW y) hzok (by simp) hlen.out ?_;intro a' c' w7 hown7 hb7)
   go_roundg (gk-1)
   case rel=>exact⟨k+1,by have:=Hkq.out;omega,by go_num,by rw[Hs.out,← HL.out];exact hown7⟩
   case measure=>have:=Hkq.out;omega
 case rest =>
 obtain⟨aZ,L,cZ,rfl,hLE,hRL,hKL⟩:=hcut
 obtain⟨W6,hW6⟩:∃ x:World,x=wc:=⟨_,rfl⟩
 subst hW6
 have HZ:=hid hRL
 have HLE:=hid hLE
 have HK6:=hid (HK5.out.trans hKL)
 have HS6:=hid (And.intro (keepF hKL HS5.out.1) (keepF hKL HS5.out.2))
 have HLn:=hid (show L.length=f.cs.length by rw[HLE.out];simp)
 have HLl:=hid (show L.length≤1100000 by have:=HLn.out;have:=HN3.out;omega)
 clear hLE hRL hKL HS5
 go_upto_region 12 with fail
 have kd:=hid (Kp.refl W6).drew
 have hSd:=And.intro (keepF kd.out HS6.out.1) (keepF kd.out HS6.out.2)
 have HZd:=hid (HZ.out.kp kd.out)
 have HKD:=hid (HK6.out.trans kd.out)
 clear HS6
 go_region_held3 (fun w'=>(w'.cell? ⟨w.heap.size,0,none⟩=some (.slice f.ca f.cs.length f.cc)∧w'.cell? ⟨w.heap.size,1,none⟩=some (.slice f.aa f.ms.length f.ac)∧w'.cell? ⟨w.heap.size,2,none⟩=some (.slice f.ra f.rs.length f.rc))∧(w'.cell? ⟨w.heap.size+1,0,none⟩=some (.slice g.ca g.cs.length g.cc)∧w'.cell? ⟨w.heap.size+1,1,none⟩=some (.slice g.aa g.ms.length g.ac)∧w'.cell? ⟨w.heap.size+1,2,none⟩=some (.slice g.ra g.rs.length g.rc))) (first | with_reducible assumption | fail)
   (first
     | (go_at_call 36; go_fit (midn_few f.cs.length _ (Nat.le_trans HN3.out (by decide)) (HT.out.kp HKD.out)); rintro e w8 ⟨aJ, J, cJ, rfl, rJ, pJ, lJ, k8⟩
        have HJ:=hid (And.intro rJ (And.intro pJ lJ))
        have HZ8:=hid (HZd.out.kp k8)
        have HK8:=hid (HKD.out.trans k8)
        have hS8:=And.intro (keepF k8 hSd.1) (keepF k8 hSd.2)
        clear rJ pJ lJ k8)
     | (go_at_call 25; go_fit (coordL_any f g aJ aZ va J L v cJ cZ vc p _ (HF.out.kp HK8.out) (HG.out.kp HK8.out) HJ.out.1 HZ8.out (HV.out.kp HK8.out) HJ.out.2.2 HLl.out hl3 (HT.out.kp HK8.out)); rintro e w9 ⟨aX, X, cX, rfl, rX, pX, vX, lX, k9⟩
        have HX:=hid (And.intro rX (And.intro pX (And.intro vX lX)))
        have HK9:=hid (HK8.out.trans k9)
        have hS9:=And.intro (keepF k9 hS8.1) (keepF k9 hS8.2)
        clear rX pX vX lX k9)
     | fail)
 have HI2:=hid (show vlF f=true→vlF g=true→IdnJ f J L from fun h1 h2=>by
   obtain⟨⟨n1,_⟩,⟨_,_⟩,h3,_⟩:=vlF_iff.1 h1
   refine⟨(HJ.out.2.1 n1).1,(HJ.out.2.1 n1).2,fun i hi=>?_,HLn.out,fun x hx=>?_⟩
   · have hx:f.cs[i]? = some f.cs[i]:=List.getElem?_eq_getElem hi
     have hxv:f.cs[i].vl=true:=h3 _ (List.getElem_mem hi)
     rw[HLE.out,rowG_eq (x:=ptW f.cs[i]) (by rw[List.getElem?_map,hx];rfl),List.getD_eq_getElem?_getD,hx]
     unfold ptW
     rw[if_pos hxv]
     rfl
   · rw[HLE.out] at hx
     obtain⟨y,_,rfl⟩:=List.mem_map.1 hx
     exact ptW_vl y)
 have HGE:=hid (HGv.out.trans (insQ_eq HI1.out HI2.out))
 obtain⟨D,hD⟩:∃ D,D=crdC f g J L v p:=⟨_,rfl⟩
 have HD:=hid hD
 rw[← hD] at HX HGE
 have hS9':=hS9
 rw[← hD]
 clear hD hSd hS8 hS9
 have HS9:=hid hS9'
 clear hS9'
 obtain⟨E,hE⟩:∃ E,E=D.2:=⟨_,rfl⟩
 rw[← hE]
 have HE:=hid hE
 clear hE
 obtain⟨s0,s1,s2⟩:=HS9.out.1
 obtain⟨t0,t1,t2⟩:=HS9.out.2
 by_cases h0:E=0
 case neg =>
   have hne:(E==0)=false:=beq_eq_false_iff_ne.2 h0
   have hG:G=false:=by rw[HGE.out,← HE.out,decide_eq_false h0,Bool.false_and]
   subst hG
   clear h0
   go_wp2_with fail
   go_ret
   exact⟨rfl,HK9.out⟩
 have hne:(E==0)=true:=by rw[h0];rfl
 have H0:=hid (HE.out.symm.trans h0)
 have HVV:=hid (show vlF f=true∧vlF g=true from by
   have h:=H0.out
   rw[HD.out] at h
   have:=crdE_zero (crdC_zero h).1
   exact⟨this.1.1,this.1.2.1⟩)
 clear h0
 go_wp2_with fail
 go_fit (r31valid_any f _ (HF.out.kp HK9.out))
 rintro e w10 ⟨rfl,k10⟩
 have HK10:=hid (HK9.out.trans k10)
 have HX10:=hid (HX.out.1.kp k10)
 have HS10:=hid (And.intro (keepF k10 HS9.out.1) (keepF k10 HS9.out.2))
 rw[HVV.out.1]
 clear k10 HS9 s0 s1 s2 t0 t1 t2
 obtain⟨t0,t1,t2⟩:=HS10.out.2
 go_wp2_with fail
 go_fit (r31valid_any g _ (HG.out.kp HK10.out))
 rintro e w11 ⟨rfl,k11⟩
 have HK11:=hid (HK10.out.trans k11)
 have HX11:=hid (HX10.out.kp k11)
 have HS11:=hid (And.intro (keepF k11 HS10.out.1) (keepF k11 HS10.out.2))
 rw[HVV.out.2]
 clear k11 HS10 t0 t1 t2
 obtain⟨t0,t1,t2⟩:=HS11.out.2
 have hp:AnsII Tryz.prog 29 #[] w11 X g.rs insXR :=
   ⟨fun _ _=>by kernel_rfl,fun x hx y hy' w1 k=>IInside_vl x y w1 ((HX11.out.rdI hx).kp k) (((HG.out.kp HK11.out).2.2.1.rdI hy').kp k) (HX.out.2.2.1 x hx) (goodZ_iff.1 ((vlF_iff.1 HVV.out.2).2.2.2.2 y hy')).2.1⟩
 have HQ:=hid (eqfII aX g.ra X g.rs cX g.rc _ _ w11 insXR HX.out.2.2.2 HX11.out (HG.out.kp HK11.out).2.2.1 hp)
 rw[show allII insXR X g.rs=G from by rw[insL_pl HX.out.2.1,HGE.out,H0.out];rfl] at HQ
 clear hp
 go_wp2_with fail
 go_fit HQ.out
 rintro e w12 ⟨rfl,k12⟩
 have HK12:=hid (HK11.out.trans k12)
 have HS12:=hid (And.intro (keepF k12 HS11.out.1) (keepF k12 HS11.out.2))
 clear k12 HS11 t0 t1 t2 HQ
 have hgg:(G != G)=false:=by cases G <;> rfl
 obtain⟨s0,s1,s2⟩:=HS12.out.1
 cases hG:G with
 | false =>
   rw[hG] at hgg
   go_wp2_with fail
   go_ret
   exact⟨rfl,HK12.out⟩
 | true =>
 rw[hG] at hgg
 have HGT:=hid (HGE.out.symm.trans hG)
 clear hG
 by_cases h2:2<f.cs.length
 · have h2':(2:Int)<(f.cs.length:Int):=by omega
   go_wp2_with fail
   go_ret
   exact⟨rfl,HK12.out⟩
 have h2':¬ (2:Int)<(f.cs.length:Int):=by omega
 have HN2:=hid h2
 clear h2
 have HL:=hid (vlF_iff.1 HVV.out.1)
 obtain⟨s0,s1,s2⟩:=HS12.out.1
 go_upto_region 17 with fail
 clear h2' hgg hne
 have hn8:f.cs.length≤8:=HL.out.1.2
 go_cut [106,107] from 103 to 107 (fun s t wx=>(∃ K:Nat,s=.int .i64 (K:Int)∧K≤256)∧t=.int .i64 0∧wx=w12)
 case first =>
   have hn0:(0:Int)≤(f.cs.length:Int):=by omega
   go_wp2_with fail
   go_meet
   case rel =>
   refine⟨⟨2 ^ f.cs.length,?_,?_⟩,rfl,rfl⟩
   · have h1:2 ^ f.cs.length≤2 ^ 8:=Nat.pow_le_pow_right (by decide) hn8
     have h2:(2:Int) ^ f.cs.length=((2 ^ f.cs.length:Nat):Int):=by rw[Int.natCast_pow];rfl
     rw[h2]
     generalize 2 ^ f.cs.length=M at *
     rw[IntWalk.wrap64_in _ ⟨by omega,by omega⟩]
   exact Nat.le_trans (Nat.pow_le_pow_right (by decide) hn8) (by decide)
 case rest =>
 obtain⟨⟨K,rfl,hK⟩,rfl,hwc⟩:=hcut
 subst hwc
 obtain⟨W12,hW12⟩:∃ x:World,x=wc:=⟨_,rfl⟩
 subst hW12
 clear s0 s1 s2
 obtain⟨x00,hx00⟩:∃ x,f.rs[0]? = some x:=⟨_,List.getElem?_eq_getElem (by have:=HL.out;omega)⟩
 obtain⟨br,orr,er,_⟩:=HF.out.2.2.1 0 x00 hx00
 have ER:=hid er
 clear er hx00
 go_wp2_with fail
 go_loopg [107] K (fun q v wr=>∃ t:Nat,t+q=K∧v=.int .i64 (t:Int)∧Kp W12 wr)
 case atStart=>exact⟨0,by omega,rfl,.refl _⟩
 case round =>
 obtain⟨t,htq,rfl,hkr⟩:=hrel
 have HKR:=hid hkr
 have HSR:=hid (And.intro (keepF hkr HS12.out.1) (keepF hkr HS12.out.2))
 clear hkr
 by_cases hlt:t<K
 rotate_left
 · go_wp2_with fail
   go_ret
   exact⟨rfl,HK12.out.trans HKR.out⟩
 have Hlt:=hid (And.intro hlt htq)
 have ht0:(0:Int)≤(t:Int):=by omega
 have ht1:(t:Int)<(K:Int):=by omega
 obtain⟨s0,s1,s2⟩:=id HSR.out.1
 clear hlt htq
 go_upto_region 21 with fail
 go_cut [111,112,113] from 110 to 113 (fun s t u wx=>s=.slice (some ⟨br,orr,none⟩) f.rs.length f.rc∧t=.int .i64 (f.rs.length:Int)∧u=.int .i64 0∧wx=wr)
 case first =>
   go_wp2_with fail
   go_meet
   case rel=>exact⟨by rw[ER.out],rfl,rfl,rfl⟩
 case rest =>
 obtain⟨rfl,rfl,rfl,hwc⟩:=hcut
 subst hwc
 obtain⟨V,hV⟩:∃ x:World,x=wc:=⟨_,rfl⟩
 subst hV
 obtain⟨gk1,hgk1⟩:∃ x:Nat,x=gk:=⟨_,rfl⟩
 subst hgk1
 clear s0 s1 s2
 go_wp2_with fail
 go_loopg [16,113] f.rs.length (fun q v x wr=>∃ z:List RD,z.length+q=f.rs.length∧x=.int .i64 (z.length:Int)∧OwnE V wr v z∧endsP f.rs z)
 case atStart=>exact⟨[],by simp,rfl,OwnE.nil (Kp.refl _),fun j x d _ h=>by simp at h⟩
 case round =>
 obtain⟨z,hzq,rfl,hown,hE⟩:=hrel
 have HOW:=hid hown
 have HE:=hid hE
 have HKZ:=hid ((HK12.out.trans HKR.out).trans hown.1)
 clear hown hE
 by_cases hlt2:z.length<f.rs.length
 · obtain⟨x,hx⟩:∃ x,f.rs[z.length]? = some x:=⟨_,List.getElem?_eq_getElem hlt2⟩
   obtain⟨b3,o3,e3,hxr,x0,x1,x2,x3,x4,x5,x6⟩:=(HF.out.2.2.1.kp HKZ.out) z.length x hx
   have kA:=(Kp.refl wr).alloc (.cells #[.bool x.lo.neg,.slice x.lo.a x.lo.xs.length x.lo.c,.int .i64 x.lo.e,.bool x.hi.neg,.slice x.hi.a x.hi.xs.length x.hi.c,.int .i64 x.hi.e,.bool x.all] 44)
   have HX:=hid (And.intro hx (And.intro (hxr.kp kA) hxr))
   have HOWA:=hid (HOW.out.kp kA)
   have hj1:(0:Int)≤(z.length:Int):=by omega
   have hj2:(z.length:Int)<(f.rs.length:Int):=by omega
   have Hzq:=hid (And.intro hzq hlt2)
   have hcl:z.length+1≤9000000:=by have:=HL.out;omega
   have hz8:z.length≤8:=by have:=HL.out;omega
   cases ER.out.symm.trans e3
   clear e3 hx hxr hzq hlt2
   go_upto_region 24 with fail
   clear x0 x1 x2 x3 x4 x5 x6
   generalize hW4:wr.alloc _=W4 at *
   have HXB:=hid (show W4.cell? ⟨wr.heap.size,0,none⟩=some (.bool x.lo.neg)∧W4.cell? ⟨wr.heap.size,1,none⟩=some (.slice x.lo.a x.lo.xs.length x.lo.c)∧W4.cell? ⟨wr.heap.size,2,none⟩=some (.int .i64 x.lo.e)∧W4.cell? ⟨wr.heap.size,3,none⟩=some (.bool x.hi.neg)∧W4.cell? ⟨wr.heap.size,4,none⟩=some (.slice x.hi.a x.hi.xs.length x.hi.c)∧W4.cell? ⟨wr.heap.size,5,none⟩=some (.int .i64 x.hi.e)∧W4.cell? ⟨wr.heap.size,6,none⟩=some (.bool x.all) by rw[← hW4];simp)
   clear hW4 kA
   go_cut [122] from 118 to 122 (fun s wx=>(∃ bb:Bool,s=.bool bb)∧wx=W4)
   case first =>
     go_wp2_with fail
     go_meet
     case rel=>exact⟨⟨_,rfl⟩,rfl⟩
   case rest =>
   obtain⟨⟨bb,rfl⟩,hwc⟩:=hcut
   subst hwc
   obtain⟨W4,hW4⟩:∃ x:World,x=wc:=⟨_,rfl⟩
   subst hW4
   obtain⟨x0,x1,x2,x3,x4,x5,x6⟩:=HXB.out
   cases bb with
   | false =>
     have kB:=(Kp.refl W4).alloc (.cells #[.bool x.hi.neg,.slice x.hi.a x.hi.xs.length x.hi.c,.int .i64 x.hi.e] 38)
     have hownB:=HOWA.out.kp kB
     have hdB:=HX.out.2.1.2.kp kB
     go_wp2_with (at_builtin;refine wpList_append_dyn rfl _ _ rfl V _ z rfl hownB _ _ rfl x.hi hdB (by simp) hcl ?_;intro a' c' w9 hown9 hbel hgrow)
     go_roundg (gk-1)
     case rel=>exact⟨z++[x.hi],by have:=Hzq.out;rw[List.length_append,List.length_singleton];omega,by rw[List.length_append,List.length_singleton];go_num,by simpa using hown9,HE.out.snoc HX.out.1 (.inr rfl)⟩
     case measure=>have:=Hzq.out;omega
   | true =>
   have kB:=(Kp.refl W4).alloc (.cells #[.bool x.lo.neg,.slice x.lo.a x.lo.xs.length x.lo.c,.int .i64 x.lo.e] 38)
   have hownB:=HOWA.out.kp kB
   have hdB:=HX.out.2.1.1.kp kB
   go_wp2_with (at_builtin;refine wpList_append_dyn rfl _ _ rfl V _ z rfl hownB _ _ rfl x.lo hdB (by simp) hcl ?_;intro a' c' w9 hown9 hbel hgrow)
   go_roundg (gk-1)
   case rel=>exact⟨z++[x.lo],by have:=Hzq.out;rw[List.length_append,List.length_singleton];omega,by rw[List.length_append,List.length_singleton];go_num,by simpa using hown9,HE.out.snoc HX.out.1 (.inl rfl)⟩
   case measure=>have:=Hzq.out;omega
 have hze:z.length=f.rs.length:=by omega
 obtain⟨aZ,cZ,rfl,hvc1,hvc2,hrz⟩:=HOW.out.value
 have HEZ:=hid (show endsR f.rs z from ⟨hze,HE.out⟩)
 have HSZ:=hid (keepF HOW.out.1 HSR.out.1)
 have hlZ:z.length≤1100000:=by have:=HL.out;omega
 have HRZ:=hid hrz
 obtain⟨s0,s1,s2⟩:=id HSZ.out
 clear hze hvc1 hvc2 hrz hzq
 go_wp2_with fail
 go_fit (fpoint_any f aZ z cZ _ (HF.out.kp HKZ.out) HRZ.out hlZ (HT.out.kp HKZ.out))
 rintro e v1 ⟨aP,P,cP,rfl,rP,pP,vP,lP,j1⟩
 have HJ1:=hid (HKZ.out.trans j1)
 have HP1:=hid (And.intro rP (And.intro pP vP))
 have HKV:=hid (HOW.out.1.trans j1)
 clear rP pP vP j1 s0 s1 s2
 by_cases he:(ptC f z).2=0
 case neg =>
   have g1:((ptC f z).2 != 0)=true:=by rw[bne,beq_eq_false_iff_ne.2 he];rfl
   have g3:((ptC f z).2==0)=false:=beq_eq_false_iff_ne.2 he
   clear he lP
   go_wp2_with fail
   go_roundg (gk1-1)
   case rel=>exact⟨t+1,by have:=Hlt.out;omega,by go_num,HKR.out.trans HKV.out⟩
   case measure=>have:=Hlt.out;omega
 obtain⟨l,hl1,hl2⟩:=(ptC_ok f z).resolve_left (fun h=>h he)
 have HPL:=hid (show P.map RD.dy=l by rw[HP1.out.2.1,hl1])
 have HML:=hid hl2
 have HPn:=hid (show P.length=f.cs.length by
   have h1:P.length=l.length:=by rw[← HPL.out];simp
   have h2:=ptM_len hl2
   rw[List.length_zip,HL.out.2.1.1] at h2
   omega)
 have HSV:=hid (And.intro (keepF HKV.out HSR.out.1) (keepF HKV.out HSR.out.2))
 have g1:((ptC f z).2 != 0)=false:=by rw[he];rfl
 have g3:((ptC f z).2==0)=true:=by rw[he];rfl
 have HCG:=hid (show (crdC f g J L v p).2=0 by rw[← HD.out];exact H0.out)
 have hgn:g.cs.length=f.cs.length:=by
   have:=(crdE_zero (crdC_zero HCG.out).1).2.2.1
   exact this
 have HIH:=hid (show InsH g l f.cs.length from insH_of rfl HCG.out (okF_of HF.out HVV.out.1)
   (fun s u hs hu=>atP_tab (HI2.out HVV.out.1 HVV.out.2).pj hs hu) (HI2.out HVV.out.1 HVV.out.2).pz
   (insL_iff (by rw[(vlF_iff.1 HVV.out.2).2.1.2,hgn]) (by
     have h:=HGT.out
     rw[H0.out,HD.out] at h
     simpa using h)) HEZ.out HML.out)
 obtain⟨R,hR1,hR2⟩:=member_in g aP P cP f.cs.length v1 (HG.out.kp HJ1.out) HP1.out.1 hgn (by have:=HN2.out;have:=HL.out.1.1;omega) HVV.out.2 HP1.out.2.2 HPn.out (by rw[HPL.out];exact HIH.out) (HT.out.kp HJ1.out)
 have HR1:=hid hR1
 have HR2:=hid hR2
 rw[he]
 clear he hl1 hl2 lP hR1 hR2 hgn
 obtain⟨t0,t1,t2⟩:=HSV.out.2
 go_wp2_with fail
 go_fit HR1.out
 rintro e v2 ⟨rfl,j2⟩
 have HKE:=hid (HKR.out.trans (HKV.out.trans j2))
 obtain⟨r1,r2⟩:=R
 clear t0 t1 t2 HR1
 cases hr2:r2 with
 | false =>
   subst hr2
   go_wp2_with fail
   go_roundg (gk1-1)
   case rel=>exact⟨t+1,by have:=Hlt.out;omega,by go_num,HKE.out⟩
   case measure=>have:=Hlt.out;omega
 | true =>
 subst hr2
 have hr1:r1=true:=HR2.out rfl
 subst hr1
 go_wp2_with fail
 go_roundg (gk1-1)
 case rel=>exact⟨t+1,by have:=Hlt.out;omega,by go_num,HKE.out⟩
 case measure=>have:=Hlt.out;omega
end Go.Proofs.YtbhmhfnfceakoaaGreatDoor
