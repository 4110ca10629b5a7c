/-
  Walks: the fourth reference's negative, Enclose.
-/
import Derived.Test.YteidgoldnllabaaGreatDoorTR4D
import Derived.Test.YteidgoldnllabaaGreatDoorTRchN
import Derived.Test.YteidgoldnllabaaGreatDoorTIvlN
import Derived.Test.YteidgoldnllabaaGreatDoorTAwkT
import Derived.Test.YteidgoldnllabaaGreatDoorTIntZ
set_option maxHeartbeats 16000000
set_option maxRecDepth 20000
namespace Go.Proofs.YteidgoldnllabaaGreatDoor
open Go.RowKit
open Lib (hid)
theorem encR_ends {n d:Int} {p:Nat} (hv:ratB n d=true) (h8:8≤p) (h5:p≤512):encR n d p=((dvP (intD n) (intD d) p false).1,(dvP (intD n) (intD d) p true).1,false):=by
 obtain⟨lo,hi,e,_⟩:=enc_q hv h8 h5
 unfold encR at e ⊢
 split at e
 ·rename_i h;rw[if_pos h]
 injection e with _ e;injection e with _ e;cases e
theorem rndE_opp (R:Option Dy):rndE (R.map Dy.opp)=((rndE R).1.opp,(rndE R).2):=by
 cases R with
 | some d=>rfl
 | none=>rfl
theorem dvP_neg {n d:Nat} {p:Nat} (hn:0<n) (hd:0<d) (up:Bool):(dvP (intD (-(n:Int))) (intD (d:Int)) p up).1=(dvP (intD (n:Int)) (intD (d:Int)) p (!up)).1.opp:=by
 have e1:intD (-(n:Int))=⟨true,oddp n,(tz n:Int)⟩:=by
  unfold intD canon
  rw[decide_eq_true (show -(n:Int)<0 by omega),Int.natAbs_neg,Int.natAbs_natCast,if_neg (by omega)]
  congr 1
  omega
 have on0:=oddp_ne_zero (n:=n) (by omega)
 have od0:=oddp_ne_zero (n:=d) (by omega)
 rw[e1,intD_pos hn,intD_pos hd]
 unfold dvP
 simp only
 rw[if_neg od0,if_neg on0,if_neg od0,if_neg on0]
 unfold quoR rndS sgnR
 rw[show (true != false)=true from rfl,show (false != false)=false from rfl,show (up != true)=!up by cases up <;> rfl,show ((!up) != false)=!up by cases up <;> rfl,if_pos rfl,if_neg (by decide),rndE_opp]
def NegO (w:World) (y:RD) (e:Ending) (w':World):Prop:=∃ z:RD,e=.returned (.agg #[.bool z.neg,.slice z.a z.xs.length z.c,.int .i64 z.e])∧z.ok w'∧z.dy=y.dy.opp∧Kp w w'
theorem opp_okd {d:Dy} (h:d.ok):d.opp.ok:=Dy.opp_ok' h
theorem r4neg_any (y:RD) (w:World) (hy:y.ok w):Calls Tryz.prog 242 #[.agg #[.bool y.neg,.slice y.a y.xs.length y.c,.int .i64 y.e]] w (NegO w y):=by
 have k1:Kp w ((w.alloc (.cells #[.bool y.neg,.slice y.a y.xs.length y.c,.int .i64 y.e] 113)).alloc (.cells #[.bool false,.slice none 0 0,.int .i64 0] 113)):=((Kp.refl w).alloc _).alloc _
 have hb1:BoxV ((w.alloc (.cells #[.bool y.neg,.slice y.a y.xs.length y.c,.int .i64 y.e] 113)).alloc (.cells #[.bool false,.slice none 0 0,.int .i64 0] 113)) w.heap.size [.bool y.neg,.slice y.a y.xs.length y.c,.int .i64 y.e]:=(BoxV.new w [_,_,_] _ _ rfl).kp ((Kp.refl _).alloc _)
 have hb2:BoxV ((w.alloc (.cells #[.bool y.neg,.slice y.a y.xs.length y.c,.int .i64 y.e] 113)).alloc (.cells #[.bool false,.slice none 0 0,.int .i64 0] 113)) (w.heap.size+1) [.bool false,.slice none 0 0,.int .i64 0]:=BoxV.new _ [_,_,_] _ _ (by simp)
 have Hz:=hid (rdok_zero hy)
 have HY:=hid (hy.kp k1)
 go_enter Tryz.func242,Tryz.ntmps242
 go_upto_region 1 with fail
 generalize World.alloc _ _=W at *
 have HB1:=hid hb1
 have HB2:=hid hb2
 have K1:=hid k1
 have q0:=hb1.cell 0 rfl
 have q1:=hb1.cell 1 rfl
 have q2:=hb1.cell 2 rfl
 have g0:=hb1.2.1 0
 have l1:=hb1.2.2
 clear hb1 hb2 k1 hy
 by_cases h0:y.xs.length=0
 ·have hc:¬ (0:Int)<(y.xs.length:Int):=by omega
  have HO:=hid (show y.dy.opp=y.dy by
   have h1:y.dy=.zero:=Dy.eq_zero (rdok_dy HY.out) (Hz.out.1 h0)
   rw[h1];rfl)
  clear h0
  have hR:=HB2.out
  have r0:=hR.cell 0 rfl
  have r1:=hR.cell 1 rfl
  have r2:=hR.cell 2 rfl
  have f0:=hR.2.1 0
  have f1:=hR.2.1 1
  have f2:=hR.2.1 2
  have HRR:=hid hR
  clear hR
  go_wp2
  generalize hW9:((World.setCell _ _ _).setCell _ _).setCell _ _=W9
  obtain⟨hF,hKw,hU⟩:=box3_set HRR.out K1.out (show w.heap.size≤w.heap.size+1 by omega) nofun nofun nofun _ _ _ hW9
  have s0:=hF.cell 0 rfl
  have s1:=hF.cell 1 rfl
  have s2:=hF.cell 2 rfl
  refine bodyPost_ret (v:=.agg #[.bool y.neg,.slice y.a y.xs.length y.c,.int .i64 y.e]) (by simp[results,Tryz.results242,go_sem,s0,s1,s2]) rfl ?_
  exact⟨y,rfl,⟨hU.rdD HY.out.1,HY.out.2⟩,HO.out.symm,hKw⟩
 have hc:(0:Int)<(y.xs.length:Int):=by omega
 have HO:=hid (show y.dy.opp=⟨!y.neg,y.dy.m,y.e⟩ by unfold Dy.opp;rw[if_neg (fun h=>h0 (Hz.out.2 h))];rfl)
 have HX:=hid (show limbs y.dy.m=y.xs from RD.limbs HY.out.1 HY.out.2)
 clear h0
 go_upto_region 3 with fail
 generalize hW8:World.setCell W _ _=W8
 have hF1:BoxV W8 w.heap.size [.bool (!y.neg),.slice y.a y.xs.length y.c,.int .i64 y.e]:=hW8▸HB1.out.set (by simp) _
 have hU8:Upd w.heap.size W W8:=hW8▸(Upd.refl _ W).step q0 nofun _
 have hK8:Kp w W8:=hU8.2.2.1 _ K1.out (Nat.le_refl _)
 have hB2:=HB2.out.upd hU8 (by omega)
 clear hW8 q0 q1 q2 g0
 have p0:=hF1.cell 0 rfl
 have p1:=hF1.cell 1 rfl
 have p2:=hF1.cell 2 rfl
 have hR:=hB2
 have r0:=hR.cell 0 rfl
 have r1:=hR.cell 1 rfl
 have r2:=hR.cell 2 rfl
 have f0:=hR.2.1 0
 have f1:=hR.2.1 1
 have f2:=hR.2.1 2
 have HRR:=hid hR
 clear hR
 go_wp2
 generalize hW9:((World.setCell _ _ _).setCell _ _).setCell _ _=W9
 obtain⟨hF,hKw,hU⟩:=box3_set HRR.out hK8 (show w.heap.size≤w.heap.size+1 by omega) nofun nofun nofun _ _ _ hW9
 have s0:=hF.cell 0 rfl
 have s1:=hF.cell 1 rfl
 have s2:=hF.cell 2 rfl
 refine bodyPost_ret (v:=.agg #[.bool (!y.neg),.slice y.a y.xs.length y.c,.int .i64 y.e]) (by simp[results,Tryz.results242,go_sem,s0,s1,s2]) rfl ?_
 have hd:=opp_okd (rdok_dy HY.out)
 refine⟨⟨!y.neg,y.a,y.xs,y.c,y.e⟩,rfl,⟨hU.rdD (hU8.rdD HY.out.1),?_⟩,?_,hKw⟩
 ·have:=rdOf_vl hd y.a y.c
  rw[HO.out] at this
  unfold rdOf at this
  simp only at this
  rw[HX.out] at this
  exact this
 rw[HO.out];rfl
theorem keep6D {w w':World} (k:Kp w w') {p0 p1 p2 p3 p4 p5:Addr} {v0 v1 v2 v3 v4 v5:Value} (h:w.cell? p0=some v0∧w.cell? p1=some v1∧w.cell? p2=some v2∧w.cell? p3=some v3∧w.cell? p4=some v4∧w.cell? p5=some v5) :
  w'.cell? p0=some v0∧w'.cell? p1=some v1∧w'.cell? p2=some v2∧w'.cell? p3=some v3∧w'.cell? p4=some v4∧w'.cell? p5=some v5:=⟨k.cell h.1,k.cell h.2.1,k.cell h.2.2.1,k.cell h.2.2.2.1,k.cell h.2.2.2.2.1,k.cell h.2.2.2.2.2⟩
def EndsR (w:World) (lo hi:Dy) (e:Ending) (w':World):Prop:=∃ y1 y2:RD,e=.returned (.tuple #[.agg #[.bool y1.neg,.slice y1.a y1.xs.length y1.c,.int .i64 y1.e],.agg #[.bool y2.neg,.slice y2.a y2.xs.length y2.c,.int .i64 y2.e]])∧y1.ok w'∧y2.ok w'∧y1.dy=lo∧y2.dy=hi∧Kp w w'
theorem endsR_of {w w':World} {lo hi:Dy} {e:Ending} (h:EndsO w lo hi e w') (h1:lo.ok) (h2:hi.ok):EndsR w lo hi e w':=by
 obtain⟨a1,c1,a2,c2,rfl,⟨p1,p2,p3⟩,⟨p4,p5,p6⟩,k⟩:=h
 exact⟨rdOf lo a1 c1,rdOf hi a2 c2,rfl,rdOf_ok h1 p1 p2 p3,rdOf_ok h2 p4 p5 p6,rdOf_dy lo a1 c1,rdOf_dy hi a2 c2,k⟩
theorem r4enc_any (n d:Int) (p:Nat) (w:World) (hv:ratB n d=true) (h8:8≤p) (h5:p≤512) :
  Calls Tryz.prog 198 #[.agg #[.int .i64 n,.int .i64 d],.int .i64 (p:Int)] w (EncOut w n d p):=by
 have hp:=ratB_parts hv
 have k1:Kp w ((w.alloc (.cells #[.int .i64 n,.int .i64 d] 25)).alloc (.cells #[.bool false,.slice none 0 0,.int .i64 0,.bool false,.slice none 0 0,.int .i64 0,.bool false] 115)):=((Kp.refl w).alloc _).alloc _
 have hA:BoxV ((w.alloc (.cells #[.int .i64 n,.int .i64 d] 25)).alloc (.cells #[.bool false,.slice none 0 0,.int .i64 0,.bool false,.slice none 0 0,.int .i64 0,.bool false] 115)) w.heap.size [.int .i64 n,.int .i64 d]:=(BoxV.new w [_,_] _ _ rfl).kp ((Kp.refl _).alloc _)
 have hB:Var7 ((w.alloc (.cells #[.int .i64 n,.int .i64 d] 25)).alloc (.cells #[.bool false,.slice none 0 0,.int .i64 0,.bool false,.slice none 0 0,.int .i64 0,.bool false] 115)) (w.heap.size+1):=by
  have:=Var7.new (w.alloc (.cells #[.int .i64 n,.int .i64 d] 25)) 115
  rwa [World.size_alloc] at this
 have HEn0:=hid (encR_ends hv h8 h5)
 have hsw:w.heap.size+1<((w.alloc (.cells #[.int .i64 n,.int .i64 d] 25)).alloc (.cells #[.bool false,.slice none 0 0,.int .i64 0,.bool false,.slice none 0 0,.int .i64 0,.bool false] 115)).heap.size:=by simp only[World.size_alloc];omega
 go_enter Tryz.func198,Tryz.ntmps198
 go_upto_region 1 with fail
 generalize World.alloc _ _=W at *
 have HSW:=hid hsw
 clear hsw
 have hVl:=r4valid_any n d W
 rw[hv] at hVl
 have HVl:=hid hVl
 have HA:=hid hA
 have HB:=hid hB
 have K1:=hid k1
 have q0:=hA.cell 0 rfl
 have q1:=hA.cell 1 rfl
 have HN:=hid (show -1073741824≤n∧n≤1073741824 from ⟨by have:=hp;omega,by have:=hp;omega⟩)
 have HD:=hid (show 1≤d∧d≤1073741824 from ⟨by have:=hp;omega,by have:=hp;omega⟩)
 clear hA hB k1 hVl hv hp
 have hp1:¬ (p:Int)<8:=by omega
 have hp2:¬ (512:Int)<(p:Int):=by omega
 obtain⟨D,rfl⟩:∃ D:Nat,d=(D:Int):=⟨d.toNat,by have:=HD.out;omega⟩
 go_upto_region 3 with (first | (go_at_call 27;go_fit HVl.out;rintro r w2 ⟨rfl,k2⟩) | fail)
 have HA2:=hid (HA.out.kp k2)
 have HB2:=hid (HB.out.kp k2)
 have K2:=hid (K1.out.trans k2)
 have HWB:=hid (show w.heap.size+1<w2.heap.size from Nat.lt_of_lt_of_le HSW.out k2.size)
 clear q0 q1 k2 HA HB
 have q0:=HA2.out.cell 0 rfl
 have q1:=HA2.out.cell 1 rfl
 have hod:¬ (intD (D:Int)).m=0:=by
  rw[intD_pos (by have:=HD.out;omega)]
  exact oddp_ne_zero (by have:=HD.out;omega)
 by_cases hn0:n=0
 ·have hz:(n==0)=true:=by rw[hn0];rfl
  have HE:=hid (show encR n (D:Int) p=(Dy.zero,Dy.zero,false) by
   rw[HEn0.out,hn0]
   have e0:∀ up,(dvP (intD 0) (intD (D:Int)) p up).1=Dy.zero:=fun up=>by
    unfold dvP
    rw[if_neg hod,if_pos (show (intD 0).m=0 from rfl)]
   rw[e0,e0])
  clear hn0 hod
  obtain⟨⟨b0,b1,b2,b3,b4,b5,b6⟩,f0,f1,f2,f3,f4,f5,f6⟩:=id HB2.out
  go_wp2_with fail
  generalize hW9:((((((World.setCell _ _ _).setCell _ _).setCell _ _).setCell _ _).setCell _ _).setCell _ _).setCell _ _=W9
  obtain⟨⟨s0,s1,s2,s3,s4,s5,s6⟩,hU⟩:=stored7 (show Box7 w2 _ _ _ _ _ _ _ _ from ⟨b0,b1,b2,b3,b4,b5,b6⟩) nofun nofun nofun nofun nofun nofun nofun _ _ _ _ _ _ _ hW9
  clear hW9 b0 b1 b2 b3 b4 b5 b6 f0 f1 f2 f3 f4 f5 f6
  refine bodyPost_ret (v:=.agg #[.bool (RI.mk rdZero rdZero false).lo.neg,.slice (RI.mk rdZero rdZero false).lo.a (RI.mk rdZero rdZero false).lo.xs.length (RI.mk rdZero rdZero false).lo.c,.int .i64 (RI.mk rdZero rdZero false).lo.e,.bool (RI.mk rdZero rdZero false).hi.neg,.slice (RI.mk rdZero rdZero false).hi.a (RI.mk rdZero rdZero false).hi.xs.length (RI.mk rdZero rdZero false).hi.c,.int .i64 (RI.mk rdZero rdZero false).hi.e,.bool (RI.mk rdZero rdZero false).all]) (by simp[results,Tryz.results198,go_sem,rdZero,s0,s1,s2,s3,s4,s5,s6]) rfl ?_
  exact⟨RI.mk rdZero rdZero false,rfl,⟨⟨rdZero_rd _,rdZero_vl⟩,⟨rdZero_rd _,rdZero_vl⟩⟩,HE.out.symm,hU.2.2.1 _ K2.out (by omega)⟩
 have hz:(n==0)=false:=beq_eq_false_iff_ne.2 hn0
 have HN0:=hid hn0
 clear hn0
 have hcv:IntKind.u64.wrap (D:Int)=(D:Int):=by rw[IntKind.wrap_u64];have:=HD.out;omega
 have HEn:=hid fun W':World=>(r4ends_any n.natAbs D p W' (by have:=HN0.out;omega) (by have:=HN.out;omega) (by have:=HD.out;omega) (by have:=HD.out;omega) h8 h5).mono fun e w' h=>endsR_of h (dvP_okd h8 h5 _) (dvP_okd h8 h5 _)
 go_upto_region 5 with fail
 go_cut [5,6] from 23 to 33 (fun t5 t6 wx=>∃ (g5 g6:Nat) (y1 y2:RD),t5=.pointer (some ⟨g5,0,none⟩)∧t6=.pointer (some ⟨g6,0,none⟩)∧BoxV wx g5 [.bool y1.neg,.slice y1.a y1.xs.length y1.c,.int .i64 y1.e]∧BoxV wx g6 [.bool y2.neg,.slice y2.a y2.xs.length y2.c,.int .i64 y2.e]∧y1.ok wx∧y2.ok wx∧(y1.dy=(dvP (intD (n.natAbs:Int)) (intD (D:Int)) p false).1∧y2.dy=(dvP (intD (n.natAbs:Int)) (intD (D:Int)) p true).1)∧Kp w2 wx)
 case first =>
  have kd:=(Kp.refl w2).drew
  have hSd:w2.drew.cell? ⟨w.heap.size,0,none⟩=some (.int .i64 n)∧w2.drew.cell? ⟨w.heap.size,1,none⟩=some (.int .i64 (D:Int)):=⟨(HA2.out.kp kd).cell 0 rfl,(HA2.out.kp kd).cell 1 rfl⟩
  have HSd:=hid hSd
  refine wp_region_held_drew (S:=fun w'=>w'.cell? ⟨w.heap.size,0,none⟩=some (.int .i64 n)∧w'.cell? ⟨w.heap.size,1,none⟩=some (.int .i64 (D:Int))) (by kernel_rfl) hSd (fun hHeld=>?_)
  clear hSd q0 q1
  generalize w2.drew=V0 at *
  refine tk 0 ?_;refine tk 1 ?_;refine tk 3 ?_;refine tk 4 ?_;refine tk 5 ?_;refine tk 6 ?_;(try simp only[aput])
  refine wpAnyH_ready (rs:=[2,11,12]) (by kernel_rfl) (by simp) ?_
  refine AllReadyH.cons rfl (fun K hK=>?_) (AllReadyH.cons rfl (fun K hK=>?_) (AllReadyH.cons rfl (fun K hK=>?_) AllReadyH.nil))
  ·(go_simp;refine (r4size_any n V0 HN.out.1 HN.out.2).mono ?_;rintro e wq ⟨rfl,hq⟩;rw[hq];clear hq)
   refine hK.out _ _ ⟨(Kp.refl V0).cell HSd.out.1,(Kp.refl V0).cell HSd.out.2⟩ (fun hHeld=>?_)
   clear hK K
   refine wpAnyH_ready (rs:=[7,11,12]) (by kernel_rfl) (by simp) ?_
   refine AllReadyH.cons rfl (fun K hK=>?_) (AllReadyH.cons rfl (fun K hK=>?_) (AllReadyH.cons rfl (fun K hK=>?_) AllReadyH.nil))
   ·(go_simp;go_fit (HEn.out V0);rintro e V2 ⟨y1,y2,rfl,o1,o2,e1,e2,k2⟩)
    have K2:=hid ((Kp.refl V0).trans k2)
    have O2:=hid (And.intro o1 o2)
    have EE:=hid (And.intro e1 e2)
    have hs2:=k2.size
    refine hK.out _ _ ⟨K2.out.cell HSd.out.1,K2.out.cell HSd.out.2⟩ (fun hHeld=>?_)
    clear hK K
    refine tk 8 ?_;refine tk 9 ?_;refine tk 10 ?_;(try simp only[aput])
    clear o1 o2 e1 e2 k2
    refine wpAnyH_ready (rs:=[11,12]) (by kernel_rfl) (by simp) ?_
    refine AllReadyH.cons rfl (fun K hK=>?_) (AllReadyH.cons rfl (fun K hK=>?_) AllReadyH.nil)
    ·have kz3:Kp V2 (V2.alloc (.cells #[.bool false,.slice none 0 0,.int .i64 0] 113)):=(Kp.refl V2).alloc _
     have hz3:BoxV (V2.alloc (.cells #[.bool false,.slice none 0 0,.int .i64 0] 113)) V2.heap.size [.bool false,.slice none 0 0,.int .i64 0]:=BoxV.new V2 [_,_,_] _ _ rfl
     have hs3:V2.heap.size<(V2.alloc (.cells #[.bool false,.slice none 0 0,.int .i64 0] 113)).heap.size:=hz3.2.2
     go_simp
     generalize hV3:World.alloc V2 _=V3 at *
     clear hV3
     have K3:=hid (K2.out.trans kz3)
     have B5_3:=hid hz3
     have O3:=hid (And.intro (O2.out.1.kp kz3) (O2.out.2.kp kz3))
     refine hK.out _ _ ⟨K3.out.cell HSd.out.1,K3.out.cell HSd.out.2⟩ (fun hHeld=>?_)
     clear hK K
     clear kz3 hz3
     refine cm 12 (fun K hK=>?_)
     have kz4:Kp V3 (V3.alloc (.cells #[.bool false,.slice none 0 0,.int .i64 0] 113)):=(Kp.refl V3).alloc _
     have hz4:BoxV (V3.alloc (.cells #[.bool false,.slice none 0 0,.int .i64 0] 113)) V3.heap.size [.bool false,.slice none 0 0,.int .i64 0]:=BoxV.new V3 [_,_,_] _ _ rfl
     have hs4:V3.heap.size<(V3.alloc (.cells #[.bool false,.slice none 0 0,.int .i64 0] 113)).heap.size:=hz4.2.2
     go_simp
     generalize hV4:World.alloc V3 _=V4 at *
     clear hV4
     have K4:=hid (K3.out.trans kz4)
     have B6_4:=hid hz4
     have B5_4:=hid (B5_3.out.kp kz4)
     have O4:=hid (And.intro (O3.out.1.kp kz4) (O3.out.2.kp kz4))
     refine hK.out _ _ ⟨K4.out.cell HSd.out.1,K4.out.cell HSd.out.2⟩ (fun hHeld=>?_)
     clear hK K
     clear kz4 hz4
     have hg5:V0.heap.size≤V2.heap.size:=by omega
     have hg6:V0.heap.size≤V3.heap.size:=by omega
     have hgn:V2.heap.size≠V3.heap.size:=by omega
     have hR:=B5_4.out
     have r0:=hR.cell 0 rfl
     have r1:=hR.cell 1 rfl
     have r2:=hR.cell 2 rfl
     have f0:=hR.2.1 0
     have f1:=hR.2.1 1
     have f2:=hR.2.1 2
     have HRR:=hid hR
     clear hR
     refine cm 13 (fun K hK=>?_)
     go_simp
     generalize hW8:((World.setCell _ _ _).setCell _ _).setCell _ _=W8
     obtain⟨hF5,hK8,hU8⟩:=box3_set HRR.out K4.out hg5 nofun nofun nofun _ _ _ hW8
     clear hW8 r0 r1 r2 f0 f1 f2 HRR
     refine hK.out _ _ ⟨hK8.cell HSd.out.1,hK8.cell HSd.out.2⟩ (fun hHeld=>?_)
     clear hK K
     have hR:=B6_4.out.upd hU8 (Ne.symm hgn)
     have r0:=hR.cell 0 rfl
     have r1:=hR.cell 1 rfl
     have r2:=hR.cell 2 rfl
     have f0:=hR.2.1 0
     have f1:=hR.2.1 1
     have f2:=hR.2.1 2
     have HRR:=hid hR
     clear hR
     refine cm 14 (fun K hK=>?_)
     go_simp
     generalize hW9:((World.setCell _ _ _).setCell _ _).setCell _ _=W9
     obtain⟨hF6,hK9,hU9⟩:=box3_set HRR.out hK8 hg6 nofun nofun nofun _ _ _ hW9
     clear hW9 r0 r1 r2 f0 f1 f2 HRR
     refine hK.out _ _ ⟨hK9.cell HSd.out.1,hK9.cell HSd.out.2⟩ (fun hHeld=>?_)
     clear hK K
     refine wpAnyH_done (by kernel_rfl) ?_ _
     go_wp2_with fail
     go_meet
     case rel=>exact⟨V2.heap.size,V3.heap.size,y1,y2,rfl,rfl,hF5.upd hU9 hgn,hF6,⟨hU9.rdD (hU8.rdD O4.out.1.1),O4.out.1.2⟩,⟨hU9.rdD (hU8.rdD O4.out.2.1),O4.out.2.2⟩,EE.out,kd.trans hK9⟩
    have kz3:Kp V2 (V2.alloc (.cells #[.bool false,.slice none 0 0,.int .i64 0] 113)):=(Kp.refl V2).alloc _
    have hz3:BoxV (V2.alloc (.cells #[.bool false,.slice none 0 0,.int .i64 0] 113)) V2.heap.size [.bool false,.slice none 0 0,.int .i64 0]:=BoxV.new V2 [_,_,_] _ _ rfl
    have hs3:V2.heap.size<(V2.alloc (.cells #[.bool false,.slice none 0 0,.int .i64 0] 113)).heap.size:=hz3.2.2
    go_simp
    generalize hV3:World.alloc V2 _=V3 at *
    clear hV3
    have K3:=hid (K2.out.trans kz3)
    have B6_3:=hid hz3
    have O3:=hid (And.intro (O2.out.1.kp kz3) (O2.out.2.kp kz3))
    refine hK.out _ _ ⟨K3.out.cell HSd.out.1,K3.out.cell HSd.out.2⟩ (fun hHeld=>?_)
    clear hK K
    clear kz3 hz3
    refine cm 11 (fun K hK=>?_)
    have kz4:Kp V3 (V3.alloc (.cells #[.bool false,.slice none 0 0,.int .i64 0] 113)):=(Kp.refl V3).alloc _
    have hz4:BoxV (V3.alloc (.cells #[.bool false,.slice none 0 0,.int .i64 0] 113)) V3.heap.size [.bool false,.slice none 0 0,.int .i64 0]:=BoxV.new V3 [_,_,_] _ _ rfl
    have hs4:V3.heap.size<(V3.alloc (.cells #[.bool false,.slice none 0 0,.int .i64 0] 113)).heap.size:=hz4.2.2
    go_simp
    generalize hV4:World.alloc V3 _=V4 at *
    clear hV4
    have K4:=hid (K3.out.trans kz4)
    have B5_4:=hid hz4
    have B6_4:=hid (B6_3.out.kp kz4)
    have O4:=hid (And.intro (O3.out.1.kp kz4) (O3.out.2.kp kz4))
    refine hK.out _ _ ⟨K4.out.cell HSd.out.1,K4.out.cell HSd.out.2⟩ (fun hHeld=>?_)
    clear hK K
    clear kz4 hz4
    have hg5:V0.heap.size≤V3.heap.size:=by omega
    have hg6:V0.heap.size≤V2.heap.size:=by omega
    have hgn:V3.heap.size≠V2.heap.size:=by omega
    have hR:=B5_4.out
    have r0:=hR.cell 0 rfl
    have r1:=hR.cell 1 rfl
    have r2:=hR.cell 2 rfl
    have f0:=hR.2.1 0
    have f1:=hR.2.1 1
    have f2:=hR.2.1 2
    have HRR:=hid hR
    clear hR
    refine cm 13 (fun K hK=>?_)
    go_simp
    generalize hW8:((World.setCell _ _ _).setCell _ _).setCell _ _=W8
    obtain⟨hF5,hK8,hU8⟩:=box3_set HRR.out K4.out hg5 nofun nofun nofun _ _ _ hW8
    clear hW8 r0 r1 r2 f0 f1 f2 HRR
    refine hK.out _ _ ⟨hK8.cell HSd.out.1,hK8.cell HSd.out.2⟩ (fun hHeld=>?_)
    clear hK K
    have hR:=B6_4.out.upd hU8 (Ne.symm hgn)
    have r0:=hR.cell 0 rfl
    have r1:=hR.cell 1 rfl
    have r2:=hR.cell 2 rfl
    have f0:=hR.2.1 0
    have f1:=hR.2.1 1
    have f2:=hR.2.1 2
    have HRR:=hid hR
    clear hR
    refine cm 14 (fun K hK=>?_)
    go_simp
    generalize hW9:((World.setCell _ _ _).setCell _ _).setCell _ _=W9
    obtain⟨hF6,hK9,hU9⟩:=box3_set HRR.out hK8 hg6 nofun nofun nofun _ _ _ hW9
    clear hW9 r0 r1 r2 f0 f1 f2 HRR
    refine hK.out _ _ ⟨hK9.cell HSd.out.1,hK9.cell HSd.out.2⟩ (fun hHeld=>?_)
    clear hK K
    refine wpAnyH_done (by kernel_rfl) ?_ _
    go_wp2_with fail
    go_meet
    case rel=>exact⟨V3.heap.size,V2.heap.size,y1,y2,rfl,rfl,hF5.upd hU9 hgn,hF6,⟨hU9.rdD (hU8.rdD O4.out.1.1),O4.out.1.2⟩,⟨hU9.rdD (hU8.rdD O4.out.2.1),O4.out.2.2⟩,EE.out,kd.trans hK9⟩
   ·have kz2:Kp V0 (V0.alloc (.cells #[.bool false,.slice none 0 0,.int .i64 0] 113)):=(Kp.refl V0).alloc _
    have hz2:BoxV (V0.alloc (.cells #[.bool false,.slice none 0 0,.int .i64 0] 113)) V0.heap.size [.bool false,.slice none 0 0,.int .i64 0]:=BoxV.new V0 [_,_,_] _ _ rfl
    have hs2:V0.heap.size<(V0.alloc (.cells #[.bool false,.slice none 0 0,.int .i64 0] 113)).heap.size:=hz2.2.2
    go_simp
    generalize hV2:World.alloc V0 _=V2 at *
    clear hV2
    have K2:=hid ((Kp.refl V0).trans kz2)
    have B5_2:=hid hz2
    refine hK.out _ _ ⟨K2.out.cell HSd.out.1,K2.out.cell HSd.out.2⟩ (fun hHeld=>?_)
    clear hK K
    clear kz2 hz2
    refine wpAnyH_ready (rs:=[7,12]) (by kernel_rfl) (by simp) ?_
    refine AllReadyH.cons rfl (fun K hK=>?_) (AllReadyH.cons rfl (fun K hK=>?_) AllReadyH.nil)
    ·(go_simp;go_fit (HEn.out V2);rintro e V3 ⟨y1,y2,rfl,o1,o2,e1,e2,k3⟩)
     have K3:=hid (K2.out.trans k3)
     have O3:=hid (And.intro o1 o2)
     have EE:=hid (And.intro e1 e2)
     have hs3:=k3.size
     refine hK.out _ _ ⟨K3.out.cell HSd.out.1,K3.out.cell HSd.out.2⟩ (fun hHeld=>?_)
     clear hK K
     refine tk 8 ?_;refine tk 9 ?_;refine tk 10 ?_;(try simp only[aput])
     have B5_3:=hid (B5_2.out.kp k3)
     clear o1 o2 e1 e2 k3
     refine cm 12 (fun K hK=>?_)
     have kz4:Kp V3 (V3.alloc (.cells #[.bool false,.slice none 0 0,.int .i64 0] 113)):=(Kp.refl V3).alloc _
     have hz4:BoxV (V3.alloc (.cells #[.bool false,.slice none 0 0,.int .i64 0] 113)) V3.heap.size [.bool false,.slice none 0 0,.int .i64 0]:=BoxV.new V3 [_,_,_] _ _ rfl
     have hs4:V3.heap.size<(V3.alloc (.cells #[.bool false,.slice none 0 0,.int .i64 0] 113)).heap.size:=hz4.2.2
     go_simp
     generalize hV4:World.alloc V3 _=V4 at *
     clear hV4
     have K4:=hid (K3.out.trans kz4)
     have B6_4:=hid hz4
     have B5_4:=hid (B5_3.out.kp kz4)
     have O4:=hid (And.intro (O3.out.1.kp kz4) (O3.out.2.kp kz4))
     refine hK.out _ _ ⟨K4.out.cell HSd.out.1,K4.out.cell HSd.out.2⟩ (fun hHeld=>?_)
     clear hK K
     clear kz4 hz4
     have hg5:V0.heap.size≤V0.heap.size:=by omega
     have hg6:V0.heap.size≤V3.heap.size:=by omega
     have hgn:V0.heap.size≠V3.heap.size:=by omega
     have hR:=B5_4.out
     have r0:=hR.cell 0 rfl
     have r1:=hR.cell 1 rfl
     have r2:=hR.cell 2 rfl
     have f0:=hR.2.1 0
     have f1:=hR.2.1 1
     have f2:=hR.2.1 2
     have HRR:=hid hR
     clear hR
     refine cm 13 (fun K hK=>?_)
     go_simp
     generalize hW8:((World.setCell _ _ _).setCell _ _).setCell _ _=W8
     obtain⟨hF5,hK8,hU8⟩:=box3_set HRR.out K4.out hg5 nofun nofun nofun _ _ _ hW8
     clear hW8 r0 r1 r2 f0 f1 f2 HRR
     refine hK.out _ _ ⟨hK8.cell HSd.out.1,hK8.cell HSd.out.2⟩ (fun hHeld=>?_)
     clear hK K
     have hR:=B6_4.out.upd hU8 (Ne.symm hgn)
     have r0:=hR.cell 0 rfl
     have r1:=hR.cell 1 rfl
     have r2:=hR.cell 2 rfl
     have f0:=hR.2.1 0
     have f1:=hR.2.1 1
     have f2:=hR.2.1 2
     have HRR:=hid hR
     clear hR
     refine cm 14 (fun K hK=>?_)
     go_simp
     generalize hW9:((World.setCell _ _ _).setCell _ _).setCell _ _=W9
     obtain⟨hF6,hK9,hU9⟩:=box3_set HRR.out hK8 hg6 nofun nofun nofun _ _ _ hW9
     clear hW9 r0 r1 r2 f0 f1 f2 HRR
     refine hK.out _ _ ⟨hK9.cell HSd.out.1,hK9.cell HSd.out.2⟩ (fun hHeld=>?_)
     clear hK K
     refine wpAnyH_done (by kernel_rfl) ?_ _
     go_wp2_with fail
     go_meet
     case rel=>exact⟨V0.heap.size,V3.heap.size,y1,y2,rfl,rfl,hF5.upd hU9 hgn,hF6,⟨hU9.rdD (hU8.rdD O4.out.1.1),O4.out.1.2⟩,⟨hU9.rdD (hU8.rdD O4.out.2.1),O4.out.2.2⟩,EE.out,kd.trans hK9⟩
    have kz3:Kp V2 (V2.alloc (.cells #[.bool false,.slice none 0 0,.int .i64 0] 113)):=(Kp.refl V2).alloc _
    have hz3:BoxV (V2.alloc (.cells #[.bool false,.slice none 0 0,.int .i64 0] 113)) V2.heap.size [.bool false,.slice none 0 0,.int .i64 0]:=BoxV.new V2 [_,_,_] _ _ rfl
    have hs3:V2.heap.size<(V2.alloc (.cells #[.bool false,.slice none 0 0,.int .i64 0] 113)).heap.size:=hz3.2.2
    go_simp
    generalize hV3:World.alloc V2 _=V3 at *
    clear hV3
    have K3:=hid (K2.out.trans kz3)
    have B6_3:=hid hz3
    have B5_3:=hid (B5_2.out.kp kz3)
    refine hK.out _ _ ⟨K3.out.cell HSd.out.1,K3.out.cell HSd.out.2⟩ (fun hHeld=>?_)
    clear hK K
    clear kz3 hz3
    refine cm 7 (fun K hK=>?_)
    (go_simp;go_fit (HEn.out V3);rintro e V4 ⟨y1,y2,rfl,o1,o2,e1,e2,k4⟩)
    have K4:=hid (K3.out.trans k4)
    have O4:=hid (And.intro o1 o2)
    have EE:=hid (And.intro e1 e2)
    have hs4:=k4.size
    refine hK.out _ _ ⟨K4.out.cell HSd.out.1,K4.out.cell HSd.out.2⟩ (fun hHeld=>?_)
    clear hK K
    refine tk 8 ?_;refine tk 9 ?_;refine tk 10 ?_;(try simp only[aput])
    have B6_4:=hid (B6_3.out.kp k4)
    have B5_4:=hid (B5_3.out.kp k4)
    clear o1 o2 e1 e2 k4
    have hg5:V0.heap.size≤V0.heap.size:=by omega
    have hg6:V0.heap.size≤V2.heap.size:=by omega
    have hgn:V0.heap.size≠V2.heap.size:=by omega
    have hR:=B5_4.out
    have r0:=hR.cell 0 rfl
    have r1:=hR.cell 1 rfl
    have r2:=hR.cell 2 rfl
    have f0:=hR.2.1 0
    have f1:=hR.2.1 1
    have f2:=hR.2.1 2
    have HRR:=hid hR
    clear hR
    refine cm 13 (fun K hK=>?_)
    go_simp
    generalize hW8:((World.setCell _ _ _).setCell _ _).setCell _ _=W8
    obtain⟨hF5,hK8,hU8⟩:=box3_set HRR.out K4.out hg5 nofun nofun nofun _ _ _ hW8
    clear hW8 r0 r1 r2 f0 f1 f2 HRR
    refine hK.out _ _ ⟨hK8.cell HSd.out.1,hK8.cell HSd.out.2⟩ (fun hHeld=>?_)
    clear hK K
    have hR:=B6_4.out.upd hU8 (Ne.symm hgn)
    have r0:=hR.cell 0 rfl
    have r1:=hR.cell 1 rfl
    have r2:=hR.cell 2 rfl
    have f0:=hR.2.1 0
    have f1:=hR.2.1 1
    have f2:=hR.2.1 2
    have HRR:=hid hR
    clear hR
    refine cm 14 (fun K hK=>?_)
    go_simp
    generalize hW9:((World.setCell _ _ _).setCell _ _).setCell _ _=W9
    obtain⟨hF6,hK9,hU9⟩:=box3_set HRR.out hK8 hg6 nofun nofun nofun _ _ _ hW9
    clear hW9 r0 r1 r2 f0 f1 f2 HRR
    refine hK.out _ _ ⟨hK9.cell HSd.out.1,hK9.cell HSd.out.2⟩ (fun hHeld=>?_)
    clear hK K
    refine wpAnyH_done (by kernel_rfl) ?_ _
    go_wp2_with fail
    go_meet
    case rel=>exact⟨V0.heap.size,V2.heap.size,y1,y2,rfl,rfl,hF5.upd hU9 hgn,hF6,⟨hU9.rdD (hU8.rdD O4.out.1.1),O4.out.1.2⟩,⟨hU9.rdD (hU8.rdD O4.out.2.1),O4.out.2.2⟩,EE.out,kd.trans hK9⟩
   have kz2:Kp V0 (V0.alloc (.cells #[.bool false,.slice none 0 0,.int .i64 0] 113)):=(Kp.refl V0).alloc _
   have hz2:BoxV (V0.alloc (.cells #[.bool false,.slice none 0 0,.int .i64 0] 113)) V0.heap.size [.bool false,.slice none 0 0,.int .i64 0]:=BoxV.new V0 [_,_,_] _ _ rfl
   have hs2:V0.heap.size<(V0.alloc (.cells #[.bool false,.slice none 0 0,.int .i64 0] 113)).heap.size:=hz2.2.2
   go_simp
   generalize hV2:World.alloc V0 _=V2 at *
   clear hV2
   have K2:=hid ((Kp.refl V0).trans kz2)
   have B6_2:=hid hz2
   refine hK.out _ _ ⟨K2.out.cell HSd.out.1,K2.out.cell HSd.out.2⟩ (fun hHeld=>?_)
   clear hK K
   clear kz2 hz2
   refine wpAnyH_ready (rs:=[7,11]) (by kernel_rfl) (by simp) ?_
   refine AllReadyH.cons rfl (fun K hK=>?_) (AllReadyH.cons rfl (fun K hK=>?_) AllReadyH.nil)
   ·(go_simp;go_fit (HEn.out V2);rintro e V3 ⟨y1,y2,rfl,o1,o2,e1,e2,k3⟩)
    have K3:=hid (K2.out.trans k3)
    have O3:=hid (And.intro o1 o2)
    have EE:=hid (And.intro e1 e2)
    have hs3:=k3.size
    refine hK.out _ _ ⟨K3.out.cell HSd.out.1,K3.out.cell HSd.out.2⟩ (fun hHeld=>?_)
    clear hK K
    refine tk 8 ?_;refine tk 9 ?_;refine tk 10 ?_;(try simp only[aput])
    have B6_3:=hid (B6_2.out.kp k3)
    clear o1 o2 e1 e2 k3
    refine cm 11 (fun K hK=>?_)
    have kz4:Kp V3 (V3.alloc (.cells #[.bool false,.slice none 0 0,.int .i64 0] 113)):=(Kp.refl V3).alloc _
    have hz4:BoxV (V3.alloc (.cells #[.bool false,.slice none 0 0,.int .i64 0] 113)) V3.heap.size [.bool false,.slice none 0 0,.int .i64 0]:=BoxV.new V3 [_,_,_] _ _ rfl
    have hs4:V3.heap.size<(V3.alloc (.cells #[.bool false,.slice none 0 0,.int .i64 0] 113)).heap.size:=hz4.2.2
    go_simp
    generalize hV4:World.alloc V3 _=V4 at *
    clear hV4
    have K4:=hid (K3.out.trans kz4)
    have B5_4:=hid hz4
    have B6_4:=hid (B6_3.out.kp kz4)
    have O4:=hid (And.intro (O3.out.1.kp kz4) (O3.out.2.kp kz4))
    refine hK.out _ _ ⟨K4.out.cell HSd.out.1,K4.out.cell HSd.out.2⟩ (fun hHeld=>?_)
    clear hK K
    clear kz4 hz4
    have hg5:V0.heap.size≤V3.heap.size:=by omega
    have hg6:V0.heap.size≤V0.heap.size:=by omega
    have hgn:V3.heap.size≠V0.heap.size:=by omega
    have hR:=B5_4.out
    have r0:=hR.cell 0 rfl
    have r1:=hR.cell 1 rfl
    have r2:=hR.cell 2 rfl
    have f0:=hR.2.1 0
    have f1:=hR.2.1 1
    have f2:=hR.2.1 2
    have HRR:=hid hR
    clear hR
    refine cm 13 (fun K hK=>?_)
    go_simp
    generalize hW8:((World.setCell _ _ _).setCell _ _).setCell _ _=W8
    obtain⟨hF5,hK8,hU8⟩:=box3_set HRR.out K4.out hg5 nofun nofun nofun _ _ _ hW8
    clear hW8 r0 r1 r2 f0 f1 f2 HRR
    refine hK.out _ _ ⟨hK8.cell HSd.out.1,hK8.cell HSd.out.2⟩ (fun hHeld=>?_)
    clear hK K
    have hR:=B6_4.out.upd hU8 (Ne.symm hgn)
    have r0:=hR.cell 0 rfl
    have r1:=hR.cell 1 rfl
    have r2:=hR.cell 2 rfl
    have f0:=hR.2.1 0
    have f1:=hR.2.1 1
    have f2:=hR.2.1 2
    have HRR:=hid hR
    clear hR
    refine cm 14 (fun K hK=>?_)
    go_simp
    generalize hW9:((World.setCell _ _ _).setCell _ _).setCell _ _=W9
    obtain⟨hF6,hK9,hU9⟩:=box3_set HRR.out hK8 hg6 nofun nofun nofun _ _ _ hW9
    clear hW9 r0 r1 r2 f0 f1 f2 HRR
    refine hK.out _ _ ⟨hK9.cell HSd.out.1,hK9.cell HSd.out.2⟩ (fun hHeld=>?_)
    clear hK K
    refine wpAnyH_done (by kernel_rfl) ?_ _
    go_wp2_with fail
    go_meet
    case rel=>exact⟨V3.heap.size,V0.heap.size,y1,y2,rfl,rfl,hF5.upd hU9 hgn,hF6,⟨hU9.rdD (hU8.rdD O4.out.1.1),O4.out.1.2⟩,⟨hU9.rdD (hU8.rdD O4.out.2.1),O4.out.2.2⟩,EE.out,kd.trans hK9⟩
   have kz3:Kp V2 (V2.alloc (.cells #[.bool false,.slice none 0 0,.int .i64 0] 113)):=(Kp.refl V2).alloc _
   have hz3:BoxV (V2.alloc (.cells #[.bool false,.slice none 0 0,.int .i64 0] 113)) V2.heap.size [.bool false,.slice none 0 0,.int .i64 0]:=BoxV.new V2 [_,_,_] _ _ rfl
   have hs3:V2.heap.size<(V2.alloc (.cells #[.bool false,.slice none 0 0,.int .i64 0] 113)).heap.size:=hz3.2.2
   go_simp
   generalize hV3:World.alloc V2 _=V3 at *
   clear hV3
   have K3:=hid (K2.out.trans kz3)
   have B5_3:=hid hz3
   have B6_3:=hid (B6_2.out.kp kz3)
   refine hK.out _ _ ⟨K3.out.cell HSd.out.1,K3.out.cell HSd.out.2⟩ (fun hHeld=>?_)
   clear hK K
   clear kz3 hz3
   refine cm 7 (fun K hK=>?_)
   (go_simp;go_fit (HEn.out V3);rintro e V4 ⟨y1,y2,rfl,o1,o2,e1,e2,k4⟩)
   have K4:=hid (K3.out.trans k4)
   have O4:=hid (And.intro o1 o2)
   have EE:=hid (And.intro e1 e2)
   have hs4:=k4.size
   refine hK.out _ _ ⟨K4.out.cell HSd.out.1,K4.out.cell HSd.out.2⟩ (fun hHeld=>?_)
   clear hK K
   refine tk 8 ?_;refine tk 9 ?_;refine tk 10 ?_;(try simp only[aput])
   have B5_4:=hid (B5_3.out.kp k4)
   have B6_4:=hid (B6_3.out.kp k4)
   clear o1 o2 e1 e2 k4
   have hg5:V0.heap.size≤V2.heap.size:=by omega
   have hg6:V0.heap.size≤V0.heap.size:=by omega
   have hgn:V2.heap.size≠V0.heap.size:=by omega
   have hR:=B5_4.out
   have r0:=hR.cell 0 rfl
   have r1:=hR.cell 1 rfl
   have r2:=hR.cell 2 rfl
   have f0:=hR.2.1 0
   have f1:=hR.2.1 1
   have f2:=hR.2.1 2
   have HRR:=hid hR
   clear hR
   refine cm 13 (fun K hK=>?_)
   go_simp
   generalize hW8:((World.setCell _ _ _).setCell _ _).setCell _ _=W8
   obtain⟨hF5,hK8,hU8⟩:=box3_set HRR.out K4.out hg5 nofun nofun nofun _ _ _ hW8
   clear hW8 r0 r1 r2 f0 f1 f2 HRR
   refine hK.out _ _ ⟨hK8.cell HSd.out.1,hK8.cell HSd.out.2⟩ (fun hHeld=>?_)
   clear hK K
   have hR:=B6_4.out.upd hU8 (Ne.symm hgn)
   have r0:=hR.cell 0 rfl
   have r1:=hR.cell 1 rfl
   have r2:=hR.cell 2 rfl
   have f0:=hR.2.1 0
   have f1:=hR.2.1 1
   have f2:=hR.2.1 2
   have HRR:=hid hR
   clear hR
   refine cm 14 (fun K hK=>?_)
   go_simp
   generalize hW9:((World.setCell _ _ _).setCell _ _).setCell _ _=W9
   obtain⟨hF6,hK9,hU9⟩:=box3_set HRR.out hK8 hg6 nofun nofun nofun _ _ _ hW9
   clear hW9 r0 r1 r2 f0 f1 f2 HRR
   refine hK.out _ _ ⟨hK9.cell HSd.out.1,hK9.cell HSd.out.2⟩ (fun hHeld=>?_)
   clear hK K
   refine wpAnyH_done (by kernel_rfl) ?_ _
   go_wp2_with fail
   go_meet
   case rel=>exact⟨V2.heap.size,V0.heap.size,y1,y2,rfl,rfl,hF5.upd hU9 hgn,hF6,⟨hU9.rdD (hU8.rdD O4.out.1.1),O4.out.1.2⟩,⟨hU9.rdD (hU8.rdD O4.out.2.1),O4.out.2.2⟩,EE.out,kd.trans hK9⟩
  ·have kz1:Kp V0 (V0.alloc (.cells #[.bool false,.slice none 0 0,.int .i64 0] 113)):=(Kp.refl V0).alloc _
   have hz1:BoxV (V0.alloc (.cells #[.bool false,.slice none 0 0,.int .i64 0] 113)) V0.heap.size [.bool false,.slice none 0 0,.int .i64 0]:=BoxV.new V0 [_,_,_] _ _ rfl
   have hs1:V0.heap.size<(V0.alloc (.cells #[.bool false,.slice none 0 0,.int .i64 0] 113)).heap.size:=hz1.2.2
   go_simp
   generalize hV1:World.alloc V0 _=V1 at *
   clear hV1
   have K1:=hid ((Kp.refl V0).trans kz1)
   have B5_1:=hid hz1
   refine hK.out _ _ ⟨K1.out.cell HSd.out.1,K1.out.cell HSd.out.2⟩ (fun hHeld=>?_)
   clear hK K
   clear kz1 hz1
   refine wpAnyH_ready (rs:=[2,12]) (by kernel_rfl) (by simp) ?_
   refine AllReadyH.cons rfl (fun K hK=>?_) (AllReadyH.cons rfl (fun K hK=>?_) AllReadyH.nil)
   ·(go_simp;refine (r4size_any n V1 HN.out.1 HN.out.2).mono ?_;rintro e wq ⟨rfl,hq⟩;rw[hq];clear hq)
    refine hK.out _ _ ⟨K1.out.cell HSd.out.1,K1.out.cell HSd.out.2⟩ (fun hHeld=>?_)
    clear hK K
    refine wpAnyH_ready (rs:=[7,12]) (by kernel_rfl) (by simp) ?_
    refine AllReadyH.cons rfl (fun K hK=>?_) (AllReadyH.cons rfl (fun K hK=>?_) AllReadyH.nil)
    ·(go_simp;go_fit (HEn.out V1);rintro e V3 ⟨y1,y2,rfl,o1,o2,e1,e2,k3⟩)
     have K3:=hid (K1.out.trans k3)
     have O3:=hid (And.intro o1 o2)
     have EE:=hid (And.intro e1 e2)
     have hs3:=k3.size
     refine hK.out _ _ ⟨K3.out.cell HSd.out.1,K3.out.cell HSd.out.2⟩ (fun hHeld=>?_)
     clear hK K
     refine tk 8 ?_;refine tk 9 ?_;refine tk 10 ?_;(try simp only[aput])
     have B5_3:=hid (B5_1.out.kp k3)
     clear o1 o2 e1 e2 k3
     refine cm 12 (fun K hK=>?_)
     have kz4:Kp V3 (V3.alloc (.cells #[.bool false,.slice none 0 0,.int .i64 0] 113)):=(Kp.refl V3).alloc _
     have hz4:BoxV (V3.alloc (.cells #[.bool false,.slice none 0 0,.int .i64 0] 113)) V3.heap.size [.bool false,.slice none 0 0,.int .i64 0]:=BoxV.new V3 [_,_,_] _ _ rfl
     have hs4:V3.heap.size<(V3.alloc (.cells #[.bool false,.slice none 0 0,.int .i64 0] 113)).heap.size:=hz4.2.2
     go_simp
     generalize hV4:World.alloc V3 _=V4 at *
     clear hV4
     have K4:=hid (K3.out.trans kz4)
     have B6_4:=hid hz4
     have B5_4:=hid (B5_3.out.kp kz4)
     have O4:=hid (And.intro (O3.out.1.kp kz4) (O3.out.2.kp kz4))
     refine hK.out _ _ ⟨K4.out.cell HSd.out.1,K4.out.cell HSd.out.2⟩ (fun hHeld=>?_)
     clear hK K
     clear kz4 hz4
     have hg5:V0.heap.size≤V0.heap.size:=by omega
     have hg6:V0.heap.size≤V3.heap.size:=by omega
     have hgn:V0.heap.size≠V3.heap.size:=by omega
     have hR:=B5_4.out
     have r0:=hR.cell 0 rfl
     have r1:=hR.cell 1 rfl
     have r2:=hR.cell 2 rfl
     have f0:=hR.2.1 0
     have f1:=hR.2.1 1
     have f2:=hR.2.1 2
     have HRR:=hid hR
     clear hR
     refine cm 13 (fun K hK=>?_)
     go_simp
     generalize hW8:((World.setCell _ _ _).setCell _ _).setCell _ _=W8
     obtain⟨hF5,hK8,hU8⟩:=box3_set HRR.out K4.out hg5 nofun nofun nofun _ _ _ hW8
     clear hW8 r0 r1 r2 f0 f1 f2 HRR
     refine hK.out _ _ ⟨hK8.cell HSd.out.1,hK8.cell HSd.out.2⟩ (fun hHeld=>?_)
     clear hK K
     have hR:=B6_4.out.upd hU8 (Ne.symm hgn)
     have r0:=hR.cell 0 rfl
     have r1:=hR.cell 1 rfl
     have r2:=hR.cell 2 rfl
     have f0:=hR.2.1 0
     have f1:=hR.2.1 1
     have f2:=hR.2.1 2
     have HRR:=hid hR
     clear hR
     refine cm 14 (fun K hK=>?_)
     go_simp
     generalize hW9:((World.setCell _ _ _).setCell _ _).setCell _ _=W9
     obtain⟨hF6,hK9,hU9⟩:=box3_set HRR.out hK8 hg6 nofun nofun nofun _ _ _ hW9
     clear hW9 r0 r1 r2 f0 f1 f2 HRR
     refine hK.out _ _ ⟨hK9.cell HSd.out.1,hK9.cell HSd.out.2⟩ (fun hHeld=>?_)
     clear hK K
     refine wpAnyH_done (by kernel_rfl) ?_ _
     go_wp2_with fail
     go_meet
     case rel=>exact⟨V0.heap.size,V3.heap.size,y1,y2,rfl,rfl,hF5.upd hU9 hgn,hF6,⟨hU9.rdD (hU8.rdD O4.out.1.1),O4.out.1.2⟩,⟨hU9.rdD (hU8.rdD O4.out.2.1),O4.out.2.2⟩,EE.out,kd.trans hK9⟩
    have kz3:Kp V1 (V1.alloc (.cells #[.bool false,.slice none 0 0,.int .i64 0] 113)):=(Kp.refl V1).alloc _
    have hz3:BoxV (V1.alloc (.cells #[.bool false,.slice none 0 0,.int .i64 0] 113)) V1.heap.size [.bool false,.slice none 0 0,.int .i64 0]:=BoxV.new V1 [_,_,_] _ _ rfl
    have hs3:V1.heap.size<(V1.alloc (.cells #[.bool false,.slice none 0 0,.int .i64 0] 113)).heap.size:=hz3.2.2
    go_simp
    generalize hV3:World.alloc V1 _=V3 at *
    clear hV3
    have K3:=hid (K1.out.trans kz3)
    have B6_3:=hid hz3
    have B5_3:=hid (B5_1.out.kp kz3)
    refine hK.out _ _ ⟨K3.out.cell HSd.out.1,K3.out.cell HSd.out.2⟩ (fun hHeld=>?_)
    clear hK K
    clear kz3 hz3
    refine cm 7 (fun K hK=>?_)
    (go_simp;go_fit (HEn.out V3);rintro e V4 ⟨y1,y2,rfl,o1,o2,e1,e2,k4⟩)
    have K4:=hid (K3.out.trans k4)
    have O4:=hid (And.intro o1 o2)
    have EE:=hid (And.intro e1 e2)
    have hs4:=k4.size
    refine hK.out _ _ ⟨K4.out.cell HSd.out.1,K4.out.cell HSd.out.2⟩ (fun hHeld=>?_)
    clear hK K
    refine tk 8 ?_;refine tk 9 ?_;refine tk 10 ?_;(try simp only[aput])
    have B6_4:=hid (B6_3.out.kp k4)
    have B5_4:=hid (B5_3.out.kp k4)
    clear o1 o2 e1 e2 k4
    have hg5:V0.heap.size≤V0.heap.size:=by omega
    have hg6:V0.heap.size≤V1.heap.size:=by omega
    have hgn:V0.heap.size≠V1.heap.size:=by omega
    have hR:=B5_4.out
    have r0:=hR.cell 0 rfl
    have r1:=hR.cell 1 rfl
    have r2:=hR.cell 2 rfl
    have f0:=hR.2.1 0
    have f1:=hR.2.1 1
    have f2:=hR.2.1 2
    have HRR:=hid hR
    clear hR
    refine cm 13 (fun K hK=>?_)
    go_simp
    generalize hW8:((World.setCell _ _ _).setCell _ _).setCell _ _=W8
    obtain⟨hF5,hK8,hU8⟩:=box3_set HRR.out K4.out hg5 nofun nofun nofun _ _ _ hW8
    clear hW8 r0 r1 r2 f0 f1 f2 HRR
    refine hK.out _ _ ⟨hK8.cell HSd.out.1,hK8.cell HSd.out.2⟩ (fun hHeld=>?_)
    clear hK K
    have hR:=B6_4.out.upd hU8 (Ne.symm hgn)
    have r0:=hR.cell 0 rfl
    have r1:=hR.cell 1 rfl
    have r2:=hR.cell 2 rfl
    have f0:=hR.2.1 0
    have f1:=hR.2.1 1
    have f2:=hR.2.1 2
    have HRR:=hid hR
    clear hR
    refine cm 14 (fun K hK=>?_)
    go_simp
    generalize hW9:((World.setCell _ _ _).setCell _ _).setCell _ _=W9
    obtain⟨hF6,hK9,hU9⟩:=box3_set HRR.out hK8 hg6 nofun nofun nofun _ _ _ hW9
    clear hW9 r0 r1 r2 f0 f1 f2 HRR
    refine hK.out _ _ ⟨hK9.cell HSd.out.1,hK9.cell HSd.out.2⟩ (fun hHeld=>?_)
    clear hK K
    refine wpAnyH_done (by kernel_rfl) ?_ _
    go_wp2_with fail
    go_meet
    case rel=>exact⟨V0.heap.size,V1.heap.size,y1,y2,rfl,rfl,hF5.upd hU9 hgn,hF6,⟨hU9.rdD (hU8.rdD O4.out.1.1),O4.out.1.2⟩,⟨hU9.rdD (hU8.rdD O4.out.2.1),O4.out.2.2⟩,EE.out,kd.trans hK9⟩
   have kz2:Kp V1 (V1.alloc (.cells #[.bool false,.slice none 0 0,.int .i64 0] 113)):=(Kp.refl V1).alloc _
   have hz2:BoxV (V1.alloc (.cells #[.bool false,.slice none 0 0,.int .i64 0] 113)) V1.heap.size [.bool false,.slice none 0 0,.int .i64 0]:=BoxV.new V1 [_,_,_] _ _ rfl
   have hs2:V1.heap.size<(V1.alloc (.cells #[.bool false,.slice none 0 0,.int .i64 0] 113)).heap.size:=hz2.2.2
   go_simp
   generalize hV2:World.alloc V1 _=V2 at *
   clear hV2
   have K2:=hid (K1.out.trans kz2)
   have B6_2:=hid hz2
   have B5_2:=hid (B5_1.out.kp kz2)
   refine hK.out _ _ ⟨K2.out.cell HSd.out.1,K2.out.cell HSd.out.2⟩ (fun hHeld=>?_)
   clear hK K
   clear kz2 hz2
   refine cm 2 (fun K hK=>?_)
   (go_simp;refine (r4size_any n V2 HN.out.1 HN.out.2).mono ?_;rintro e wq ⟨rfl,hq⟩;rw[hq];clear hq)
   refine hK.out _ _ ⟨K2.out.cell HSd.out.1,K2.out.cell HSd.out.2⟩ (fun hHeld=>?_)
   clear hK K
   refine cm 7 (fun K hK=>?_)
   (go_simp;go_fit (HEn.out V2);rintro e V4 ⟨y1,y2,rfl,o1,o2,e1,e2,k4⟩)
   have K4:=hid (K2.out.trans k4)
   have O4:=hid (And.intro o1 o2)
   have EE:=hid (And.intro e1 e2)
   have hs4:=k4.size
   refine hK.out _ _ ⟨K4.out.cell HSd.out.1,K4.out.cell HSd.out.2⟩ (fun hHeld=>?_)
   clear hK K
   refine tk 8 ?_;refine tk 9 ?_;refine tk 10 ?_;(try simp only[aput])
   have B6_4:=hid (B6_2.out.kp k4)
   have B5_4:=hid (B5_2.out.kp k4)
   clear o1 o2 e1 e2 k4
   have hg5:V0.heap.size≤V0.heap.size:=by omega
   have hg6:V0.heap.size≤V1.heap.size:=by omega
   have hgn:V0.heap.size≠V1.heap.size:=by omega
   have hR:=B5_4.out
   have r0:=hR.cell 0 rfl
   have r1:=hR.cell 1 rfl
   have r2:=hR.cell 2 rfl
   have f0:=hR.2.1 0
   have f1:=hR.2.1 1
   have f2:=hR.2.1 2
   have HRR:=hid hR
   clear hR
   refine cm 13 (fun K hK=>?_)
   go_simp
   generalize hW8:((World.setCell _ _ _).setCell _ _).setCell _ _=W8
   obtain⟨hF5,hK8,hU8⟩:=box3_set HRR.out K4.out hg5 nofun nofun nofun _ _ _ hW8
   clear hW8 r0 r1 r2 f0 f1 f2 HRR
   refine hK.out _ _ ⟨hK8.cell HSd.out.1,hK8.cell HSd.out.2⟩ (fun hHeld=>?_)
   clear hK K
   have hR:=B6_4.out.upd hU8 (Ne.symm hgn)
   have r0:=hR.cell 0 rfl
   have r1:=hR.cell 1 rfl
   have r2:=hR.cell 2 rfl
   have f0:=hR.2.1 0
   have f1:=hR.2.1 1
   have f2:=hR.2.1 2
   have HRR:=hid hR
   clear hR
   refine cm 14 (fun K hK=>?_)
   go_simp
   generalize hW9:((World.setCell _ _ _).setCell _ _).setCell _ _=W9
   obtain⟨hF6,hK9,hU9⟩:=box3_set HRR.out hK8 hg6 nofun nofun nofun _ _ _ hW9
   clear hW9 r0 r1 r2 f0 f1 f2 HRR
   refine hK.out _ _ ⟨hK9.cell HSd.out.1,hK9.cell HSd.out.2⟩ (fun hHeld=>?_)
   clear hK K
   refine wpAnyH_done (by kernel_rfl) ?_ _
   go_wp2_with fail
   go_meet
   case rel=>exact⟨V0.heap.size,V1.heap.size,y1,y2,rfl,rfl,hF5.upd hU9 hgn,hF6,⟨hU9.rdD (hU8.rdD O4.out.1.1),O4.out.1.2⟩,⟨hU9.rdD (hU8.rdD O4.out.2.1),O4.out.2.2⟩,EE.out,kd.trans hK9⟩
  have kz1:Kp V0 (V0.alloc (.cells #[.bool false,.slice none 0 0,.int .i64 0] 113)):=(Kp.refl V0).alloc _
  have hz1:BoxV (V0.alloc (.cells #[.bool false,.slice none 0 0,.int .i64 0] 113)) V0.heap.size [.bool false,.slice none 0 0,.int .i64 0]:=BoxV.new V0 [_,_,_] _ _ rfl
  have hs1:V0.heap.size<(V0.alloc (.cells #[.bool false,.slice none 0 0,.int .i64 0] 113)).heap.size:=hz1.2.2
  go_simp
  generalize hV1:World.alloc V0 _=V1 at *
  clear hV1
  have K1:=hid ((Kp.refl V0).trans kz1)
  have B6_1:=hid hz1
  refine hK.out _ _ ⟨K1.out.cell HSd.out.1,K1.out.cell HSd.out.2⟩ (fun hHeld=>?_)
  clear hK K
  clear kz1 hz1
  refine wpAnyH_ready (rs:=[2,11]) (by kernel_rfl) (by simp) ?_
  refine AllReadyH.cons rfl (fun K hK=>?_) (AllReadyH.cons rfl (fun K hK=>?_) AllReadyH.nil)
  ·(go_simp;refine (r4size_any n V1 HN.out.1 HN.out.2).mono ?_;rintro e wq ⟨rfl,hq⟩;rw[hq];clear hq)
   refine hK.out _ _ ⟨K1.out.cell HSd.out.1,K1.out.cell HSd.out.2⟩ (fun hHeld=>?_)
   clear hK K
   refine wpAnyH_ready (rs:=[7,11]) (by kernel_rfl) (by simp) ?_
   refine AllReadyH.cons rfl (fun K hK=>?_) (AllReadyH.cons rfl (fun K hK=>?_) AllReadyH.nil)
   ·(go_simp;go_fit (HEn.out V1);rintro e V3 ⟨y1,y2,rfl,o1,o2,e1,e2,k3⟩)
    have K3:=hid (K1.out.trans k3)
    have O3:=hid (And.intro o1 o2)
    have EE:=hid (And.intro e1 e2)
    have hs3:=k3.size
    refine hK.out _ _ ⟨K3.out.cell HSd.out.1,K3.out.cell HSd.out.2⟩ (fun hHeld=>?_)
    clear hK K
    refine tk 8 ?_;refine tk 9 ?_;refine tk 10 ?_;(try simp only[aput])
    have B6_3:=hid (B6_1.out.kp k3)
    clear o1 o2 e1 e2 k3
    refine cm 11 (fun K hK=>?_)
    have kz4:Kp V3 (V3.alloc (.cells #[.bool false,.slice none 0 0,.int .i64 0] 113)):=(Kp.refl V3).alloc _
    have hz4:BoxV (V3.alloc (.cells #[.bool false,.slice none 0 0,.int .i64 0] 113)) V3.heap.size [.bool false,.slice none 0 0,.int .i64 0]:=BoxV.new V3 [_,_,_] _ _ rfl
    have hs4:V3.heap.size<(V3.alloc (.cells #[.bool false,.slice none 0 0,.int .i64 0] 113)).heap.size:=hz4.2.2
    go_simp
    generalize hV4:World.alloc V3 _=V4 at *
    clear hV4
    have K4:=hid (K3.out.trans kz4)
    have B5_4:=hid hz4
    have B6_4:=hid (B6_3.out.kp kz4)
    have O4:=hid (And.intro (O3.out.1.kp kz4) (O3.out.2.kp kz4))
    refine hK.out _ _ ⟨K4.out.cell HSd.out.1,K4.out.cell HSd.out.2⟩ (fun hHeld=>?_)
    clear hK K
    clear kz4 hz4
    have hg5:V0.heap.size≤V3.heap.size:=by omega
    have hg6:V0.heap.size≤V0.heap.size:=by omega
    have hgn:V3.heap.size≠V0.heap.size:=by omega
    have hR:=B5_4.out
    have r0:=hR.cell 0 rfl
    have r1:=hR.cell 1 rfl
    have r2:=hR.cell 2 rfl
    have f0:=hR.2.1 0
    have f1:=hR.2.1 1
    have f2:=hR.2.1 2
    have HRR:=hid hR
    clear hR
    refine cm 13 (fun K hK=>?_)
    go_simp
    generalize hW8:((World.setCell _ _ _).setCell _ _).setCell _ _=W8
    obtain⟨hF5,hK8,hU8⟩:=box3_set HRR.out K4.out hg5 nofun nofun nofun _ _ _ hW8
    clear hW8 r0 r1 r2 f0 f1 f2 HRR
    refine hK.out _ _ ⟨hK8.cell HSd.out.1,hK8.cell HSd.out.2⟩ (fun hHeld=>?_)
    clear hK K
    have hR:=B6_4.out.upd hU8 (Ne.symm hgn)
    have r0:=hR.cell 0 rfl
    have r1:=hR.cell 1 rfl
    have r2:=hR.cell 2 rfl
    have f0:=hR.2.1 0
    have f1:=hR.2.1 1
    have f2:=hR.2.1 2
    have HRR:=hid hR
    clear hR
    refine cm 14 (fun K hK=>?_)
    go_simp
    generalize hW9:((World.setCell _ _ _).setCell _ _).setCell _ _=W9
    obtain⟨hF6,hK9,hU9⟩:=box3_set HRR.out hK8 hg6 nofun nofun nofun _ _ _ hW9
    clear hW9 r0 r1 r2 f0 f1 f2 HRR
    refine hK.out _ _ ⟨hK9.cell HSd.out.1,hK9.cell HSd.out.2⟩ (fun hHeld=>?_)
    clear hK K
    refine wpAnyH_done (by kernel_rfl) ?_ _
    go_wp2_with fail
    go_meet
    case rel=>exact⟨V3.heap.size,V0.heap.size,y1,y2,rfl,rfl,hF5.upd hU9 hgn,hF6,⟨hU9.rdD (hU8.rdD O4.out.1.1),O4.out.1.2⟩,⟨hU9.rdD (hU8.rdD O4.out.2.1),O4.out.2.2⟩,EE.out,kd.trans hK9⟩
   have kz3:Kp V1 (V1.alloc (.cells #[.bool false,.slice none 0 0,.int .i64 0] 113)):=(Kp.refl V1).alloc _
   have hz3:BoxV (V1.alloc (.cells #[.bool false,.slice none 0 0,.int .i64 0] 113)) V1.heap.size [.bool false,.slice none 0 0,.int .i64 0]:=BoxV.new V1 [_,_,_] _ _ rfl
   have hs3:V1.heap.size<(V1.alloc (.cells #[.bool false,.slice none 0 0,.int .i64 0] 113)).heap.size:=hz3.2.2
   go_simp
   generalize hV3:World.alloc V1 _=V3 at *
   clear hV3
   have K3:=hid (K1.out.trans kz3)
   have B5_3:=hid hz3
   have B6_3:=hid (B6_1.out.kp kz3)
   refine hK.out _ _ ⟨K3.out.cell HSd.out.1,K3.out.cell HSd.out.2⟩ (fun hHeld=>?_)
   clear hK K
   clear kz3 hz3
   refine cm 7 (fun K hK=>?_)
   (go_simp;go_fit (HEn.out V3);rintro e V4 ⟨y1,y2,rfl,o1,o2,e1,e2,k4⟩)
   have K4:=hid (K3.out.trans k4)
   have O4:=hid (And.intro o1 o2)
   have EE:=hid (And.intro e1 e2)
   have hs4:=k4.size
   refine hK.out _ _ ⟨K4.out.cell HSd.out.1,K4.out.cell HSd.out.2⟩ (fun hHeld=>?_)
   clear hK K
   refine tk 8 ?_;refine tk 9 ?_;refine tk 10 ?_;(try simp only[aput])
   have B5_4:=hid (B5_3.out.kp k4)
   have B6_4:=hid (B6_3.out.kp k4)
   clear o1 o2 e1 e2 k4
   have hg5:V0.heap.size≤V1.heap.size:=by omega
   have hg6:V0.heap.size≤V0.heap.size:=by omega
   have hgn:V1.heap.size≠V0.heap.size:=by omega
   have hR:=B5_4.out
   have r0:=hR.cell 0 rfl
   have r1:=hR.cell 1 rfl
   have r2:=hR.cell 2 rfl
   have f0:=hR.2.1 0
   have f1:=hR.2.1 1
   have f2:=hR.2.1 2
   have HRR:=hid hR
   clear hR
   refine cm 13 (fun K hK=>?_)
   go_simp
   generalize hW8:((World.setCell _ _ _).setCell _ _).setCell _ _=W8
   obtain⟨hF5,hK8,hU8⟩:=box3_set HRR.out K4.out hg5 nofun nofun nofun _ _ _ hW8
   clear hW8 r0 r1 r2 f0 f1 f2 HRR
   refine hK.out _ _ ⟨hK8.cell HSd.out.1,hK8.cell HSd.out.2⟩ (fun hHeld=>?_)
   clear hK K
   have hR:=B6_4.out.upd hU8 (Ne.symm hgn)
   have r0:=hR.cell 0 rfl
   have r1:=hR.cell 1 rfl
   have r2:=hR.cell 2 rfl
   have f0:=hR.2.1 0
   have f1:=hR.2.1 1
   have f2:=hR.2.1 2
   have HRR:=hid hR
   clear hR
   refine cm 14 (fun K hK=>?_)
   go_simp
   generalize hW9:((World.setCell _ _ _).setCell _ _).setCell _ _=W9
   obtain⟨hF6,hK9,hU9⟩:=box3_set HRR.out hK8 hg6 nofun nofun nofun _ _ _ hW9
   clear hW9 r0 r1 r2 f0 f1 f2 HRR
   refine hK.out _ _ ⟨hK9.cell HSd.out.1,hK9.cell HSd.out.2⟩ (fun hHeld=>?_)
   clear hK K
   refine wpAnyH_done (by kernel_rfl) ?_ _
   go_wp2_with fail
   go_meet
   case rel=>exact⟨V1.heap.size,V0.heap.size,y1,y2,rfl,rfl,hF5.upd hU9 hgn,hF6,⟨hU9.rdD (hU8.rdD O4.out.1.1),O4.out.1.2⟩,⟨hU9.rdD (hU8.rdD O4.out.2.1),O4.out.2.2⟩,EE.out,kd.trans hK9⟩
  have kz2:Kp V1 (V1.alloc (.cells #[.bool false,.slice none 0 0,.int .i64 0] 113)):=(Kp.refl V1).alloc _
  have hz2:BoxV (V1.alloc (.cells #[.bool false,.slice none 0 0,.int .i64 0] 113)) V1.heap.size [.bool false,.slice none 0 0,.int .i64 0]:=BoxV.new V1 [_,_,_] _ _ rfl
  have hs2:V1.heap.size<(V1.alloc (.cells #[.bool false,.slice none 0 0,.int .i64 0] 113)).heap.size:=hz2.2.2
  go_simp
  generalize hV2:World.alloc V1 _=V2 at *
  clear hV2
  have K2:=hid (K1.out.trans kz2)
  have B5_2:=hid hz2
  have B6_2:=hid (B6_1.out.kp kz2)
  refine hK.out _ _ ⟨K2.out.cell HSd.out.1,K2.out.cell HSd.out.2⟩ (fun hHeld=>?_)
  clear hK K
  clear kz2 hz2
  refine cm 2 (fun K hK=>?_)
  (go_simp;refine (r4size_any n V2 HN.out.1 HN.out.2).mono ?_;rintro e wq ⟨rfl,hq⟩;rw[hq];clear hq)
  refine hK.out _ _ ⟨K2.out.cell HSd.out.1,K2.out.cell HSd.out.2⟩ (fun hHeld=>?_)
  clear hK K
  refine cm 7 (fun K hK=>?_)
  (go_simp;go_fit (HEn.out V2);rintro e V4 ⟨y1,y2,rfl,o1,o2,e1,e2,k4⟩)
  have K4:=hid (K2.out.trans k4)
  have O4:=hid (And.intro o1 o2)
  have EE:=hid (And.intro e1 e2)
  have hs4:=k4.size
  refine hK.out _ _ ⟨K4.out.cell HSd.out.1,K4.out.cell HSd.out.2⟩ (fun hHeld=>?_)
  clear hK K
  refine tk 8 ?_;refine tk 9 ?_;refine tk 10 ?_;(try simp only[aput])
  have B5_4:=hid (B5_2.out.kp k4)
  have B6_4:=hid (B6_2.out.kp k4)
  clear o1 o2 e1 e2 k4
  have hg5:V0.heap.size≤V1.heap.size:=by omega
  have hg6:V0.heap.size≤V0.heap.size:=by omega
  have hgn:V1.heap.size≠V0.heap.size:=by omega
  have hR:=B5_4.out
  have r0:=hR.cell 0 rfl
  have r1:=hR.cell 1 rfl
  have r2:=hR.cell 2 rfl
  have f0:=hR.2.1 0
  have f1:=hR.2.1 1
  have f2:=hR.2.1 2
  have HRR:=hid hR
  clear hR
  refine cm 13 (fun K hK=>?_)
  go_simp
  generalize hW8:((World.setCell _ _ _).setCell _ _).setCell _ _=W8
  obtain⟨hF5,hK8,hU8⟩:=box3_set HRR.out K4.out hg5 nofun nofun nofun _ _ _ hW8
  clear hW8 r0 r1 r2 f0 f1 f2 HRR
  refine hK.out _ _ ⟨hK8.cell HSd.out.1,hK8.cell HSd.out.2⟩ (fun hHeld=>?_)
  clear hK K
  have hR:=B6_4.out.upd hU8 (Ne.symm hgn)
  have r0:=hR.cell 0 rfl
  have r1:=hR.cell 1 rfl
  have r2:=hR.cell 2 rfl
  have f0:=hR.2.1 0
  have f1:=hR.2.1 1
  have f2:=hR.2.1 2
  have HRR:=hid hR
  clear hR
  refine cm 14 (fun K hK=>?_)
  go_simp
  generalize hW9:((World.setCell _ _ _).setCell _ _).setCell _ _=W9
  obtain⟨hF6,hK9,hU9⟩:=box3_set HRR.out hK8 hg6 nofun nofun nofun _ _ _ hW9
  clear hW9 r0 r1 r2 f0 f1 f2 HRR
  refine hK.out _ _ ⟨hK9.cell HSd.out.1,hK9.cell HSd.out.2⟩ (fun hHeld=>?_)
  clear hK K
  refine wpAnyH_done (by kernel_rfl) ?_ _
  go_wp2_with fail
  go_meet
  case rel=>exact⟨V1.heap.size,V0.heap.size,y1,y2,rfl,rfl,hF5.upd hU9 hgn,hF6,⟨hU9.rdD (hU8.rdD O4.out.1.1),O4.out.1.2⟩,⟨hU9.rdD (hU8.rdD O4.out.2.1),O4.out.2.2⟩,EE.out,kd.trans hK9⟩
 case rest =>
 obtain⟨g5,g6,y1,y2,rfl,rfl,h5b,h6b,ho1,ho2,hee,kx⟩:=hcut
 obtain⟨X,hX⟩:∃ X:World,X=wc:=⟨_,rfl⟩
 subst hX
 have HB5:=hid h5b
 have HB6:=hid h6b
 have HO:=hid (And.intro ho1 ho2)
 have HEE:=hid hee
 have KX:=hid (K2.out.trans kx)
 have HBX:=hid (HB2.out.kp kx)
 have HGB:=hid (show w.heap.size+1<w2.heap.size∧w2.heap.size≤X.heap.size from ⟨HWB.out,kx.size⟩)
 clear q0 q1
 have q0:=(HA2.out.kp kx).cell 0 rfl
 clear h5b h6b ho1 ho2 hee kx hcv HEn
 by_cases hneg:n<0
 rotate_left
 ·have HE:=hid (show encR n (D:Int) p=(y1.dy,y2.dy,false) by
   rw[HEn0.out,HEE.out.1,HEE.out.2,show ((n.natAbs:Nat):Int)=n by omega])
  have p0:=HB5.out.cell 0 rfl
  have p1:=HB5.out.cell 1 rfl
  have p2:=HB5.out.cell 2 rfl
  have p3:=HB6.out.cell 0 rfl
  have p4:=HB6.out.cell 1 rfl
  have p5:=HB6.out.cell 2 rfl
  obtain⟨⟨b0,b1,b2,b3,b4,b5,b6⟩,f0,f1,f2,f3,f4,f5,f6⟩:=id HBX.out
  go_wp2_with fail
  generalize hW9:((((((World.setCell _ _ _).setCell _ _).setCell _ _).setCell _ _).setCell _ _).setCell _ _).setCell _ _=W9
  obtain⟨⟨s0,s1,s2,s3,s4,s5,s6⟩,hU⟩:=stored7 (show Box7 X _ _ _ _ _ _ _ _ from ⟨b0,b1,b2,b3,b4,b5,b6⟩) nofun nofun nofun nofun nofun nofun nofun _ _ _ _ _ _ _ hW9
  clear hW9 b0 b1 b2 b3 b4 b5 b6 f0 f1 f2 f3 f4 f5 f6
  refine bodyPost_ret (v:=.agg #[.bool (RI.mk y1 y2 false).lo.neg,.slice (RI.mk y1 y2 false).lo.a (RI.mk y1 y2 false).lo.xs.length (RI.mk y1 y2 false).lo.c,.int .i64 (RI.mk y1 y2 false).lo.e,.bool (RI.mk y1 y2 false).hi.neg,.slice (RI.mk y1 y2 false).hi.a (RI.mk y1 y2 false).hi.xs.length (RI.mk y1 y2 false).hi.c,.int .i64 (RI.mk y1 y2 false).hi.e,.bool (RI.mk y1 y2 false).all]) (by simp[results,Tryz.results198,go_sem,s0,s1,s2,s3,s4,s5,s6]) rfl ?_
  exact⟨RI.mk y1 y2 false,rfl,⟨⟨hU.rdD HO.out.1.1,HO.out.1.2⟩,⟨hU.rdD HO.out.2.1,HO.out.2.2⟩⟩,by rw[HE.out],hU.2.2.1 _ KX.out (by omega)⟩
 have HE:=hid (show encR n (D:Int) p=(y2.dy.opp,y1.dy.opp,false) by
  have e1:n=-((n.natAbs:Nat):Int):=by omega
  have hD0:0<D:=by have:=HD.out;omega
  rw[HEn0.out,HEE.out.1,HEE.out.2]
  have h1:=dvP_neg (p:=p) (n:=n.natAbs) (d:=D) (by omega) hD0 false
  have h2:=dvP_neg (p:=p) (n:=n.natAbs) (d:=D) (by omega) hD0 true
  rw[← e1] at h1 h2
  rw[h1,h2]
  rfl)
 go_upto_region 7 with fail
 have kd:=(Kp.refl X).drew
 have HB5d:=hid (HB5.out.kp kd)
 have HB6d:=hid (HB6.out.kp kd)
 have HBd:=hid (HBX.out.kp kd)
 have KXd:=hid (KX.out.trans kd)
 have HO2:=hid (HO.out.2.kp kd)
 have HO1:=hid (HO.out.1.kp kd)
 have hSd:X.drew.cell? ⟨g6,0,none⟩=some (.bool y2.neg)∧X.drew.cell? ⟨g6,1,none⟩=some (.slice y2.a y2.xs.length y2.c)∧X.drew.cell? ⟨g6,2,none⟩=some (.int .i64 y2.e)∧X.drew.cell? ⟨g5,0,none⟩=some (.bool y1.neg)∧X.drew.cell? ⟨g5,1,none⟩=some (.slice y1.a y1.xs.length y1.c)∧X.drew.cell? ⟨g5,2,none⟩=some (.int .i64 y1.e):=⟨HB6d.out.cell 0 rfl,HB6d.out.cell 1 rfl,HB6d.out.cell 2 rfl,HB5d.out.cell 0 rfl,HB5d.out.cell 1 rfl,HB5d.out.cell 2 rfl⟩
 have HSd:=hid hSd
 refine wp_region_free (by kernel_rfl) (fun hHeld=>?_)
 refine wpAnyH_tail (z:=5) (f:=5) (fun w'=>w'.cell? ⟨g6,0,none⟩=some (.bool y2.neg)∧w'.cell? ⟨g6,1,none⟩=some (.slice y2.a y2.xs.length y2.c)∧w'.cell? ⟨g6,2,none⟩=some (.int .i64 y2.e)∧w'.cell? ⟨g5,0,none⟩=some (.bool y1.neg)∧w'.cell? ⟨g5,1,none⟩=some (.slice y1.a y1.xs.length y1.c)∧w'.cell? ⟨g5,2,none⟩=some (.int .i64 y1.e)) (by kernel_rfl) (by kernel_rfl) rfl hSd (fun hHeld=>?_)
 clear hSd q0
 generalize X.drew=V at *
 refine tk 0 ?_;refine tk 2 ?_;(try simp only[aput])
 refine cm 1 (fun K hK=>?_)
 (go_simp;go_fit (r4neg_any y2 V HO2.out);rintro r w3 ⟨z2,rfl,oz2,ez2,k3⟩)
 refine hK.out _ _ (keep6D k3 HSd.out) (fun hHeld=>?_)
 clear hK K
 refine cm 3 (fun K hK=>?_)
 (go_simp;go_fit (r4neg_any y1 w3 (HO1.out.kp k3));rintro r w4 ⟨z1,rfl,oz1,ez1,k4⟩)
 refine hK.out _ _ (keep6D (k3.trans k4) HSd.out) (fun hHeld=>?_)
 clear hK K
 refine tk 4 ?_;(try simp only[aput])
 refine wpAnyH_done (by kernel_rfl) ?_ _
 refine tailQ_held (k:=1) (by kernel_rfl) (fun hHeld=>?_)
 have HB4:=hid (HBd.out.kp (k3.trans k4))
 have HZ2:=hid (oz2.kp k4)
 have HZ1:=hid oz1
 have K4:=hid (KXd.out.trans (k3.trans k4))
 clear oz1 oz2 k3 k4
 obtain⟨⟨b0,b1,b2,b3,b4,b5,b6⟩,f0,f1,f2,f3,f4,f5,f6⟩:=id HB4.out
 refine cm 5 (fun K hK=>?_)
 go_simp
 generalize hW9:((((((World.setCell _ _ _).setCell _ _).setCell _ _).setCell _ _).setCell _ _).setCell _ _).setCell _ _=W9
 obtain⟨⟨s0,s1,s2,s3,s4,s5,s6⟩,hU⟩:=stored7 (show Box7 w4 _ _ _ _ _ _ _ _ from ⟨b0,b1,b2,b3,b4,b5,b6⟩) nofun nofun nofun nofun nofun nofun nofun _ _ _ _ _ _ _ hW9
 clear hW9 b0 b1 b2 b3 b4 b5 b6 f0 f1 f2 f3 f4 f5 f6
 refine hK.out _ _ trivial (fun hHeld=>?_)
 clear hK K
 refine wpAnyH_done (by kernel_rfl) ?_ _
 go_wp2_with fail
 refine bodyPost_ret (v:=.agg #[.bool (RI.mk z2 z1 false).lo.neg,.slice (RI.mk z2 z1 false).lo.a (RI.mk z2 z1 false).lo.xs.length (RI.mk z2 z1 false).lo.c,.int .i64 (RI.mk z2 z1 false).lo.e,.bool (RI.mk z2 z1 false).hi.neg,.slice (RI.mk z2 z1 false).hi.a (RI.mk z2 z1 false).hi.xs.length (RI.mk z2 z1 false).hi.c,.int .i64 (RI.mk z2 z1 false).hi.e,.bool (RI.mk z2 z1 false).all]) (by simp[results,Tryz.results198,go_sem,s0,s1,s2,s3,s4,s5,s6]) rfl ?_
 exact⟨RI.mk z2 z1 false,rfl,⟨⟨hU.rdD HZ2.out.1,HZ2.out.2⟩,⟨hU.rdD HZ1.out.1,HZ1.out.2⟩⟩,by rw[HE.out];show (z2.dy,z1.dy,false)=_;rw[ez2,ez1],hU.2.2.1 _ K4.out (by omega)⟩
end Go.Proofs.YteidgoldnllabaaGreatDoor
