/-
  Walks: interval.four.
-/
import Derived.Deep.CutRange
import Derived.Deep.LoopGhost
import Derived.Laws.Rows
import Derived.Laws.Tables
import Derived.Test.YtbhmhfnfceakoaaGreatDoorMIvM
namespace Go.Proofs.YtbhmhfnfceakoaaGreatDoor
open Go.RowKit
open Lib (hid)
theorem Kp.setRow {a w:World} (h:Kp a w) {g:Nat} (hg:a.heap.size≤g) (cs:Array Value):Kp a (w.setRow g cs) :=
 Below.trans h ⟨rfl,rfl,rfl,by simp,fun k hk=>setRow_other _ _ _ _ (by omega)⟩
theorem upd3 {g b:Nat} {w W:World} (h:Upd g w W) (hb:b≠g) {v0 v1 v2:Value} (f:w.cell? ⟨b,0,none⟩=some v0∧w.cell? ⟨b,1,none⟩=some v1∧w.cell? ⟨b,2,none⟩=some v2) :
  W.cell? ⟨b,0,none⟩=some v0∧W.cell? ⟨b,1,none⟩=some v1∧W.cell? ⟨b,2,none⟩=some v2:=by
 obtain⟨_,_,_,h4,_⟩:=h
 have key (i:Nat):W.cell? ⟨b,i,none⟩=w.cell? ⟨b,i,none⟩:=h4 _ hb
 simp only[key]
 exact f
theorem enters_MulDown:Enters Tryz.prog 174:=fun _ _=>by kernel_rfl
theorem enters_MulUp:Enters Tryz.prog 103:=fun _ _=>by kernel_rfl
set_option maxRecDepth 100000 in
set_option maxHeartbeats 8000000 in
theorem four_any (x y:RI) (p:Nat) (w:World) (ox:x.ok w) (oy:y.ok w) (h0:8≤p) (h1:p≤512) (hT:Tab w) :
  Calls Tryz.prog 226 #[.agg #[.bool x.lo.neg,.slice x.lo.a x.lo.xs.length x.lo.c,.int .i64 x.lo.e,.bool x.hi.neg,.slice x.hi.a x.hi.xs.length x.hi.c,.int .i64 x.hi.e,.bool false],.agg #[.bool y.lo.neg,.slice y.lo.a y.lo.xs.length y.lo.c,.int .i64 y.lo.e,.bool y.hi.neg,.slice y.hi.a y.hi.xs.length y.hi.c,.int .i64 y.hi.e,.bool false],.int .i64 p,.func (.func 174) #[] #[],.func (.func 103) #[] #[]] w (IvOut w (fourP (opP p) (restP x y 0) none)):=by
 have hgo1:∀ args w,(callFunc 174 args).run Tryz.prog w=.ok (.enter 174 args) w:=enters_MulDown
 have hgo2:∀ args w,(callFunc 103 args).run Tryz.prog w=.ok (.enter 103 args) w:=enters_MulUp
 obtain⟨D,hD⟩:∃ D,D=fourP (opP p) (restP x y 0) none:=⟨_,rfl⟩
 have HD:=hid hD
 rw[← hD]
 clear hD
 go_enter Tryz.func226,Tryz.ntmps226
 go_upto_region 1 with fail
 generalize hW:(((w.alloc _).alloc _).alloc _)=W at *
 have hk:Kp w W:=hW▸(((Kp.refl w).alloc _).alloc _).alloc _
 have hS:(W.cell? ⟨w.heap.size,0,none⟩=some (.bool x.lo.neg)∧W.cell? ⟨w.heap.size,1,none⟩=some (.slice x.lo.a x.lo.xs.length x.lo.c)∧W.cell? ⟨w.heap.size,2,none⟩=some (.int .i64 x.lo.e)∧W.cell? ⟨w.heap.size,3,none⟩=some (.bool x.hi.neg)∧W.cell? ⟨w.heap.size,4,none⟩=some (.slice x.hi.a x.hi.xs.length x.hi.c)∧W.cell? ⟨w.heap.size,5,none⟩=some (.int .i64 x.hi.e)∧W.cell? ⟨w.heap.size,6,none⟩=some (.bool false))∧W.cell? ⟨w.heap.size+1,0,none⟩=some (.bool y.lo.neg)∧W.cell? ⟨w.heap.size+1,1,none⟩=some (.slice y.lo.a y.lo.xs.length y.lo.c)∧W.cell? ⟨w.heap.size+1,2,none⟩=some (.int .i64 y.lo.e)∧W.cell? ⟨w.heap.size+1,3,none⟩=some (.bool y.hi.neg)∧W.cell? ⟨w.heap.size+1,4,none⟩=some (.slice y.hi.a y.hi.xs.length y.hi.c)∧W.cell? ⟨w.heap.size+1,5,none⟩=some (.int .i64 y.hi.e)∧W.cell? ⟨w.heap.size+1,6,none⟩=some (.bool false):=by rw[← hW];exact keep77 ((Kp.refl _).alloc _) (by simp)
 have hV:Var7 W (w.heap.size+1+1):=by rw[← hW];exact Var7.new2 _ _ _ _
 have hsz:W.heap.size=w.heap.size+1+1+1:=by rw[← hW];simp
 clear hW
 obtain⟨⟨s0,s1,s2,s3,s4,s5,s6⟩,t0,t1,t2,t3,t4,t5,t6⟩:=hS
 have hnew:∀ o,(W.alloc o).heap[w.heap.size+1+1+1]? = some o:=fun o=>by rw[← hsz];exact heap_alloc_new W o
 go_cut [11] from 19 to 39 (fun s wx=>s=.pointer (some ⟨w.heap.size+1+1+1,0,none⟩)∧wx.heap[w.heap.size+1+1+1]? = some (.cells (pairCs x y) 189 (0,0))∧Kp W wx∧wx.heap.size=w.heap.size+1+1+1+1)
 case first =>
  go_wp2_with (first | refine wpList_build4 rfl _ _ _ _ rfl x y rfl rfl rfl rfl ?_ | refine wpList_storePairs rfl _ _ rfl x y (w.heap.size+1+1+1) rfl rfl _ (hnew _) rfl ?_ | fail)
  go_meet
  case rel=>exact⟨rfl,setRow_heap _ _ _ _ _ _ (hnew _),((Kp.refl W).alloc _).setRow (by omega) _,by simp[hsz]⟩
 case rest =>
 obtain⟨rfl,hcs,hk1,hsz1⟩:=hcut
 obtain⟨W1,hW1⟩:∃ x:World,x=wc:=⟨_,rfl⟩
 subst hW1
 clear hnew s0 s1 s2 s3 s4 s5 s6 t0 t1 t2 t3 t4 t5 t6
 have hV1:=hV.kp hk1
 have hK1:=hk.trans hk1
 have hcsz:(Tryz.prog.info? 189).map (·.size)=some (pairCs x y).size:=by kernel_rfl
 have ox1:=hid (ox.kp hK1)
 have oy1:=hid (oy.kp hK1)
 have hT1:=hid (hT.kp hK1)
 have HW:=hid hK1
 clear hV hk hk1 hK1 ox oy hT hsz
 go_upto_region 3 with fail
 generalize hW2:W1.alloc _=W2 at *
 have hk2:Kp W1 W2:=by rw[← hW2];exact (Kp.refl W1).alloc _
 have hO:Var7 W2 (w.heap.size+1+1+1+1):=by rw[← hW2,← hsz1];exact Var7.new _ _
 have hcs2:=hk2.heap hcs
 clear hW2 hcs
 go_wp2_with (refine wpList_load_row rfl 189 _ rfl (w.heap.size+1+1+1) rfl 189 (pairCs x y) (0,0) _ hcs2 Tryz.underlying189 rfl hcsz ?_)
 clear hcs2 hcsz
 go_loopg [41] 4 (fun r v wr=>∃ (k:Nat) (lo hi:RD),k+r=4∧v=.int .i64 k∧Kp W1 wr∧(Box7 wr (w.heap.size+1+1+1+1) (.bool lo.neg) (.slice lo.a lo.xs.length lo.c) (.int .i64 lo.e) (.bool hi.neg) (.slice hi.a hi.xs.length hi.c) (.int .i64 hi.e) (.bool false)∧Frz wr (w.heap.size+1+1+1+1))∧(lo.ok wr∧hi.ok wr∧lo.iv≤hi.iv)∧fourP (opP p) (restP x y k) (accP k lo hi)=D)
 case atStart=>exact⟨0,rdZero,rdZero,rfl,rfl,hk2,hO,⟨⟨rdZero_rd _,rdZero_vl⟩,⟨rdZero_rd _,rdZero_vl⟩,Int.le_refl _⟩,HD.out.symm⟩
 case round =>
 obtain⟨k,lo,hi,hkr,rfl,hkw,hB,hok,hF⟩:=hrel
 clear hO hk2
 have HF:=hid hF
 have HO:=hid hok
 clear hF hok
 by_cases hlt:k<4
 rotate_left
 ·obtain rfl:k=4:=by omega
  have HE:=hid (show D=⟨lo.dy,hi.dy,false⟩ from HF.out.symm.trans four_end)
  obtain⟨q0,q1,q2,q3,q4,q5,q6⟩:=id hB.1
  obtain⟨⟨r0,r1,r2,r3,r4,r5,r6⟩,f0,f1,f2,f3,f4,f5,f6⟩:=hV1.kp hkw
  have hkk:=HW.out.trans hkw
  clear hV1 hkw
  go_wp2_with fail
  generalize hW9:((((((wr.setCell _ _).setCell _ _).setCell _ _).setCell _ _).setCell _ _).setCell _ _).setCell _ _=W9
  obtain⟨⟨s0,s1,s2,s3,s4,s5,s6⟩,hU⟩:=stored7 (show Box7 wr _ _ _ _ _ _ _ _ from ⟨r0,r1,r2,r3,r4,r5,r6⟩) nofun nofun nofun nofun nofun nofun nofun _ _ _ _ _ _ _ hW9
  clear hW9 q0 q1 q2 q3 q4 q5 q6 r0 r1 r2 r3 r4 r5 r6 f0 f1 f2 f3 f4 f5 f6
  refine bodyPost_ret (v:=.agg #[.bool (RI.mk lo hi false).lo.neg,.slice (RI.mk lo hi false).lo.a (RI.mk lo hi false).lo.xs.length (RI.mk lo hi false).lo.c,.int .i64 (RI.mk lo hi false).lo.e,.bool (RI.mk lo hi false).hi.neg,.slice (RI.mk lo hi false).hi.a (RI.mk lo hi false).hi.xs.length (RI.mk lo hi false).hi.c,.int .i64 (RI.mk lo hi false).hi.e,.bool (RI.mk lo hi false).all]) (by simp[results,Tryz.results226,go_sem,s0,s1,s2,s3,s4,s5,s6]) rfl ?_
  rw[HE.out]
  exact⟨⟨lo,hi,false⟩,rfl,hU.rdI ⟨HO.out.1.1,HO.out.2.1.1⟩,rfl,vl_mk2 HO.out.1.2 HO.out.2.1.2 HO.out.2.2,hU.2.2.1 _ hkk (by omega)⟩
 obtain⟨q,hq⟩:∃ q,(pairR x y)[k]? = some q:=⟨_,List.getElem?_eq_getElem (show k<(pairR x y).length from hlt)⟩
 have hI:=index4 x y k q hq
 have Hq:=hid hq
 have OQ:=hid (pairR_ok (ox1.out.kp hkw) (oy1.out.kp hkw) hq)
 have hTr:=hid (hT1.out.kp hkw)
 have hVr:=hid (hV1.kp hkw)
 clear hq
 clear hV1
 obtain⟨a,b⟩:=q
 go_upto_region 6 with fail
 generalize hW6:wr.alloc _=W6 at *
 have hC6:(W6.cell? ⟨wr.heap.size,0,none⟩=some (.bool a.neg)∧W6.cell? ⟨wr.heap.size,1,none⟩=some (.slice a.a a.xs.length a.c)∧W6.cell? ⟨wr.heap.size,2,none⟩=some (.int .i64 a.e))∧(W6.cell? ⟨wr.heap.size,3,none⟩=some (.bool b.neg)∧W6.cell? ⟨wr.heap.size,4,none⟩=some (.slice b.a b.xs.length b.c)∧W6.cell? ⟨wr.heap.size,5,none⟩=some (.int .i64 b.e)):=by rw[← hW6];simp
 have hk6:Kp wr W6:=by rw[← hW6];exact (Kp.refl wr).alloc _
 have hSZ6:W6.heap.size=wr.heap.size+1:=by rw[← hW6];simp
 clear hW6 hI
 obtain⟨⟨c0,c1,c2⟩,c3,c4,c5⟩:=id hC6
 go_wp2_with fail
 go_fit (mulDown_ok a b h0 h1 _ (OQ.out.1.kp hk6) (OQ.out.2.kp hk6) (hTr.out.kp hk6))
 rintro e w7 ⟨z1,rfl,rz,dz,vz,k7⟩
 have k67:=hid k7
 have ka:=(Kp.refl w7).alloc (.cells #[.bool z1.neg,.slice z1.a z1.xs.length z1.c,.int .i64 z1.e] 38)
 have k7a:=hk6.trans (k7.trans ka)
 have hC7:=keep33 (k7.trans ka) hC6
 have kA7:=hid ka
 have R1:=hid (show z1.ok (w7.alloc (.cells #[.bool z1.neg,.slice z1.a z1.xs.length z1.c,.int .i64 z1.e] 38)) from ⟨rz.kp ka,vz (muP_ok a.dy b.dy h0 h1 false)⟩)
 have D1:=hid dz
 clear rz dz vz hC6 c0 c1 c2 c3 c4 c5 k7
 go_upto_region 7 with fail
 generalize hW7:w7.alloc _=W7 at *
 have hL7:W7.cell? ⟨w7.heap.size,0,none⟩=some (.bool z1.neg)∧W7.cell? ⟨w7.heap.size,1,none⟩=some (.slice z1.a z1.xs.length z1.c)∧W7.cell? ⟨w7.heap.size,2,none⟩=some (.int .i64 z1.e):=by rw[← hW7];simp
 clear hW7 ka
 obtain⟨⟨c0,c1,c2⟩,c3,c4,c5⟩:=hC7
 go_wp2_with fail
 go_fit (mulUp_ok a b h0 h1 _ (OQ.out.1.kp k7a) (OQ.out.2.kp k7a) (hTr.out.kp k7a))
 rintro e w8 ⟨z2,rfl,rz,dz,vz,k8⟩
 have k78:=hid k8
 have ka:=(Kp.refl w8).alloc (.cells #[.bool z2.neg,.slice z2.a z2.xs.length z2.c,.int .i64 z2.e] 38)
 have k8a:=k7a.trans (k8.trans ka)
 have hL8:=keep3 (k8.trans ka) hL7
 have R2:=hid (show z2.ok (w8.alloc (.cells #[.bool z2.neg,.slice z2.a z2.xs.length z2.c,.int .i64 z2.e] 38)) from ⟨rz.kp ka,vz (muP_ok a.dy b.dy h0 h1 true)⟩)
 have R1b:=hid (R1.out.kp (k8.trans ka))
 have D2:=hid dz
 clear rz dz vz hL7 c0 c1 c2 c3 c4 c5 k8 k7a hk6 R1
 go_upto_region 8 with fail
 generalize hW8:w8.alloc _=W8 at *
 have hH8:W8.cell? ⟨w8.heap.size,0,none⟩=some (.bool z2.neg)∧W8.cell? ⟨w8.heap.size,1,none⟩=some (.slice z2.a z2.xs.length z2.c)∧W8.cell? ⟨w8.heap.size,2,none⟩=some (.int .i64 z2.e):=by rw[← hW8];simp
 clear hW8 ka
 have hB8:=hB.1.kp k8a
 have hF8:=hB.2.kp hB.1 k8a
 have hV8:=hid (hVr.out.kp k8a)
 have hK8:=hid (hkw.trans k8a)
 have HO8:=hid (And.intro (HO.out.1.kp k8a) (And.intro (HO.out.2.1.kp k8a) HO.out.2.2))
 have hG8:=hid (show w8.heap.size≠w.heap.size+1+1+1+1 from fun e=>by
  have e1:=World.block_lt_of_cell? wr _ hB.1.1
  have e2:W6.heap.size=wr.heap.size+1:=hSZ6
  have e3:=k67.out.size
  have e4:=k78.out.size
  have e5:=kA7.out.size
  simp only at e1
  omega)
 clear hB hVr hkw HO hTr OQ k8a k67 k78 hSZ6 kA7
 by_cases hL:(muP a.dy b.dy p false).2=0
 rotate_left
 ·have HE:=hid (show D=.whole from HF.out.symm.trans (four_err Hq.out (.inl hL)))
  have g1:((muP a.dy b.dy p false).2 != 0)=true:=by rw[bne,beq_eq_false_iff_ne.2 hL];rfl
  have g3:((muP a.dy b.dy p false).2==0)=false:=beq_eq_false_iff_ne.2 hL
  clear hL
  clear hL8 hH8 hB8 hF8 HO8
  go_wp2_with fail
  go_fit (Whole_any _)
  rintro e w9 ⟨rfl,k9⟩
  have k10:=(HW.out.trans hK8.out).trans k9
  obtain⟨⟨q0,q1,q2,q3,q4,q5,q6⟩,f0,f1,f2,f3,f4,f5,f6⟩:=hV8.out.kp k9
  go_wp2_with fail
  generalize hW9:((((((w9.setCell _ _).setCell _ _).setCell _ _).setCell _ _).setCell _ _).setCell _ _).setCell _ _=W9
  obtain⟨⟨s0,s1,s2,s3,s4,s5,s6⟩,hU⟩:=stored7 (show Box7 w9 _ _ _ _ _ _ _ _ from ⟨q0,q1,q2,q3,q4,q5,q6⟩) nofun nofun nofun nofun nofun nofun nofun _ _ _ _ _ _ _ hW9
  clear hW9 q0 q1 q2 q3 q4 q5 q6 f0 f1 f2 f3 f4 f5 f6
  refine bodyPost_ret (v:=.agg #[.bool false,.slice none 0 0,.int .i64 0,.bool false,.slice none 0 0,.int .i64 0,.bool true]) (by simp[results,Tryz.results226,go_sem,s0,s1,s2,s3,s4,s5,s6]) rfl ?_
  rw[HE.out]
  exact⟨wholeR,rfl,wholeR_rd _,rfl,rfl,hU.2.2.1 _ k10 (by omega)⟩
 have HL:=hid hL
 rw[hL]
 by_cases hH:(muP a.dy b.dy p true).2=0
 rotate_left
 ·have HE:=hid (show D=.whole from HF.out.symm.trans (four_err Hq.out (.inr hH)))
  have g1:((muP a.dy b.dy p true).2 != 0)=true:=by rw[bne,beq_eq_false_iff_ne.2 hH];rfl
  have g3:((muP a.dy b.dy p true).2==0)=false:=beq_eq_false_iff_ne.2 hH
  clear hL hH
  clear hL8 hH8 hB8 hF8 HO8
  go_wp2_with fail
  go_fit (Whole_any _)
  rintro e w9 ⟨rfl,k9⟩
  have k10:=(HW.out.trans hK8.out).trans k9
  obtain⟨⟨q0,q1,q2,q3,q4,q5,q6⟩,f0,f1,f2,f3,f4,f5,f6⟩:=hV8.out.kp k9
  go_wp2_with fail
  generalize hW9:((((((w9.setCell _ _).setCell _ _).setCell _ _).setCell _ _).setCell _ _).setCell _ _).setCell _ _=W9
  obtain⟨⟨s0,s1,s2,s3,s4,s5,s6⟩,hU⟩:=stored7 (show Box7 w9 _ _ _ _ _ _ _ _ from ⟨q0,q1,q2,q3,q4,q5,q6⟩) nofun nofun nofun nofun nofun nofun nofun _ _ _ _ _ _ _ hW9
  clear hW9 q0 q1 q2 q3 q4 q5 q6 f0 f1 f2 f3 f4 f5 f6
  refine bodyPost_ret (v:=.agg #[.bool false,.slice none 0 0,.int .i64 0,.bool false,.slice none 0 0,.int .i64 0,.bool true]) (by simp[results,Tryz.results226,go_sem,s0,s1,s2,s3,s4,s5,s6]) rfl ?_
  rw[HE.out]
  exact⟨wholeR,rfl,wholeR_rd _,rfl,rfl,hU.2.2.1 _ k10 (by omega)⟩
 have HH:=hid hH
 rw[hH]
 clear hL hH
 go_upto_region 10 with fail
 clear hgo1 hgo2
 go_cut [80] from 72 to 80 (fun s wx=>∃ B:Bool,s=.bool B∧(B=true↔(k=0∨z1.iv<lo.iv))∧Kp W8 wx)
 case first =>
  obtain⟨l0,l1,l2⟩:=id hL8
  obtain⟨q0,q1,q2,q3,q4,q5,q6⟩:=id hB8
  by_cases hk0:k=0
  ·have hz:((k:Int)==0)=true:=beq_iff_eq.2 (by omega)
   have Hk:=hid hk0
   clear hk0 hlt hkr
   go_wp2_with fail
   go_meet
   case rel=>exact⟨true,rfl,by simp[Hk.out],.refl _⟩
  have hz:((k:Int)==0)=false:=beq_eq_false_iff_ne.2 (by omega)
  have Hk:=hid hk0
  clear hk0 hlt hkr
  go_wp2_with fail
  go_fit (Cmp_raw z1 lo _ R1b.out.1 HO8.out.1.1 R1b.out.2 HO8.out.1.2)
  rintro e w9 ⟨rfl,k9⟩
  go_wp2_with fail
  go_meet
  case rel=>exact⟨_,rfl,by rw[decide_eq_true_iff,cmpZ_lt];have:=Hk.out;omega,k9⟩
 case rest =>
 obtain⟨B,rfl,hBc,kx⟩:=hcut
 have HBc:=hid hBc
 clear hBc
 obtain⟨X8,hX⟩:∃ x:World,x=wc:=⟨_,rfl⟩
 subst hX
 replace hL8:=keep3 kx hL8
 replace hH8:=keep3 kx hH8
 replace hF8:=hF8.kp hB8 kx
 replace hB8:=hB8.kp kx
 replace hK8:=hid (hK8.out.trans kx)
 replace R1b:=hid (R1b.out.kp kx)
 replace R2:=hid (R2.out.kp kx)
 replace HO8:=hid (And.intro (HO8.out.1.kp kx) (And.intro (HO8.out.2.1.kp kx) HO8.out.2.2))
 clear kx hV8
 go_upto_if 80 with fail
 go_cut [] from 81 to 82 (fun wx=>∃ l:RD,(Box7 wx (w.heap.size+1+1+1+1) (.bool l.neg) (.slice l.a l.xs.length l.c) (.int .i64 l.e) (.bool hi.neg) (.slice hi.a hi.xs.length hi.c) (.int .i64 hi.e) (.bool false)∧Frz wx (w.heap.size+1+1+1+1))∧(l.ok wx∧z2.ok wx∧hi.ok wx)∧(k=0∨z1.iv<lo.iv→l.dy=z1.dy)∧(¬ (k=0∨z1.iv<lo.iv)→l.dy=lo.dy)∧(wx.cell? ⟨w8.heap.size,0,none⟩=some (.bool z2.neg)∧wx.cell? ⟨w8.heap.size,1,none⟩=some (.slice z2.a z2.xs.length z2.c)∧wx.cell? ⟨w8.heap.size,2,none⟩=some (.int .i64 z2.e))∧Kp W1 wx)
 case first =>
  obtain⟨l0,l1,l2⟩:=id hL8
  obtain⟨f0,f1,f2,f3,f4,f5,f6⟩:=id hF8
  obtain⟨q0,q1,q2,q3,q4,q5,q6⟩:=id hB8
  cases B with
  | false =>
   go_wp2_with fail
   go_meet
   case rel=>exact⟨lo,⟨hB8,hF8⟩,⟨HO8.out.1,R2.out,HO8.out.2.1⟩,fun h=>absurd h (by simpa using HBc.out),fun _=>rfl,hH8,hK8.out⟩
  | true =>
  go_wp2_with fail
  go_meet
  case rel =>
  generalize hWz:(((X8.setCell _ _).setCell _ _).setCell _ _)=Wz
  obtain⟨b,U⟩:=stored70 hB8 nofun nofun nofun _ _ _ _ hWz
  exact⟨z1,⟨b,U.frz hF8⟩,⟨U.okD R1b.out,U.okD R2.out,U.okD HO8.out.2.1⟩,fun _=>rfl,fun h=>absurd (by simpa using HBc.out) h,upd3 U hG8.out hH8,U.2.2.1 _ hK8.out (by omega)⟩
 case rest =>
 have HLE:=hid HO8.out.2.2
 clear hL8 hH8 hF8 hB8 hK8 R1b R2 HO8 HBc
 obtain⟨l,⟨hB8,hF8⟩,HO8,hl1,hl2,hH8,hK8⟩:=hcut
 have HL1:=hid (And.intro hl1 hl2)
 replace hK8:=hid hK8
 replace HO8:=hid HO8
 clear hl1 hl2
 obtain⟨Y8,hY⟩:∃ x:World,x=wc:=⟨_,rfl⟩
 subst hY
 go_upto_region 12 with fail
 go_cut [91] from 83 to 91 (fun s wx=>∃ B:Bool,s=.bool B∧(B=true↔(k=0∨hi.iv<z2.iv))∧Kp Y8 wx)
 case first =>
  obtain⟨l0,l1,l2⟩:=id hH8
  obtain⟨q0,q1,q2,q3,q4,q5,q6⟩:=id hB8
  by_cases hk0:k=0
  ·have hz:((k:Int)==0)=true:=beq_iff_eq.2 (by omega)
   have Hk:=hid hk0
   clear hk0 hlt hkr
   go_wp2_with fail
   go_meet
   case rel=>exact⟨true,rfl,by simp[Hk.out],.refl _⟩
  have hz:((k:Int)==0)=false:=beq_eq_false_iff_ne.2 (by omega)
  have Hk:=hid hk0
  clear hk0 hlt hkr
  go_wp2_with fail
  go_fit (Cmp_raw z2 hi _ HO8.out.2.1.1 HO8.out.2.2.1 HO8.out.2.1.2 HO8.out.2.2.2)
  rintro e w9 ⟨rfl,k9⟩
  go_wp2_with fail
  go_meet
  case rel=>exact⟨_,rfl,by rw[decide_eq_true_iff,cmpZ_gt];have:=Hk.out;omega,k9⟩
 case rest =>
 obtain⟨B,rfl,hBc,kx⟩:=hcut
 have HBc:=hid hBc
 clear hBc
 obtain⟨Z8,hX⟩:∃ x:World,x=wc:=⟨_,rfl⟩
 subst hX
 replace hH8:=keep3 kx hH8
 replace hF8:=hF8.kp hB8 kx
 replace hB8:=hB8.kp kx
 replace hK8:=hid (hK8.out.trans kx)
 replace HO8:=hid (And.intro (HO8.out.1.kp kx) (And.intro (HO8.out.2.1.kp kx) (HO8.out.2.2.kp kx)))
 clear kx
 obtain⟨l0,l1,l2⟩:=id hH8
 obtain⟨f0,f1,f2,f3,f4,f5,f6⟩:=id hF8
 obtain⟨q0,q1,q2,q3,q4,q5,q6⟩:=id hB8
 cases B with
 | false =>
  have HU1: (k=0∨hi.iv<z2.iv→hi.dy=z2.dy)∧(¬ (k=0∨hi.iv<z2.iv)→hi.dy=hi.dy):=⟨fun h=>absurd h (by simpa using HBc.out),fun _=>rfl⟩
  have HST:=hid (four_round (l:=l) (u:=hi) (lo:=lo) (hi:=hi) Hq.out HL.out HH.out D1.out D2.out HL1.out HU1 HLE.out h0 h1)
  clear HU1
  clear HBc
  go_wp2_with fail
  go_roundg (gk-1)
  case measure=>omega
  case rel =>
  exact⟨k+1,l,hi,by omega,by go_num,hK8.out,⟨hB8,hF8⟩,⟨HO8.out.1,HO8.out.2.2,HST.out.2⟩,HST.out.1.symm.trans HF.out⟩
 | true =>
 have HU1: (k=0∨hi.iv<z2.iv→z2.dy=z2.dy)∧(¬ (k=0∨hi.iv<z2.iv)→z2.dy=hi.dy):=⟨fun _=>rfl,fun h=>absurd (by simpa using HBc.out) h⟩
 have HST:=hid (four_round (l:=l) (u:=z2) (lo:=lo) (hi:=hi) Hq.out HL.out HH.out D1.out D2.out HL1.out HU1 HLE.out h0 h1)
 clear HU1
 clear HBc
 go_wp2_with fail
 go_roundg (gk-1)
 case measure=>omega
 case rel =>
 generalize hWz:(((Z8.setCell _ _).setCell _ _).setCell _ _)=Wz
 obtain⟨b,U⟩:=stored73 hB8 nofun nofun nofun _ _ _ _ hWz
 exact⟨k+1,l,z2,by omega,by go_num,U.2.2.1 _ hK8.out (by omega),⟨b,U.frz hF8⟩,⟨U.okD HO8.out.1,U.okD HO8.out.2.1,HST.out.2⟩,HST.out.1.symm.trans HF.out⟩
end Go.Proofs.YtbhmhfnfceakoaaGreatDoor
