/-
  Walks: the functions in the law's member.
-/
import Derived.WalkMore
import Derived.Deep.DeepFit
import Derived.Deep.CutRange
import Derived.Deep.RegionLaw
import Derived.Deep.RegionHeld3
import Derived.Test.YtbhmhfnfceakoaaGreatDoorMInsF
import Derived.Test.YtbhmhfnfceakoaaGreatDoorMTail
namespace Go.Proofs.YtbhmhfnfceakoaaGreatDoor
open Go.RowKit
open Lib (hid)
structure OkB (w:World) (b:Nat) (ok:Bool):Prop where
 c:w.cell? ⟨b,0,none⟩=some (.bool ok)
 fr:w.frozen? ⟨b,0,none⟩=false
 nu:NoUX (·=b) w
theorem OkB.lt {w:World} {b:Nat} {ok:Bool} (h:OkB w b ok):b<w.heap.size:=World.block_lt_of_cell? _ _ h.c
theorem OkB.kp {w w':World} {b:Nat} {ok:Bool} (h:OkB w b ok) (k:Kp w w'):OkB w' b ok :=
 ⟨k.cell h.c,k.frozen h.c h.fr,h.nu.kp k (fun j hj=>by subst hj;exact h.lt)⟩
theorem OkB.chg {X:Nat→Prop} {w w':World} {b:Nat} {ok:Bool} (h:OkB w b ok) (k:Chg X w w') (hx:¬ X b):OkB w' b ok :=
 ⟨k.cell h.c hx,k.frozen h.c hx h.fr,fun j hj i v hc=>by
  subst hj
  exact h.nu j rfl i v (by rw[← cell_of_heap (k.block j h.lt hx) i];exact hc)⟩
theorem OkB.set {w:World} {b:Nat} {ok:Bool} (h:OkB w b ok) (z:Bool):OkB (w.setCell ⟨b,0,none⟩ (.bool z)) b z∧Chg (·=b) w (w.setCell ⟨b,0,none⟩ (.bool z)):=by
 have c1:Chg (·=b) w (w.setCell ⟨b,0,none⟩ (.bool z)):=(Chg.refl (·=b) w).set (b:=b) rfl (noU_bl z)
 exact⟨⟨cell_set_eq h.c,by rw[World.frozen?_setCell];exact h.fr,c1.noU h.nu (fun j hj=>by subst hj;exact h.lt)⟩,c1⟩
def MkO (b:Nat) (w:World) (d:Dy) (ok:Bool) (e:Ending) (w':World):Prop :=
 ∃ y:RD,e=.returned (.agg #[.bool y.neg,.slice y.a y.xs.length y.c,.int .i64 y.e])∧y.ok w'∧y.dy=d∧OkB w' b ok∧Chg (·=b) w w'
theorem MkO_end {b n:Nat} {w W v:World} {z:RD} {D:Dy} {ok:Bool} {y0 y1 y2:Value} (hk:Kp w W) (hb:b<w.heap.size) (hn:n=w.heap.size+2) (hB:Box3 v n y0 y1 y2) (n0:∀ n:Int,y0≠.int .u32 n) (n1:∀ n:Int,y1≠.int .u32 n) (n2:∀ n:Int,y2≠.int .u32 n)
  (hz:z.ok v) (hd:z.dy=D) (hr:OkB v b ok) (hc:Chg (·=b) W v) {W9:World} (e9:(((v.setCell ⟨n,0,none⟩ (.bool z.neg)).setCell ⟨n,1,none⟩ (.slice z.a z.xs.length z.c)).setCell ⟨n,2,none⟩ (.int .i64 z.e))=W9) :
  (z.ok W9∧z.dy=D∧OkB W9 b ok∧Chg (·=b) w W9)∧W9.cell? ⟨n,0,none⟩=some (.bool z.neg)∧W9.cell? ⟨n,1,none⟩=some (.slice z.a z.xs.length z.c)∧W9.cell? ⟨n,2,none⟩=some (.int .i64 z.e):=by
 subst hn
 have hbn:b≠w.heap.size+2:=by omega
 obtain⟨⟨r0,r1,r2,_⟩,hU⟩:=stored3 hB n0 n1 n2 _ _ _ e9
 refine⟨⟨⟨⟨hU.2.1 _ _ hz.1.1,hz.1.2⟩,hz.2⟩,hd,⟨?_,?_,fun j hj i u hu=>?_⟩,?_⟩,r0,r1,r2⟩
 ·rw[hU.2.2.2.1 _ hbn];exact hr.c
 ·rw[hU.1];exact hr.fr
 ·subst hj
  rw[hU.2.2.2.1 _ hbn] at hu
  exact hr.nu j rfl i u hu
 have e9':Chg (fun k=>k=b∨k=w.heap.size+2) v W9:=by
  rw[← e9]
  exact (((Chg.refl _ v).set (.inr rfl) (noU_bl _)).set (.inr rfl) (noU_sl _ _ _)).set (.inr rfl) (noU_it _)
 have a:=((hk.chg (X:=fun k=>k=b∨k=w.heap.size+2)).trans (hc.mono (fun k hk=>.inl hk))).trans e9'
 refine⟨a.os,a.tape,a.output,a.size,fun k hk hx=>a.block k hk (fun h=>h.elim hx (fun h=>by omega)),fun h1 h2=>?_⟩
 intro j hj i u hu
 subst hj
 rw[hU.2.2.2.1 _ hbn] at hu
 exact hr.nu j rfl i u hu
set_option maxRecDepth 100000 in
set_option maxHeartbeats 8000000 in
theorem mmul1_any (b:Nat) (ok:Bool) (x y:RD) (w:World) (hx:x.ok w) (hy:y.ok w) (hO:OkB w b ok) (hT:Tab w) :
  Calls Tryz.prog 62 #[.agg #[.bool x.neg,.slice x.a x.xs.length x.c,.int .i64 x.e],.agg #[.bool y.neg,.slice y.a y.xs.length y.c,.int .i64 y.e],.pointer (some ⟨b,0,none⟩)] w (MkO b w (muK x.dy y.dy ok).1 (muK x.dy y.dy ok).2):=by
 have kk:=(((Kp.refl w).alloc (.cells #[.bool x.neg,.slice x.a x.xs.length x.c,.int .i64 x.e] 38)).alloc (.cells #[.bool y.neg,.slice y.a y.xs.length y.c,.int .i64 y.e] 38)).alloc (.cells #[.bool false,.slice none 0 0,.int .i64 0] 38)
 have hS1:(((w.alloc (.cells #[.bool x.neg,.slice x.a x.xs.length x.c,.int .i64 x.e] 38)).alloc (.cells #[.bool y.neg,.slice y.a y.xs.length y.c,.int .i64 y.e] 38)).alloc (.cells #[.bool false,.slice none 0 0,.int .i64 0] 38)).cell? ⟨w.heap.size,0,none⟩=some (.bool x.neg)∧(((w.alloc (.cells #[.bool x.neg,.slice x.a x.xs.length x.c,.int .i64 x.e] 38)).alloc (.cells #[.bool y.neg,.slice y.a y.xs.length y.c,.int .i64 y.e] 38)).alloc (.cells #[.bool false,.slice none 0 0,.int .i64 0] 38)).cell? ⟨w.heap.size,1,none⟩=some (.slice x.a x.xs.length x.c)∧(((w.alloc (.cells #[.bool x.neg,.slice x.a x.xs.length x.c,.int .i64 x.e] 38)).alloc (.cells #[.bool y.neg,.slice y.a y.xs.length y.c,.int .i64 y.e] 38)).alloc (.cells #[.bool false,.slice none 0 0,.int .i64 0] 38)).cell? ⟨w.heap.size,2,none⟩=some (.int .i64 x.e):=keep3 ((Kp.refl _).alloc _) (keep3 ((Kp.refl _).alloc _) (show (w.alloc (.cells #[.bool x.neg,.slice x.a x.xs.length x.c,.int .i64 x.e] 38)).cell? ⟨w.heap.size,0,none⟩=some (.bool x.neg)∧(w.alloc (.cells #[.bool x.neg,.slice x.a x.xs.length x.c,.int .i64 x.e] 38)).cell? ⟨w.heap.size,1,none⟩=some (.slice x.a x.xs.length x.c)∧(w.alloc (.cells #[.bool x.neg,.slice x.a x.xs.length x.c,.int .i64 x.e] 38)).cell? ⟨w.heap.size,2,none⟩=some (.int .i64 x.e) by simp))
 have hS2:(((w.alloc (.cells #[.bool x.neg,.slice x.a x.xs.length x.c,.int .i64 x.e] 38)).alloc (.cells #[.bool y.neg,.slice y.a y.xs.length y.c,.int .i64 y.e] 38)).alloc (.cells #[.bool false,.slice none 0 0,.int .i64 0] 38)).cell? ⟨w.heap.size+1,0,none⟩=some (.bool y.neg)∧(((w.alloc (.cells #[.bool x.neg,.slice x.a x.xs.length x.c,.int .i64 x.e] 38)).alloc (.cells #[.bool y.neg,.slice y.a y.xs.length y.c,.int .i64 y.e] 38)).alloc (.cells #[.bool false,.slice none 0 0,.int .i64 0] 38)).cell? ⟨w.heap.size+1,1,none⟩=some (.slice y.a y.xs.length y.c)∧(((w.alloc (.cells #[.bool x.neg,.slice x.a x.xs.length x.c,.int .i64 x.e] 38)).alloc (.cells #[.bool y.neg,.slice y.a y.xs.length y.c,.int .i64 y.e] 38)).alloc (.cells #[.bool false,.slice none 0 0,.int .i64 0] 38)).cell? ⟨w.heap.size+1,2,none⟩=some (.int .i64 y.e):=keep3 ((Kp.refl _).alloc _) (show ((w.alloc (.cells #[.bool x.neg,.slice x.a x.xs.length x.c,.int .i64 x.e] 38)).alloc (.cells #[.bool y.neg,.slice y.a y.xs.length y.c,.int .i64 y.e] 38)).cell? ⟨w.heap.size+1,0,none⟩=some (.bool y.neg)∧((w.alloc (.cells #[.bool x.neg,.slice x.a x.xs.length x.c,.int .i64 x.e] 38)).alloc (.cells #[.bool y.neg,.slice y.a y.xs.length y.c,.int .i64 y.e] 38)).cell? ⟨w.heap.size+1,1,none⟩=some (.slice y.a y.xs.length y.c)∧((w.alloc (.cells #[.bool x.neg,.slice x.a x.xs.length x.c,.int .i64 x.e] 38)).alloc (.cells #[.bool y.neg,.slice y.a y.xs.length y.c,.int .i64 y.e] 38)).cell? ⟨w.heap.size+1,2,none⟩=some (.int .i64 y.e) by simp)
 have hB:Box3 (((w.alloc (.cells #[.bool x.neg,.slice x.a x.xs.length x.c,.int .i64 x.e] 38)).alloc (.cells #[.bool y.neg,.slice y.a y.xs.length y.c,.int .i64 y.e] 38)).alloc (.cells #[.bool false,.slice none 0 0,.int .i64 0] 38)) (w.heap.size+1+1) (.bool false) (.slice none 0 0) (.int .i64 0):=by
  have:=Box3.new ((w.alloc (.cells #[.bool x.neg,.slice x.a x.xs.length x.c,.int .i64 x.e] 38)).alloc (.cells #[.bool y.neg,.slice y.a y.xs.length y.c,.int .i64 y.e] 38)) (.bool false) (.slice none 0 0) (.int .i64 0) 38
  simpa using this
 obtain⟨D,hD⟩:∃ D,D=chk (prodD x.dy y.dy):=⟨_,rfl⟩
 have HM:=hid (fun (W':World) (k:Kp w W')=>Mul_rd x y W' (hx.kp k) (hy.kp k) (hT.kp k))
 have HO:=hid (show D.1.ok by rw[hD];exact prodD_chk_ok x.dy y.dy)
 have HR:=hid hO
 have HL:=hid hO.lt
 unfold muK
 rw[← hD] at HM ⊢
 clear hx hy hO hT hD
 go_enter Tryz.func62,Tryz.ntmps62
 go_upto_region 1 with fail
 generalize hW:((w.alloc _).alloc _).alloc _=W at *
 have HK:=hid kk
 have HB:=hid hB
 obtain⟨s0,s1,s2⟩:=id hS1
 obtain⟨t0,t1,t2⟩:=id hS2
 clear hS1 hS2 hB kk hW
 go_wp2_with fail
 refine (HM.out _ HK.out).mono ?_
 rintro e v1 ⟨z,rfl,rz,dz,vz,j1⟩
 have HZ:=hid (And.intro (show z.ok v1 from ⟨rz,vz HO.out⟩) (show z.dy=D.1 from dz))
 have HK1:=hid j1
 clear rz dz vz j1 s0 s1 s2 t0 t1 t2
 go_upto_region 2 with fail
 have kA:=(Kp.refl v1).alloc (.cells #[.bool z.neg,.slice z.a z.xs.length z.c,.int .i64 z.e] 38)
 have hZb:(v1.alloc (.cells #[.bool z.neg,.slice z.a z.xs.length z.c,.int .i64 z.e] 38)).cell? ⟨v1.heap.size,0,none⟩=some (.bool z.neg)∧(v1.alloc (.cells #[.bool z.neg,.slice z.a z.xs.length z.c,.int .i64 z.e] 38)).cell? ⟨v1.heap.size,1,none⟩=some (.slice z.a z.xs.length z.c)∧(v1.alloc (.cells #[.bool z.neg,.slice z.a z.xs.length z.c,.int .i64 z.e] 38)).cell? ⟨v1.heap.size,2,none⟩=some (.int .i64 z.e):=by simp
 have hnb:b≠v1.heap.size:=by have:=HL.out;have:=HK.out.size;have:=HK1.out.size;omega
 have hnb2:b≠w.heap.size+1+1:=by have:=HL.out;omega
 have n62:v1.heap.size≠w.heap.size+1+1:=by
  intro e
  have h2:w.heap.size+1+1<W.heap.size:=World.block_lt_of_cell? _ _ HB.out.1
  have:=HK1.out.size
  omega
 have HBA:=hid ((HB.out.kp HK1.out).kp kA)
 have HKA:=hid ((HK.out.trans HK1.out).trans kA)
 have HKW:=hid (HK1.out.trans kA)
 have HZA:=hid (And.intro (HZ.out.1.kp kA) HZ.out.2)
 generalize hn6:v1.heap.size=n6 at *
 generalize v1.alloc _=W1 at *
 have HOA:=hid (HR.out.kp HKA.out)
 obtain⟨s0,s1,s2⟩:=id hZb
 obtain⟨g0,gf,gn⟩:=id HOA.out
 clear kA hZb
 have fin:∀ (z0:Bool) (W8 W9:World),W8=W1.setCell ⟨b,0,none⟩ (.bool z0)→(((W8.setCell ⟨w.heap.size+1+1,0,none⟩ (.bool z.neg)).setCell ⟨w.heap.size+1+1,1,none⟩ (.slice z.a z.xs.length z.c)).setCell ⟨w.heap.size+1+1,2,none⟩ (.int .i64 z.e))=W9 →
   (z.ok W9∧z.dy=D.1∧OkB W9 b z0∧Chg (·=b) w W9)∧W9.cell? ⟨w.heap.size+1+1,0,none⟩=some (.bool z.neg)∧W9.cell? ⟨w.heap.size+1+1,1,none⟩=some (.slice z.a z.xs.length z.c)∧W9.cell? ⟨w.heap.size+1+1,2,none⟩=some (.int .i64 z.e):=by
  intro z0 W8 W9 e8 e9
  obtain⟨o1,o2⟩:=HOA.out.set z0
  rw[← e8] at o1 o2
  exact MkO_end HK.out HL.out rfl (HBA.out.chg o2 (fun e=>hnb2 e.symm)) nofun nofun nofun (o2.ok HOA.out.nu HZA.out.1) HZA.out.2 o1 ((HKW.out.chg).trans o2) e9
 have FIN:=hid fin
 clear fin
 obtain⟨q0,q1,q2,f0,f1,f2⟩:=id HBA.out
 cases ok with
 | false =>
  go_wp2_with fail
  generalize hW9:(((World.setCell (World.setCell W1 _ _) _ _).setCell _ _).setCell _ _)=W9
  obtain⟨⟨h1,h2,h3,h4⟩,r0,r1,r2⟩:=FIN.out false _ W9 rfl hW9
  clear hW9 s0 s1 s2 q0 q1 q2 f0 f1 f2 g0 gf gn
  refine bodyPost_ret (v:=.agg #[.bool z.neg,.slice z.a z.xs.length z.c,.int .i64 z.e]) (by simp[results,Tryz.results62,go_sem,r0,r1,r2]) rfl ?_
  exact⟨z,rfl,h1,h2,h3,h4⟩
 | true =>
 by_cases hf:D.2=0
 ·have hfb:(D.2==0)=true:=by rw[hf];rfl
  go_wp2_with fail
  generalize hW9:(((World.setCell (World.setCell W1 _ _) _ _).setCell _ _).setCell _ _)=W9
  obtain⟨⟨h1,h2,h3,h4⟩,r0,r1,r2⟩:=FIN.out true _ W9 rfl hW9
  clear hW9 s0 s1 s2 q0 q1 q2 f0 f1 f2 g0 gf gn
  refine bodyPost_ret (v:=.agg #[.bool z.neg,.slice z.a z.xs.length z.c,.int .i64 z.e]) (by simp[results,Tryz.results62,go_sem,r0,r1,r2]) rfl ?_
  exact⟨z,rfl,h1,h2,by rw[hfb];exact h3,h4⟩
 have hfb:(D.2==0)=false:=beq_eq_false_iff_ne.2 hf
 go_wp2_with fail
 generalize hW9:(((World.setCell (World.setCell W1 _ _) _ _).setCell _ _).setCell _ _)=W9
 obtain⟨⟨h1,h2,h3,h4⟩,r0,r1,r2⟩:=FIN.out false _ W9 rfl hW9
 clear hW9 s0 s1 s2 q0 q1 q2 f0 f1 f2 g0 gf gn
 refine bodyPost_ret (v:=.agg #[.bool z.neg,.slice z.a z.xs.length z.c,.int .i64 z.e]) (by simp[results,Tryz.results62,go_sem,r0,r1,r2]) rfl ?_
 exact⟨z,rfl,h1,h2,by rw[hfb];exact h3,h4⟩
set_option maxRecDepth 100000 in
set_option maxHeartbeats 8000000 in
theorem msub1_any (b:Nat) (ok:Bool) (x y:RD) (w:World) (hx:x.ok w) (hy:y.ok w) (hO:OkB w b ok) (hT:Tab w) :
  Calls Tryz.prog 63 #[.agg #[.bool x.neg,.slice x.a x.xs.length x.c,.int .i64 x.e],.agg #[.bool y.neg,.slice y.a y.xs.length y.c,.int .i64 y.e],.pointer (some ⟨b,0,none⟩)] w (MkO b w (sbK x.dy y.dy ok).1 (sbK x.dy y.dy ok).2):=by
 have kk:=(((Kp.refl w).alloc (.cells #[.bool x.neg,.slice x.a x.xs.length x.c,.int .i64 x.e] 38)).alloc (.cells #[.bool y.neg,.slice y.a y.xs.length y.c,.int .i64 y.e] 38)).alloc (.cells #[.bool false,.slice none 0 0,.int .i64 0] 38)
 have hS1:(((w.alloc (.cells #[.bool x.neg,.slice x.a x.xs.length x.c,.int .i64 x.e] 38)).alloc (.cells #[.bool y.neg,.slice y.a y.xs.length y.c,.int .i64 y.e] 38)).alloc (.cells #[.bool false,.slice none 0 0,.int .i64 0] 38)).cell? ⟨w.heap.size,0,none⟩=some (.bool x.neg)∧(((w.alloc (.cells #[.bool x.neg,.slice x.a x.xs.length x.c,.int .i64 x.e] 38)).alloc (.cells #[.bool y.neg,.slice y.a y.xs.length y.c,.int .i64 y.e] 38)).alloc (.cells #[.bool false,.slice none 0 0,.int .i64 0] 38)).cell? ⟨w.heap.size,1,none⟩=some (.slice x.a x.xs.length x.c)∧(((w.alloc (.cells #[.bool x.neg,.slice x.a x.xs.length x.c,.int .i64 x.e] 38)).alloc (.cells #[.bool y.neg,.slice y.a y.xs.length y.c,.int .i64 y.e] 38)).alloc (.cells #[.bool false,.slice none 0 0,.int .i64 0] 38)).cell? ⟨w.heap.size,2,none⟩=some (.int .i64 x.e):=keep3 ((Kp.refl _).alloc _) (keep3 ((Kp.refl _).alloc _) (show (w.alloc (.cells #[.bool x.neg,.slice x.a x.xs.length x.c,.int .i64 x.e] 38)).cell? ⟨w.heap.size,0,none⟩=some (.bool x.neg)∧(w.alloc (.cells #[.bool x.neg,.slice x.a x.xs.length x.c,.int .i64 x.e] 38)).cell? ⟨w.heap.size,1,none⟩=some (.slice x.a x.xs.length x.c)∧(w.alloc (.cells #[.bool x.neg,.slice x.a x.xs.length x.c,.int .i64 x.e] 38)).cell? ⟨w.heap.size,2,none⟩=some (.int .i64 x.e) by simp))
 have hS2:(((w.alloc (.cells #[.bool x.neg,.slice x.a x.xs.length x.c,.int .i64 x.e] 38)).alloc (.cells #[.bool y.neg,.slice y.a y.xs.length y.c,.int .i64 y.e] 38)).alloc (.cells #[.bool false,.slice none 0 0,.int .i64 0] 38)).cell? ⟨w.heap.size+1,0,none⟩=some (.bool y.neg)∧(((w.alloc (.cells #[.bool x.neg,.slice x.a x.xs.length x.c,.int .i64 x.e] 38)).alloc (.cells #[.bool y.neg,.slice y.a y.xs.length y.c,.int .i64 y.e] 38)).alloc (.cells #[.bool false,.slice none 0 0,.int .i64 0] 38)).cell? ⟨w.heap.size+1,1,none⟩=some (.slice y.a y.xs.length y.c)∧(((w.alloc (.cells #[.bool x.neg,.slice x.a x.xs.length x.c,.int .i64 x.e] 38)).alloc (.cells #[.bool y.neg,.slice y.a y.xs.length y.c,.int .i64 y.e] 38)).alloc (.cells #[.bool false,.slice none 0 0,.int .i64 0] 38)).cell? ⟨w.heap.size+1,2,none⟩=some (.int .i64 y.e):=keep3 ((Kp.refl _).alloc _) (show ((w.alloc (.cells #[.bool x.neg,.slice x.a x.xs.length x.c,.int .i64 x.e] 38)).alloc (.cells #[.bool y.neg,.slice y.a y.xs.length y.c,.int .i64 y.e] 38)).cell? ⟨w.heap.size+1,0,none⟩=some (.bool y.neg)∧((w.alloc (.cells #[.bool x.neg,.slice x.a x.xs.length x.c,.int .i64 x.e] 38)).alloc (.cells #[.bool y.neg,.slice y.a y.xs.length y.c,.int .i64 y.e] 38)).cell? ⟨w.heap.size+1,1,none⟩=some (.slice y.a y.xs.length y.c)∧((w.alloc (.cells #[.bool x.neg,.slice x.a x.xs.length x.c,.int .i64 x.e] 38)).alloc (.cells #[.bool y.neg,.slice y.a y.xs.length y.c,.int .i64 y.e] 38)).cell? ⟨w.heap.size+1,2,none⟩=some (.int .i64 y.e) by simp)
 have hB:Box3 (((w.alloc (.cells #[.bool x.neg,.slice x.a x.xs.length x.c,.int .i64 x.e] 38)).alloc (.cells #[.bool y.neg,.slice y.a y.xs.length y.c,.int .i64 y.e] 38)).alloc (.cells #[.bool false,.slice none 0 0,.int .i64 0] 38)) (w.heap.size+1+1) (.bool false) (.slice none 0 0) (.int .i64 0):=by
  have:=Box3.new ((w.alloc (.cells #[.bool x.neg,.slice x.a x.xs.length x.c,.int .i64 x.e] 38)).alloc (.cells #[.bool y.neg,.slice y.a y.xs.length y.c,.int .i64 y.e] 38)) (.bool false) (.slice none 0 0) (.int .i64 0) 38
  simpa using this
 obtain⟨D,hD⟩:∃ D,D=chk (sumD x.dy y.dy.opp):=⟨_,rfl⟩
 have HM:=hid (fun (W':World) (k:Kp w W')=>Sub_rd x y W' (hx.kp k) (hy.kp k) (hT.kp k))
 have HO:=hid (show D.1.ok by rw[hD];exact sumD_chk_ok x.dy y.dy.opp)
 have HR:=hid hO
 have HL:=hid hO.lt
 unfold sbK
 rw[← hD] at HM ⊢
 clear hx hy hO hT hD
 go_enter Tryz.func63,Tryz.ntmps63
 go_upto_region 1 with fail
 generalize hW:((w.alloc _).alloc _).alloc _=W at *
 have HK:=hid kk
 have HB:=hid hB
 obtain⟨s0,s1,s2⟩:=id hS1
 obtain⟨t0,t1,t2⟩:=id hS2
 clear hS1 hS2 hB kk hW
 go_wp2_with fail
 refine (HM.out _ HK.out).mono ?_
 rintro e v1 ⟨z,rfl,rz,dz,vz,j1⟩
 have HZ:=hid (And.intro (show z.ok v1 from ⟨rz,vz HO.out⟩) (show z.dy=D.1 from dz))
 have HK1:=hid j1
 clear rz dz vz j1 s0 s1 s2 t0 t1 t2
 go_upto_region 2 with fail
 have kA:=(Kp.refl v1).alloc (.cells #[.bool z.neg,.slice z.a z.xs.length z.c,.int .i64 z.e] 38)
 have hZb:(v1.alloc (.cells #[.bool z.neg,.slice z.a z.xs.length z.c,.int .i64 z.e] 38)).cell? ⟨v1.heap.size,0,none⟩=some (.bool z.neg)∧(v1.alloc (.cells #[.bool z.neg,.slice z.a z.xs.length z.c,.int .i64 z.e] 38)).cell? ⟨v1.heap.size,1,none⟩=some (.slice z.a z.xs.length z.c)∧(v1.alloc (.cells #[.bool z.neg,.slice z.a z.xs.length z.c,.int .i64 z.e] 38)).cell? ⟨v1.heap.size,2,none⟩=some (.int .i64 z.e):=by simp
 have hnb:b≠v1.heap.size:=by have:=HL.out;have:=HK.out.size;have:=HK1.out.size;omega
 have hnb2:b≠w.heap.size+1+1:=by have:=HL.out;omega
 have n62:v1.heap.size≠w.heap.size+1+1:=by
  intro e
  have h2:w.heap.size+1+1<W.heap.size:=World.block_lt_of_cell? _ _ HB.out.1
  have:=HK1.out.size
  omega
 have HBA:=hid ((HB.out.kp HK1.out).kp kA)
 have HKA:=hid ((HK.out.trans HK1.out).trans kA)
 have HKW:=hid (HK1.out.trans kA)
 have HZA:=hid (And.intro (HZ.out.1.kp kA) HZ.out.2)
 generalize hn6:v1.heap.size=n6 at *
 generalize v1.alloc _=W1 at *
 have HOA:=hid (HR.out.kp HKA.out)
 obtain⟨s0,s1,s2⟩:=id hZb
 obtain⟨g0,gf,gn⟩:=id HOA.out
 clear kA hZb
 have fin:∀ (z0:Bool) (W8 W9:World),W8=W1.setCell ⟨b,0,none⟩ (.bool z0)→(((W8.setCell ⟨w.heap.size+1+1,0,none⟩ (.bool z.neg)).setCell ⟨w.heap.size+1+1,1,none⟩ (.slice z.a z.xs.length z.c)).setCell ⟨w.heap.size+1+1,2,none⟩ (.int .i64 z.e))=W9 →
   (z.ok W9∧z.dy=D.1∧OkB W9 b z0∧Chg (·=b) w W9)∧W9.cell? ⟨w.heap.size+1+1,0,none⟩=some (.bool z.neg)∧W9.cell? ⟨w.heap.size+1+1,1,none⟩=some (.slice z.a z.xs.length z.c)∧W9.cell? ⟨w.heap.size+1+1,2,none⟩=some (.int .i64 z.e):=by
  intro z0 W8 W9 e8 e9
  obtain⟨o1,o2⟩:=HOA.out.set z0
  rw[← e8] at o1 o2
  exact MkO_end HK.out HL.out rfl (HBA.out.chg o2 (fun e=>hnb2 e.symm)) nofun nofun nofun (o2.ok HOA.out.nu HZA.out.1) HZA.out.2 o1 ((HKW.out.chg).trans o2) e9
 have FIN:=hid fin
 clear fin
 obtain⟨q0,q1,q2,f0,f1,f2⟩:=id HBA.out
 cases ok with
 | false =>
  go_wp2_with fail
  generalize hW9:(((World.setCell (World.setCell W1 _ _) _ _).setCell _ _).setCell _ _)=W9
  obtain⟨⟨h1,h2,h3,h4⟩,r0,r1,r2⟩:=FIN.out false _ W9 rfl hW9
  clear hW9 s0 s1 s2 q0 q1 q2 f0 f1 f2 g0 gf gn
  refine bodyPost_ret (v:=.agg #[.bool z.neg,.slice z.a z.xs.length z.c,.int .i64 z.e]) (by simp[results,Tryz.results63,go_sem,r0,r1,r2]) rfl ?_
  exact⟨z,rfl,h1,h2,h3,h4⟩
 | true =>
 by_cases hf:D.2=0
 ·have hfb:(D.2==0)=true:=by rw[hf];rfl
  go_wp2_with fail
  generalize hW9:(((World.setCell (World.setCell W1 _ _) _ _).setCell _ _).setCell _ _)=W9
  obtain⟨⟨h1,h2,h3,h4⟩,r0,r1,r2⟩:=FIN.out true _ W9 rfl hW9
  clear hW9 s0 s1 s2 q0 q1 q2 f0 f1 f2 g0 gf gn
  refine bodyPost_ret (v:=.agg #[.bool z.neg,.slice z.a z.xs.length z.c,.int .i64 z.e]) (by simp[results,Tryz.results63,go_sem,r0,r1,r2]) rfl ?_
  exact⟨z,rfl,h1,h2,by rw[hfb];exact h3,h4⟩
 have hfb:(D.2==0)=false:=beq_eq_false_iff_ne.2 hf
 go_wp2_with fail
 generalize hW9:(((World.setCell (World.setCell W1 _ _) _ _).setCell _ _).setCell _ _)=W9
 obtain⟨⟨h1,h2,h3,h4⟩,r0,r1,r2⟩:=FIN.out false _ W9 rfl hW9
 clear hW9 s0 s1 s2 q0 q1 q2 f0 f1 f2 g0 gf gn
 refine bodyPost_ret (v:=.agg #[.bool z.neg,.slice z.a z.xs.length z.c,.int .i64 z.e]) (by simp[results,Tryz.results63,go_sem,r0,r1,r2]) rfl ?_
 exact⟨z,rfl,h1,h2,by rw[hfb];exact h3,h4⟩
def BtO (b:Nat) (w:World) (r ok:Bool) (e:Ending) (w':World):Prop:=e=.returned (.bool r)∧OkB w' b ok∧Chg (·=b) w w'
theorem keepCB {X:Nat→Prop} {W W' w:World} {m b:Nat} {n d:RD} {x:RI} (k:Chg X W W') (h0:∀ j,w.heap.size≤j→¬ X j) (h1:¬ X m) (hs:((W.cell? ⟨w.heap.size,0,none⟩=some (.bool n.neg)∧W.cell? ⟨w.heap.size,1,none⟩=some (.slice n.a n.xs.length n.c)∧W.cell? ⟨w.heap.size,2,none⟩=some (.int .i64 n.e))∧(W.cell? ⟨w.heap.size+1,0,none⟩=some (.bool d.neg)∧W.cell? ⟨w.heap.size+1,1,none⟩=some (.slice d.a d.xs.length d.c)∧W.cell? ⟨w.heap.size+1,2,none⟩=some (.int .i64 d.e)))∧(W.cell? ⟨w.heap.size+1+1,0,none⟩=some (.bool x.lo.neg)∧W.cell? ⟨w.heap.size+1+1,1,none⟩=some (.slice x.lo.a x.lo.xs.length x.lo.c)∧W.cell? ⟨w.heap.size+1+1,2,none⟩=some (.int .i64 x.lo.e)∧W.cell? ⟨w.heap.size+1+1,3,none⟩=some (.bool x.hi.neg)∧W.cell? ⟨w.heap.size+1+1,4,none⟩=some (.slice x.hi.a x.hi.xs.length x.hi.c)∧W.cell? ⟨w.heap.size+1+1,5,none⟩=some (.int .i64 x.hi.e)∧W.cell? ⟨w.heap.size+1+1,6,none⟩=some (.bool x.all))∧W.cell? ⟨m,0,none⟩=some (.func (.func 62) #[] #[.pointer (some ⟨b,0,none⟩)])):((W'.cell? ⟨w.heap.size,0,none⟩=some (.bool n.neg)∧W'.cell? ⟨w.heap.size,1,none⟩=some (.slice n.a n.xs.length n.c)∧W'.cell? ⟨w.heap.size,2,none⟩=some (.int .i64 n.e))∧(W'.cell? ⟨w.heap.size+1,0,none⟩=some (.bool d.neg)∧W'.cell? ⟨w.heap.size+1,1,none⟩=some (.slice d.a d.xs.length d.c)∧W'.cell? ⟨w.heap.size+1,2,none⟩=some (.int .i64 d.e)))∧(W'.cell? ⟨w.heap.size+1+1,0,none⟩=some (.bool x.lo.neg)∧W'.cell? ⟨w.heap.size+1+1,1,none⟩=some (.slice x.lo.a x.lo.xs.length x.lo.c)∧W'.cell? ⟨w.heap.size+1+1,2,none⟩=some (.int .i64 x.lo.e)∧W'.cell? ⟨w.heap.size+1+1,3,none⟩=some (.bool x.hi.neg)∧W'.cell? ⟨w.heap.size+1+1,4,none⟩=some (.slice x.hi.a x.hi.xs.length x.hi.c)∧W'.cell? ⟨w.heap.size+1+1,5,none⟩=some (.int .i64 x.hi.e)∧W'.cell? ⟨w.heap.size+1+1,6,none⟩=some (.bool x.all))∧W'.cell? ⟨m,0,none⟩=some (.func (.func 62) #[] #[.pointer (some ⟨b,0,none⟩)]):=by
 obtain⟨⟨⟨a0,a1,a2⟩,b0,b1,b2⟩,⟨c0,c1,c2,c3,c4,c5,c6⟩,d0⟩:=hs
 have n0:¬ X w.heap.size:=h0 _ (Nat.le_refl _)
 have n1:¬ X (w.heap.size+1):=h0 _ (by omega)
 have n2:¬ X (w.heap.size+1+1):=h0 _ (by omega)
 exact⟨⟨⟨k.cell a0 n0,k.cell a1 n0,k.cell a2 n0⟩,k.cell b0 n1,k.cell b1 n1,k.cell b2 n1⟩,⟨k.cell c0 n2,k.cell c1 n2,k.cell c2 n2,k.cell c3 n2,k.cell c4 n2,k.cell c5 n2,k.cell c6 n2⟩,k.cell d0 h1⟩
theorem Tab.chg {w w':World} {b:Nat} {ok:Bool} (h:Tab w) (o:OkB w b ok) (k:Chg (·=b) w w'):Tab w':=fun j hj=>k.cell (h j hj) (fun e=>by
 have h0:=h 0 (by omega)
 have h1:=o.c
 rw[← e] at h1
 exact absurd (h0.symm.trans h1) (by simp))
theorem sgnN_pos {n d:Dy} (h:¬ d.iv<0):sgnN n d=n:=if_neg h
theorem sgnN_neg {n d:Dy} (h:d.iv<0):sgnN n d=n.opp:=if_pos h
theorem sgn_neg' (d:Dy):decide (sgn d<0)=decide (d.iv<0):=by
 obtain⟨h0,h1,h2⟩:=sgn_iv d
 rcases sgn_range d with h | h | h
 ·rw[decide_eq_true (by omega),decide_eq_true (h1.1 h)]
 ·rw[decide_eq_false (by omega),decide_eq_false (by have:=h0.1 h;omega)]
 rw[decide_eq_false (by omega),decide_eq_false (by have:=h2.1 h;omega)]
theorem zr_vl {x:RD} (h:x.zr=true):x.vl=true:=by
 obtain⟨h1,h2,h3⟩:=RD.zr_parts.1 h
 simp[RD.vl,h1,h2,h3]
 rfl
theorem RI.lo_ok {w:World} {x:RI} (h:x.rd w) (v:x.vl=true):x.lo.ok w∧x.hi.ok w:=by
 unfold RI.vl at v
 split at v
 ·rw[Bool.and_eq_true] at v
  exact⟨⟨h.1,zr_vl v.1⟩,⟨h.2,zr_vl v.2⟩⟩
 rw[Bool.and_eq_true,Bool.and_eq_true] at v
 exact⟨⟨h.1,v.1⟩,⟨h.2,v.2.1⟩⟩
set_option maxRecDepth 100000 in
set_option maxHeartbeats 8000000 in
theorem bet_any (m b:Nat) (ok:Bool) (n d:RD) (x:RI) (w:World) (hn:n.ok w) (hd:d.ok w) (hx:x.rd w) (vx:x.vl=true) (hO:OkB w b ok)
   (hm:w.cell? ⟨m,0,none⟩=some (.func (.func 62) #[] #[.pointer (some ⟨b,0,none⟩)])) (hmb:m≠b) (hT:Tab w) :
   Calls Tryz.prog 65 #[.agg #[.bool n.neg,.slice n.a n.xs.length n.c,.int .i64 n.e],.agg #[.bool d.neg,.slice d.a d.xs.length d.c,.int .i64 d.e],.agg #[.bool x.lo.neg,.slice x.lo.a x.lo.xs.length x.lo.c,.int .i64 x.lo.e,.bool x.hi.neg,.slice x.hi.a x.hi.xs.length x.hi.c,.int .i64 x.hi.e,.bool x.all],.pointer (some ⟨m,0,none⟩)] w (BtO b w (btC n.dy d.dy x.lo.dy x.hi.dy ok).1 (btC n.dy d.dy x.lo.dy x.hi.dy ok).2):=by
 have kk:=(((Kp.refl w).alloc (.cells #[.bool n.neg,.slice n.a n.xs.length n.c,.int .i64 n.e] 38)).alloc (.cells #[.bool d.neg,.slice d.a d.xs.length d.c,.int .i64 d.e] 38)).alloc (.cells #[.bool x.lo.neg,.slice x.lo.a x.lo.xs.length x.lo.c,.int .i64 x.lo.e,.bool x.hi.neg,.slice x.hi.a x.hi.xs.length x.hi.c,.int .i64 x.hi.e,.bool x.all] 44)
 have hS:((((((w.alloc (.cells #[.bool n.neg,.slice n.a n.xs.length n.c,.int .i64 n.e] 38)).alloc (.cells #[.bool d.neg,.slice d.a d.xs.length d.c,.int .i64 d.e] 38)).alloc (.cells #[.bool x.lo.neg,.slice x.lo.a x.lo.xs.length x.lo.c,.int .i64 x.lo.e,.bool x.hi.neg,.slice x.hi.a x.hi.xs.length x.hi.c,.int .i64 x.hi.e,.bool x.all] 44))).cell? ⟨w.heap.size,0,none⟩=some (.bool n.neg)∧((((w.alloc (.cells #[.bool n.neg,.slice n.a n.xs.length n.c,.int .i64 n.e] 38)).alloc (.cells #[.bool d.neg,.slice d.a d.xs.length d.c,.int .i64 d.e] 38)).alloc (.cells #[.bool x.lo.neg,.slice x.lo.a x.lo.xs.length x.lo.c,.int .i64 x.lo.e,.bool x.hi.neg,.slice x.hi.a x.hi.xs.length x.hi.c,.int .i64 x.hi.e,.bool x.all] 44))).cell? ⟨w.heap.size,1,none⟩=some (.slice n.a n.xs.length n.c)∧((((w.alloc (.cells #[.bool n.neg,.slice n.a n.xs.length n.c,.int .i64 n.e] 38)).alloc (.cells #[.bool d.neg,.slice d.a d.xs.length d.c,.int .i64 d.e] 38)).alloc (.cells #[.bool x.lo.neg,.slice x.lo.a x.lo.xs.length x.lo.c,.int .i64 x.lo.e,.bool x.hi.neg,.slice x.hi.a x.hi.xs.length x.hi.c,.int .i64 x.hi.e,.bool x.all] 44))).cell? ⟨w.heap.size,2,none⟩=some (.int .i64 n.e))∧(((((w.alloc (.cells #[.bool n.neg,.slice n.a n.xs.length n.c,.int .i64 n.e] 38)).alloc (.cells #[.bool d.neg,.slice d.a d.xs.length d.c,.int .i64 d.e] 38)).alloc (.cells #[.bool x.lo.neg,.slice x.lo.a x.lo.xs.length x.lo.c,.int .i64 x.lo.e,.bool x.hi.neg,.slice x.hi.a x.hi.xs.length x.hi.c,.int .i64 x.hi.e,.bool x.all] 44))).cell? ⟨w.heap.size+1,0,none⟩=some (.bool d.neg)∧((((w.alloc (.cells #[.bool n.neg,.slice n.a n.xs.length n.c,.int .i64 n.e] 38)).alloc (.cells #[.bool d.neg,.slice d.a d.xs.length d.c,.int .i64 d.e] 38)).alloc (.cells #[.bool x.lo.neg,.slice x.lo.a x.lo.xs.length x.lo.c,.int .i64 x.lo.e,.bool x.hi.neg,.slice x.hi.a x.hi.xs.length x.hi.c,.int .i64 x.hi.e,.bool x.all] 44))).cell? ⟨w.heap.size+1,1,none⟩=some (.slice d.a d.xs.length d.c)∧((((w.alloc (.cells #[.bool n.neg,.slice n.a n.xs.length n.c,.int .i64 n.e] 38)).alloc (.cells #[.bool d.neg,.slice d.a d.xs.length d.c,.int .i64 d.e] 38)).alloc (.cells #[.bool x.lo.neg,.slice x.lo.a x.lo.xs.length x.lo.c,.int .i64 x.lo.e,.bool x.hi.neg,.slice x.hi.a x.hi.xs.length x.hi.c,.int .i64 x.hi.e,.bool x.all] 44))).cell? ⟨w.heap.size+1,2,none⟩=some (.int .i64 d.e)))∧(((((w.alloc (.cells #[.bool n.neg,.slice n.a n.xs.length n.c,.int .i64 n.e] 38)).alloc (.cells #[.bool d.neg,.slice d.a d.xs.length d.c,.int .i64 d.e] 38)).alloc (.cells #[.bool x.lo.neg,.slice x.lo.a x.lo.xs.length x.lo.c,.int .i64 x.lo.e,.bool x.hi.neg,.slice x.hi.a x.hi.xs.length x.hi.c,.int .i64 x.hi.e,.bool x.all] 44))).cell? ⟨w.heap.size+1+1,0,none⟩=some (.bool x.lo.neg)∧((((w.alloc (.cells #[.bool n.neg,.slice n.a n.xs.length n.c,.int .i64 n.e] 38)).alloc (.cells #[.bool d.neg,.slice d.a d.xs.length d.c,.int .i64 d.e] 38)).alloc (.cells #[.bool x.lo.neg,.slice x.lo.a x.lo.xs.length x.lo.c,.int .i64 x.lo.e,.bool x.hi.neg,.slice x.hi.a x.hi.xs.length x.hi.c,.int .i64 x.hi.e,.bool x.all] 44))).cell? ⟨w.heap.size+1+1,1,none⟩=some (.slice x.lo.a x.lo.xs.length x.lo.c)∧((((w.alloc (.cells #[.bool n.neg,.slice n.a n.xs.length n.c,.int .i64 n.e] 38)).alloc (.cells #[.bool d.neg,.slice d.a d.xs.length d.c,.int .i64 d.e] 38)).alloc (.cells #[.bool x.lo.neg,.slice x.lo.a x.lo.xs.length x.lo.c,.int .i64 x.lo.e,.bool x.hi.neg,.slice x.hi.a x.hi.xs.length x.hi.c,.int .i64 x.hi.e,.bool x.all] 44))).cell? ⟨w.heap.size+1+1,2,none⟩=some (.int .i64 x.lo.e)∧((((w.alloc (.cells #[.bool n.neg,.slice n.a n.xs.length n.c,.int .i64 n.e] 38)).alloc (.cells #[.bool d.neg,.slice d.a d.xs.length d.c,.int .i64 d.e] 38)).alloc (.cells #[.bool x.lo.neg,.slice x.lo.a x.lo.xs.length x.lo.c,.int .i64 x.lo.e,.bool x.hi.neg,.slice x.hi.a x.hi.xs.length x.hi.c,.int .i64 x.hi.e,.bool x.all] 44))).cell? ⟨w.heap.size+1+1,3,none⟩=some (.bool x.hi.neg)∧((((w.alloc (.cells #[.bool n.neg,.slice n.a n.xs.length n.c,.int .i64 n.e] 38)).alloc (.cells #[.bool d.neg,.slice d.a d.xs.length d.c,.int .i64 d.e] 38)).alloc (.cells #[.bool x.lo.neg,.slice x.lo.a x.lo.xs.length x.lo.c,.int .i64 x.lo.e,.bool x.hi.neg,.slice x.hi.a x.hi.xs.length x.hi.c,.int .i64 x.hi.e,.bool x.all] 44))).cell? ⟨w.heap.size+1+1,4,none⟩=some (.slice x.hi.a x.hi.xs.length x.hi.c)∧((((w.alloc (.cells #[.bool n.neg,.slice n.a n.xs.length n.c,.int .i64 n.e] 38)).alloc (.cells #[.bool d.neg,.slice d.a d.xs.length d.c,.int .i64 d.e] 38)).alloc (.cells #[.bool x.lo.neg,.slice x.lo.a x.lo.xs.length x.lo.c,.int .i64 x.lo.e,.bool x.hi.neg,.slice x.hi.a x.hi.xs.length x.hi.c,.int .i64 x.hi.e,.bool x.all] 44))).cell? ⟨w.heap.size+1+1,5,none⟩=some (.int .i64 x.hi.e)∧((((w.alloc (.cells #[.bool n.neg,.slice n.a n.xs.length n.c,.int .i64 n.e] 38)).alloc (.cells #[.bool d.neg,.slice d.a d.xs.length d.c,.int .i64 d.e] 38)).alloc (.cells #[.bool x.lo.neg,.slice x.lo.a x.lo.xs.length x.lo.c,.int .i64 x.lo.e,.bool x.hi.neg,.slice x.hi.a x.hi.xs.length x.hi.c,.int .i64 x.hi.e,.bool x.all] 44))).cell? ⟨w.heap.size+1+1,6,none⟩=some (.bool x.all))∧((((w.alloc (.cells #[.bool n.neg,.slice n.a n.xs.length n.c,.int .i64 n.e] 38)).alloc (.cells #[.bool d.neg,.slice d.a d.xs.length d.c,.int .i64 d.e] 38)).alloc (.cells #[.bool x.lo.neg,.slice x.lo.a x.lo.xs.length x.lo.c,.int .i64 x.lo.e,.bool x.hi.neg,.slice x.hi.a x.hi.xs.length x.hi.c,.int .i64 x.hi.e,.bool x.all] 44))).cell? ⟨m,0,none⟩=some (.func (.func 62) #[] #[.pointer (some ⟨b,0,none⟩)]):=by
   refine⟨⟨keep3 ((Kp.refl _).alloc _) (keep3 ((Kp.refl _).alloc _) (show (w.alloc (.cells #[.bool n.neg,.slice n.a n.xs.length n.c,.int .i64 n.e] 38)).cell? ⟨w.heap.size,0,none⟩=some (.bool n.neg)∧(w.alloc (.cells #[.bool n.neg,.slice n.a n.xs.length n.c,.int .i64 n.e] 38)).cell? ⟨w.heap.size,1,none⟩=some (.slice n.a n.xs.length n.c)∧(w.alloc (.cells #[.bool n.neg,.slice n.a n.xs.length n.c,.int .i64 n.e] 38)).cell? ⟨w.heap.size,2,none⟩=some (.int .i64 n.e) by simp)),keep3 ((Kp.refl _).alloc _) (show ((w.alloc (.cells #[.bool n.neg,.slice n.a n.xs.length n.c,.int .i64 n.e] 38)).alloc (.cells #[.bool d.neg,.slice d.a d.xs.length d.c,.int .i64 d.e] 38)).cell? ⟨w.heap.size+1,0,none⟩=some (.bool d.neg)∧((w.alloc (.cells #[.bool n.neg,.slice n.a n.xs.length n.c,.int .i64 n.e] 38)).alloc (.cells #[.bool d.neg,.slice d.a d.xs.length d.c,.int .i64 d.e] 38)).cell? ⟨w.heap.size+1,1,none⟩=some (.slice d.a d.xs.length d.c)∧((w.alloc (.cells #[.bool n.neg,.slice n.a n.xs.length n.c,.int .i64 n.e] 38)).alloc (.cells #[.bool d.neg,.slice d.a d.xs.length d.c,.int .i64 d.e] 38)).cell? ⟨w.heap.size+1,2,none⟩=some (.int .i64 d.e) by simp)⟩,?_,kk.cell hm⟩
   have:=heap_alloc_new ((w.alloc (.cells #[.bool n.neg,.slice n.a n.xs.length n.c,.int .i64 n.e] 38)).alloc (.cells #[.bool d.neg,.slice d.a d.xs.length d.c,.int .i64 d.e] 38)) (.cells #[.bool x.lo.neg,.slice x.lo.a x.lo.xs.length x.lo.c,.int .i64 x.lo.e,.bool x.hi.neg,.slice x.hi.a x.hi.xs.length x.hi.c,.int .i64 x.hi.e,.bool x.all] 44)
   simp at this
   simp[World.cell?,this]
 have hBX:BoxD ((((w.alloc (.cells #[.bool n.neg,.slice n.a n.xs.length n.c,.int .i64 n.e] 38)).alloc (.cells #[.bool d.neg,.slice d.a d.xs.length d.c,.int .i64 d.e] 38)).alloc (.cells #[.bool x.lo.neg,.slice x.lo.a x.lo.xs.length x.lo.c,.int .i64 x.lo.e,.bool x.hi.neg,.slice x.hi.a x.hi.xs.length x.hi.c,.int .i64 x.hi.e,.bool x.all] 44))) w.heap.size n∧BoxD ((((w.alloc (.cells #[.bool n.neg,.slice n.a n.xs.length n.c,.int .i64 n.e] 38)).alloc (.cells #[.bool d.neg,.slice d.a d.xs.length d.c,.int .i64 d.e] 38)).alloc (.cells #[.bool x.lo.neg,.slice x.lo.a x.lo.xs.length x.lo.c,.int .i64 x.lo.e,.bool x.hi.neg,.slice x.hi.a x.hi.xs.length x.hi.c,.int .i64 x.hi.e,.bool x.all] 44))) (w.heap.size+1) d:=by
   refine⟨((BoxD.new w n _).kp ((Kp.refl _).alloc _)).kp ((Kp.refl _).alloc _),?_⟩
   have:=(BoxD.new (w.alloc (.cells #[.bool n.neg,.slice n.a n.xs.length n.c,.int .i64 n.e] 38)) d 38).kp ((Kp.refl _).alloc (.cells #[.bool x.lo.neg,.slice x.lo.a x.lo.xs.length x.lo.c,.int .i64 x.lo.e,.bool x.hi.neg,.slice x.hi.a x.hi.xs.length x.hi.c,.int .i64 x.hi.e,.bool x.all] 44))
   simpa using this
 have HN:=hid (And.intro hn (And.intro hd (RI.lo_ok hx vx)))
 have HL:=hid (And.intro hO.lt (And.intro (World.block_lt_of_cell? _ _ hm) hmb))
 have HO:=hid hO
 have HT:=hid hT
 obtain⟨z,hz⟩:∃ z,z=btC n.dy d.dy x.lo.dy x.hi.dy ok:=⟨_,rfl⟩
 rw[← hz]
 have HZ:=hid hz
 have HS0:=hid (sgn_neg' d.dy)
 clear hn hd hx vx hO hm hmb hT hz
 go_enter Tryz.func65,Tryz.ntmps65
 go_upto_region 1 with fail
 generalize hW:((w.alloc _).alloc _).alloc _=W at *
 have HK:=hid kk
 have HC:=hid hS
 have HBX:=hid hBX
 obtain⟨⟨⟨a0,a1,a2⟩,b0,b1,b2⟩,⟨c0,c1,c2,c3,c4,c5,c6⟩,d0⟩:=id hS
 clear hS kk hW hBX
 go_wp2_with fail
 refine (Sign_rd d _ (HN.out.2.1.1.kp HK.out) HN.out.2.1.2).mono ?_
 rintro e v1 ⟨rfl,j1⟩
 have HC1:=hid (keepCB (X:=fun _=>False) (w:=w) j1.chg (fun _ _ h=>h) (fun h=>h) HC.out)
 have HK1:=hid (HK.out.trans j1)
 have HBX1:=hid (And.intro (HBX.out.1.kp j1) (HBX.out.2.kp j1))
 clear a0 a1 a2 b0 b1 b2 c0 c1 c2 c3 c4 c5 c6 d0 j1 HC HK HBX
 obtain⟨⟨⟨a0,a1,a2⟩,b0,b1,b2⟩,⟨c0,c1,c2,c3,c4,c5,c6⟩,d0⟩:=id HC1.out
 by_cases hs:d.dy.iv<0
 rotate_left
 · have hs2:¬ sgn d.dy<0:=by have:=HS0.out;rw[decide_eq_false hs] at this;exact of_decide_eq_false this
   go_upto_region 3 with fail
   have HC3:=hid HC1.out
   have HCH:=hid (show Chg (·=b) w v1 from HK1.out.chg)
   have HR3:=hid (HO.out.kp HK1.out)
   have HT3:=hid (HT.out.kp HK1.out)
   have HNN:=hid (And.intro (HN.out.1.kp HK1.out) (And.intro (HN.out.2.1.kp HK1.out) (And.intro (HN.out.2.2.1.kp HK1.out) (HN.out.2.2.2.kp HK1.out))))
   have HBT:=hid (show z=if (muK x.lo.dy d.dy ok).1.iv≤n.dy.iv then (decide (n.dy.iv≤(muK x.hi.dy d.dy (muK x.lo.dy d.dy ok).2).1.iv),(muK x.hi.dy d.dy (muK x.lo.dy d.dy ok).2).2) else (false,(muK x.lo.dy d.dy ok).2) by rw[HZ.out];unfold btC;rw[sgnN_pos (Int.not_lt.2 hs),sgnN_pos (Int.not_lt.2 hs)])
   clear HBX1 HN HC1 HK1 HO HT HZ HS0 hs hs2 a0 a1 a2 b0 b1 b2 c0 c1 c2 c3 c4 c5 c6 d0
   have kd:=hid (Kp.refl v1).drew
   have hSd:=keepCB (X:=fun _=>False) (w:=w) kd.out.chg (fun _ _ h=>h) (fun h=>h) HC3.out
   have HRd:=hid (HR3.out.kp kd.out)
   obtain⟨M,hM⟩:∃ M,M=muK x.lo.dy d.dy ok:=⟨_,rfl⟩
   obtain⟨M2,hM2⟩:∃ M2,M2=muK x.hi.dy d.dy M.2:=⟨_,rfl⟩
   have HM1:=hid (hM▸mmul1_any b ok x.lo d v1.drew (HNN.out.2.2.1.kp kd.out) (HNN.out.2.1.kp kd.out) HRd.out (HT3.out.kp kd.out))
   have HM2:=hid (fun (V:World) (ch:Chg (·=b) v1.drew V) (rg:OkB V b M.2)=>hM2▸mmul1_any b M.2 x.hi d V (ch.ok HRd.out.nu (HNN.out.2.2.2.kp kd.out)) (ch.ok HRd.out.nu (HNN.out.2.1.kp kd.out)) rg ((HT3.out.kp kd.out).chg HRd.out ch))
   rw[← hM,← hM2] at HBT
   have HM0:=hid (And.intro hM hM2)
   clear hM hM2
   have hm1:m≠b:=HL.out.2.2
   have hb1:∀ j,w.heap.size≤j→¬ (j=b):=fun j hj e=>by have:=HL.out.1;omega
   obtain hc | hc | hc:=cmpZ_cases M.1.iv n.iv
   · have HBT2:=hid (show z=(decide (n.iv≤M2.1.iv),M2.2) by rw[HBT.out,if_pos (by have:=@cmpZ_gt M.1.iv n.iv;rw[hc] at this;show M.1.iv≤n.iv;omega)];rfl)
     have hcE:=hid hc
     clear hc
     go_region_held3 (fun w'=>((w'.cell? ⟨w.heap.size,0,none⟩=some (.bool n.neg)∧w'.cell? ⟨w.heap.size,1,none⟩=some (.slice n.a n.xs.length n.c)∧w'.cell? ⟨w.heap.size,2,none⟩=some (.int .i64 n.e))∧(w'.cell? ⟨w.heap.size+1,0,none⟩=some (.bool d.neg)∧w'.cell? ⟨w.heap.size+1,1,none⟩=some (.slice d.a d.xs.length d.c)∧w'.cell? ⟨w.heap.size+1,2,none⟩=some (.int .i64 d.e)))∧(w'.cell? ⟨w.heap.size+1+1,0,none⟩=some (.bool x.lo.neg)∧w'.cell? ⟨w.heap.size+1+1,1,none⟩=some (.slice x.lo.a x.lo.xs.length x.lo.c)∧w'.cell? ⟨w.heap.size+1+1,2,none⟩=some (.int .i64 x.lo.e)∧w'.cell? ⟨w.heap.size+1+1,3,none⟩=some (.bool x.hi.neg)∧w'.cell? ⟨w.heap.size+1+1,4,none⟩=some (.slice x.hi.a x.hi.xs.length x.hi.c)∧w'.cell? ⟨w.heap.size+1+1,5,none⟩=some (.int .i64 x.hi.e)∧w'.cell? ⟨w.heap.size+1+1,6,none⟩=some (.bool x.all))∧w'.cell? ⟨m,0,none⟩=some (.func (.func 62) #[] #[.pointer (some ⟨b,0,none⟩)])) (first | with_reducible assumption | fail)
       (first
         | (go_at_call 62; (with_reducible refine (HM1.out).mono ?_); rintro e v1 ⟨y1, rfl, oy1, dy1, rg1, ch1⟩
            have hSn:=keepCB (w:=w) ch1 hb1 hm1 hSd
            have O1:=hid (And.intro oy1 (And.intro dy1 (And.intro rg1 ch1)))
            clear oy1 dy1 rg1 ch1)
         | (go_at_call 68; (with_reducible refine (Cmp_rok y1 n v1 O1.out.1 (O1.out.2.2.2.ok HRd.out.nu (HNN.out.1.kp kd.out))).mono ?_); rintro e v2 ⟨rfl, j2⟩
            have hSm:=keepCB (X:=fun _=>False) (w:=w) j2.chg (fun _ _ h=>h) (fun h=>h) hSn
            rw[show cmpZ y1.iv n.iv=(-1:Int) from by rw[← hcE.out,← O1.out.2.1];rfl]
            have R2:=hid (O1.out.2.2.1.kp j2)
            have CH2:=hid (O1.out.2.2.2.trans j2.chg))
         | (go_at_call 62; (with_reducible refine (HM2.out v2 CH2.out R2.out).mono ?_); rintro e v3 ⟨y3, rfl, oy3, dy3, rg3, ch3⟩
            have hSk:=keepCB (w:=w) ch3 hb1 hm1 hSm
            have O3:=hid (And.intro oy3 (And.intro dy3 (And.intro rg3 (CH2.out.trans ch3))))
            clear oy3 dy3 rg3 ch3)
         | (go_at_call 68; (with_reducible refine (Cmp_rok n y3 v3 (O3.out.2.2.2.ok HRd.out.nu (HNN.out.1.kp kd.out)) O3.out.1).mono ?_); rintro e v4 ⟨rfl, j4⟩
            have hSl:=keepCB (X:=fun _=>False) (w:=w) j4.chg (fun _ _ h=>h) (fun h=>h) hSk
            have R4:=hid (And.intro (O3.out.2.2.1.kp j4) (O3.out.2.2.2.trans j4.chg)))
         | fail)
     go_wp2_with fail
     go_ret
     rw[HBT2.out]
     refine⟨?_,R4.out.1,(HCH.out.trans kd.out.chg).trans R4.out.2⟩
     refine congrArg (fun t=>Ending.returned (.bool t)) (decide_eq_decide.2 ?_)
     have h1:=@cmpZ_gt n.iv y3.iv
     have h2:y3.iv=M2.1.iv:=by rw[← O3.out.2.1];rfl
     rw[← h2]
     omega
   · have HBT2:=hid (show z=(decide (n.iv≤M2.1.iv),M2.2) by rw[HBT.out,if_pos (by have:=@cmpZ_gt M.1.iv n.iv;rw[hc] at this;show M.1.iv≤n.iv;omega)];rfl)
     have hcE:=hid hc
     clear hc
     go_region_held3 (fun w'=>((w'.cell? ⟨w.heap.size,0,none⟩=some (.bool n.neg)∧w'.cell? ⟨w.heap.size,1,none⟩=some (.slice n.a n.xs.length n.c)∧w'.cell? ⟨w.heap.size,2,none⟩=some (.int .i64 n.e))∧(w'.cell? ⟨w.heap.size+1,0,none⟩=some (.bool d.neg)∧w'.cell? ⟨w.heap.size+1,1,none⟩=some (.slice d.a d.xs.length d.c)∧w'.cell? ⟨w.heap.size+1,2,none⟩=some (.int .i64 d.e)))∧(w'.cell? ⟨w.heap.size+1+1,0,none⟩=some (.bool x.lo.neg)∧w'.cell? ⟨w.heap.size+1+1,1,none⟩=some (.slice x.lo.a x.lo.xs.length x.lo.c)∧w'.cell? ⟨w.heap.size+1+1,2,none⟩=some (.int .i64 x.lo.e)∧w'.cell? ⟨w.heap.size+1+1,3,none⟩=some (.bool x.hi.neg)∧w'.cell? ⟨w.heap.size+1+1,4,none⟩=some (.slice x.hi.a x.hi.xs.length x.hi.c)∧w'.cell? ⟨w.heap.size+1+1,5,none⟩=some (.int .i64 x.hi.e)∧w'.cell? ⟨w.heap.size+1+1,6,none⟩=some (.bool x.all))∧w'.cell? ⟨m,0,none⟩=some (.func (.func 62) #[] #[.pointer (some ⟨b,0,none⟩)])) (first | with_reducible assumption | fail)
       (first
         | (go_at_call 62; (with_reducible refine (HM1.out).mono ?_); rintro e v1 ⟨y1, rfl, oy1, dy1, rg1, ch1⟩
            have hSn:=keepCB (w:=w) ch1 hb1 hm1 hSd
            have O1:=hid (And.intro oy1 (And.intro dy1 (And.intro rg1 ch1)))
            clear oy1 dy1 rg1 ch1)
         | (go_at_call 68; (with_reducible refine (Cmp_rok y1 n v1 O1.out.1 (O1.out.2.2.2.ok HRd.out.nu (HNN.out.1.kp kd.out))).mono ?_); rintro e v2 ⟨rfl, j2⟩
            have hSm:=keepCB (X:=fun _=>False) (w:=w) j2.chg (fun _ _ h=>h) (fun h=>h) hSn
            rw[show cmpZ y1.iv n.iv=(0:Int) from by rw[← hcE.out,← O1.out.2.1];rfl]
            have R2:=hid (O1.out.2.2.1.kp j2)
            have CH2:=hid (O1.out.2.2.2.trans j2.chg))
         | (go_at_call 62; (with_reducible refine (HM2.out v2 CH2.out R2.out).mono ?_); rintro e v3 ⟨y3, rfl, oy3, dy3, rg3, ch3⟩
            have hSk:=keepCB (w:=w) ch3 hb1 hm1 hSm
            have O3:=hid (And.intro oy3 (And.intro dy3 (And.intro rg3 (CH2.out.trans ch3))))
            clear oy3 dy3 rg3 ch3)
         | (go_at_call 68; (with_reducible refine (Cmp_rok n y3 v3 (O3.out.2.2.2.ok HRd.out.nu (HNN.out.1.kp kd.out)) O3.out.1).mono ?_); rintro e v4 ⟨rfl, j4⟩
            have hSl:=keepCB (X:=fun _=>False) (w:=w) j4.chg (fun _ _ h=>h) (fun h=>h) hSk
            have R4:=hid (And.intro (O3.out.2.2.1.kp j4) (O3.out.2.2.2.trans j4.chg)))
         | fail)
     go_wp2_with fail
     go_ret
     rw[HBT2.out]
     refine⟨?_,R4.out.1,(HCH.out.trans kd.out.chg).trans R4.out.2⟩
     refine congrArg (fun t=>Ending.returned (.bool t)) (decide_eq_decide.2 ?_)
     have h1:=@cmpZ_gt n.iv y3.iv
     have h2:y3.iv=M2.1.iv:=by rw[← O3.out.2.1];rfl
     rw[← h2]
     omega
   have HBT2:=hid (show z=(false,M.2) by rw[HBT.out,if_neg (by have:=@cmpZ_gt M.1.iv n.iv;rw[hc] at this;show ¬ M.1.iv≤n.iv;omega)])
   have hcE:=hid hc
   clear hc
   refine wp_region_held_drew (S:=fun w'=>((w'.cell? ⟨w.heap.size,0,none⟩=some (.bool n.neg)∧w'.cell? ⟨w.heap.size,1,none⟩=some (.slice n.a n.xs.length n.c)∧w'.cell? ⟨w.heap.size,2,none⟩=some (.int .i64 n.e))∧(w'.cell? ⟨w.heap.size+1,0,none⟩=some (.bool d.neg)∧w'.cell? ⟨w.heap.size+1,1,none⟩=some (.slice d.a d.xs.length d.c)∧w'.cell? ⟨w.heap.size+1,2,none⟩=some (.int .i64 d.e)))∧(w'.cell? ⟨w.heap.size+1+1,0,none⟩=some (.bool x.lo.neg)∧w'.cell? ⟨w.heap.size+1+1,1,none⟩=some (.slice x.lo.a x.lo.xs.length x.lo.c)∧w'.cell? ⟨w.heap.size+1+1,2,none⟩=some (.int .i64 x.lo.e)∧w'.cell? ⟨w.heap.size+1+1,3,none⟩=some (.bool x.hi.neg)∧w'.cell? ⟨w.heap.size+1+1,4,none⟩=some (.slice x.hi.a x.hi.xs.length x.hi.c)∧w'.cell? ⟨w.heap.size+1+1,5,none⟩=some (.int .i64 x.hi.e)∧w'.cell? ⟨w.heap.size+1+1,6,none⟩=some (.bool x.all))∧w'.cell? ⟨m,0,none⟩=some (.func (.func 62) #[] #[.pointer (some ⟨b,0,none⟩)])) (by kernel_rfl) hSd (fun hHeld=>?_)
   refine tk 0 ?_;refine tk 1 ?_;refine tk 2 ?_;refine tk 3 ?_;refine tk 5 ?_;(try simp only[Act.put,List.getElem_toArray,List.getElem_cons_zero,List.getElem_cons_succ,List.setIfInBounds_toArray,List.set_cons_zero,List.set_cons_succ])
   refine cm 4 (fun K hK=>?_)
   (go_simp;go_fit HM1.out;rintro e v1 ⟨y1,rfl,oy1,dy1,rg1,ch1⟩)
   have hSn:=keepCB (w:=w) ch1 hb1 hm1 hSd
   have O1:=hid (And.intro oy1 (And.intro dy1 (And.intro rg1 ch1)))
   clear oy1 dy1 rg1 ch1
   refine hK.out _ _ hSn (fun hHeld=>?_);clear hK K
   refine cm 6 (fun K hK=>?_)
   (go_simp;go_fit (Cmp_rok y1 n v1 O1.out.1 (O1.out.2.2.2.ok HRd.out.nu (HNN.out.1.kp kd.out)));rintro e v2 ⟨rfl,j2⟩)
   have hSm:=keepCB (X:=fun _=>False) (w:=w) j2.chg (fun _ _ h=>h) (fun h=>h) hSn
   rw[show cmpZ y1.iv n.iv=(1:Int) from by rw[← hcE.out,← O1.out.2.1];rfl]
   have R2:=hid (O1.out.2.2.1.kp j2)
   have CH2:=hid (O1.out.2.2.2.trans j2.chg)
   refine hK.out _ _ hSm (fun hHeld=>?_);clear hK K
   refine tk 7 ?_;refine tk 8 ?_;(try simp only[Act.put,List.getElem_toArray,List.getElem_cons_zero,List.getElem_cons_succ,List.setIfInBounds_toArray,List.set_cons_zero,List.set_cons_succ])
   refine sk 9 ?_;refine sk 10 ?_;refine sk 11 ?_;refine sk 12 ?_;refine sk 13 ?_
   refine cm 14 (fun K hK=>?_)
   go_simp
   refine hK.out _ _ hSm (fun hHeld=>?_);clear hK K
   refine cm 15 (fun K hK=>?_)
   go_simp
   refine hK.out _ _ hSm (fun hHeld=>?_);clear hK K
   refine sk 16 ?_
   refine tk 17 ?_;refine tk 18 ?_;(try simp only[Act.put,List.getElem_toArray,List.getElem_cons_zero,List.getElem_cons_succ,List.setIfInBounds_toArray,List.set_cons_zero,List.set_cons_succ])
   refine wpAnyH_done (by kernel_rfl) ?_ _
   go_wp2_with fail
   go_ret
   rw[HBT2.out]
   exact⟨rfl,R2.out,(HCH.out.trans kd.out.chg).trans CH2.out⟩
 have hs2:sgn d.dy<0:=by have:=HS0.out;rw[decide_eq_true hs] at this;exact of_decide_eq_true this
 go_upto_region 2 with fail
 go_cut [7] from 11 to 15 (fun s7 wx=>s7=.bool false∧∃ n2 d2:RD,(((wx.cell? ⟨w.heap.size,0,none⟩=some (.bool n2.neg)∧wx.cell? ⟨w.heap.size,1,none⟩=some (.slice n2.a n2.xs.length n2.c)∧wx.cell? ⟨w.heap.size,2,none⟩=some (.int .i64 n2.e))∧(wx.cell? ⟨w.heap.size+1,0,none⟩=some (.bool d2.neg)∧wx.cell? ⟨w.heap.size+1,1,none⟩=some (.slice d2.a d2.xs.length d2.c)∧wx.cell? ⟨w.heap.size+1,2,none⟩=some (.int .i64 d2.e)))∧(wx.cell? ⟨w.heap.size+1+1,0,none⟩=some (.bool x.lo.neg)∧wx.cell? ⟨w.heap.size+1+1,1,none⟩=some (.slice x.lo.a x.lo.xs.length x.lo.c)∧wx.cell? ⟨w.heap.size+1+1,2,none⟩=some (.int .i64 x.lo.e)∧wx.cell? ⟨w.heap.size+1+1,3,none⟩=some (.bool x.hi.neg)∧wx.cell? ⟨w.heap.size+1+1,4,none⟩=some (.slice x.hi.a x.hi.xs.length x.hi.c)∧wx.cell? ⟨w.heap.size+1+1,5,none⟩=some (.int .i64 x.hi.e)∧wx.cell? ⟨w.heap.size+1+1,6,none⟩=some (.bool x.all))∧wx.cell? ⟨m,0,none⟩=some (.func (.func 62) #[] #[.pointer (some ⟨b,0,none⟩)]))∧(n2.ok wx∧n2.dy=n.dy.opp)∧(d2.ok wx∧d2.dy=d.dy.opp)∧Kp w wx)
 case first =>
   have kd:=hid (Kp.refl v1).drew
   have hSd:(v1.drew.cell? ⟨w.heap.size,0,none⟩=some (.bool n.neg)∧v1.drew.cell? ⟨w.heap.size,1,none⟩=some (.slice n.a n.xs.length n.c)∧v1.drew.cell? ⟨w.heap.size,2,none⟩=some (.int .i64 n.e))∧(v1.drew.cell? ⟨w.heap.size+1,0,none⟩=some (.bool d.neg)∧v1.drew.cell? ⟨w.heap.size+1,1,none⟩=some (.slice d.a d.xs.length d.c)∧v1.drew.cell? ⟨w.heap.size+1,2,none⟩=some (.int .i64 d.e)):=keep33 kd.out HC1.out.1
   have HNd:=hid (And.intro ((HN.out.1.kp HK1.out).kp kd.out) ((HN.out.2.1.kp HK1.out).kp kd.out))
   clear a0 a1 a2 b0 b1 b2 c0 c1 c2 c3 c4 c5 c6 d0
   refine wp_region_free (by kernel_rfl) (fun hHeld=>?_)
   clear hHeld
   refine wpAnyH_tail (z:=4) (f:=4) (fun w'=>(w'.cell? ⟨w.heap.size,0,none⟩=some (.bool n.neg)∧w'.cell? ⟨w.heap.size,1,none⟩=some (.slice n.a n.xs.length n.c)∧w'.cell? ⟨w.heap.size,2,none⟩=some (.int .i64 n.e))∧(w'.cell? ⟨w.heap.size+1,0,none⟩=some (.bool d.neg)∧w'.cell? ⟨w.heap.size+1,1,none⟩=some (.slice d.a d.xs.length d.c)∧w'.cell? ⟨w.heap.size+1,2,none⟩=some (.int .i64 d.e))) (by kernel_rfl) (by kernel_rfl) (by kernel_rfl) hSd (fun hHeld=>?_)
   clear hSd
   refine tk 0 ?_;refine tk 2 ?_;(try simp only[Act.put,List.getElem_toArray,List.getElem_cons_zero,List.getElem_cons_succ,List.setIfInBounds_toArray,List.set_cons_zero,List.set_cons_succ])
   refine cm 1 (fun K hK=>?_)
   (go_simp;go_fit (Neg_ok n v1.drew (HNd.out.1));rintro e q1 ⟨u1,rfl,r1,e1,g1,j1⟩)
   have U1:=hid (And.intro (show u1.ok q1 from ⟨r1,g1 (Dy.opp_ok2 (rdok_dy HNd.out.1))⟩) (show u1.dy=n.dy.opp from e1))
   refine hK.out _ _ (keep33 j1 hHeld) (fun hHeld=>?_);clear hK K
   refine cm 3 (fun K hK=>?_)
   (go_simp;go_fit (Neg_ok d q1 (HNd.out.2.kp j1));rintro e q2 ⟨u2,rfl,r2,e2,g2,j2⟩)
   have U2:=hid (And.intro (show u2.ok q2 from ⟨r2,g2 (Dy.opp_ok2 (rdok_dy HNd.out.2))⟩) (show u2.dy=d.dy.opp from e2))
   refine hK.out _ _ (keep33 j2 hHeld) (fun hHeld=>?_);clear hK K
   refine wpAnyH_done (by kernel_rfl) ?_ _
   refine tailQ_held (k:=2) (by kernel_rfl) (fun hHeld=>?_)
   have KJ:=hid ((kd.out.trans j1).trans j2)
   have V1:=hid (And.intro (U1.out.1.kp j2) U1.out.2)
   have BN:=hid (HBX1.out.1.kp KJ.out)
   have BD:=hid (HBX1.out.2.kp KJ.out)
   have CX:=hid (keepCB (X:=fun _=>False) (w:=w) KJ.out.chg (fun _ _ h=>h) (fun h=>h) HC1.out)
   clear r1 e1 g1 r2 e2 g2 j1 j2 hHeld
   obtain⟨p0,p1,p2,p3,p4,p5⟩:=id BN.out
   refine cm 4 (fun K hK=>?_)
   go_simp
   generalize hW8:(((World.setCell q2 _ _).setCell _ _).setCell _ _)=W8
   obtain⟨hB8,hU8⟩:=BN.out.store u1 hW8
   have BD8:=hid (hU8.box3 (b:=w.heap.size+1) (by omega) BD.out)
   refine hK.out _ _ trivial (fun hHeld=>?_);clear hK K hHeld
   clear p0 p1 p2 p3 p4 p5
   obtain⟨p0,p1,p2,p3,p4,p5⟩:=id BD8.out
   refine cm 5 (fun K hK=>?_)
   go_simp
   generalize hW9:(((World.setCell W8 _ _).setCell _ _).setCell _ _)=W9
   obtain⟨hB9,hU9⟩:=BoxD.store BD8.out u2 hW9
   refine hK.out _ _ trivial (fun hHeld=>?_);clear hK K hHeld
   refine wpAnyH_done (by kernel_rfl) ?_ _
   clear p0 p1 p2 p3 p4 p5
   go_wp2_with fail
   go_meet
   case rel =>
   have hmm:=HL.out.2.1
   have BN9:=hU9.box3 (b:=w.heap.size) (by omega) hB8
   have key (bb i:Nat) (h0:bb≠w.heap.size) (h1:bb≠w.heap.size+1):W9.cell? ⟨bb,i,none⟩=q2.cell? ⟨bb,i,none⟩:=(hU9.2.2.2.1 ⟨bb,i,none⟩ h1).trans (hU8.2.2.2.1 ⟨bb,i,none⟩ h0)
   obtain⟨_,⟨c0,c1,c2,c3,c4,c5,c6⟩,d0⟩:=CX.out
   have o1 (z:RD) (h:z.ok q2):z.ok W9:=⟨⟨hU9.2.1 _ _ (hU8.2.1 _ _ h.1.1),h.1.2⟩,h.2⟩
   refine⟨rfl,u1,u2,⟨⟨⟨BN9.1,BN9.2.1,BN9.2.2.1⟩,hB9.1,hB9.2.1,hB9.2.2.1⟩,⟨?_,?_,?_,?_,?_,?_,?_⟩,?_⟩,⟨o1 _ V1.out.1,V1.out.2⟩,⟨o1 _ U2.out.1,U2.out.2⟩,hU9.2.2.1 _ (hU8.2.2.1 _ (HK1.out.trans KJ.out) (by omega)) (by omega)⟩
   · rw[key _ _ (by omega) (by omega)];exact c0
   · rw[key _ _ (by omega) (by omega)];exact c1
   · rw[key _ _ (by omega) (by omega)];exact c2
   · rw[key _ _ (by omega) (by omega)];exact c3
   · rw[key _ _ (by omega) (by omega)];exact c4
   · rw[key _ _ (by omega) (by omega)];exact c5
   · rw[key _ _ (by omega) (by omega)];exact c6
   rw[key _ _ (by omega) (by omega)];exact d0
 case rest =>
 obtain⟨rfl,n2,d2,hc2,⟨on,en⟩,⟨od,ed⟩,kw⟩:=hcut
 obtain⟨V0,hV⟩:∃ X:World,X=wc:=⟨_,rfl⟩
 subst hV
 go_upto_region 3 with fail
 have HC3:=hid hc2
 have HCH:=hid (show Chg (·=b) w V0 from kw.chg)
 have HR3:=hid (HO.out.kp kw)
 have HT3:=hid (HT.out.kp kw)
 have HNN:=hid (And.intro on (And.intro od (And.intro (HN.out.2.2.1.kp kw) (HN.out.2.2.2.kp kw))))
 have HBT:=hid (show z=if (muK x.lo.dy d2.dy ok).1.iv≤n2.dy.iv then (decide (n2.dy.iv≤(muK x.hi.dy d2.dy (muK x.lo.dy d2.dy ok).2).1.iv),(muK x.hi.dy d2.dy (muK x.lo.dy d2.dy ok).2).2) else (false,(muK x.lo.dy d2.dy ok).2) by rw[HZ.out,ed,en];unfold btC;rw[sgnN_neg hs,sgnN_neg hs])
 clear HBX1 HN HC1 HK1 HO HT HZ HS0 hs hs2 a0 a1 a2 b0 b1 b2 c0 c1 c2 c3 c4 c5 c6 d0 hc2 on en od ed kw
 have kd:=hid (Kp.refl V0).drew
 have hSd:=keepCB (X:=fun _=>False) (w:=w) kd.out.chg (fun _ _ h=>h) (fun h=>h) HC3.out
 have HRd:=hid (HR3.out.kp kd.out)
 obtain⟨M,hM⟩:∃ M,M=muK x.lo.dy d2.dy ok:=⟨_,rfl⟩
 obtain⟨M2,hM2⟩:∃ M2,M2=muK x.hi.dy d2.dy M.2:=⟨_,rfl⟩
 have HM1:=hid (hM▸mmul1_any b ok x.lo d2 V0.drew (HNN.out.2.2.1.kp kd.out) (HNN.out.2.1.kp kd.out) HRd.out (HT3.out.kp kd.out))
 have HM2:=hid (fun (V:World) (ch:Chg (·=b) V0.drew V) (rg:OkB V b M.2)=>hM2▸mmul1_any b M.2 x.hi d2 V (ch.ok HRd.out.nu (HNN.out.2.2.2.kp kd.out)) (ch.ok HRd.out.nu (HNN.out.2.1.kp kd.out)) rg ((HT3.out.kp kd.out).chg HRd.out ch))
 rw[← hM,← hM2] at HBT
 have HM0:=hid (And.intro hM hM2)
 clear hM hM2
 have hm1:m≠b:=HL.out.2.2
 have hb1:∀ j,w.heap.size≤j→¬ (j=b):=fun j hj e=>by have:=HL.out.1;omega
 obtain hc | hc | hc:=cmpZ_cases M.1.iv n2.iv
 · have HBT2:=hid (show z=(decide (n2.iv≤M2.1.iv),M2.2) by rw[HBT.out,if_pos (by have:=@cmpZ_gt M.1.iv n2.iv;rw[hc] at this;show M.1.iv≤n2.iv;omega)];rfl)
   have hcE:=hid hc
   clear hc
   go_region_held3 (fun w'=>((w'.cell? ⟨w.heap.size,0,none⟩=some (.bool n2.neg)∧w'.cell? ⟨w.heap.size,1,none⟩=some (.slice n2.a n2.xs.length n2.c)∧w'.cell? ⟨w.heap.size,2,none⟩=some (.int .i64 n2.e))∧(w'.cell? ⟨w.heap.size+1,0,none⟩=some (.bool d2.neg)∧w'.cell? ⟨w.heap.size+1,1,none⟩=some (.slice d2.a d2.xs.length d2.c)∧w'.cell? ⟨w.heap.size+1,2,none⟩=some (.int .i64 d2.e)))∧(w'.cell? ⟨w.heap.size+1+1,0,none⟩=some (.bool x.lo.neg)∧w'.cell? ⟨w.heap.size+1+1,1,none⟩=some (.slice x.lo.a x.lo.xs.length x.lo.c)∧w'.cell? ⟨w.heap.size+1+1,2,none⟩=some (.int .i64 x.lo.e)∧w'.cell? ⟨w.heap.size+1+1,3,none⟩=some (.bool x.hi.neg)∧w'.cell? ⟨w.heap.size+1+1,4,none⟩=some (.slice x.hi.a x.hi.xs.length x.hi.c)∧w'.cell? ⟨w.heap.size+1+1,5,none⟩=some (.int .i64 x.hi.e)∧w'.cell? ⟨w.heap.size+1+1,6,none⟩=some (.bool x.all))∧w'.cell? ⟨m,0,none⟩=some (.func (.func 62) #[] #[.pointer (some ⟨b,0,none⟩)])) (first | with_reducible assumption | fail)
     (first
       | (go_at_call 62; (with_reducible refine (HM1.out).mono ?_); rintro e v1 ⟨y1, rfl, oy1, dy1, rg1, ch1⟩
          have hSn:=keepCB (w:=w) ch1 hb1 hm1 hSd
          have O1:=hid (And.intro oy1 (And.intro dy1 (And.intro rg1 ch1)))
          clear oy1 dy1 rg1 ch1)
       | (go_at_call 68; (with_reducible refine (Cmp_rok y1 n2 v1 O1.out.1 (O1.out.2.2.2.ok HRd.out.nu (HNN.out.1.kp kd.out))).mono ?_); rintro e v2 ⟨rfl, j2⟩
          have hSm:=keepCB (X:=fun _=>False) (w:=w) j2.chg (fun _ _ h=>h) (fun h=>h) hSn
          rw[show cmpZ y1.iv n2.iv=(-1:Int) from by rw[← hcE.out,← O1.out.2.1];rfl]
          have R2:=hid (O1.out.2.2.1.kp j2)
          have CH2:=hid (O1.out.2.2.2.trans j2.chg))
       | (go_at_call 62; (with_reducible refine (HM2.out v2 CH2.out R2.out).mono ?_); rintro e v3 ⟨y3, rfl, oy3, dy3, rg3, ch3⟩
          have hSk:=keepCB (w:=w) ch3 hb1 hm1 hSm
          have O3:=hid (And.intro oy3 (And.intro dy3 (And.intro rg3 (CH2.out.trans ch3))))
          clear oy3 dy3 rg3 ch3)
       | (go_at_call 68; (with_reducible refine (Cmp_rok n2 y3 v3 (O3.out.2.2.2.ok HRd.out.nu (HNN.out.1.kp kd.out)) O3.out.1).mono ?_); rintro e v4 ⟨rfl, j4⟩
          have hSl:=keepCB (X:=fun _=>False) (w:=w) j4.chg (fun _ _ h=>h) (fun h=>h) hSk
          have R4:=hid (And.intro (O3.out.2.2.1.kp j4) (O3.out.2.2.2.trans j4.chg)))
       | fail)
   go_wp2_with fail
   go_ret
   rw[HBT2.out]
   refine⟨?_,R4.out.1,(HCH.out.trans kd.out.chg).trans R4.out.2⟩
   refine congrArg (fun t=>Ending.returned (.bool t)) (decide_eq_decide.2 ?_)
   have h1:=@cmpZ_gt n2.iv y3.iv
   have h2:y3.iv=M2.1.iv:=by rw[← O3.out.2.1];rfl
   rw[← h2]
   omega
 · have HBT2:=hid (show z=(decide (n2.iv≤M2.1.iv),M2.2) by rw[HBT.out,if_pos (by have:=@cmpZ_gt M.1.iv n2.iv;rw[hc] at this;show M.1.iv≤n2.iv;omega)];rfl)
   have hcE:=hid hc
   clear hc
   go_region_held3 (fun w'=>((w'.cell? ⟨w.heap.size,0,none⟩=some (.bool n2.neg)∧w'.cell? ⟨w.heap.size,1,none⟩=some (.slice n2.a n2.xs.length n2.c)∧w'.cell? ⟨w.heap.size,2,none⟩=some (.int .i64 n2.e))∧(w'.cell? ⟨w.heap.size+1,0,none⟩=some (.bool d2.neg)∧w'.cell? ⟨w.heap.size+1,1,none⟩=some (.slice d2.a d2.xs.length d2.c)∧w'.cell? ⟨w.heap.size+1,2,none⟩=some (.int .i64 d2.e)))∧(w'.cell? ⟨w.heap.size+1+1,0,none⟩=some (.bool x.lo.neg)∧w'.cell? ⟨w.heap.size+1+1,1,none⟩=some (.slice x.lo.a x.lo.xs.length x.lo.c)∧w'.cell? ⟨w.heap.size+1+1,2,none⟩=some (.int .i64 x.lo.e)∧w'.cell? ⟨w.heap.size+1+1,3,none⟩=some (.bool x.hi.neg)∧w'.cell? ⟨w.heap.size+1+1,4,none⟩=some (.slice x.hi.a x.hi.xs.length x.hi.c)∧w'.cell? ⟨w.heap.size+1+1,5,none⟩=some (.int .i64 x.hi.e)∧w'.cell? ⟨w.heap.size+1+1,6,none⟩=some (.bool x.all))∧w'.cell? ⟨m,0,none⟩=some (.func (.func 62) #[] #[.pointer (some ⟨b,0,none⟩)])) (first | with_reducible assumption | fail)
     (first
       | (go_at_call 62; (with_reducible refine (HM1.out).mono ?_); rintro e v1 ⟨y1, rfl, oy1, dy1, rg1, ch1⟩
          have hSn:=keepCB (w:=w) ch1 hb1 hm1 hSd
          have O1:=hid (And.intro oy1 (And.intro dy1 (And.intro rg1 ch1)))
          clear oy1 dy1 rg1 ch1)
       | (go_at_call 68; (with_reducible refine (Cmp_rok y1 n2 v1 O1.out.1 (O1.out.2.2.2.ok HRd.out.nu (HNN.out.1.kp kd.out))).mono ?_); rintro e v2 ⟨rfl, j2⟩
          have hSm:=keepCB (X:=fun _=>False) (w:=w) j2.chg (fun _ _ h=>h) (fun h=>h) hSn
          rw[show cmpZ y1.iv n2.iv=(0:Int) from by rw[← hcE.out,← O1.out.2.1];rfl]
          have R2:=hid (O1.out.2.2.1.kp j2)
          have CH2:=hid (O1.out.2.2.2.trans j2.chg))
       | (go_at_call 62; (with_reducible refine (HM2.out v2 CH2.out R2.out).mono ?_); rintro e v3 ⟨y3, rfl, oy3, dy3, rg3, ch3⟩
          have hSk:=keepCB (w:=w) ch3 hb1 hm1 hSm
          have O3:=hid (And.intro oy3 (And.intro dy3 (And.intro rg3 (CH2.out.trans ch3))))
          clear oy3 dy3 rg3 ch3)
       | (go_at_call 68; (with_reducible refine (Cmp_rok n2 y3 v3 (O3.out.2.2.2.ok HRd.out.nu (HNN.out.1.kp kd.out)) O3.out.1).mono ?_); rintro e v4 ⟨rfl, j4⟩
          have hSl:=keepCB (X:=fun _=>False) (w:=w) j4.chg (fun _ _ h=>h) (fun h=>h) hSk
          have R4:=hid (And.intro (O3.out.2.2.1.kp j4) (O3.out.2.2.2.trans j4.chg)))
       | fail)
   go_wp2_with fail
   go_ret
   rw[HBT2.out]
   refine⟨?_,R4.out.1,(HCH.out.trans kd.out.chg).trans R4.out.2⟩
   refine congrArg (fun t=>Ending.returned (.bool t)) (decide_eq_decide.2 ?_)
   have h1:=@cmpZ_gt n2.iv y3.iv
   have h2:y3.iv=M2.1.iv:=by rw[← O3.out.2.1];rfl
   rw[← h2]
   omega
 have HBT2:=hid (show z=(false,M.2) by rw[HBT.out,if_neg (by have:=@cmpZ_gt M.1.iv n2.iv;rw[hc] at this;show ¬ M.1.iv≤n2.iv;omega)])
 have hcE:=hid hc
 clear hc
 refine wp_region_held_drew (S:=fun w'=>((w'.cell? ⟨w.heap.size,0,none⟩=some (.bool n2.neg)∧w'.cell? ⟨w.heap.size,1,none⟩=some (.slice n2.a n2.xs.length n2.c)∧w'.cell? ⟨w.heap.size,2,none⟩=some (.int .i64 n2.e))∧(w'.cell? ⟨w.heap.size+1,0,none⟩=some (.bool d2.neg)∧w'.cell? ⟨w.heap.size+1,1,none⟩=some (.slice d2.a d2.xs.length d2.c)∧w'.cell? ⟨w.heap.size+1,2,none⟩=some (.int .i64 d2.e)))∧(w'.cell? ⟨w.heap.size+1+1,0,none⟩=some (.bool x.lo.neg)∧w'.cell? ⟨w.heap.size+1+1,1,none⟩=some (.slice x.lo.a x.lo.xs.length x.lo.c)∧w'.cell? ⟨w.heap.size+1+1,2,none⟩=some (.int .i64 x.lo.e)∧w'.cell? ⟨w.heap.size+1+1,3,none⟩=some (.bool x.hi.neg)∧w'.cell? ⟨w.heap.size+1+1,4,none⟩=some (.slice x.hi.a x.hi.xs.length x.hi.c)∧w'.cell? ⟨w.heap.size+1+1,5,none⟩=some (.int .i64 x.hi.e)∧w'.cell? ⟨w.heap.size+1+1,6,none⟩=some (.bool x.all))∧w'.cell? ⟨m,0,none⟩=some (.func (.func 62) #[] #[.pointer (some ⟨b,0,none⟩)])) (by kernel_rfl) hSd (fun hHeld=>?_)
 refine tk 0 ?_;refine tk 1 ?_;refine tk 2 ?_;refine tk 3 ?_;refine tk 5 ?_;(try simp only[Act.put,List.getElem_toArray,List.getElem_cons_zero,List.getElem_cons_succ,List.setIfInBounds_toArray,List.set_cons_zero,List.set_cons_succ])
 refine cm 4 (fun K hK=>?_)
 (go_simp;go_fit HM1.out;rintro e v1 ⟨y1,rfl,oy1,dy1,rg1,ch1⟩)
 have hSn:=keepCB (w:=w) ch1 hb1 hm1 hSd
 have O1:=hid (And.intro oy1 (And.intro dy1 (And.intro rg1 ch1)))
 clear oy1 dy1 rg1 ch1
 refine hK.out _ _ hSn (fun hHeld=>?_);clear hK K
 refine cm 6 (fun K hK=>?_)
 (go_simp;go_fit (Cmp_rok y1 n2 v1 O1.out.1 (O1.out.2.2.2.ok HRd.out.nu (HNN.out.1.kp kd.out)));rintro e v2 ⟨rfl,j2⟩)
 have hSm:=keepCB (X:=fun _=>False) (w:=w) j2.chg (fun _ _ h=>h) (fun h=>h) hSn
 rw[show cmpZ y1.iv n2.iv=(1:Int) from by rw[← hcE.out,← O1.out.2.1];rfl]
 have R2:=hid (O1.out.2.2.1.kp j2)
 have CH2:=hid (O1.out.2.2.2.trans j2.chg)
 refine hK.out _ _ hSm (fun hHeld=>?_);clear hK K
 refine tk 7 ?_;refine tk 8 ?_;(try simp only[Act.put,List.getElem_toArray,List.getElem_cons_zero,List.getElem_cons_succ,List.setIfInBounds_toArray,List.set_cons_zero,List.set_cons_succ])
 refine sk 9 ?_;refine sk 10 ?_;refine sk 11 ?_;refine sk 12 ?_;refine sk 13 ?_
 refine cm 14 (fun K hK=>?_)
 go_simp
 refine hK.out _ _ hSm (fun hHeld=>?_);clear hK K
 refine cm 15 (fun K hK=>?_)
 go_simp
 refine hK.out _ _ hSm (fun hHeld=>?_);clear hK K
 refine sk 16 ?_
 refine tk 17 ?_;refine tk 18 ?_;(try simp only[Act.put,List.getElem_toArray,List.getElem_cons_zero,List.getElem_cons_succ,List.setIfInBounds_toArray,List.set_cons_zero,List.set_cons_succ])
 refine wpAnyH_done (by kernel_rfl) ?_ _
 go_wp2_with fail
 go_ret
 rw[HBT2.out]
 exact⟨rfl,R2.out,(HCH.out.trans kd.out.chg).trans CH2.out⟩
end Go.Proofs.YtbhmhfnfceakoaaGreatDoor
