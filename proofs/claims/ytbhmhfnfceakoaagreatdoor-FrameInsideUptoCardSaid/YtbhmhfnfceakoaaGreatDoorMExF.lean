/-
  Walks: the law's example (frames).
-/
import Derived.Deep.DeepFit
import Derived.Test.YtbhmhfnfceakoaaGreatDoorMFrB
import Derived.Test.YtbhmhfnfceakoaaGreatDoorMAwkFP
import Derived.Test.YtbhmhfnfceakoaaGreatDoorMEqfR
import Derived.Test.YtbhmhfnfceakoaaGreatDoorMDotM
namespace Go.Proofs.YtbhmhfnfceakoaaGreatDoor
open Go.RowKit
theorem RowD.upd {g b o:Nat} {w W:World} (hU:Upd g w W) {zs:List RD} (h:RowD w (some ⟨b,o,none⟩) zs) (hb:b≠g):RowD W (some ⟨b,o,none⟩) zs:=by
 intro i x hi
 obtain⟨b2,o2,e,hr,h0,h1,h2⟩:=h i x hi
 cases e
 have key (j:Nat):W.cell? ⟨b,j,none⟩=w.cell? ⟨b,j,none⟩:=hU.2.2.2.1 _ hb
 exact⟨b,o,rfl,hU.rdD hr,(key _).trans h0,(key _).trans h1,(key _).trans h2⟩
theorem RowI.upd {g b o:Nat} {w W:World} (hU:Upd g w W) {zs:List RI} (h:RowI w (some ⟨b,o,none⟩) zs) (hb:b≠g):RowI W (some ⟨b,o,none⟩) zs:=by
 intro i x hi
 obtain⟨b2,o2,e,hr,h0,h1,h2,h3,h4,h5,h6⟩:=h i x hi
 cases e
 have key (j:Nat):W.cell? ⟨b,j,none⟩=w.cell? ⟨b,j,none⟩:=hU.2.2.2.1 _ hb
 exact⟨b,o,rfl,hU.rdI hr,(key _).trans h0,(key _).trans h1,(key _).trans h2,(key _).trans h3,(key _).trans h4,(key _).trans h5,(key _).trans h6⟩
theorem rowN_cells {w:World} {g:Nat} {a b:Option Addr} {r s:List RD} {c d:Nat} (h0:w.cell? ⟨g,0,none⟩=some (.slice a r.length c)) (h1:w.cell? ⟨g,1,none⟩=some (.slice b s.length d)) (h:RowD w a r) (h2:RowD w b s) (hl:r.length≤1100000) (hl2:s.length≤1100000):RowN w (some ⟨g,0,none⟩) [r,s]:=by
 intro i z hi
 match i with
 | 0 =>
  simp only[List.getElem?_cons_zero,Option.some.injEq] at hi
  subst hi
  exact⟨_,0,a,c,rfl,h0,h,hl⟩
 | 1 =>
  simp only[List.getElem?_cons_succ,List.getElem?_cons_zero,Option.some.injEq] at hi
  subst hi
  exact⟨_,0,b,d,rfl,h1,h2,hl2⟩
 | i+2=>simp at hi
set_option maxRecDepth 100000 in
set_option maxHeartbeats 16000000 in
theorem example_any (w:World) :
  Calls Tryz.prog 38 #[] w fun e w'=>∃ f:RF,e=.returned (.agg #[.slice f.ca f.cs.length f.cc,.slice f.aa f.ms.length f.ac,.slice f.ra f.rs.length f.rc])∧f.rd w'∧exF f∧Kp w w':=by
 have hB:=Box3.new w (.slice none 0 0) (.slice none 0 0) (.slice none 0 0) 26
 have HK:=(Kp.refl w).alloc (.cells #[.slice none 0 0,.slice none 0 0,.slice none 0 0] 26)
 have hs0:w.heap.size<(w.alloc (.cells #[.slice none 0 0,.slice none 0 0,.slice none 0 0] 26)).heap.size:=by simp
 go_enter Tryz.func38,Tryz.ntmps38
 go_upto_region 1 with fail
 generalize w.alloc _=W0 at *
 go_wp2_with fail
 go_fit (numF_any (1) _ (by decide) (by decide))
 rintro e v1 ⟨y1,rfl,oy1,dy1,j1⟩
 replace hB:=hB.kp j1
 replace HK:=HK.trans j1
 have hz1:=j1.size
 try simp only[World.size_alloc] at hz1
 clear j1
 go_wp2_with fail
 go_fit (numF_any (1) _ (by decide) (by decide))
 rintro e v2 ⟨y2,rfl,oy2,dy2,j2⟩
 replace oy1:=oy1.kp j2
 replace hB:=hB.kp j2
 replace HK:=HK.trans j2
 have hz2:=j2.size
 try simp only[World.size_alloc] at hz2
 clear j2
 have kR:=(Kp.refl v2).alloc (.cells #[.bool y1.neg,.slice y1.a y1.xs.length y1.c,.int .i64 y1.e,.bool y2.neg,.slice y2.a y2.xs.length y2.c,.int .i64 y2.e] 38)
 have hR1:RowD (v2.alloc (.cells #[.bool y1.neg,.slice y1.a y1.xs.length y1.c,.int .i64 y1.e,.bool y2.neg,.slice y2.a y2.xs.length y2.c,.int .i64 y2.e] 38)) (some ⟨v2.heap.size,0,none⟩) [y1,y2]:=rowD_two v2 y1 y2 oy1.1 oy2.1 38
 replace oy1:=oy1.kp kR
 replace oy2:=oy2.kp kR
 replace hB:=hB.kp kR
 replace HK:=HK.trans kR
 clear kR
 go_wp2_with fail
 go_fit (numF_any (1) _ (by decide) (by decide))
 rintro e v3 ⟨y3,rfl,oy3,dy3,j3⟩
 replace oy1:=oy1.kp j3
 replace oy2:=oy2.kp j3
 replace hR1:=hR1.kp j3
 replace hB:=hB.kp j3
 replace HK:=HK.trans j3
 have hz3:=j3.size
 try simp only[World.size_alloc] at hz3
 clear j3
 go_wp2_with fail
 go_fit (numF_any (1) _ (by decide) (by decide))
 rintro e v4 ⟨y4,rfl,oy4,dy4,j4⟩
 replace oy1:=oy1.kp j4
 replace oy2:=oy2.kp j4
 replace hR1:=hR1.kp j4
 replace oy3:=oy3.kp j4
 replace hB:=hB.kp j4
 replace HK:=HK.trans j4
 have hz4:=j4.size
 try simp only[World.size_alloc] at hz4
 clear j4
 have kR:=(Kp.refl v4).alloc (.cells #[.bool y3.neg,.slice y3.a y3.xs.length y3.c,.int .i64 y3.e,.bool y4.neg,.slice y4.a y4.xs.length y4.c,.int .i64 y4.e] 38)
 have hR2:RowD (v4.alloc (.cells #[.bool y3.neg,.slice y3.a y3.xs.length y3.c,.int .i64 y3.e,.bool y4.neg,.slice y4.a y4.xs.length y4.c,.int .i64 y4.e] 38)) (some ⟨v4.heap.size,0,none⟩) [y3,y4]:=rowD_two v4 y3 y4 oy3.1 oy4.1 38
 replace oy1:=oy1.kp kR
 replace oy2:=oy2.kp kR
 replace hR1:=hR1.kp kR
 replace oy3:=oy3.kp kR
 replace oy4:=oy4.kp kR
 replace hB:=hB.kp kR
 replace HK:=HK.trans kR
 clear kR
 go_wp2_with fail
 go_fit (numF_zero _)
 rintro e v5 ⟨rfl,j5⟩
 replace oy1:=oy1.kp j5
 replace oy2:=oy2.kp j5
 replace hR1:=hR1.kp j5
 replace oy3:=oy3.kp j5
 replace oy4:=oy4.kp j5
 replace hR2:=hR2.kp j5
 replace hB:=hB.kp j5
 replace HK:=HK.trans j5
 have hz5:=j5.size
 try simp only[World.size_alloc] at hz5
 clear j5
 go_wp2_with fail
 go_fit (numF_any (1) _ (by decide) (by decide))
 rintro e v6 ⟨y6,rfl,oy6,dy6,j6⟩
 replace oy1:=oy1.kp j6
 replace oy2:=oy2.kp j6
 replace hR1:=hR1.kp j6
 replace oy3:=oy3.kp j6
 replace oy4:=oy4.kp j6
 replace hR2:=hR2.kp j6
 replace hB:=hB.kp j6
 replace HK:=HK.trans j6
 have hz6:=j6.size
 try simp only[World.size_alloc] at hz6
 clear j6
 have kR:=(Kp.refl v6).alloc (.cells #[.bool false,.slice none 0 0,.int .i64 0,.bool y6.neg,.slice y6.a y6.xs.length y6.c,.int .i64 y6.e] 38)
 have hR3:RowD (v6.alloc (.cells #[.bool false,.slice none 0 0,.int .i64 0,.bool y6.neg,.slice y6.a y6.xs.length y6.c,.int .i64 y6.e] 38)) (some ⟨v6.heap.size,0,none⟩) [rdZero,y6]:=rowD_two v6 rdZero y6 (rdZero_rd _) oy6.1 38
 replace oy1:=oy1.kp kR
 replace oy2:=oy2.kp kR
 replace hR1:=hR1.kp kR
 replace oy3:=oy3.kp kR
 replace oy4:=oy4.kp kR
 replace hR2:=hR2.kp kR
 replace oy6:=oy6.kp kR
 replace hB:=hB.kp kR
 replace HK:=HK.trans kR
 clear kR
 have kR:=(Kp.refl (v6.alloc (.cells #[.bool false,.slice none 0 0,.int .i64 0,.bool y6.neg,.slice y6.a y6.xs.length y6.c,.int .i64 y6.e] 38))).alloc (.cells #[.slice (some ⟨v4.heap.size,0,none⟩) 2 2,.slice (some ⟨v6.heap.size,0,none⟩) 2 2] 22)
 have hM0:((v6.alloc (.cells #[.bool false,.slice none 0 0,.int .i64 0,.bool y6.neg,.slice y6.a y6.xs.length y6.c,.int .i64 y6.e] 38)).alloc (.cells #[.slice (some ⟨v4.heap.size,0,none⟩) 2 2,.slice (some ⟨v6.heap.size,0,none⟩) 2 2] 22)).cell? ⟨v6.heap.size+1,0,none⟩=some (.slice (some ⟨v4.heap.size,0,none⟩) 2 2):=by have:=World.size_alloc v6 (.cells #[.bool false,.slice none 0 0,.int .i64 0,.bool y6.neg,.slice y6.a y6.xs.length y6.c,.int .i64 y6.e] 38);rw[← this];simp
 have hM1:((v6.alloc (.cells #[.bool false,.slice none 0 0,.int .i64 0,.bool y6.neg,.slice y6.a y6.xs.length y6.c,.int .i64 y6.e] 38)).alloc (.cells #[.slice (some ⟨v4.heap.size,0,none⟩) 2 2,.slice (some ⟨v6.heap.size,0,none⟩) 2 2] 22)).cell? ⟨v6.heap.size+1,1,none⟩=some (.slice (some ⟨v6.heap.size,0,none⟩) 2 2):=by have:=World.size_alloc v6 (.cells #[.bool false,.slice none 0 0,.int .i64 0,.bool y6.neg,.slice y6.a y6.xs.length y6.c,.int .i64 y6.e] 38);rw[← this];simp
 replace oy1:=oy1.kp kR
 replace oy2:=oy2.kp kR
 replace hR1:=hR1.kp kR
 replace oy3:=oy3.kp kR
 replace oy4:=oy4.kp kR
 replace hR2:=hR2.kp kR
 replace oy6:=oy6.kp kR
 replace hR3:=hR3.kp kR
 replace hB:=hB.kp kR
 replace HK:=HK.trans kR
 clear kR
 go_wp2_with fail
 go_fit (numF_any (-1) _ (by decide) (by decide))
 rintro e v7 ⟨y7,rfl,oy7,dy7,j7⟩
 replace oy1:=oy1.kp j7
 replace oy2:=oy2.kp j7
 replace hR1:=hR1.kp j7
 replace oy3:=oy3.kp j7
 replace oy4:=oy4.kp j7
 replace hR2:=hR2.kp j7
 replace oy6:=oy6.kp j7
 replace hR3:=hR3.kp j7
 replace hM0:=j7.cell hM0
 replace hM1:=j7.cell hM1
 replace hB:=hB.kp j7
 replace HK:=HK.trans j7
 have hz7:=j7.size
 try simp only[World.size_alloc] at hz7
 clear j7
 go_wp2_with fail
 go_fit (numF_any (1) _ (by decide) (by decide))
 rintro e v8 ⟨y8,rfl,oy8,dy8,j8⟩
 replace oy1:=oy1.kp j8
 replace oy2:=oy2.kp j8
 replace hR1:=hR1.kp j8
 replace oy3:=oy3.kp j8
 replace oy4:=oy4.kp j8
 replace hR2:=hR2.kp j8
 replace oy6:=oy6.kp j8
 replace hR3:=hR3.kp j8
 replace hM0:=j8.cell hM0
 replace hM1:=j8.cell hM1
 replace oy7:=oy7.kp j8
 replace hB:=hB.kp j8
 replace HK:=HK.trans j8
 have hz8:=j8.size
 try simp only[World.size_alloc] at hz8
 clear j8
 go_wp2_with fail
 go_fit (numF_zero _)
 rintro e v9 ⟨rfl,j9⟩
 replace oy1:=oy1.kp j9
 replace oy2:=oy2.kp j9
 replace hR1:=hR1.kp j9
 replace oy3:=oy3.kp j9
 replace oy4:=oy4.kp j9
 replace hR2:=hR2.kp j9
 replace oy6:=oy6.kp j9
 replace hR3:=hR3.kp j9
 replace hM0:=j9.cell hM0
 replace hM1:=j9.cell hM1
 replace oy7:=oy7.kp j9
 replace oy8:=oy8.kp j9
 replace hB:=hB.kp j9
 replace HK:=HK.trans j9
 have hz9:=j9.size
 try simp only[World.size_alloc] at hz9
 clear j9
 go_wp2_with fail
 go_fit (numF_any (2) _ (by decide) (by decide))
 rintro e v10 ⟨y10,rfl,oy10,dy10,j10⟩
 replace oy1:=oy1.kp j10
 replace oy2:=oy2.kp j10
 replace hR1:=hR1.kp j10
 replace oy3:=oy3.kp j10
 replace oy4:=oy4.kp j10
 replace hR2:=hR2.kp j10
 replace oy6:=oy6.kp j10
 replace hR3:=hR3.kp j10
 replace hM0:=j10.cell hM0
 replace hM1:=j10.cell hM1
 replace oy7:=oy7.kp j10
 replace oy8:=oy8.kp j10
 replace hB:=hB.kp j10
 replace HK:=HK.trans j10
 have hz10:=j10.size
 try simp only[World.size_alloc] at hz10
 clear j10
 have kR:=(Kp.refl v10).alloc (.cells #[.bool y7.neg,.slice y7.a y7.xs.length y7.c,.int .i64 y7.e,.bool y8.neg,.slice y8.a y8.xs.length y8.c,.int .i64 y8.e,.bool false,.bool false,.slice none 0 0,.int .i64 0,.bool y10.neg,.slice y10.a y10.xs.length y10.c,.int .i64 y10.e,.bool false] 44)
 have hI:RowI (v10.alloc (.cells #[.bool y7.neg,.slice y7.a y7.xs.length y7.c,.int .i64 y7.e,.bool y8.neg,.slice y8.a y8.xs.length y8.c,.int .i64 y8.e,.bool false,.bool false,.slice none 0 0,.int .i64 0,.bool y10.neg,.slice y10.a y10.xs.length y10.c,.int .i64 y10.e,.bool false] 44)) (some ⟨v10.heap.size,0,none⟩) [⟨y7,y8,false⟩,⟨rdZero,y10,false⟩]:=rowI_twoR v10 ⟨y7,y8,false⟩ ⟨rdZero,y10,false⟩ ⟨oy7.1,oy8.1⟩ ⟨rdZero_rd _,oy10.1⟩ 44
 replace oy1:=oy1.kp kR
 replace oy2:=oy2.kp kR
 replace hR1:=hR1.kp kR
 replace oy3:=oy3.kp kR
 replace oy4:=oy4.kp kR
 replace hR2:=hR2.kp kR
 replace oy6:=oy6.kp kR
 replace hR3:=hR3.kp kR
 replace hM0:=kR.cell hM0
 replace hM1:=kR.cell hM1
 replace oy7:=oy7.kp kR
 replace oy8:=oy8.kp kR
 replace oy10:=oy10.kp kR
 replace hB:=hB.kp kR
 replace HK:=HK.trans kR
 clear kR
 obtain⟨q0,q1,q2,f0,f1,f2⟩:=id hB
 go_wp2_with fail
 generalize hW9:(((World.setCell _ _ _).setCell _ _).setCell _ _)=W9
 obtain⟨⟨s0,s1,s2,_⟩,hU⟩:=stored3 hB nofun nofun nofun _ _ _ hW9
 clear hW9 q0 q1 q2 f0 f1 f2
 refine bodyPost_ret (v:=.agg #[.slice (some ⟨v2.heap.size,0,none⟩) 2 2,.slice (some ⟨v6.heap.size+1,0,none⟩) 2 2,.slice (some ⟨v10.heap.size,0,none⟩) 2 2]) (by simp[results,Tryz.results38,go_sem,s0,s1,s2]) rfl ?_
 refine⟨⟨some ⟨v2.heap.size,0,none⟩,[y1,y2],2,some ⟨v6.heap.size+1,0,none⟩,[[y3,y4],[rdZero,y6]],2,some ⟨v10.heap.size,0,none⟩,[⟨y7,y8,false⟩,⟨rdZero,y10,false⟩],2⟩,rfl,⟨⟨hR1.upd hU (by omega),by simp⟩,⟨rowN_cells ((hU.2.2.2.1 _ (by show v6.heap.size+1≠w.heap.size;omega)).trans hM0) ((hU.2.2.2.1 _ (by show v6.heap.size+1≠w.heap.size;omega)).trans hM1) (hR2.upd hU (by omega)) (hR3.upd hU (by omega)) (by simp) (by simp),by simp⟩,hI.upd hU (by omega),by simp⟩,?_,hU.2.2.1 _ HK (Nat.le_refl _)⟩
 refine⟨y1,y2,y3,y4,rdZero,y6,⟨y7,y8,false⟩,⟨rdZero,y10,false⟩,rfl,rfl,rfl,⟨dy1,dy2⟩,⟨dy3,dy4,intD_zero.symm,dy6⟩,⟨pl_int dy7 dy8,pl_int intD_zero.symm dy10⟩,oy1.2,oy2.2,oy3.2,oy4.2,rdZero_vl,oy6.2,vl_int oy7 oy8 dy7 dy8 (by decide),vl_int ⟨rdZero_rd _,rdZero_vl⟩ oy10 intD_zero.symm dy10 (by decide)⟩
end Go.Proofs.YtbhmhfnfceakoaaGreatDoor
