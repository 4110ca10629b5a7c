/-
  Walks: slices.EqualFunc at [][]api.Interval, [][]api.Interval.
-/
import Derived.Test.YtbhmhfnfceakoaaGreatDoorMOpen
import Derived.Test.YtbhmhfnfceakoaaGreatDoorMSig
import Derived.Test.YtbhmhfnfceakoaaGreatDoorMRoAdd
import Derived.Test.YtbhmhfnfceakoaaGreatDoorMIvMl
import Derived.Test.YtbhmhfnfceakoaaGreatDoorMR2I
import Derived.Deep.DeepFit
import Derived.Test.YtbhmhfnfceakoaaGreatDoorMSumG
import Derived.Deep.LoopGhost
import Derived.Deep.RegionHeld3
import Derived.Test.YtbhmhfnfceakoaaGreatDoorMEchM
import Derived.Test.YtbhmhfnfceakoaaGreatDoorMNrmP
namespace Go.Proofs.YtbhmhfnfceakoaaGreatDoor
open Go.RowKit
open Lib (hid)
def insX (X Y:PI):Bool:=Y.all||(!X.all&&(decide (Y.lo.iv≤X.lo.iv)&&decide (X.hi.iv≤Y.hi.iv)))
theorem IInside_vl (x y:RI) (w:World) (hx:x.rd w) (hy:y.rd w) (vx:x.vl=true) (vy:y.vl=true) :
  Calls Tryz.prog 29 #[.agg #[.bool x.lo.neg,.slice x.lo.a x.lo.xs.length x.lo.c,.int .i64 x.lo.e,.bool x.hi.neg,.slice x.hi.a x.hi.xs.length x.hi.c,.int .i64 x.hi.e,.bool x.all],.agg #[.bool y.lo.neg,.slice y.lo.a y.lo.xs.length y.lo.c,.int .i64 y.lo.e,.bool y.hi.neg,.slice y.hi.a y.hi.xs.length y.hi.c,.int .i64 y.hi.e,.bool y.all]] w fun e w'=>e=.returned (.bool (insX x.pl y.pl))∧Kp w w':=by
 cases hya:y.all with
 | true =>
  have H:=hid (show insX x.pl y.pl=true by unfold insX;rw[show y.pl.all=true from hya];rfl)
  have C1:=hid (fun (W:World) (k:Kp w W)=>IValid_raw x W (hx.kp k))
  have C2:=hid (fun (W:World) (k:Kp w W)=>IValid_raw y W (hy.kp k))
  rw[vx] at C1
  rw[vy,hya] at C2
  clear hx hy vx vy hya
  go_enter Tryz.func29,Tryz.ntmps29
  go_wp2_with fail
  generalize hW:((w.alloc _).alloc _)=W at *
  have hk:Kp w W:=hW▸((Kp.refl w).alloc _).alloc _
  have hS:(W.cell? ⟨w.heap.size,0,none⟩=some (.bool x.lo.neg)∧W.cell? ⟨w.heap.size,1,none⟩=some (.slice x.lo.a x.lo.xs.length x.lo.c)∧W.cell? ⟨w.heap.size,2,none⟩=some (.int .i64 x.lo.e)∧W.cell? ⟨w.heap.size,3,none⟩=some (.bool x.hi.neg)∧W.cell? ⟨w.heap.size,4,none⟩=some (.slice x.hi.a x.hi.xs.length x.hi.c)∧W.cell? ⟨w.heap.size,5,none⟩=some (.int .i64 x.hi.e)∧W.cell? ⟨w.heap.size,6,none⟩=some (.bool x.all))∧W.cell? ⟨w.heap.size+1,0,none⟩=some (.bool y.lo.neg)∧W.cell? ⟨w.heap.size+1,1,none⟩=some (.slice y.lo.a y.lo.xs.length y.lo.c)∧W.cell? ⟨w.heap.size+1,2,none⟩=some (.int .i64 y.lo.e)∧W.cell? ⟨w.heap.size+1,3,none⟩=some (.bool y.hi.neg)∧W.cell? ⟨w.heap.size+1,4,none⟩=some (.slice y.hi.a y.hi.xs.length y.hi.c)∧W.cell? ⟨w.heap.size+1,5,none⟩=some (.int .i64 y.hi.e)∧W.cell? ⟨w.heap.size+1,6,none⟩=some (.bool true):=by rw[← hW];exact keep77 (Kp.refl _) (by simp)
  clear hW
  go_fit (C1.out _ hk)
  rintro e w1 ⟨rfl,k1⟩
  have hS1:=keep77 k1 hS
  have hk1:=hk.trans k1
  obtain⟨⟨s0,s1,s2,s3,s4,s5,s6⟩,t0,t1,t2,t3,t4,t5,t6⟩:=id hS1
  go_wp2_with fail
  go_fit (C2.out _ hk1)
  rintro e w2 ⟨rfl,k2⟩
  clear s0 s1 s2 s3 s4 s5 s6 t0 t1 t2 t3 t4 t5 t6
  obtain⟨⟨s0,s1,s2,s3,s4,s5,s6⟩,t0,t1,t2,t3,t4,t5,t6⟩:=keep77 k2 hS1
  have hk2:=hk1.trans k2
  go_wp2_with fail
  go_ret
  exact⟨ret_bool H.out.symm,hk2⟩
 | false =>
 cases hxa:x.all with
 | false =>
  have ox:x.ok w:=ok_of hx vx hxa
  have oy:y.ok w:=ok_of hy vy hya
  refine (Inside_ok x y w ox oy).mono ?_
  rintro e w' ⟨rfl,k⟩
  refine⟨?_,k⟩
  congr 2
  unfold insX insI
  rw[show y.pl.all=false from hya,show x.pl.all=false from hxa]
  simp only[Bool.false_or,Bool.not_false,Bool.true_and]
  rfl
 | true =>
 have H:=hid (show insX x.pl y.pl=false by unfold insX;rw[show y.pl.all=false from hya,show x.pl.all=true from hxa];rfl)
 have C1:=hid (fun (W:World) (k:Kp w W)=>IValid_raw x W (hx.kp k))
 have C2:=hid (fun (W:World) (k:Kp w W)=>IValid_raw y W (hy.kp k))
 rw[vx,hxa] at C1
 rw[vy,hya] at C2
 clear hx hy vx vy hya hxa
 go_enter Tryz.func29,Tryz.ntmps29
 go_wp2_with fail
 generalize hW:((w.alloc _).alloc _)=W at *
 have hk:Kp w W:=hW▸((Kp.refl w).alloc _).alloc _
 have hS:(W.cell? ⟨w.heap.size,0,none⟩=some (.bool x.lo.neg)∧W.cell? ⟨w.heap.size,1,none⟩=some (.slice x.lo.a x.lo.xs.length x.lo.c)∧W.cell? ⟨w.heap.size,2,none⟩=some (.int .i64 x.lo.e)∧W.cell? ⟨w.heap.size,3,none⟩=some (.bool x.hi.neg)∧W.cell? ⟨w.heap.size,4,none⟩=some (.slice x.hi.a x.hi.xs.length x.hi.c)∧W.cell? ⟨w.heap.size,5,none⟩=some (.int .i64 x.hi.e)∧W.cell? ⟨w.heap.size,6,none⟩=some (.bool true))∧W.cell? ⟨w.heap.size+1,0,none⟩=some (.bool y.lo.neg)∧W.cell? ⟨w.heap.size+1,1,none⟩=some (.slice y.lo.a y.lo.xs.length y.lo.c)∧W.cell? ⟨w.heap.size+1,2,none⟩=some (.int .i64 y.lo.e)∧W.cell? ⟨w.heap.size+1,3,none⟩=some (.bool y.hi.neg)∧W.cell? ⟨w.heap.size+1,4,none⟩=some (.slice y.hi.a y.hi.xs.length y.hi.c)∧W.cell? ⟨w.heap.size+1,5,none⟩=some (.int .i64 y.hi.e)∧W.cell? ⟨w.heap.size+1,6,none⟩=some (.bool false):=by rw[← hW];exact keep77 (Kp.refl _) (by simp)
 clear hW
 go_fit (C1.out _ hk)
 rintro e w1 ⟨rfl,k1⟩
 have hS1:=keep77 k1 hS
 have hk1:=hk.trans k1
 obtain⟨⟨s0,s1,s2,s3,s4,s5,s6⟩,t0,t1,t2,t3,t4,t5,t6⟩:=id hS1
 go_wp2_with fail
 go_fit (C2.out _ hk1)
 rintro e w2 ⟨rfl,k2⟩
 clear s0 s1 s2 s3 s4 s5 s6 t0 t1 t2 t3 t4 t5 t6
 obtain⟨⟨s0,s1,s2,s3,s4,s5,s6⟩,t0,t1,t2,t3,t4,t5,t6⟩:=keep77 k2 hS1
 have hk2:=hk1.trans k2
 go_wp2_with fail
 go_ret
 exact⟨ret_bool H.out.symm,hk2⟩
def insXR (x y:RI):Bool:=insX x.pl y.pl
theorem vlM_tab {m:List (List RI)} {r c:Nat} {F:Nat→Nat→PI} (hm:plM m=tabM r c F) (ho:okM m) (hr:1≤r∧r≤8) (hc:1≤c∧c≤8):vlM m=true:=by
 have l1:m.length=r:=by have:=congrArg List.length hm;simpa [plM,tabM] using this
 have lr:∀ (i:Nat) x,m[i]? = some x→x.length=c:=fun i x hx=>by
  have hi:i<r:=by rw[← l1];exact (List.getElem?_eq_some_iff.1 hx).1
  have px:plR x=rowF c (F i):=by
   have h1:(plM m)[i]? = (tabM r c F)[i]?:=by rw[hm]
   simpa [plM,tabM,hx,hi] using h1
  have:=congrArg List.length px;simpa [plR,rowF] using this
 have hcm:colsM m=c:=by
  have h0:0<m.length:=by omega
  rw[colsM_eq (List.getElem?_eq_getElem h0)]
  exact lr 0 _ (List.getElem?_eq_getElem h0)
 rw[vlM_iff]
 refine⟨by omega,by omega,fun x hx=>?_⟩
 obtain⟨i,hi⟩:=List.getElem?_of_mem hx
 exact⟨by rw[hcm];exact lr i x hi,ho x hx⟩
theorem tab_len {Z:List (List RI)} {r c:Nat} {F:Nat→Nat→PI} (h:plM Z=tabM r c F):Z.length=r:=by
 have:=congrArg List.length h;simpa [plM,tabM] using this
theorem tab_row {Z:List (List RI)} {r c:Nat} {F:Nat→Nat→PI} (h:plM Z=tabM r c F) {i:Nat} (hi:i<r):∃ x,Z[i]? = some x∧plR x=rowF c (F i):=by
 have hl:=tab_len h
 have hi2:i<Z.length:=by omega
 refine⟨_,List.getElem?_eq_getElem hi2,?_⟩
 have:=congrArg (fun l=>l[i]?) h
 simpa [plM,tabM,List.getElem?_eq_getElem hi2,hi] using this
theorem tab_cell {Z:List (List RI)} {r c:Nat} {F:Nat→Nat→PI} (h:plM Z=tabM r c F) {i j:Nat} (hi:i<r) (hj:j<c):∃ x y,Z[i]? = some x∧x.length=c∧x[j]? = some y∧y.pl=F i j:=by
 obtain⟨x,hx,hp⟩:=tab_row h hi
 have hl:x.length=c:=by have:=congrArg List.length hp;simpa [plR,rowF] using this
 have hj2:j<x.length:=by omega
 refine⟨x,_,hx,hl,List.getElem?_eq_getElem hj2,?_⟩
 have:=congrArg (fun l=>l[j]?) hp
 simpa [plR,rowF,List.getElem?_eq_getElem hj2,hj] using this
theorem atP_tab {Z:List (List RI)} {r c:Nat} {F:Nat→Nat→PI} (h:plM Z=tabM r c F) {i j:Nat} (hi:i<r) (hj:j<c):atP Z i j=F i j:=by
 obtain⟨x,y,hx,_,hy,hp⟩:=tab_cell h hi hj
 rw[atP_eq hx hy,hp]
theorem colsM_tab {Z:List (List RI)} {r c:Nat} {F:Nat→Nat→PI} (h:plM Z=tabM r c F) (hr:1≤r):colsM Z=c:=by
 obtain⟨x,hx,hp⟩:=tab_row h (i:=0) (by omega)
 have hl:x.length=c:=by have:=congrArg List.length hp;simpa [plR,rowF] using this
 unfold colsM
 cases Z with
 | cons z Z=>simp at hx;subst hx;simpa using hl
 | nil=>simp at hx
theorem tabM_congr {r c:Nat} {F G:Nat→Nat→PI} (h:∀ i j,i<r→j<c→F i j=G i j):tabM r c F=tabM r c G:=by
 unfold tabM rowF
 refine List.map_congr_left fun i hi=>List.map_congr_left fun j hj=>h i j (List.mem_range.1 hi) (List.mem_range.1 hj)
theorem dotF_congr {p:Nat} {f f' g g':Nat→PI}:∀ n,(∀ t,t≤n→f t=f' t∧g t=g' t)→dotF p f g n=dotF p f' g' n
 | 0,h=>by
  show pMul _ _ p=pMul _ _ p
  rw[(h 0 (Nat.le_refl 0)).1,(h 0 (Nat.le_refl 0)).2]
 | n+1,h=>by
  show pAdd _ _ p=pAdd _ _ p
  rw[dotF_congr n fun t ht=>h t (by omega),(h (n+1) (Nat.le_refl _)).1,(h (n+1) (Nat.le_refl _)).2]
set_option maxHeartbeats 4000000 in
theorem numF_any (n:Int) (w:World) (h0:n≠0) (hb:n.natAbs≤1000) :
  Calls Tryz.prog 40 #[.int .i64 n] w fun e w'=>∃ y:RD,e=.returned (.agg #[.bool y.neg,.slice y.a y.xs.length y.c,.int .i64 y.e])∧y.ok w'∧y.dy=intD n∧Kp w w':=by
 have hlo:-1000≤n:=by omega
 have hhi:n≤1000:=by omega
 obtain⟨N,hN⟩:∃ N:Nat,N=n.natAbs:=⟨_,rfl⟩
 have hmax:max n (-n)=(N:Int):=by omega
 have hz1:((N:Int)==0)=false:=beq_eq_false_iff_ne.2 (by omega)
 have HN:=hid (And.intro hN (show 0<N∧N≤1000 by omega))
 obtain⟨B,hB⟩:∃ B:Bool,B=decide (n<0):=⟨_,rfl⟩
 have HB:=hid hB
 clear hN h0 hb
 go_enter Tryz.func40,Tryz.ntmps40
 go_upto_region 3 with fail
 rw[← hB]
 clear hB
 have hO:Box3 ((w.alloc (.cells #[.bool false,.slice none 0 0,.int .i64 0] 38)).alloc (.cells #[.bool B,.slice none 0 0,.int .i64 0] 38)) w.heap.size (.bool false) (.slice none 0 0) (.int .i64 0):=(Box3.new w _ _ _ _).kp ((Kp.refl _).alloc _)
 have hD:Box3 ((w.alloc (.cells #[.bool false,.slice none 0 0,.int .i64 0] 38)).alloc (.cells #[.bool B,.slice none 0 0,.int .i64 0] 38)) (w.heap.size+1) (.bool B) (.slice none 0 0) (.int .i64 0):=by
  have:=Box3.new (w.alloc (.cells #[.bool false,.slice none 0 0,.int .i64 0] 38)) (.bool B) (.slice none 0 0) (.int .i64 0) 38
  rwa [World.size_alloc] at this
 have hk:Kp w ((w.alloc (.cells #[.bool false,.slice none 0 0,.int .i64 0] 38)).alloc (.cells #[.bool B,.slice none 0 0,.int .i64 0] 38)):=((Kp.refl w).alloc _).alloc _
 generalize ((w.alloc (.cells #[.bool false,.slice none 0 0,.int .i64 0] 38)).alloc (.cells #[.bool B,.slice none 0 0,.int .i64 0] 38))=W at *
 go_wp2_with fail
 go_loopg [0] N (fun q v wr=>∃ e:Nat,v=.int .i64 q∧0<q∧q*2 ^ e=N∧Kp w wr∧Box3 wr w.heap.size (.bool false) (.slice none 0 0) (.int .i64 0)∧Box3 wr (w.heap.size+1) (.bool B) (.slice none 0 0) (.int .i64 e))
 case atStart=>exact⟨0,rfl,HN.out.2.1,by simp,hk,hO,hD⟩
 case round =>
 obtain⟨e,rfl,hq0,hqe,hkr,hOr,hDr⟩:=hrel
 have HQ:=hid (And.intro hq0 hqe)
 have he10:e≤10:=by
  have h1:2 ^ e≤N:=by rw[← hqe];exact Nat.le_mul_of_pos_left _ hq0
  have h2:=HN.out.2.2
  exact Classical.byContradiction fun h=>by
   have:2 ^ 11≤2 ^ e:=Nat.pow_le_pow_right (by decide) (by omega)
   omega
 have hq9:gk≤1000:=by have h1:gk≤N:=by { rw[← hqe];exact Nat.le_mul_of_pos_right _ (Nat.pow_pos (by decide)) };have:=HN.out.2.2;omega
 have hj9:(gk:Int)≤1000:=by omega
 clear hO hD hk hqe
 rcases Nat.mod_two_eq_zero_or_one gk with hm | hm
 ·obtain⟨j,rfl⟩:∃ j,gk=2*j:=⟨gk/2,by omega⟩
  have hr:Int.tmod ((2*j:Nat):Int) 2=0:=by rw[Int.tmod_eq_emod_of_nonneg (by omega)];omega
  have hd:Int.tdiv ((2*j:Nat):Int) 2=(j:Int):=by rw[Int.tdiv_eq_ediv_of_nonneg (by omega)];omega
  obtain⟨q0,q1,q2,f0,f1,f2⟩:=id hDr
  go_upto_region 6 with fail
  have hj8:(j:Int)≤1000:=by omega
  go_region
  go_wp2_with fail
  go_roundg j
  case measure=>omega
  case rel =>
  have hE:=Box3.setN hDr nofun (.int .i64 ((e:Int)+1))
  exact⟨e+1,by go_num,by omega,by rw[Nat.pow_succ,Nat.mul_comm (2 ^ e) 2,← Nat.mul_assoc,Nat.mul_comm j 2];exact HQ.out.2,(hE.2.2.2.1 _ hkr (by omega)).drew,(hE.2.box3 (by omega) hOr).kp (Kp.refl _).drew,hE.1.kp (Kp.refl _).drew⟩
 have hr:Int.tmod ((gk:Nat):Int) 2=1:=by rw[Int.tmod_eq_emod_of_nonneg (by omega)];omega
 have hA:=(Kp.refl wr).alloc (.cells #[.int .u32 (gk:Int)] 109)
 have hDA:=hDr.kp hA
 obtain⟨q0,q1,q2,f0,f1,f2⟩:=id hDA
 go_upto_region 8 with fail
 obtain⟨hM,hU⟩:=Box3.setM hDA nofun (.slice (some ⟨wr.heap.size,0,none⟩) 1 1)
 have hRd:Rd (wr.alloc (.cells #[.int .u32 (gk:Int)] 109)) (some ⟨wr.heap.size,0,none⟩) [gk]:=⟨by intro x hx;simp at hx;omega,.inr ⟨_,_,rfl,fun i hi=>by
  obtain rfl:i=0:=by simp at hi;omega
  simp[nth]⟩⟩
 have hRd2:=hU.2.1 _ _ hRd
 have hO2:=hU.box3 (by omega) (hOr.kp hA)
 have hK2:=hU.2.2.1 _ (hkr.trans hA) (by omega)
 clear q0 q1 q2 f0 f1 f2 hDA hA hRd hU hOr hDr hkr
 generalize ((wr.alloc _).setCell _ _)=W9 at *
 obtain⟨q0,q1,q2,_⟩:=id hM
 obtain⟨r0,r1,r2,f0,f1,f2⟩:=id hO2
 go_wp2_with fail
 have hst:=stored r0 r1 r2 nofun nofun nofun (.bool B) (.slice (some ⟨wr.heap.size,0,none⟩) 1 1) (.int .i64 e)
 generalize (((W9.setCell _ _).setCell _ _).setCell _ _)=W8 at hst ⊢
 obtain⟨s0,s1,s2,_,s4,s5,_,_⟩:=hst
 have hok:(⟨B,gk,(e:Int)⟩:Dy).ok:=by
  have hb1:bits gk≤10:=bits_le.2 (by omega)
  exact .inr ⟨hm,by show bits gk≤4096;omega,by show (-16384:Int)≤e;omega,by show (e:Int)≤16384;omega,by show (bits gk:Int)+e≤16384;omega⟩
 have hdy:(⟨B,gk,(e:Int)⟩:Dy)=intD n:=by
  refine intD_eqs hok ?_ ?_
  ·omega
  ·rw[iv_sg]
   show sg B gk*2 ^ ((e:Int)+16384).toNat=_
   rw[show ((e:Int)+16384).toNat=e+16384 from by omega,Int.pow_add,← Int.mul_assoc]
   congr 1
   have hN9:((gk*2 ^ e:Nat):Int)=(n.natAbs:Int):=by rw[HQ.out.2,HN.out.1]
   rw[Int.natCast_mul,Int.natCast_pow] at hN9
   have hBn:=HB.out
   unfold sg
   cases B with
   | true =>
    have:n<0:=by simpa using hBn.symm
    rw[if_pos rfl,Int.neg_mul]
    have e9:((2:Nat):Int)=2:=rfl
    rw[e9] at hN9
    omega
   | false =>
    have:¬ n<0:=by simpa using hBn.symm
    rw[if_neg (by decide)]
    have e9:((2:Nat):Int)=2:=rfl
    rw[e9] at hN9
    omega
 have hl1:limbs gk=[gk]:=limbs_one7 (by omega) (by omega)
 refine bodyPost_ret (v:=.agg #[.bool B,.slice (some ⟨wr.heap.size,0,none⟩) 1 1,.int .i64 e]) (by simp[results,Tryz.results40,go_sem,s0,s1,s2]) rfl ?_
 refine⟨rdOf ⟨B,gk,e⟩ (some ⟨wr.heap.size,0,none⟩) 1,?_,rdOf_ok hok (by show Rd W8 _ (limbs gk);rw[hl1];exact s4 _ _ hRd2) (by show (limbs gk).length≤1;rw[hl1];exact Nat.le_refl _) (by decide),by rw[rdOf_dy];exact hdy,s5 _ hK2 (by omega)⟩
 unfold rdOf
 show Ending.returned (.agg #[.bool B,.slice (some ⟨wr.heap.size,0,none⟩) 1 1,.int .i64 e])=.returned (.agg #[.bool B,.slice (some ⟨wr.heap.size,0,none⟩) (limbs gk).length 1,.int .i64 e])
 rw[hl1];rfl
set_option maxHeartbeats 2000000 in
theorem numF_zero (w:World) :
  Calls Tryz.prog 40 #[.int .i64 0] w fun e w'=>e=.returned (.agg #[.bool false,.slice none 0 0,.int .i64 0])∧Kp w w':=by
 have kk:=((Kp.refl w).alloc (.cells #[.bool false,.slice none 0 0,.int .i64 0] 38)).alloc (.cells #[.bool false,.slice none 0 0,.int .i64 0] 38)
 have hB:Box3 ((w.alloc (.cells #[.bool false,.slice none 0 0,.int .i64 0] 38)).alloc (.cells #[.bool false,.slice none 0 0,.int .i64 0] 38)) w.heap.size (.bool false) (.slice none 0 0) (.int .i64 0):=(Box3.new w _ _ _ _).kp ((Kp.refl _).alloc _)
 go_enter Tryz.func40,Tryz.ntmps40
 go_upto_region 3 with fail
 generalize ((w.alloc _).alloc _)=W at *
 obtain⟨q0,q1,q2,f0,f1,f2⟩:=id hB
 go_wp2_with fail
 generalize hW9:(((W.setCell _ _).setCell _ _).setCell _ _)=W9
 obtain⟨⟨s0,s1,s2,_⟩,hU⟩:=stored3 hB nofun nofun nofun _ _ _ hW9
 clear hW9 q0 q1 q2 f0 f1 f2
 refine bodyPost_ret (v:=.agg #[.bool false,.slice none 0 0,.int .i64 0]) (by simp[results,Tryz.results40,go_sem,s0,s1,s2]) rfl ?_
 exact⟨rfl,hU.2.2.1 _ kk (Nat.le_refl _)⟩
set_option maxHeartbeats 1000000 in
theorem numberF_any (x y:RD) (w:World) (hx:x.rd w) (hy:y.rd w) :
  Calls Tryz.prog 41 #[.agg #[.bool x.neg,.slice x.a x.xs.length x.c,.int .i64 x.e],.agg #[.bool y.neg,.slice y.a y.xs.length y.c,.int .i64 y.e]] w fun e w'=>e=.returned (.bool (sameR x y))∧Kp w w':=by
 have H:=hid (show sameR x y=((x.neg==y.neg)&&(decide (x.e=y.e)&&decide (x.xs=y.xs))) from rfl)
 have hk:=((Kp.refl w).alloc (.cells #[.bool x.neg,.slice x.a x.xs.length x.c,.int .i64 x.e] 38)).alloc (.cells #[.bool y.neg,.slice y.a y.xs.length y.c,.int .i64 y.e] 38)
 have hxl:=hx.2.2.2.1
 by_cases hn:x.neg=y.neg
 rotate_left
 ·have hn1:(x.neg==y.neg)=false:=by cases h1:x.neg <;> cases h2:y.neg <;> simp_all
  clear hn
  go_enter Tryz.func41,Tryz.ntmps41
  go_wp2_with fail
  go_ret
  exact⟨ret_bool (by rw[H.out,hn1];simp),hk⟩
 have hn1:(x.neg==y.neg)=true:=by rw[hn];cases y.neg <;> rfl
 by_cases he:x.e=y.e
 rotate_left
 ·have he1:(x.e==y.e)=false:=beq_eq_false_iff_ne.2 he
  have Hn:=hid he
  clear hn he
  go_enter Tryz.func41,Tryz.ntmps41
  go_wp2_with fail
  go_ret
  exact⟨ret_bool (by rw[H.out,decide_eq_false Hn.out];simp),hk⟩
 have he1:(x.e==y.e)=true:=beq_iff_eq.2 he
 have Hn:=hid (And.intro hn1 he)
 clear hn he
 go_enter Tryz.func41,Tryz.ntmps41
 go_wp2_with fail
 refine (eqU_any x.a y.a x.xs y.xs x.c y.c _ (hx.1.kp hk) (hy.1.kp hk) hxl).mono ?_
 rintro e w3 ⟨rfl,hk3⟩
 go_wp2_with fail
 go_ret
 exact⟨ret_bool (by rw[H.out,Hn.out.1,Hn.out.2];simp),hk.trans hk3⟩
end Go.Proofs.YtbhmhfnfceakoaaGreatDoor
