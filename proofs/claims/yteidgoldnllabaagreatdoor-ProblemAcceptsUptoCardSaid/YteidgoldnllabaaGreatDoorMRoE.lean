/-
  Walks: round.signed, round.
-/
import Derived.Test.YteidgoldnllabaaGreatDoorMRoD
import Derived.Test.YteidgoldnllabaaGreatDoorMCmpD
import Derived.Test.YteidgoldnllabaaGreatDoorMRnd
import Derived.Test.YteidgoldnllabaaGreatDoorMTpoN
import Derived.Test.YteidgoldnllabaaGreatDoorMNum
namespace Go.Proofs.YteidgoldnllabaaGreatDoor
open Go.RowKit
open Lib (hid)
def sgnR (neg:Bool) (R:Option Dy):Option Dy:=if neg then R.map Dy.opp else R
set_option maxRecDepth 100000 in
set_option maxHeartbeats 8000000 in
theorem signed_pos (a:Option Addr) (xs:List Nat) (c:Nat) (ex:Int) (more:Bool) (p:Nat) (up:Bool) (w:World) (hx:Rd w a xs) (hxl:xs.length≤256) (hxc:xs.length≤c) (hc:c≤maxLen) (he0:-200000≤ex) (he1:ex≤200000) (hp0:8≤p) (hp1:p≤512) (hT:Tab w) :
  Calls Tryz.prog 284 #[.bool false,.agg #[.slice a xs.length c,.int .i64 ex,.bool more],.int .i64 p,.bool up] w (NumE w (rndE (sgnR false (rcut (val xs) ex more p up))).1 (rndE (sgnR false (rcut (val xs) ex more p up))).2):=by
 cases hR:rcut (val xs) ex more p up with
 | some D =>
  have HR:=hid hR
  clear hR
  cases up
  all_goals
   go_enter Tryz.func284,Tryz.ntmps284
   go_wp2_with fail
   generalize hW:((w.alloc _).alloc _)=W at *
   have hk:Kp w W:=hW▸((Kp.refl w).alloc _).alloc _
   have hB:Box3 W (w.heap.size+1) (.bool false) (.slice none 0 0) (.int .i64 0):=hW▸Box3.new2 _ _ _ _ _ _
   clear hW
   refine (cut_any a xs c ex more p _ _ (hx.kp hk) hxl hxc hc he0 he1 hp0 hp1 (hT.kp hk)).mono ?_
   have hRe:=HR.out
   (try simp only[Bool.not_true,Bool.not_false] at hRe)
   simp only[hRe]
   clear hRe
   rintro e w3 ⟨y,rfl,hy,hd,hv,hk2⟩
   have hk3:=hk2.alloc (.cells #[.bool y.neg,.slice y.a y.xs.length y.c,.int .i64 y.e] 113)
   have hyr:=hy.kp ((Kp.refl w3).alloc (.cells #[.bool y.neg,.slice y.a y.xs.length y.c,.int .i64 y.e] 113))
   dsimp only[rndE,sgnR,if_true,if_false,Option.map] at hd hv ⊢
   have hB3:=hB.kp hk3
   have hk4:=hk.trans hk3
   obtain⟨q0,q1,q2,f0,f1,f2⟩:=hB3
   go_wp2_with fail
   have hst:=stored q0 q1 q2 nofun nofun nofun (.bool y.neg) (.slice y.a y.xs.length y.c) (.int .i64 y.e)
   generalize (((World.setCell _ _ _).setCell _ _).setCell _ _)=W9 at hst ⊢
   obtain⟨s0,s1,s2,_,s4,s5,_,_⟩:=hst
   refine bodyPost_ret (v:=.tuple #[.agg #[.bool y.neg,.slice y.a y.xs.length y.c,.int .i64 y.e],.int .i64 0]) (by simp[results,Tryz.results284,go_sem,s0,s1,s2]) rfl ?_
   exact⟨y,rfl,⟨s4 _ _ hyr.1,hy.2⟩,hd,hv,s5 _ hk4 (by omega)⟩
 | none =>
 have HR:=hid hR
 clear hR
 cases up
 all_goals
  go_enter Tryz.func284,Tryz.ntmps284
  go_wp2_with fail
  generalize hW:((w.alloc _).alloc _)=W at *
  have hk:Kp w W:=hW▸((Kp.refl w).alloc _).alloc _
  have hB:Box3 W (w.heap.size+1) (.bool false) (.slice none 0 0) (.int .i64 0):=hW▸Box3.new2 _ _ _ _ _ _
  clear hW
  refine (cut_any a xs c ex more p _ _ (hx.kp hk) hxl hxc hc he0 he1 hp0 hp1 (hT.kp hk)).mono ?_
  have hRe:=HR.out
  (try simp only[Bool.not_true,Bool.not_false] at hRe)
  simp only[hRe]
  clear hRe
  rintro e w3 ⟨y,rfl,hy,hd,hv,hk2⟩
  have hk3:=hk2.alloc (.cells #[.bool y.neg,.slice y.a y.xs.length y.c,.int .i64 y.e] 113)
  have hyr:=hy.kp ((Kp.refl w3).alloc (.cells #[.bool y.neg,.slice y.a y.xs.length y.c,.int .i64 y.e] 113))
  dsimp only[rndE,sgnR,if_true,if_false,Option.map] at hd hv ⊢
  have hB3:=hB.kp hk3
  have hk4:=hk.trans hk3
  obtain⟨q0,q1,q2,f0,f1,f2⟩:=hB3
  go_wp2_with fail
  have hst:=stored q0 q1 q2 nofun nofun nofun (.bool y.neg) (.slice y.a y.xs.length y.c) (.int .i64 y.e)
  generalize (((World.setCell _ _ _).setCell _ _).setCell _ _)=W9 at hst ⊢
  obtain⟨s0,s1,s2,_,s4,s5,_,_⟩:=hst
  refine bodyPost_ret (v:=.tuple #[.agg #[.bool y.neg,.slice y.a y.xs.length y.c,.int .i64 y.e],.int .i64 9]) (by simp[results,Tryz.results284,go_sem,s0,s1,s2]) rfl ?_
  exact⟨y,rfl,⟨s4 _ _ hyr.1,hy.2⟩,hd,hv,s5 _ hk4 (by omega)⟩
set_option maxRecDepth 100000 in
set_option maxHeartbeats 8000000 in
theorem signed_neg (a:Option Addr) (xs:List Nat) (c:Nat) (ex:Int) (more:Bool) (p:Nat) (up:Bool) (w:World) (hx:Rd w a xs) (hxl:xs.length≤256) (hxc:xs.length≤c) (hc:c≤maxLen) (he0:-200000≤ex) (he1:ex≤200000) (hp0:8≤p) (hp1:p≤512) (hT:Tab w) :
  Calls Tryz.prog 284 #[.bool true,.agg #[.slice a xs.length c,.int .i64 ex,.bool more],.int .i64 p,.bool up] w (NumE w (rndE (sgnR true (rcut (val xs) ex more p (!up)))).1 (rndE (sgnR true (rcut (val xs) ex more p (!up)))).2):=by
 cases hR:rcut (val xs) ex more p (!up) with
 | none =>
  have HR:=hid hR
  clear hR
  cases up
  all_goals
   go_enter Tryz.func284,Tryz.ntmps284
   go_wp2_with fail
   generalize hW:((w.alloc _).alloc _)=W at *
   have hk:Kp w W:=hW▸((Kp.refl w).alloc _).alloc _
   have hB:Box3 W (w.heap.size+1) (.bool false) (.slice none 0 0) (.int .i64 0):=hW▸Box3.new2 _ _ _ _ _ _
   clear hW
   refine (cut_any a xs c ex more p _ _ (hx.kp hk) hxl hxc hc he0 he1 hp0 hp1 (hT.kp hk)).mono ?_
   have hRe:=HR.out
   (try simp only[Bool.not_true,Bool.not_false] at hRe)
   simp only[hRe]
   clear hRe
   rintro e w3 ⟨y,rfl,hy,hd,hv,hk2⟩
   have hk3:=hk2.alloc (.cells #[.bool y.neg,.slice y.a y.xs.length y.c,.int .i64 y.e] 113)
   have hyr:=hy.kp ((Kp.refl w3).alloc (.cells #[.bool y.neg,.slice y.a y.xs.length y.c,.int .i64 y.e] 113))
   dsimp only[rndE,sgnR,if_true,if_false,Option.map] at hd hv ⊢
   have hB3:=hB.kp hk3
   have hk4:=hk.trans hk3
   obtain⟨q0,q1,q2,f0,f1,f2⟩:=hB3
   go_wp2_with fail
   have hst:=stored q0 q1 q2 nofun nofun nofun (.bool y.neg) (.slice y.a y.xs.length y.c) (.int .i64 y.e)
   generalize (((World.setCell _ _ _).setCell _ _).setCell _ _)=W9 at hst ⊢
   obtain⟨s0,s1,s2,_,s4,s5,_,_⟩:=hst
   refine bodyPost_ret (v:=.tuple #[.agg #[.bool y.neg,.slice y.a y.xs.length y.c,.int .i64 y.e],.int .i64 9]) (by simp[results,Tryz.results284,go_sem,s0,s1,s2]) rfl ?_
   exact⟨y,rfl,⟨s4 _ _ hyr.1,hy.2⟩,hd,hv,s5 _ hk4 (by omega)⟩
 | some D =>
 have HR:=hid hR
 have hDok:=hid (rcut_isP (by omega) (by omega) hR).1.1
 clear hR
 cases up
 all_goals
  go_enter Tryz.func284,Tryz.ntmps284
  go_wp2_with fail
  generalize hW:((w.alloc _).alloc _)=W at *
  have hk:Kp w W:=hW▸((Kp.refl w).alloc _).alloc _
  have hB:Box3 W (w.heap.size+1) (.bool false) (.slice none 0 0) (.int .i64 0):=hW▸Box3.new2 _ _ _ _ _ _
  clear hW
  refine (cut_any a xs c ex more p _ _ (hx.kp hk) hxl hxc hc he0 he1 hp0 hp1 (hT.kp hk)).mono ?_
  have hRe:=HR.out
  (try simp only[Bool.not_true,Bool.not_false] at hRe)
  simp only[hRe]
  clear hRe
  rintro e w3 ⟨y,rfl,hy,hd,hv,hk2⟩
  have hk3:=hk2.alloc (.cells #[.bool y.neg,.slice y.a y.xs.length y.c,.int .i64 y.e] 113)
  have hyr:=hy.kp ((Kp.refl w3).alloc (.cells #[.bool y.neg,.slice y.a y.xs.length y.c,.int .i64 y.e] 113))
  dsimp only[rndE,sgnR,if_true,if_false,Option.map] at hd hv ⊢
  have hyo:y.ok (w3.alloc (.cells #[.bool y.neg,.slice y.a y.xs.length y.c,.int .i64 y.e] 113)):=⟨hyr,hv hDok.out⟩
  have hY:=(Box3.new w3 (.bool y.neg) (.slice y.a y.xs.length y.c) (.int .i64 y.e) 113)
  have hB3:=hB.kp hk3
  have hk4:=hk.trans hk3
  have hz:=hk2.size
  have hz2:=World.block_lt_of_cell? _ _ hB.1
  clear hk2 hB hy hk
  go_wp2_with fail
  generalize w3.alloc _=W3 at *
  refine (Neg_ok y _ hyo).mono ?_
  rw[hd]
  rintro e w5 ⟨z,rfl,hzr,hzd,hzv,hk6⟩
  obtain⟨j0,j1,j2,g0,g1,g2⟩:=hY.kp hk6
  have hk7:=hk4.trans hk6
  have hB5:=hB3.kp hk6
  have hb5:=World.block_lt_of_cell? _ _ hB3.1
  clear hY hB3 hk6 hk4 hk3 hyo hyr
  obtain⟨q0,q1,q2,f0,f1,f2⟩:=hB5
  have hne:w.heap.size+1<w3.heap.size:=by omega
  have hne2:¬ w3.heap.size=w.heap.size+1:=by omega
  go_wp2_with fail
  have hst:=stored j0 j1 j2 nofun nofun nofun (.bool z.neg) (.slice z.a z.xs.length z.c) (.int .i64 z.e)
  generalize (((w5.setCell _ _).setCell _ _).setCell _ _)=W6 at hst ⊢
  obtain⟨s0,s1,s2,_,s4,s5,s6,_⟩:=hst
  have hzr6:z.rd W6:=⟨s4 _ _ hzr.1,hzr.2⟩
  have hk8:=s5 _ hk7 (by omega)
  have e6 (i:Nat):W6.cell? ⟨w.heap.size+1,i,none⟩=w5.cell? ⟨w.heap.size+1,i,none⟩:=s6 ⟨w.heap.size+1,i,none⟩ (fun e=>hne2 e.symm)
  rw[← e6] at q0 q1 q2
  have hst:=stored q0 q1 q2 nofun nofun nofun (.bool z.neg) (.slice z.a z.xs.length z.c) (.int .i64 z.e)
  clear s0 s1 s2 s4 s5 s6 e6
  generalize (((W6.setCell _ _).setCell _ _).setCell _ _)=W9 at hst ⊢
  obtain⟨s0,s1,s2,_,s4,s5,_,_⟩:=hst
  refine bodyPost_ret (v:=.tuple #[.agg #[.bool z.neg,.slice z.a z.xs.length z.c,.int .i64 z.e],.int .i64 0]) (by simp[results,Tryz.results284,go_sem,s0,s1,s2]) rfl ?_
  exact⟨z,rfl,⟨s4 _ _ hzr6.1,hzr6.2⟩,hzd,hzv,s5 _ hk8 (by omega)⟩
def rndS (neg:Bool) (m:Nat) (e:Int) (more:Bool) (p:Nat) (up:Bool):Option Dy:=sgnR neg (rcut m e more p (up != neg))
theorem signed_any (neg:Bool) (a:Option Addr) (xs:List Nat) (c:Nat) (ex:Int) (more:Bool) (p:Nat) (up:Bool) (w:World) (hx:Rd w a xs) (hxl:xs.length≤256) (hxc:xs.length≤c) (hc:c≤maxLen) (he0:-200000≤ex) (he1:ex≤200000) (hp0:8≤p) (hp1:p≤512) (hT:Tab w) :
  Calls Tryz.prog 284 #[.bool neg,.agg #[.slice a xs.length c,.int .i64 ex,.bool more],.int .i64 p,.bool up] w (NumE w (rndE (rndS neg (val xs) ex more p up)).1 (rndE (rndS neg (val xs) ex more p up)).2):=by
 cases neg with
 | true=>have:=signed_neg a xs c ex more p up w hx hxl hxc hc he0 he1 hp0 hp1 hT;unfold rndS;rwa [Bool.bne_true]
 | false=>have:=signed_pos a xs c ex more p up w hx hxl hxc hc he0 he1 hp0 hp1 hT;unfold rndS;rwa [Bool.bne_false]
theorem rndS_ok {neg:Bool} {m:Nat} {e:Int} {more:Bool} {p:Nat} {up:Bool} (hp:8≤p) (hp2:p≤512):(rndE (rndS neg m e more p up)).1.ok:=by
 unfold rndS sgnR
 cases h:rcut m e more p (up != neg) with
 | none=>cases neg <;> exact Dy.ok_zero
 | some d =>
 have:=(rcut_isP (by omega) (by omega) h).1.1
 cases neg
 ·exact this
 exact Dy.opp_ok this
theorem rowD_two (w:World) (x y:RD) (hx:x.rd w) (hy:y.rd w) (t:TypeId):RowD (w.alloc (.cells #[.bool x.neg,.slice x.a x.xs.length x.c,.int .i64 x.e,.bool y.neg,.slice y.a y.xs.length y.c,.int .i64 y.e] t)) (some ⟨w.heap.size,0,none⟩) [x,y]:=by
 intro i z hi
 match i with
 | 0 =>
  simp only[List.getElem?_cons_zero,Option.some.injEq] at hi
  subst hi
  refine⟨_,0,rfl,hx.kp ((Kp.refl w).alloc _),?_,?_,?_⟩ <;> simp
 | 1 =>
  simp only[List.getElem?_cons_succ,List.getElem?_cons_zero,Option.some.injEq] at hi
  subst hi
  refine⟨_,0,rfl,hy.kp ((Kp.refl w).alloc _),?_,?_,?_⟩ <;> simp
 | i+2=>simp at hi
theorem fltB_zero {p:Int} {ys:List RD}:fltB p ys=0↔ys.all RD.vl=true∧8≤p∧p≤512:=by
 unfold fltB
 have hp:=@preB_iff p
 cases h:ys.all RD.vl with
 | false=>simp
 | true =>
 cases h2:preB p with
 | true=>rw[h2] at hp;simpa using hp
 | false=>rw[h2] at hp;simp;simp at hp;omega
theorem rDivDown_of (x y:RD) (p:Int) (D:Dy) (f:Int) (w:World) (hin:∀ W,Kp w W→Calls Tryz.prog 257 #[.agg #[.bool x.neg,.slice x.a x.xs.length x.c,.int .i64 x.e],.agg #[.bool y.neg,.slice y.a y.xs.length y.c,.int .i64 y.e],.int .i64 p,.bool false] W (NumE W D f)) :
  Calls Tryz.prog 222 #[.agg #[.bool x.neg,.slice x.a x.xs.length x.c,.int .i64 x.e],.agg #[.bool y.neg,.slice y.a y.xs.length y.c,.int .i64 y.e],.int .i64 p] w (NumE w D f):=by
 have Ha:=hid hin
 clear hin
 go_enter Tryz.func222,Tryz.ntmps222
 go_wp2_with fail
 generalize hW:(((w.alloc _).alloc _).alloc _)=W at *
 have hk:Kp w W:=hW▸(((Kp.refl w).alloc _).alloc _).alloc _
 have hB:Box3 W (w.heap.size+2) (.bool false) (.slice none 0 0) (.int .i64 0):=hW▸Box3.new3 _ _ _ _ _ _ _
 clear hW
 refine (Ha.out _ hk).mono ?_
 rintro e w5 ⟨z,rfl,hzr,hzd,hzv,hk5⟩
 obtain⟨q0,q1,q2,f0,f1,f2⟩:=hB.kp hk5
 have hk6:=hk.trans hk5
 clear hB hk5
 have hst:=stored q0 q1 q2 nofun nofun nofun (.bool z.neg) (.slice z.a z.xs.length z.c) (.int .i64 z.e)
 go_wp2_with fail
 generalize (((w5.setCell _ _).setCell _ _).setCell _ _)=W2 at hst ⊢
 obtain⟨s0,s1,s2,_,s4,s5,_,_⟩:=hst
 refine bodyPost_ret (v:=.tuple #[.agg #[.bool z.neg,.slice z.a z.xs.length z.c,.int .i64 z.e],.int .i64 f]) (by simp[results,Tryz.results222,go_sem,s0,s1,s2]) rfl ?_
 exact⟨z,rfl,⟨s4 _ _ hzr.1,hzr.2⟩,hzd,hzv,s5 _ hk6 (by omega)⟩
theorem rDivUp_of (x y:RD) (p:Int) (D:Dy) (f:Int) (w:World) (hin:∀ W,Kp w W→Calls Tryz.prog 257 #[.agg #[.bool x.neg,.slice x.a x.xs.length x.c,.int .i64 x.e],.agg #[.bool y.neg,.slice y.a y.xs.length y.c,.int .i64 y.e],.int .i64 p,.bool true] W (NumE W D f)) :
  Calls Tryz.prog 224 #[.agg #[.bool x.neg,.slice x.a x.xs.length x.c,.int .i64 x.e],.agg #[.bool y.neg,.slice y.a y.xs.length y.c,.int .i64 y.e],.int .i64 p] w (NumE w D f):=by
 have Ha:=hid hin
 clear hin
 go_enter Tryz.func224,Tryz.ntmps224
 go_wp2_with fail
 generalize hW:(((w.alloc _).alloc _).alloc _)=W at *
 have hk:Kp w W:=hW▸(((Kp.refl w).alloc _).alloc _).alloc _
 have hB:Box3 W (w.heap.size+2) (.bool false) (.slice none 0 0) (.int .i64 0):=hW▸Box3.new3 _ _ _ _ _ _ _
 clear hW
 refine (Ha.out _ hk).mono ?_
 rintro e w5 ⟨z,rfl,hzr,hzd,hzv,hk5⟩
 obtain⟨q0,q1,q2,f0,f1,f2⟩:=hB.kp hk5
 have hk6:=hk.trans hk5
 clear hB hk5
 have hst:=stored q0 q1 q2 nofun nofun nofun (.bool z.neg) (.slice z.a z.xs.length z.c) (.int .i64 z.e)
 go_wp2_with fail
 generalize (((w5.setCell _ _).setCell _ _).setCell _ _)=W2 at hst ⊢
 obtain⟨s0,s1,s2,_,s4,s5,_,_⟩:=hst
 refine bodyPost_ret (v:=.tuple #[.agg #[.bool z.neg,.slice z.a z.xs.length z.c,.int .i64 z.e],.int .i64 f]) (by simp[results,Tryz.results224,go_sem,s0,s1,s2]) rfl ?_
 exact⟨z,rfl,⟨s4 _ _ hzr.1,hzr.2⟩,hzd,hzv,s5 _ hk6 (by omega)⟩
section
def ofI (v:Int):Dy:=canon (decide (v<0)) v.natAbs (-16384)
theorem ofI_iv (v:Int):(ofI v).iv=v:=by
 unfold ofI
 rw[canon_iv _ _ _ (Int.le_refl _)]
 show sg _ (v.natAbs*2 ^ 0)=v
 rw[Nat.pow_zero,Nat.mul_one]
 unfold sg
 by_cases h:v<0
 ·rw[if_pos (by simpa using h)];omega
 rw[if_neg (by simpa using h)];omega
theorem canon_ofI (s:Bool) (n:Nat) (e:Int) (h:-16384≤e):canon s n e=ofI (sg s (n*2 ^ (e+16384).toNat)):=by
 by_cases h0:n=0
 ·subst h0
  rw[canon_zero,Nat.zero_mul,sg_zero]
  rfl
 have hp:0<n*2 ^ (e+16384).toNat:=Nat.mul_pos (by omega) (Nat.pow_pos (by decide))
 have e1:canon s n e=canon s (n*2 ^ (e+16384).toNat) (-16384):=by
  rw[canon_shift];congr 1;omega
 rw[e1]
 generalize n*2 ^ (e+16384).toNat=V at *
 unfold ofI sg
 cases s
 ·have h1:decide ((V:Int)<0)=false:=by simp
  simp only[Bool.false_eq_true,if_false,h1,Int.natAbs_natCast]
 have h1:decide (-(V:Int)<0)=true:=by simp;omega
 simp only[if_true,h1,Int.natAbs_neg,Int.natAbs_natCast]
theorem ofI_of_ok {d:Dy} (h:d.ok):ofI d.iv=d:=by
 have e:=canon_ofI d.neg d.m d.e (ok_e h).1
 rw[canon_ok h] at e
 exact e.symm
def sumD (d f:Dy):Dy:=ofI (d.iv+f.iv)
theorem sumD_iv (d f:Dy):(sumD d f).iv=d.iv+f.iv:=ofI_iv _
theorem sumD_zero {d:Dy} (h:d.ok):sumD .zero d=d:=by
 unfold sumD;rw[Dy.iv_zero,Int.zero_add];exact ofI_of_ok h
theorem sumD_zero' {d:Dy} (h:d.ok):sumD d .zero=d:=by
 unfold sumD;rw[Dy.iv_zero,Int.add_zero];exact ofI_of_ok h
theorem sumD_comm (d f:Dy):sumD d f=sumD f d:=by unfold sumD;rw[Int.add_comm]
theorem iv_at {d:Dy} {k:Int} (h0:-16384≤k) (hk:k≤d.e):d.iv=sg d.neg (d.m*2 ^ (d.e-k).toNat*2 ^ (k+16384).toNat):=by
 unfold Dy.iv
 rw[Nat.mul_assoc,← Nat.pow_add]
 congr 3;omega
theorem sum_same {d f:Dy} {k:Int} (h0:-16384≤k) (hd:k≤d.e) (hf:k≤f.e) (hs:d.neg=f.neg):sumD d f=canon d.neg (d.m*2 ^ (d.e-k).toNat+f.m*2 ^ (f.e-k).toNat) k:=by
 rw[canon_ofI _ _ _ h0]
 unfold sumD
 rw[iv_at h0 hd,iv_at h0 hf,← hs,Nat.add_mul]
 congr 1
 unfold sg
 split <;> push_cast <;> omega
theorem sum_diff {d f:Dy} {k:Int} (h0:-16384≤k) (hd:k≤d.e) (hf:k≤f.e) (hs:d.neg≠f.neg) (hle:f.m*2 ^ (f.e-k).toNat≤d.m*2 ^ (d.e-k).toNat):sumD d f=canon d.neg (d.m*2 ^ (d.e-k).toNat-f.m*2 ^ (f.e-k).toNat) k:=by
 rw[canon_ofI _ _ _ h0]
 unfold sumD
 rw[iv_at h0 hd,iv_at h0 hf,Nat.sub_mul]
 have hle2:=Nat.mul_le_mul_right (2 ^ (k+16384).toNat) hle
 generalize d.m*2 ^ (d.e-k).toNat*2 ^ (k+16384).toNat=A at *
 generalize f.m*2 ^ (f.e-k).toNat*2 ^ (k+16384).toNat=B at *
 congr 1
 unfold sg
 cases hd':d.neg <;> cases hf':f.neg <;> simp_all <;> omega
end
def farB (d f:Dy):Prop:=4097<max (topI d) (topI f)-min d.e f.e∧(1<topI d-topI f∨1<topI f-topI d)
instance (d f:Dy):Decidable (farB d f):=by unfold farB;exact inferInstance
theorem bits_add_le {P Q k:Nat} (hP:bits P≤k) (hQ:bits Q≤k):bits (P+Q)≤k+1:=by
 rw[bits_le] at *
 rw[Nat.pow_succ]
 omega
theorem cmpN_nlt {m n:Nat} (h:n≤m):¬ cmpN m n<0:=by unfold cmpN;rw[if_neg (by omega)];split <;> omega
theorem cmpN_isneg {m n:Nat} (h:m<n):cmpN m n<0:=by rw[cmpN_lt h];decide
theorem len_is0 {n:Nat} (h:n=0):(((limbs n).length:Int)==0)=true:=by subst h;rw[limbs_zero];rfl
theorem rdok_at {w:World} {x:RD} (h:x.ok w):DyAt w x.dy x.a x.c:=⟨rdok_dy h,by rw[rdok_limbs h];exact h.1.1,by rw[rdok_limbs h];exact h.1.2.1,h.1.2.2.1⟩
theorem keepRR {w w':World} (k:Kp w w') {g h:Nat} {x y:RD} (hS:w.cell? ⟨g,0,none⟩=some (.bool x.neg)∧w.cell? ⟨g,1,none⟩=some (.slice x.a x.xs.length x.c)∧w.cell? ⟨g,2,none⟩=some (.int .i64 x.e)∧w.cell? ⟨h,0,none⟩=some (.bool y.neg)∧w.cell? ⟨h,1,none⟩=some (.slice y.a y.xs.length y.c)∧w.cell? ⟨h,2,none⟩=some (.int .i64 y.e)):w'.cell? ⟨g,0,none⟩=some (.bool x.neg)∧w'.cell? ⟨g,1,none⟩=some (.slice x.a x.xs.length x.c)∧w'.cell? ⟨g,2,none⟩=some (.int .i64 x.e)∧w'.cell? ⟨h,0,none⟩=some (.bool y.neg)∧w'.cell? ⟨h,1,none⟩=some (.slice y.a y.xs.length y.c)∧w'.cell? ⟨h,2,none⟩=some (.int .i64 y.e):=keep6 k hS
theorem setRR {w:World} {o g h:Nat} (n:g≠o) (n':h≠o) {x y:RD} {v0 v1 v2:Value} (hS:w.cell? ⟨g,0,none⟩=some (.bool x.neg)∧w.cell? ⟨g,1,none⟩=some (.slice x.a x.xs.length x.c)∧w.cell? ⟨g,2,none⟩=some (.int .i64 x.e)∧w.cell? ⟨h,0,none⟩=some (.bool y.neg)∧w.cell? ⟨h,1,none⟩=some (.slice y.a y.xs.length y.c)∧w.cell? ⟨h,2,none⟩=some (.int .i64 y.e)) :
  (((w.setCell ⟨o,0,none⟩ v0).setCell ⟨o,1,none⟩ v1).setCell ⟨o,2,none⟩ v2).cell? ⟨g,0,none⟩=some (.bool x.neg)∧(((w.setCell ⟨o,0,none⟩ v0).setCell ⟨o,1,none⟩ v1).setCell ⟨o,2,none⟩ v2).cell? ⟨g,1,none⟩=some (.slice x.a x.xs.length x.c)∧(((w.setCell ⟨o,0,none⟩ v0).setCell ⟨o,1,none⟩ v1).setCell ⟨o,2,none⟩ v2).cell? ⟨g,2,none⟩=some (.int .i64 x.e)∧(((w.setCell ⟨o,0,none⟩ v0).setCell ⟨o,1,none⟩ v1).setCell ⟨o,2,none⟩ v2).cell? ⟨h,0,none⟩=some (.bool y.neg)∧(((w.setCell ⟨o,0,none⟩ v0).setCell ⟨o,1,none⟩ v1).setCell ⟨o,2,none⟩ v2).cell? ⟨h,1,none⟩=some (.slice y.a y.xs.length y.c)∧(((w.setCell ⟨o,0,none⟩ v0).setCell ⟨o,1,none⟩ v1).setCell ⟨o,2,none⟩ v2).cell? ⟨h,2,none⟩=some (.int .i64 y.e):=by
 obtain⟨a0,a1,a2,b0,b1,b2⟩:=hS
 obtain⟨c0,c1,c2⟩:=set3x (x0:=v0) (x1:=v1) (x2:=v2) n ⟨a0,a1,a2⟩
 obtain⟨d0,d1,d2⟩:=set3x (x0:=v0) (x1:=v1) (x2:=v2) n' ⟨b0,b1,b2⟩
 exact⟨c0,c1,c2,d0,d1,d2⟩
theorem Bits_rok (x:RD) (w:World) (h:x.ok w) :
  Calls Tryz.prog 281 #[.agg #[.bool x.neg,.slice x.a x.xs.length x.c,.int .i64 x.e]] w fun e w'=>e=.returned (.int .i64 (bits (val x.xs)))∧Kp w w':=by
 have H:=Bits_ok x.dy x.a x.c w (rdok_at h)
 rw[rdok_limbs h] at H
 exact H
section
theorem short_step {xs zs:List Nat} {d k r:Nat} (hk:k<xs.length) (hl:zs.length=xs.length) (_hr:r<d)
  (h:val (zs.drop (k+1))*d+r=val (xs.drop (k+1))) :
  val ((zs.set k ((nth xs k+4294967296*r)/d)).drop k)*d+(nth xs k+4294967296*r) % d=val (xs.drop k):=by
 have e1:(zs.set k ((nth xs k+4294967296*r)/d)).drop k=(nth xs k+4294967296*r)/d::zs.drop (k+1):=by
  rw[set_eq_take_drop (by omega),List.drop_append,List.drop_of_length_le (by simp;omega)]
  simp[Nat.min_eq_left (by omega:k≤zs.length)]
 rw[e1,drop_eq_nth hk,val_cons,val_cons,← h]
 have h2:=Nat.div_add_mod (nth xs k+4294967296*r) d
 generalize (nth xs k+4294967296*r)/d=q at *
 generalize (nth xs k+4294967296*r) % d=s at *
 generalize val (zs.drop (k+1))=V at *
 rw[Nat.add_mul,Nat.mul_comm q d,Nat.mul_assoc,Nat.mul_add]
 omega
theorem short_digit {x d r:Nat} (hx:x<4294967296) (hr:r<d):(x+4294967296*r)/d<4294967296:=by
 rw[Nat.div_lt_iff_lt_mul (by omega)]
 calc x+4294967296*r<4294967296+4294967296*r:=by omega
  _=4294967296*(r+1):=by omega
  _≤4294967296*d:=Nat.mul_le_mul_left _ hr
end
end Go.Proofs.YteidgoldnllabaaGreatDoor
