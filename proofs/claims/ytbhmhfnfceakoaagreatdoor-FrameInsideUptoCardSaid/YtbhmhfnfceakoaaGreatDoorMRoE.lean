/-
  Walks: round.signed, round.
-/
import Derived.Test.YtbhmhfnfceakoaaGreatDoorMRoD
import Derived.Test.YtbhmhfnfceakoaaGreatDoorMSig
import Derived.Test.YtbhmhfnfceakoaaGreatDoorMOpen
import Derived.Test.YtbhmhfnfceakoaaGreatDoorMCmp
namespace Go.Proofs.YtbhmhfnfceakoaaGreatDoor
open Go.RowKit
open Lib (hid)
def sgnR (neg:Bool) (R:Option Dy):Option Dy:=if neg then R.map Dy.opp else R
set_option maxRecDepth 100000 in
set_option maxHeartbeats 8000000 in
theorem signed_pos (a:Option Addr) (xs:List Nat) (c:Nat) (ex:Int) (more:Bool) (p:Nat) (up:Bool) (w:World) (hx:Rd w a xs) (hxl:xs.length≤256) (hxc:xs.length≤c) (hc:c≤maxLen) (he0:-200000≤ex) (he1:ex≤200000) (hp0:8≤p) (hp1:p≤512) (hT:Tab w) :
  Calls Tryz.prog 202 #[.bool false,.agg #[.slice a xs.length c,.int .i64 ex,.bool more],.int .i64 p,.bool up] w (NumE w (rndE (sgnR false (rcut (val xs) ex more p up))).1 (rndE (sgnR false (rcut (val xs) ex more p up))).2):=by
 cases hR:rcut (val xs) ex more p up with
 | some D =>
  have HR:=hid hR
  clear hR
  cases up
  all_goals
   go_enter Tryz.func202,Tryz.ntmps202
   go_wp2_with fail
   generalize hW:((w.alloc _).alloc _)=W at *
   have hk:Kp w W:=hW▸((Kp.refl w).alloc _).alloc _
   have hB:Box3 W (w.heap.size+1) (.bool false) (.slice none 0 0) (.int .i64 0):=hW▸Box3.new2 _ _ _ _ _ _
   clear hW
   refine (cut_any a xs c ex more p _ _ (hx.kp hk) hxl hxc hc he0 he1 hp0 hp1 (hT.kp hk)).mono ?_
   have hRe:=HR.out
   (try simp only[Bool.not_true,Bool.not_false] at hRe)
   simp only[hRe]
   clear hRe
   rintro e w3 ⟨y,rfl,hy,hd,hv,hk2⟩
   have hk3:=hk2.alloc (.cells #[.bool y.neg,.slice y.a y.xs.length y.c,.int .i64 y.e] 38)
   have hyr:=hy.kp ((Kp.refl w3).alloc (.cells #[.bool y.neg,.slice y.a y.xs.length y.c,.int .i64 y.e] 38))
   dsimp only[rndE,sgnR,if_true,if_false,Option.map] at hd hv ⊢
   have hB3:=hB.kp hk3
   have hk4:=hk.trans hk3
   obtain⟨q0,q1,q2,f0,f1,f2⟩:=hB3
   go_wp2_with fail
   have hst:=stored q0 q1 q2 nofun nofun nofun (.bool y.neg) (.slice y.a y.xs.length y.c) (.int .i64 y.e)
   generalize (((World.setCell _ _ _).setCell _ _).setCell _ _)=W9 at hst ⊢
   obtain⟨s0,s1,s2,_,s4,s5,_,_⟩:=hst
   refine bodyPost_ret (v:=.tuple #[.agg #[.bool y.neg,.slice y.a y.xs.length y.c,.int .i64 y.e],.int .i64 0]) (by simp[results,Tryz.results202,go_sem,s0,s1,s2]) rfl ?_
   exact⟨y,rfl,⟨s4 _ _ hyr.1,hy.2⟩,hd,hv,s5 _ hk4 (by omega)⟩
 | none =>
 have HR:=hid hR
 clear hR
 cases up
 all_goals
  go_enter Tryz.func202,Tryz.ntmps202
  go_wp2_with fail
  generalize hW:((w.alloc _).alloc _)=W at *
  have hk:Kp w W:=hW▸((Kp.refl w).alloc _).alloc _
  have hB:Box3 W (w.heap.size+1) (.bool false) (.slice none 0 0) (.int .i64 0):=hW▸Box3.new2 _ _ _ _ _ _
  clear hW
  refine (cut_any a xs c ex more p _ _ (hx.kp hk) hxl hxc hc he0 he1 hp0 hp1 (hT.kp hk)).mono ?_
  have hRe:=HR.out
  (try simp only[Bool.not_true,Bool.not_false] at hRe)
  simp only[hRe]
  clear hRe
  rintro e w3 ⟨y,rfl,hy,hd,hv,hk2⟩
  have hk3:=hk2.alloc (.cells #[.bool y.neg,.slice y.a y.xs.length y.c,.int .i64 y.e] 38)
  have hyr:=hy.kp ((Kp.refl w3).alloc (.cells #[.bool y.neg,.slice y.a y.xs.length y.c,.int .i64 y.e] 38))
  dsimp only[rndE,sgnR,if_true,if_false,Option.map] at hd hv ⊢
  have hB3:=hB.kp hk3
  have hk4:=hk.trans hk3
  obtain⟨q0,q1,q2,f0,f1,f2⟩:=hB3
  go_wp2_with fail
  have hst:=stored q0 q1 q2 nofun nofun nofun (.bool y.neg) (.slice y.a y.xs.length y.c) (.int .i64 y.e)
  generalize (((World.setCell _ _ _).setCell _ _).setCell _ _)=W9 at hst ⊢
  obtain⟨s0,s1,s2,_,s4,s5,_,_⟩:=hst
  refine bodyPost_ret (v:=.tuple #[.agg #[.bool y.neg,.slice y.a y.xs.length y.c,.int .i64 y.e],.int .i64 9]) (by simp[results,Tryz.results202,go_sem,s0,s1,s2]) rfl ?_
  exact⟨y,rfl,⟨s4 _ _ hyr.1,hy.2⟩,hd,hv,s5 _ hk4 (by omega)⟩
set_option maxRecDepth 100000 in
set_option maxHeartbeats 8000000 in
theorem signed_neg (a:Option Addr) (xs:List Nat) (c:Nat) (ex:Int) (more:Bool) (p:Nat) (up:Bool) (w:World) (hx:Rd w a xs) (hxl:xs.length≤256) (hxc:xs.length≤c) (hc:c≤maxLen) (he0:-200000≤ex) (he1:ex≤200000) (hp0:8≤p) (hp1:p≤512) (hT:Tab w) :
  Calls Tryz.prog 202 #[.bool true,.agg #[.slice a xs.length c,.int .i64 ex,.bool more],.int .i64 p,.bool up] w (NumE w (rndE (sgnR true (rcut (val xs) ex more p (!up)))).1 (rndE (sgnR true (rcut (val xs) ex more p (!up)))).2):=by
 cases hR:rcut (val xs) ex more p (!up) with
 | none =>
  have HR:=hid hR
  clear hR
  cases up
  all_goals
   go_enter Tryz.func202,Tryz.ntmps202
   go_wp2_with fail
   generalize hW:((w.alloc _).alloc _)=W at *
   have hk:Kp w W:=hW▸((Kp.refl w).alloc _).alloc _
   have hB:Box3 W (w.heap.size+1) (.bool false) (.slice none 0 0) (.int .i64 0):=hW▸Box3.new2 _ _ _ _ _ _
   clear hW
   refine (cut_any a xs c ex more p _ _ (hx.kp hk) hxl hxc hc he0 he1 hp0 hp1 (hT.kp hk)).mono ?_
   have hRe:=HR.out
   (try simp only[Bool.not_true,Bool.not_false] at hRe)
   simp only[hRe]
   clear hRe
   rintro e w3 ⟨y,rfl,hy,hd,hv,hk2⟩
   have hk3:=hk2.alloc (.cells #[.bool y.neg,.slice y.a y.xs.length y.c,.int .i64 y.e] 38)
   have hyr:=hy.kp ((Kp.refl w3).alloc (.cells #[.bool y.neg,.slice y.a y.xs.length y.c,.int .i64 y.e] 38))
   dsimp only[rndE,sgnR,if_true,if_false,Option.map] at hd hv ⊢
   have hB3:=hB.kp hk3
   have hk4:=hk.trans hk3
   obtain⟨q0,q1,q2,f0,f1,f2⟩:=hB3
   go_wp2_with fail
   have hst:=stored q0 q1 q2 nofun nofun nofun (.bool y.neg) (.slice y.a y.xs.length y.c) (.int .i64 y.e)
   generalize (((World.setCell _ _ _).setCell _ _).setCell _ _)=W9 at hst ⊢
   obtain⟨s0,s1,s2,_,s4,s5,_,_⟩:=hst
   refine bodyPost_ret (v:=.tuple #[.agg #[.bool y.neg,.slice y.a y.xs.length y.c,.int .i64 y.e],.int .i64 9]) (by simp[results,Tryz.results202,go_sem,s0,s1,s2]) rfl ?_
   exact⟨y,rfl,⟨s4 _ _ hyr.1,hy.2⟩,hd,hv,s5 _ hk4 (by omega)⟩
 | some D =>
 have HR:=hid hR
 have hDok:=hid (rcut_isP (by omega) (by omega) hR).1.1
 clear hR
 cases up
 all_goals
  go_enter Tryz.func202,Tryz.ntmps202
  go_wp2_with fail
  generalize hW:((w.alloc _).alloc _)=W at *
  have hk:Kp w W:=hW▸((Kp.refl w).alloc _).alloc _
  have hB:Box3 W (w.heap.size+1) (.bool false) (.slice none 0 0) (.int .i64 0):=hW▸Box3.new2 _ _ _ _ _ _
  clear hW
  refine (cut_any a xs c ex more p _ _ (hx.kp hk) hxl hxc hc he0 he1 hp0 hp1 (hT.kp hk)).mono ?_
  have hRe:=HR.out
  (try simp only[Bool.not_true,Bool.not_false] at hRe)
  simp only[hRe]
  clear hRe
  rintro e w3 ⟨y,rfl,hy,hd,hv,hk2⟩
  have hk3:=hk2.alloc (.cells #[.bool y.neg,.slice y.a y.xs.length y.c,.int .i64 y.e] 38)
  have hyr:=hy.kp ((Kp.refl w3).alloc (.cells #[.bool y.neg,.slice y.a y.xs.length y.c,.int .i64 y.e] 38))
  dsimp only[rndE,sgnR,if_true,if_false,Option.map] at hd hv ⊢
  have hyo:y.ok (w3.alloc (.cells #[.bool y.neg,.slice y.a y.xs.length y.c,.int .i64 y.e] 38)):=⟨hyr,hv hDok.out⟩
  have hY:=(Box3.new w3 (.bool y.neg) (.slice y.a y.xs.length y.c) (.int .i64 y.e) 38)
  have hB3:=hB.kp hk3
  have hk4:=hk.trans hk3
  have hz:=hk2.size
  have hz2:=World.block_lt_of_cell? _ _ hB.1
  clear hk2 hB hy hk
  go_wp2_with fail
  generalize w3.alloc _=W3 at *
  refine (Neg_ok y _ hyo).mono ?_
  rw[hd]
  rintro e w5 ⟨z,rfl,hzr,hzd,hzv,hk6⟩
  obtain⟨j0,j1,j2,g0,g1,g2⟩:=hY.kp hk6
  have hk7:=hk4.trans hk6
  have hB5:=hB3.kp hk6
  have hb5:=World.block_lt_of_cell? _ _ hB3.1
  clear hY hB3 hk6 hk4 hk3 hyo hyr
  obtain⟨q0,q1,q2,f0,f1,f2⟩:=hB5
  have hne:w.heap.size+1<w3.heap.size:=by omega
  have hne2:¬ w3.heap.size=w.heap.size+1:=by omega
  go_wp2_with fail
  have hst:=stored j0 j1 j2 nofun nofun nofun (.bool z.neg) (.slice z.a z.xs.length z.c) (.int .i64 z.e)
  generalize (((w5.setCell _ _).setCell _ _).setCell _ _)=W6 at hst ⊢
  obtain⟨s0,s1,s2,_,s4,s5,s6,_⟩:=hst
  have hzr6:z.rd W6:=⟨s4 _ _ hzr.1,hzr.2⟩
  have hk8:=s5 _ hk7 (by omega)
  have e6 (i:Nat):W6.cell? ⟨w.heap.size+1,i,none⟩=w5.cell? ⟨w.heap.size+1,i,none⟩:=s6 ⟨w.heap.size+1,i,none⟩ (fun e=>hne2 e.symm)
  rw[← e6] at q0 q1 q2
  have hst:=stored q0 q1 q2 nofun nofun nofun (.bool z.neg) (.slice z.a z.xs.length z.c) (.int .i64 z.e)
  clear s0 s1 s2 s4 s5 s6 e6
  generalize (((W6.setCell _ _).setCell _ _).setCell _ _)=W9 at hst ⊢
  obtain⟨s0,s1,s2,_,s4,s5,_,_⟩:=hst
  refine bodyPost_ret (v:=.tuple #[.agg #[.bool z.neg,.slice z.a z.xs.length z.c,.int .i64 z.e],.int .i64 0]) (by simp[results,Tryz.results202,go_sem,s0,s1,s2]) rfl ?_
  exact⟨z,rfl,⟨s4 _ _ hzr6.1,hzr6.2⟩,hzd,hzv,s5 _ hk8 (by omega)⟩
def rndS (neg:Bool) (m:Nat) (e:Int) (more:Bool) (p:Nat) (up:Bool):Option Dy:=sgnR neg (rcut m e more p (up != neg))
theorem signed_any (neg:Bool) (a:Option Addr) (xs:List Nat) (c:Nat) (ex:Int) (more:Bool) (p:Nat) (up:Bool) (w:World) (hx:Rd w a xs) (hxl:xs.length≤256) (hxc:xs.length≤c) (hc:c≤maxLen) (he0:-200000≤ex) (he1:ex≤200000) (hp0:8≤p) (hp1:p≤512) (hT:Tab w) :
  Calls Tryz.prog 202 #[.bool neg,.agg #[.slice a xs.length c,.int .i64 ex,.bool more],.int .i64 p,.bool up] w (NumE w (rndE (rndS neg (val xs) ex more p up)).1 (rndE (rndS neg (val xs) ex more p up)).2):=by
 cases neg with
 | true=>have:=signed_neg a xs c ex more p up w hx hxl hxc hc he0 he1 hp0 hp1 hT;unfold rndS;rwa [Bool.bne_true]
 | false=>have:=signed_pos a xs c ex more p up w hx hxl hxc hc he0 he1 hp0 hp1 hT;unfold rndS;rwa [Bool.bne_false]
theorem rndS_ok {neg:Bool} {m:Nat} {e:Int} {more:Bool} {p:Nat} {up:Bool} (hp:8≤p) (hp2:p≤512):(rndE (rndS neg m e more p up)).1.ok:=by
 unfold rndS sgnR
 cases h:rcut m e more p (up != neg) with
 | none=>cases neg <;> exact Dy.ok_zero
 | some d =>
 have:=(rcut_isP (by omega) (by omega) h).1.1
 cases neg
 ·exact this
 exact Dy.opp_ok this
theorem rowD_one (w:World) (x:RD) (hx:x.rd w) (t:TypeId):RowD (w.alloc (.cells #[.bool x.neg,.slice x.a x.xs.length x.c,.int .i64 x.e] t)) (some ⟨w.heap.size,0,none⟩) [x]:=by
 intro i z hi
 match i with
 | 0 =>
  simp only[List.getElem?_cons_zero,Option.some.injEq] at hi
  subst hi
  refine⟨_,0,rfl,hx.kp ((Kp.refl w).alloc _),?_,?_,?_⟩ <;> simp
 | i+1=>simp at hi
theorem rowD_two (w:World) (x y:RD) (hx:x.rd w) (hy:y.rd w) (t:TypeId):RowD (w.alloc (.cells #[.bool x.neg,.slice x.a x.xs.length x.c,.int .i64 x.e,.bool y.neg,.slice y.a y.xs.length y.c,.int .i64 y.e] t)) (some ⟨w.heap.size,0,none⟩) [x,y]:=by
 intro i z hi
 match i with
 | 0 =>
  simp only[List.getElem?_cons_zero,Option.some.injEq] at hi
  subst hi
  refine⟨_,0,rfl,hx.kp ((Kp.refl w).alloc _),?_,?_,?_⟩ <;> simp
 | 1 =>
  simp only[List.getElem?_cons_succ,List.getElem?_cons_zero,Option.some.injEq] at hi
  subst hi
  refine⟨_,0,rfl,hy.kp ((Kp.refl w).alloc _),?_,?_,?_⟩ <;> simp
 | i+2=>simp at hi
def rndB (x:RD) (p:Int) (up:Bool):Dy×Int:=if fltB p [x]=0 then rndE (rndS x.neg (val x.xs) x.e false p.toNat up) else (.zero,fltB p [x])
theorem fltB_zero {p:Int} {ys:List RD}:fltB p ys=0↔ys.all RD.vl=true∧8≤p∧p≤512:=by
 unfold fltB
 have hp:=@preB_iff p
 cases h:ys.all RD.vl with
 | false=>simp
 | true =>
 cases h2:preB p with
 | true=>rw[h2] at hp;simpa using hp
 | false=>rw[h2] at hp;simp;simp at hp;omega
set_option maxRecDepth 100000 in
set_option maxHeartbeats 8000000 in
theorem Round_any (x:RD) (p:Int) (up:Bool) (w:World) (hx:x.rd w) (hT:Tab w) :
  Calls Tryz.prog 220 #[.agg #[.bool x.neg,.slice x.a x.xs.length x.c,.int .i64 x.e],.int .i64 p,.bool up] w (NumE w (rndB x p up).1 (rndB x p up).2):=by
 have hF:=fltB_zero (p:=p) (ys:=[x])
 have HR:=hid (show rndB x p up=if fltB p [x]=0 then rndE (rndS x.neg (val x.xs) x.e false p.toNat up) else (.zero,fltB p [x]) from rfl)
 have HF:=hid hF
 clear hF
 go_enter Tryz.func220,Tryz.ntmps220
 go_wp2_with fail
 generalize hW:((w.alloc _).alloc _)=W at *
 have hk:Kp w W:=hW▸((Kp.refl w).alloc _).alloc _
 have hS:W.cell? ⟨w.heap.size,0,none⟩=some (.bool x.neg)∧W.cell? ⟨w.heap.size,1,none⟩=some (.slice x.a x.xs.length x.c)∧W.cell? ⟨w.heap.size,2,none⟩=some (.int .i64 x.e):=by rw[← hW];simp
 have hB:Box3 W (w.heap.size+1) (.bool false) (.slice none 0 0) (.int .i64 0):=hW▸Box3.new2 _ _ _ _ _ _
 have hsz:W.heap.size=w.heap.size+1+1:=by rw[← hW];simp
 clear hW
 have hka:=(Kp.refl W).alloc (.cells #[.bool x.neg,.slice x.a x.xs.length x.c,.int .i64 x.e] 38)
 have hRw:=rowD_one W x (hx.kp hk) 38
 rw[hsz] at hRw
 clear hsz
 refine (fault_any p _ [x] 1 _ hRw (by simp)).mono ?_
 clear hRw
 rintro e w1 ⟨rfl,hk1⟩
 have hS1:=keep3 (hka.trans hk1) hS
 have hB1:=hB.kp (hka.trans hk1)
 have hk2:=hk.trans (hka.trans hk1)
 clear hS hB hk hk1 hka
 by_cases h0:fltB p [x]=0
 rotate_left
 ·have hR:=HR.out
  rw[if_neg h0] at hR
  have HR2:=hid hR
  have hz:(fltB p [x]==0)=false:=beq_eq_false_iff_ne.2 h0
  have hz2:(fltB p [x] != 0)=true:=by rw[bne,hz];rfl
  clear h0 hR HR HF
  obtain⟨q0,q1,q2,f0,f1,f2⟩:=hB1
  go_wp2_with fail
  have hst:=stored q0 q1 q2 nofun nofun nofun (.bool false) (.slice none 0 0) (.int .i64 0)
  generalize (((w1.setCell _ _).setCell _ _).setCell _ _)=W9 at hst ⊢
  obtain⟨s0,s1,s2,_,s4,s5,_,_⟩:=hst
  refine bodyPost_ret (v:=.tuple #[.agg #[.bool false,.slice none 0 0,.int .i64 0],.int .i64 (fltB p [x])]) (by simp[results,Tryz.results220,go_sem,s0,s1,s2]) rfl ?_
  rw[HR2.out]
  exact numE_zero rfl (s5 _ hk2 (by omega))
 have hp:=HF.out.1 h0
 have hR:=HR.out
 rw[if_pos h0] at hR
 obtain⟨hv,hp0,hp1⟩:=hp
 obtain⟨q,rfl⟩:=Int.eq_ofNat_of_zero_le (show 0≤p by omega)
 rw[Int.toNat_natCast] at hR
 have hxo:x.ok w:=⟨hx,by simpa using hv⟩
 have HR2:=hid hR
 have hlen:=rdok_len hxo
 have he:=rdok_e hxo
 rw[h0]
 clear h0 hv hR HR HF
 go_wp2_with fail
 have hx1:=(hxo.kp hk2).drew
 have hT1:=hT.kp hk2.drew
 have hS2:=keep3 (Kp.refl w1).drew hS1
 have hB2:=hB1.kp (Kp.refl w1).drew
 have hk3:=hk2.drew
 clear hS1 hB1 hk2
 go_region_held3 (fun w'=>w'.cell? ⟨w.heap.size,0,none⟩=some (.bool x.neg)∧w'.cell? ⟨w.heap.size,1,none⟩=some (.slice x.a x.xs.length x.c)∧w'.cell? ⟨w.heap.size,2,none⟩=some (.int .i64 x.e)) (first | with_reducible assumption | with_reducible exact keep3 (by assumption) (by assumption) | with_reducible exact set3x (by omega) (by assumption))
  (first
   | (go_at_call 237;refine (of_any x _).mono ?_;rintro e w4 ⟨rfl,hk4⟩)
   | (go_at_call 202;refine (signed_any x.neg x.a x.xs x.c x.e false q up _ (hx1.1.1.kp hk4) (by omega) hx1.1.2.1 hx1.1.2.2.1 (by omega) (by omega) (by omega) (by omega) (hT1.kp hk4)).mono ?_;rintro e w5 ⟨y,rfl,hy,hd,hv,hk5⟩;obtain⟨q0,q1,q2,f0,f1,f2⟩:=hB2.kp (hk4.trans hk5)))
 have hk6:=hk3.trans (hk4.trans hk5)
 clear hS2 hB2 hx1 hT1
 have hst:=stored q0 q1 q2 nofun nofun nofun (.bool y.neg) (.slice y.a y.xs.length y.c) (.int .i64 y.e)
 go_wp2_with fail
 generalize (((w5.setCell _ _).setCell _ _).setCell _ _)=W2 at hst ⊢
 obtain⟨s0,s1,s2,_,s4,s5,_,_⟩:=hst
 refine bodyPost_ret (v:=.tuple #[.agg #[.bool y.neg,.slice y.a y.xs.length y.c,.int .i64 y.e],.int .i64 (rndE (rndS x.neg (val x.xs) x.e false q up)).2]) (by simp[results,Tryz.results220,go_sem,s0,s1,s2]) rfl ?_
 rw[HR2.out]
 exact⟨y,rfl,⟨s4 _ _ hy.1,hy.2⟩,hd,hv,s5 _ hk6 (by omega)⟩
theorem rAddDown_of (x y:RD) (p:Int) (D:Dy) (f:Int) (w:World) (hin:∀ W,Kp w W→Calls Tryz.prog 190 #[.agg #[.bool x.neg,.slice x.a x.xs.length x.c,.int .i64 x.e],.agg #[.bool y.neg,.slice y.a y.xs.length y.c,.int .i64 y.e],.int .i64 p,.bool false] W (NumE W D f)) :
  Calls Tryz.prog 140 #[.agg #[.bool x.neg,.slice x.a x.xs.length x.c,.int .i64 x.e],.agg #[.bool y.neg,.slice y.a y.xs.length y.c,.int .i64 y.e],.int .i64 p] w (NumE w D f):=by
 have Ha:=hid hin
 clear hin
 go_enter Tryz.func140,Tryz.ntmps140
 go_wp2_with fail
 generalize hW:(((w.alloc _).alloc _).alloc _)=W at *
 have hk:Kp w W:=hW▸(((Kp.refl w).alloc _).alloc _).alloc _
 have hB:Box3 W (w.heap.size+2) (.bool false) (.slice none 0 0) (.int .i64 0):=hW▸Box3.new3 _ _ _ _ _ _ _
 clear hW
 refine (Ha.out _ hk).mono ?_
 rintro e w5 ⟨z,rfl,hzr,hzd,hzv,hk5⟩
 obtain⟨q0,q1,q2,f0,f1,f2⟩:=hB.kp hk5
 have hk6:=hk.trans hk5
 clear hB hk5
 have hst:=stored q0 q1 q2 nofun nofun nofun (.bool z.neg) (.slice z.a z.xs.length z.c) (.int .i64 z.e)
 go_wp2_with fail
 generalize (((w5.setCell _ _).setCell _ _).setCell _ _)=W2 at hst ⊢
 obtain⟨s0,s1,s2,_,s4,s5,_,_⟩:=hst
 refine bodyPost_ret (v:=.tuple #[.agg #[.bool z.neg,.slice z.a z.xs.length z.c,.int .i64 z.e],.int .i64 f]) (by simp[results,Tryz.results140,go_sem,s0,s1,s2]) rfl ?_
 exact⟨z,rfl,⟨s4 _ _ hzr.1,hzr.2⟩,hzd,hzv,s5 _ hk6 (by omega)⟩
theorem rAddUp_of (x y:RD) (p:Int) (D:Dy) (f:Int) (w:World) (hin:∀ W,Kp w W→Calls Tryz.prog 190 #[.agg #[.bool x.neg,.slice x.a x.xs.length x.c,.int .i64 x.e],.agg #[.bool y.neg,.slice y.a y.xs.length y.c,.int .i64 y.e],.int .i64 p,.bool true] W (NumE W D f)) :
  Calls Tryz.prog 154 #[.agg #[.bool x.neg,.slice x.a x.xs.length x.c,.int .i64 x.e],.agg #[.bool y.neg,.slice y.a y.xs.length y.c,.int .i64 y.e],.int .i64 p] w (NumE w D f):=by
 have Ha:=hid hin
 clear hin
 go_enter Tryz.func154,Tryz.ntmps154
 go_wp2_with fail
 generalize hW:(((w.alloc _).alloc _).alloc _)=W at *
 have hk:Kp w W:=hW▸(((Kp.refl w).alloc _).alloc _).alloc _
 have hB:Box3 W (w.heap.size+2) (.bool false) (.slice none 0 0) (.int .i64 0):=hW▸Box3.new3 _ _ _ _ _ _ _
 clear hW
 refine (Ha.out _ hk).mono ?_
 rintro e w5 ⟨z,rfl,hzr,hzd,hzv,hk5⟩
 obtain⟨q0,q1,q2,f0,f1,f2⟩:=hB.kp hk5
 have hk6:=hk.trans hk5
 clear hB hk5
 have hst:=stored q0 q1 q2 nofun nofun nofun (.bool z.neg) (.slice z.a z.xs.length z.c) (.int .i64 z.e)
 go_wp2_with fail
 generalize (((w5.setCell _ _).setCell _ _).setCell _ _)=W2 at hst ⊢
 obtain⟨s0,s1,s2,_,s4,s5,_,_⟩:=hst
 refine bodyPost_ret (v:=.tuple #[.agg #[.bool z.neg,.slice z.a z.xs.length z.c,.int .i64 z.e],.int .i64 f]) (by simp[results,Tryz.results154,go_sem,s0,s1,s2]) rfl ?_
 exact⟨z,rfl,⟨s4 _ _ hzr.1,hzr.2⟩,hzd,hzv,s5 _ hk6 (by omega)⟩
theorem rMulDown_of (x y:RD) (p:Int) (D:Dy) (f:Int) (w:World) (hin:∀ W,Kp w W→Calls Tryz.prog 165 #[.agg #[.bool x.neg,.slice x.a x.xs.length x.c,.int .i64 x.e],.agg #[.bool y.neg,.slice y.a y.xs.length y.c,.int .i64 y.e],.int .i64 p,.bool false] W (NumE W D f)) :
  Calls Tryz.prog 174 #[.agg #[.bool x.neg,.slice x.a x.xs.length x.c,.int .i64 x.e],.agg #[.bool y.neg,.slice y.a y.xs.length y.c,.int .i64 y.e],.int .i64 p] w (NumE w D f):=by
 have Ha:=hid hin
 clear hin
 go_enter Tryz.func174,Tryz.ntmps174
 go_wp2_with fail
 generalize hW:(((w.alloc _).alloc _).alloc _)=W at *
 have hk:Kp w W:=hW▸(((Kp.refl w).alloc _).alloc _).alloc _
 have hB:Box3 W (w.heap.size+2) (.bool false) (.slice none 0 0) (.int .i64 0):=hW▸Box3.new3 _ _ _ _ _ _ _
 clear hW
 refine (Ha.out _ hk).mono ?_
 rintro e w5 ⟨z,rfl,hzr,hzd,hzv,hk5⟩
 obtain⟨q0,q1,q2,f0,f1,f2⟩:=hB.kp hk5
 have hk6:=hk.trans hk5
 clear hB hk5
 have hst:=stored q0 q1 q2 nofun nofun nofun (.bool z.neg) (.slice z.a z.xs.length z.c) (.int .i64 z.e)
 go_wp2_with fail
 generalize (((w5.setCell _ _).setCell _ _).setCell _ _)=W2 at hst ⊢
 obtain⟨s0,s1,s2,_,s4,s5,_,_⟩:=hst
 refine bodyPost_ret (v:=.tuple #[.agg #[.bool z.neg,.slice z.a z.xs.length z.c,.int .i64 z.e],.int .i64 f]) (by simp[results,Tryz.results174,go_sem,s0,s1,s2]) rfl ?_
 exact⟨z,rfl,⟨s4 _ _ hzr.1,hzr.2⟩,hzd,hzv,s5 _ hk6 (by omega)⟩
theorem rMulUp_of (x y:RD) (p:Int) (D:Dy) (f:Int) (w:World) (hin:∀ W,Kp w W→Calls Tryz.prog 165 #[.agg #[.bool x.neg,.slice x.a x.xs.length x.c,.int .i64 x.e],.agg #[.bool y.neg,.slice y.a y.xs.length y.c,.int .i64 y.e],.int .i64 p,.bool true] W (NumE W D f)) :
  Calls Tryz.prog 103 #[.agg #[.bool x.neg,.slice x.a x.xs.length x.c,.int .i64 x.e],.agg #[.bool y.neg,.slice y.a y.xs.length y.c,.int .i64 y.e],.int .i64 p] w (NumE w D f):=by
 have Ha:=hid hin
 clear hin
 go_enter Tryz.func103,Tryz.ntmps103
 go_wp2_with fail
 generalize hW:(((w.alloc _).alloc _).alloc _)=W at *
 have hk:Kp w W:=hW▸(((Kp.refl w).alloc _).alloc _).alloc _
 have hB:Box3 W (w.heap.size+2) (.bool false) (.slice none 0 0) (.int .i64 0):=hW▸Box3.new3 _ _ _ _ _ _ _
 clear hW
 refine (Ha.out _ hk).mono ?_
 rintro e w5 ⟨z,rfl,hzr,hzd,hzv,hk5⟩
 obtain⟨q0,q1,q2,f0,f1,f2⟩:=hB.kp hk5
 have hk6:=hk.trans hk5
 clear hB hk5
 have hst:=stored q0 q1 q2 nofun nofun nofun (.bool z.neg) (.slice z.a z.xs.length z.c) (.int .i64 z.e)
 go_wp2_with fail
 generalize (((w5.setCell _ _).setCell _ _).setCell _ _)=W2 at hst ⊢
 obtain⟨s0,s1,s2,_,s4,s5,_,_⟩:=hst
 refine bodyPost_ret (v:=.tuple #[.agg #[.bool z.neg,.slice z.a z.xs.length z.c,.int .i64 z.e],.int .i64 f]) (by simp[results,Tryz.results103,go_sem,s0,s1,s2]) rfl ?_
 exact⟨z,rfl,⟨s4 _ _ hzr.1,hzr.2⟩,hzd,hzv,s5 _ hk6 (by omega)⟩
theorem rDivUp_of (x y:RD) (p:Int) (D:Dy) (f:Int) (w:World) (hin:∀ W,Kp w W→Calls Tryz.prog 208 #[.agg #[.bool x.neg,.slice x.a x.xs.length x.c,.int .i64 x.e],.agg #[.bool y.neg,.slice y.a y.xs.length y.c,.int .i64 y.e],.int .i64 p,.bool true] W (NumE W D f)) :
  Calls Tryz.prog 194 #[.agg #[.bool x.neg,.slice x.a x.xs.length x.c,.int .i64 x.e],.agg #[.bool y.neg,.slice y.a y.xs.length y.c,.int .i64 y.e],.int .i64 p] w (NumE w D f):=by
 have Ha:=hid hin
 clear hin
 go_enter Tryz.func194,Tryz.ntmps194
 go_wp2_with fail
 generalize hW:(((w.alloc _).alloc _).alloc _)=W at *
 have hk:Kp w W:=hW▸(((Kp.refl w).alloc _).alloc _).alloc _
 have hB:Box3 W (w.heap.size+2) (.bool false) (.slice none 0 0) (.int .i64 0):=hW▸Box3.new3 _ _ _ _ _ _ _
 clear hW
 refine (Ha.out _ hk).mono ?_
 rintro e w5 ⟨z,rfl,hzr,hzd,hzv,hk5⟩
 obtain⟨q0,q1,q2,f0,f1,f2⟩:=hB.kp hk5
 have hk6:=hk.trans hk5
 clear hB hk5
 have hst:=stored q0 q1 q2 nofun nofun nofun (.bool z.neg) (.slice z.a z.xs.length z.c) (.int .i64 z.e)
 go_wp2_with fail
 generalize (((w5.setCell _ _).setCell _ _).setCell _ _)=W2 at hst ⊢
 obtain⟨s0,s1,s2,_,s4,s5,_,_⟩:=hst
 refine bodyPost_ret (v:=.tuple #[.agg #[.bool z.neg,.slice z.a z.xs.length z.c,.int .i64 z.e],.int .i64 f]) (by simp[results,Tryz.results194,go_sem,s0,s1,s2]) rfl ?_
 exact⟨z,rfl,⟨s4 _ _ hzr.1,hzr.2⟩,hzd,hzv,s5 _ hk6 (by omega)⟩
section
def ofI (v:Int):Dy:=canon (decide (v<0)) v.natAbs (-16384)
theorem ofI_iv (v:Int):(ofI v).iv=v:=by
 unfold ofI
 rw[canon_iv _ _ _ (Int.le_refl _)]
 show sg _ (v.natAbs*2 ^ 0)=v
 rw[Nat.pow_zero,Nat.mul_one]
 unfold sg
 by_cases h:v<0
 ·rw[if_pos (by simpa using h)];omega
 rw[if_neg (by simpa using h)];omega
theorem canon_ofI (s:Bool) (n:Nat) (e:Int) (h:-16384≤e):canon s n e=ofI (sg s (n*2 ^ (e+16384).toNat)):=by
 by_cases h0:n=0
 ·subst h0
  rw[canon_zero,Nat.zero_mul,sg_zero]
  rfl
 have hp:0<n*2 ^ (e+16384).toNat:=Nat.mul_pos (by omega) (Nat.pow_pos (by decide))
 have e1:canon s n e=canon s (n*2 ^ (e+16384).toNat) (-16384):=by
  rw[canon_shift];congr 1;omega
 rw[e1]
 generalize n*2 ^ (e+16384).toNat=V at *
 unfold ofI sg
 cases s
 ·have h1:decide ((V:Int)<0)=false:=by simp
  simp only[Bool.false_eq_true,if_false,h1,Int.natAbs_natCast]
 have h1:decide (-(V:Int)<0)=true:=by simp;omega
 simp only[if_true,h1,Int.natAbs_neg,Int.natAbs_natCast]
theorem ofI_of_ok {d:Dy} (h:d.ok):ofI d.iv=d:=by
 have e:=canon_ofI d.neg d.m d.e (ok_e h).1
 rw[canon_ok h] at e
 exact e.symm
def sumD (d f:Dy):Dy:=ofI (d.iv+f.iv)
theorem sumD_iv (d f:Dy):(sumD d f).iv=d.iv+f.iv:=ofI_iv _
theorem sumD_zero {d:Dy} (h:d.ok):sumD .zero d=d:=by
 unfold sumD;rw[Dy.iv_zero,Int.zero_add];exact ofI_of_ok h
theorem sumD_zero' {d:Dy} (h:d.ok):sumD d .zero=d:=by
 unfold sumD;rw[Dy.iv_zero,Int.add_zero];exact ofI_of_ok h
theorem sumD_comm (d f:Dy):sumD d f=sumD f d:=by unfold sumD;rw[Int.add_comm]
theorem iv_at {d:Dy} {k:Int} (h0:-16384≤k) (hk:k≤d.e):d.iv=sg d.neg (d.m*2 ^ (d.e-k).toNat*2 ^ (k+16384).toNat):=by
 unfold Dy.iv
 rw[Nat.mul_assoc,← Nat.pow_add]
 congr 3;omega
theorem sum_same {d f:Dy} {k:Int} (h0:-16384≤k) (hd:k≤d.e) (hf:k≤f.e) (hs:d.neg=f.neg):sumD d f=canon d.neg (d.m*2 ^ (d.e-k).toNat+f.m*2 ^ (f.e-k).toNat) k:=by
 rw[canon_ofI _ _ _ h0]
 unfold sumD
 rw[iv_at h0 hd,iv_at h0 hf,← hs,Nat.add_mul]
 congr 1
 unfold sg
 split <;> push_cast <;> omega
theorem sum_diff {d f:Dy} {k:Int} (h0:-16384≤k) (hd:k≤d.e) (hf:k≤f.e) (hs:d.neg≠f.neg) (hle:f.m*2 ^ (f.e-k).toNat≤d.m*2 ^ (d.e-k).toNat):sumD d f=canon d.neg (d.m*2 ^ (d.e-k).toNat-f.m*2 ^ (f.e-k).toNat) k:=by
 rw[canon_ofI _ _ _ h0]
 unfold sumD
 rw[iv_at h0 hd,iv_at h0 hf,Nat.sub_mul]
 have hle2:=Nat.mul_le_mul_right (2 ^ (k+16384).toNat) hle
 generalize d.m*2 ^ (d.e-k).toNat*2 ^ (k+16384).toNat=A at *
 generalize f.m*2 ^ (f.e-k).toNat*2 ^ (k+16384).toNat=B at *
 congr 1
 unfold sg
 cases hd':d.neg <;> cases hf':f.neg <;> simp_all <;> omega
theorem inrB_canon {s:Bool} {n:Nat} {e:Int} (ho:n % 2=1) (hb:4096<bits n):inrB (canon s n e).m (canon s n e).e=false:=by
 unfold canon
 rw[if_neg (by intro h;rw[h] at ho;cases ho),oddp_odd ho,tz_odd ho]
 unfold inrB
 simp only[decide_eq_false_iff_not]
 omega
theorem sum_far {d f:Dy} (hd:d.ok) (hf:f.ok) (hd0:d.m≠0) (hf0:f.m≠0) (h1:f.e<d.e) (h2:1<topI d-topI f) (h3:4097<topI d-f.e):inrB (sumD d f).m (sumD d f).e=false:=by
 have hde:=ok_e hd
 have hfe:=ok_e hf
 have od:d.m % 2=1:=by rcases hd with ⟨h,_⟩ | ⟨h,_⟩;exact absurd h hd0;exact h
 have of':f.m % 2=1:=by rcases hf with ⟨h,_⟩ | ⟨h,_⟩;exact absurd h hf0;exact h
 unfold topI at h2 h3
 rw[if_neg hd0,if_neg hf0] at h2
 rw[if_neg hd0] at h3
 obtain⟨j,hj⟩:∃ j:Nat,d.e=f.e+((j+1:Nat):Int):=⟨(d.e-f.e).toNat-1,by omega⟩
 have e1:(d.e-f.e).toNat=j+1:=by omega
 have e2:(f.e-f.e).toNat=0:=by omega
 have hbd:=two_pow_le_of_bits hd0
 have hbf:=lt_two_pow_bits f.m
 have hbp:=bits_pos hd0
 have hA:2 ^ (bits d.m-1+(j+1))≤d.m*2 ^ (j+1):=by rw[Nat.pow_add];exact Nat.mul_le_mul_right _ hbd
 have hB:f.m<2 ^ (bits d.m-1+(j+1)-1):=Nat.lt_of_lt_of_le hbf (Nat.pow_le_pow_right (by decide) (by omega))
 have hC:2 ^ (bits d.m-1+(j+1))=2*2 ^ (bits d.m-1+(j+1)-1):=by
  rw[← Nat.pow_succ'];congr 1
 have hev:d.m*2 ^ (j+1) % 2=0:=by rw[Nat.pow_succ,← Nat.mul_assoc];exact Nat.mul_mod_left _ _
 have hbig (n:Nat) (h:2 ^ (bits d.m-1+(j+1)-1)≤n):4096<bits n:=by
  have:=Nat.lt_of_lt_of_le (show 4096<bits (2 ^ (bits d.m-1+(j+1)-1)) from by rw[bits_two_pow];omega) (bits_mono h)
  exact this
 by_cases hs:d.neg=f.neg
 ·rw[sum_same hfe.1 (by omega) (Int.le_refl _) hs,e1,e2,Nat.pow_zero,Nat.mul_one]
  exact inrB_canon (by omega) (hbig _ (by omega))
 rw[sum_diff hfe.1 (by omega) (Int.le_refl _) hs (by rw[e1,e2,Nat.pow_zero,Nat.mul_one];omega),e1,e2,Nat.pow_zero,Nat.mul_one]
 exact inrB_canon (by omega) (hbig _ (by omega))
theorem sum_out {d f:Dy} (hd:d.ok) (hf:f.ok) (hd0:d.m≠0) (hf0:f.m≠0) (h1:4097<max (topI d) (topI f)-min d.e f.e) (h2:1<topI d-topI f∨1<topI f-topI d):chk (sumD d f)=(.zero,9):=by
 have bd:(bits d.m:Int)≤4096:=by rcases hd with ⟨h,_⟩ | ⟨_,h,_⟩;exact absurd h hd0;omega
 have bf:(bits f.m:Int)≤4096:=by rcases hf with ⟨h,_⟩ | ⟨_,h,_⟩;exact absurd h hf0;omega
 have td:topI d=bits d.m+d.e:=by unfold topI;rw[if_neg hd0]
 have tf:topI f=bits f.m+f.e:=by unfold topI;rw[if_neg hf0]
 have key:inrB (sumD d f).m (sumD d f).e=false:=by
  rcases h2 with h | h
  ·exact sum_far hd hf hd0 hf0 (by omega) h (by omega)
  ·rw[sumD_comm]
   exact sum_far hf hd hf0 hd0 (by omega) h (by omega)
 unfold chk
 rw[key]
 rfl
end
def farB (d f:Dy):Prop:=4097<max (topI d) (topI f)-min d.e f.e∧(1<topI d-topI f∨1<topI f-topI d)
instance (d f:Dy):Decidable (farB d f):=by unfold farB;exact inferInstance
theorem topI_bounds {d:Dy} (h:d.ok):-16384≤topI d∧topI d≤16384:=by
 unfold topI
 split
 ·omega
 next h0=>rcases h with ⟨h,_⟩ | ⟨_,h1,h2,h3,h4⟩;exact absurd h h0;omega
theorem near_len {d f:Dy} (hd:d.ok) (hf:f.ok) (hd0:d.m≠0) (hf0:f.m≠0) (h:¬ farB d f):bits (d.m*2 ^ (d.e-min d.e f.e).toNat)≤4098∧bits (f.m*2 ^ (f.e-min d.e f.e).toNat)≤4098:=by
 have bd:(bits d.m:Int)≤4096:=by rcases hd with ⟨h,_⟩ | ⟨_,h,_⟩;exact absurd h hd0;omega
 have bf:(bits f.m:Int)≤4096:=by rcases hf with ⟨h,_⟩ | ⟨_,h,_⟩;exact absurd h hf0;omega
 have td:topI d=bits d.m+d.e:=by unfold topI;rw[if_neg hd0]
 have tf:topI f=bits f.m+f.e:=by unfold topI;rw[if_neg hf0]
 unfold farB at h
 rw[bits_mul_pow hd0,bits_mul_pow hf0]
 omega
set_option maxHeartbeats 2000000 in
theorem sum_farB (d f:Dy) (a b:Option Addr) (c k:Nat) (w:World) (hd:DyAt w d a c) (hf:DyAt w f b k) (hd0:d.m≠0) (hf0:f.m≠0) (hfar:farB d f) :
  Calls Tryz.prog 57 #[.agg #[.bool d.neg,.slice a (limbs d.m).length c,.int .i64 d.e],.agg #[.bool f.neg,.slice b (limbs f.m).length k,.int .i64 f.e]] w (DyE w (chk (sumD d f)).1 (chk (sumD d f)).2):=by
 rw[sum_out hd.1 hf.1 hd0 hf0 hfar.1 hfar.2]
 have td:=topI_bounds hd.1
 have tf:=topI_bounds hf.1
 have hed:=ok_e hd.1
 have hef:=ok_e hf.1
 have z1:=len_ne hd0
 have z2:=len_ne hf0
 obtain⟨h1,h2⟩:=hfar
 go_enter Tryz.func57,Tryz.ntmps57
 go_wp2_with fail
 generalize hW:(((w.alloc _).alloc _).alloc _)=W at *
 have hk:Kp w W:=hW▸(((Kp.refl w).alloc _).alloc _).alloc _
 have hd1:=(hd.kp hk).drew
 have hf1:=(hf.kp hk).drew
 have hS:W.cell? ⟨w.heap.size,0,none⟩=some (.bool d.neg)∧W.cell? ⟨w.heap.size,1,none⟩=some (.slice a (limbs d.m).length c)∧W.cell? ⟨w.heap.size,2,none⟩=some (.int .i64 d.e)∧W.cell? ⟨w.heap.size+1,0,none⟩=some (.bool f.neg)∧W.cell? ⟨w.heap.size+1,1,none⟩=some (.slice b (limbs f.m).length k)∧W.cell? ⟨w.heap.size+1,2,none⟩=some (.int .i64 f.e):=by rw[← hW];exact keep6 ((Kp.refl _).alloc _) (by simp)
 have hB:Box3 W (w.heap.size+2) (.bool false) (.slice none 0 0) (.int .i64 0):=hW▸Box3.new3 _ _ _ _ _ _ _
 clear hW
 go_region_held3 (fun w'=>w'.cell? ⟨w.heap.size,0,none⟩=some (.bool d.neg)∧w'.cell? ⟨w.heap.size,1,none⟩=some (.slice a (limbs d.m).length c)∧w'.cell? ⟨w.heap.size,2,none⟩=some (.int .i64 d.e)∧w'.cell? ⟨w.heap.size+1,0,none⟩=some (.bool f.neg)∧w'.cell? ⟨w.heap.size+1,1,none⟩=some (.slice b (limbs f.m).length k)∧w'.cell? ⟨w.heap.size+1,2,none⟩=some (.int .i64 f.e)) (first | assumption | exact keep6 (by assumption) (by assumption))
  (first
   | (go_at_call_of 120 (Value.agg #[.bool d.neg,.slice a (limbs d.m).length c,.int .i64 d.e]);refine (Top_ok d a c _ hd1).mono ?_;rintro e w2 ⟨rfl,hk2⟩)
   | (go_at_call_of 120 (Value.agg #[.bool f.neg,.slice b (limbs f.m).length k,.int .i64 f.e]);refine (Top_ok f b k _ (hf1.kp (by assumption))).mono ?_;rintro e w3 ⟨rfl,hk3⟩))
 generalize topI d=x at *
 generalize topI f=y at *
 have e1:IntKind.i64.wrap (max x y-min d.e f.e)=max x y-min d.e f.e:=IntWalk.i64_in _ (by omega)
 have e2:IntKind.i64.wrap (x-y)=x-y:=IntWalk.i64_in _ (by omega)
 have e3:IntKind.i64.wrap (y-x)=y-x:=IntWalk.i64_in _ (by omega)
 have hk4:=(hk.drew.trans hk2).trans hk3
 obtain⟨q0,q1,q2,f0,f1,f2⟩:=((hB.kp (Kp.refl W).drew).kp hk2).kp hk3
 clear hS hB hd1 hf1
 by_cases h3:1<x-y
 ·go_wp2_with fail
  have hst:=stored q0 q1 q2 nofun nofun nofun (.bool false) (.slice none 0 0) (.int .i64 0)
  generalize (((w3.setCell _ _).setCell _ _).setCell _ _)=W2 at hst ⊢
  obtain⟨s0,s1,s2,_,s4,s5,_,_⟩:=hst
  refine bodyPost_ret (v:=.tuple #[.agg #[.bool false,.slice none 0 0,.int .i64 0],.int .i64 9]) (by simp[results,Tryz.results57,go_sem,s0,s1,s2]) rfl ?_
  exact dyE_zero rfl (s5 _ hk4 (by omega))
 have h4:1<y-x:=by omega
 go_wp2_with fail
 have hst:=stored q0 q1 q2 nofun nofun nofun (.bool false) (.slice none 0 0) (.int .i64 0)
 generalize (((w3.setCell _ _).setCell _ _).setCell _ _)=W2 at hst ⊢
 obtain⟨s0,s1,s2,_,s4,s5,_,_⟩:=hst
 refine bodyPost_ret (v:=.tuple #[.agg #[.bool false,.slice none 0 0,.int .i64 0],.int .i64 9]) (by simp[results,Tryz.results57,go_sem,s0,s1,s2]) rfl ?_
 exact dyE_zero rfl (s5 _ hk4 (by omega))
end Go.Proofs.YtbhmhfnfceakoaaGreatDoor
