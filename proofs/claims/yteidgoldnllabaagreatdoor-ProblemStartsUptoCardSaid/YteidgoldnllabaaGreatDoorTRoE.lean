/-
  Walks: round.signed, round.
-/
import Derived.Test.YteidgoldnllabaaGreatDoorTRoD
import Derived.Test.YteidgoldnllabaaGreatDoorTIvA
import Derived.Test.YteidgoldnllabaaGreatDoorTPub
set_option maxHeartbeats 8000000
set_option maxRecDepth 100000
namespace Go.Proofs.YteidgoldnllabaaGreatDoor
open Go.RowKit
open Lib (hid)
def sgnR (neg:Bool) (R:Option Dy):Option Dy:=if neg then R.map Dy.opp else R
theorem signed_pos (a:Option Addr) (xs:List Nat) (c:Nat) (ex:Int) (more:Bool) (p:Nat) (up:Bool) (w:World) (hx:Rd w a xs) (hxl:xs.length≤256) (hxc:xs.length≤c) (hc:c≤maxLen) (he0:-200000≤ex) (he1:ex≤200000) (hp0:8≤p) (hp1:p≤512) (hT:Tab w) :
  Calls Tryz.prog 284 #[.bool false,.agg #[.slice a xs.length c,.int .i64 ex,.bool more],.int .i64 p,.bool up] w (NumE w (rndE (sgnR false (rcut (val xs) ex more p up))).1 (rndE (sgnR false (rcut (val xs) ex more p up))).2):=by
 cases hR:rcut (val xs) ex more p up with
 | some D =>
  have HR:=hid hR
  clear hR
  cases up
  all_goals
   go_enter Tryz.func284,Tryz.ntmps284
   go_wp2_with fail
   generalize hW:((w.alloc _).alloc _)=W at *
   have hk:Kp w W:=hW▸((Kp.refl w).alloc _).alloc _
   have hB:Box3 W (w.heap.size+1) (.bool false) (.slice none 0 0) (.int .i64 0):=hW▸Box3.new2 _ _ _ _ _ _
   clear hW
   refine (cut_any a xs c ex more p _ _ (hx.kp hk) hxl hxc hc he0 he1 hp0 hp1 (hT.kp hk)).mono ?_
   have hRe:=HR.out
   (try simp only[Bool.not_true,Bool.not_false] at hRe)
   simp only[hRe]
   clear hRe
   rintro e w3 ⟨y,rfl,hy,hd,hv,hk2⟩
   have hk3:=hk2.alloc (.cells #[.bool y.neg,.slice y.a y.xs.length y.c,.int .i64 y.e] 113)
   have hyr:=hy.kp ((Kp.refl w3).alloc (.cells #[.bool y.neg,.slice y.a y.xs.length y.c,.int .i64 y.e] 113))
   dsimp only[rndE,sgnR,if_true,if_false,Option.map] at hd hv ⊢
   have hB3:=hB.kp hk3
   have hk4:=hk.trans hk3
   obtain⟨q0,q1,q2,f0,f1,f2⟩:=hB3
   go_wp2_with fail
   have hst:=stored q0 q1 q2 nofun nofun nofun (.bool y.neg) (.slice y.a y.xs.length y.c) (.int .i64 y.e)
   generalize (((World.setCell _ _ _).setCell _ _).setCell _ _)=W9 at hst ⊢
   obtain⟨s0,s1,s2,_,s4,s5,_,_⟩:=hst
   refine bodyPost_ret (v:=.tuple #[.agg #[.bool y.neg,.slice y.a y.xs.length y.c,.int .i64 y.e],.int .i64 0]) (by simp[results,Tryz.results284,go_sem,s0,s1,s2]) rfl ?_
   exact⟨y,rfl,⟨s4 _ _ hyr.1,hy.2⟩,hd,hv,s5 _ hk4 (by omega)⟩
 | none =>
 have HR:=hid hR
 clear hR
 cases up
 all_goals
  go_enter Tryz.func284,Tryz.ntmps284
  go_wp2_with fail
  generalize hW:((w.alloc _).alloc _)=W at *
  have hk:Kp w W:=hW▸((Kp.refl w).alloc _).alloc _
  have hB:Box3 W (w.heap.size+1) (.bool false) (.slice none 0 0) (.int .i64 0):=hW▸Box3.new2 _ _ _ _ _ _
  clear hW
  refine (cut_any a xs c ex more p _ _ (hx.kp hk) hxl hxc hc he0 he1 hp0 hp1 (hT.kp hk)).mono ?_
  have hRe:=HR.out
  (try simp only[Bool.not_true,Bool.not_false] at hRe)
  simp only[hRe]
  clear hRe
  rintro e w3 ⟨y,rfl,hy,hd,hv,hk2⟩
  have hk3:=hk2.alloc (.cells #[.bool y.neg,.slice y.a y.xs.length y.c,.int .i64 y.e] 113)
  have hyr:=hy.kp ((Kp.refl w3).alloc (.cells #[.bool y.neg,.slice y.a y.xs.length y.c,.int .i64 y.e] 113))
  dsimp only[rndE,sgnR,if_true,if_false,Option.map] at hd hv ⊢
  have hB3:=hB.kp hk3
  have hk4:=hk.trans hk3
  obtain⟨q0,q1,q2,f0,f1,f2⟩:=hB3
  go_wp2_with fail
  have hst:=stored q0 q1 q2 nofun nofun nofun (.bool y.neg) (.slice y.a y.xs.length y.c) (.int .i64 y.e)
  generalize (((World.setCell _ _ _).setCell _ _).setCell _ _)=W9 at hst ⊢
  obtain⟨s0,s1,s2,_,s4,s5,_,_⟩:=hst
  refine bodyPost_ret (v:=.tuple #[.agg #[.bool y.neg,.slice y.a y.xs.length y.c,.int .i64 y.e],.int .i64 9]) (by simp[results,Tryz.results284,go_sem,s0,s1,s2]) rfl ?_
  exact⟨y,rfl,⟨s4 _ _ hyr.1,hy.2⟩,hd,hv,s5 _ hk4 (by omega)⟩
theorem signed_neg (a:Option Addr) (xs:List Nat) (c:Nat) (ex:Int) (more:Bool) (p:Nat) (up:Bool) (w:World) (hx:Rd w a xs) (hxl:xs.length≤256) (hxc:xs.length≤c) (hc:c≤maxLen) (he0:-200000≤ex) (he1:ex≤200000) (hp0:8≤p) (hp1:p≤512) (hT:Tab w) :
  Calls Tryz.prog 284 #[.bool true,.agg #[.slice a xs.length c,.int .i64 ex,.bool more],.int .i64 p,.bool up] w (NumE w (rndE (sgnR true (rcut (val xs) ex more p (!up)))).1 (rndE (sgnR true (rcut (val xs) ex more p (!up)))).2):=by
 cases hR:rcut (val xs) ex more p (!up) with
 | none =>
  have HR:=hid hR
  clear hR
  cases up
  all_goals
   go_enter Tryz.func284,Tryz.ntmps284
   go_wp2_with fail
   generalize hW:((w.alloc _).alloc _)=W at *
   have hk:Kp w W:=hW▸((Kp.refl w).alloc _).alloc _
   have hB:Box3 W (w.heap.size+1) (.bool false) (.slice none 0 0) (.int .i64 0):=hW▸Box3.new2 _ _ _ _ _ _
   clear hW
   refine (cut_any a xs c ex more p _ _ (hx.kp hk) hxl hxc hc he0 he1 hp0 hp1 (hT.kp hk)).mono ?_
   have hRe:=HR.out
   (try simp only[Bool.not_true,Bool.not_false] at hRe)
   simp only[hRe]
   clear hRe
   rintro e w3 ⟨y,rfl,hy,hd,hv,hk2⟩
   have hk3:=hk2.alloc (.cells #[.bool y.neg,.slice y.a y.xs.length y.c,.int .i64 y.e] 113)
   have hyr:=hy.kp ((Kp.refl w3).alloc (.cells #[.bool y.neg,.slice y.a y.xs.length y.c,.int .i64 y.e] 113))
   dsimp only[rndE,sgnR,if_true,if_false,Option.map] at hd hv ⊢
   have hB3:=hB.kp hk3
   have hk4:=hk.trans hk3
   obtain⟨q0,q1,q2,f0,f1,f2⟩:=hB3
   go_wp2_with fail
   have hst:=stored q0 q1 q2 nofun nofun nofun (.bool y.neg) (.slice y.a y.xs.length y.c) (.int .i64 y.e)
   generalize (((World.setCell _ _ _).setCell _ _).setCell _ _)=W9 at hst ⊢
   obtain⟨s0,s1,s2,_,s4,s5,_,_⟩:=hst
   refine bodyPost_ret (v:=.tuple #[.agg #[.bool y.neg,.slice y.a y.xs.length y.c,.int .i64 y.e],.int .i64 9]) (by simp[results,Tryz.results284,go_sem,s0,s1,s2]) rfl ?_
   exact⟨y,rfl,⟨s4 _ _ hyr.1,hy.2⟩,hd,hv,s5 _ hk4 (by omega)⟩
 | some D =>
 have HR:=hid hR
 have hDok:=hid (rcut_isP (by omega) (by omega) hR).1.1
 clear hR
 cases up
 all_goals
  go_enter Tryz.func284,Tryz.ntmps284
  go_wp2_with fail
  generalize hW:((w.alloc _).alloc _)=W at *
  have hk:Kp w W:=hW▸((Kp.refl w).alloc _).alloc _
  have hB:Box3 W (w.heap.size+1) (.bool false) (.slice none 0 0) (.int .i64 0):=hW▸Box3.new2 _ _ _ _ _ _
  clear hW
  refine (cut_any a xs c ex more p _ _ (hx.kp hk) hxl hxc hc he0 he1 hp0 hp1 (hT.kp hk)).mono ?_
  have hRe:=HR.out
  (try simp only[Bool.not_true,Bool.not_false] at hRe)
  simp only[hRe]
  clear hRe
  rintro e w3 ⟨y,rfl,hy,hd,hv,hk2⟩
  have hk3:=hk2.alloc (.cells #[.bool y.neg,.slice y.a y.xs.length y.c,.int .i64 y.e] 113)
  have hyr:=hy.kp ((Kp.refl w3).alloc (.cells #[.bool y.neg,.slice y.a y.xs.length y.c,.int .i64 y.e] 113))
  dsimp only[rndE,sgnR,if_true,if_false,Option.map] at hd hv ⊢
  have hyo:y.ok (w3.alloc (.cells #[.bool y.neg,.slice y.a y.xs.length y.c,.int .i64 y.e] 113)):=⟨hyr,hv hDok.out⟩
  have hY:=(Box3.new w3 (.bool y.neg) (.slice y.a y.xs.length y.c) (.int .i64 y.e) 113)
  have hB3:=hB.kp hk3
  have hk4:=hk.trans hk3
  have hz:=hk2.size
  have hz2:=World.block_lt_of_cell? _ _ hB.1
  clear hk2 hB hy hk
  go_wp2_with fail
  generalize w3.alloc _=W3 at *
  refine (Neg_ok y _ hyo).mono ?_
  rw[hd]
  rintro e w5 ⟨z,rfl,hzr,hzd,hzv,hk6⟩
  obtain⟨j0,j1,j2,g0,g1,g2⟩:=hY.kp hk6
  have hk7:=hk4.trans hk6
  have hB5:=hB3.kp hk6
  have hb5:=World.block_lt_of_cell? _ _ hB3.1
  clear hY hB3 hk6 hk4 hk3 hyo hyr
  obtain⟨q0,q1,q2,f0,f1,f2⟩:=hB5
  have hne:w.heap.size+1<w3.heap.size:=by omega
  have hne2:¬ w3.heap.size=w.heap.size+1:=by omega
  go_wp2_with fail
  have hst:=stored j0 j1 j2 nofun nofun nofun (.bool z.neg) (.slice z.a z.xs.length z.c) (.int .i64 z.e)
  generalize (((w5.setCell _ _).setCell _ _).setCell _ _)=W6 at hst ⊢
  obtain⟨s0,s1,s2,_,s4,s5,s6,_⟩:=hst
  have hzr6:z.rd W6:=⟨s4 _ _ hzr.1,hzr.2⟩
  have hk8:=s5 _ hk7 (by omega)
  have e6 (i:Nat):W6.cell? ⟨w.heap.size+1,i,none⟩=w5.cell? ⟨w.heap.size+1,i,none⟩:=s6 ⟨w.heap.size+1,i,none⟩ (fun e=>hne2 e.symm)
  rw[← e6] at q0 q1 q2
  have hst:=stored q0 q1 q2 nofun nofun nofun (.bool z.neg) (.slice z.a z.xs.length z.c) (.int .i64 z.e)
  clear s0 s1 s2 s4 s5 s6 e6
  generalize (((W6.setCell _ _).setCell _ _).setCell _ _)=W9 at hst ⊢
  obtain⟨s0,s1,s2,_,s4,s5,_,_⟩:=hst
  refine bodyPost_ret (v:=.tuple #[.agg #[.bool z.neg,.slice z.a z.xs.length z.c,.int .i64 z.e],.int .i64 0]) (by simp[results,Tryz.results284,go_sem,s0,s1,s2]) rfl ?_
  exact⟨z,rfl,⟨s4 _ _ hzr6.1,hzr6.2⟩,hzd,hzv,s5 _ hk8 (by omega)⟩
def rndS (neg:Bool) (m:Nat) (e:Int) (more:Bool) (p:Nat) (up:Bool):Option Dy:=sgnR neg (rcut m e more p (up != neg))
theorem signed_any (neg:Bool) (a:Option Addr) (xs:List Nat) (c:Nat) (ex:Int) (more:Bool) (p:Nat) (up:Bool) (w:World) (hx:Rd w a xs) (hxl:xs.length≤256) (hxc:xs.length≤c) (hc:c≤maxLen) (he0:-200000≤ex) (he1:ex≤200000) (hp0:8≤p) (hp1:p≤512) (hT:Tab w) :
  Calls Tryz.prog 284 #[.bool neg,.agg #[.slice a xs.length c,.int .i64 ex,.bool more],.int .i64 p,.bool up] w (NumE w (rndE (rndS neg (val xs) ex more p up)).1 (rndE (rndS neg (val xs) ex more p up)).2):=by
 cases neg with
 | true=>have:=signed_neg a xs c ex more p up w hx hxl hxc hc he0 he1 hp0 hp1 hT;unfold rndS;rwa [Bool.bne_true]
 | false=>have:=signed_pos a xs c ex more p up w hx hxl hxc hc he0 he1 hp0 hp1 hT;unfold rndS;rwa [Bool.bne_false]
theorem rndS_ok {neg:Bool} {m:Nat} {e:Int} {more:Bool} {p:Nat} {up:Bool} (hp:8≤p) (hp2:p≤512):(rndE (rndS neg m e more p up)).1.ok:=by
 unfold rndS sgnR
 cases h:rcut m e more p (up != neg) with
 | none=>cases neg <;> exact Dy.ok_zero
 | some d =>
 have:=(rcut_isP (by omega) (by omega) h).1.1
 cases neg
 ·exact this
 exact Dy.opp_ok this
theorem rowD_two (w:World) (x y:RD) (hx:x.rd w) (hy:y.rd w) (t:TypeId):RowD (w.alloc (.cells #[.bool x.neg,.slice x.a x.xs.length x.c,.int .i64 x.e,.bool y.neg,.slice y.a y.xs.length y.c,.int .i64 y.e] t)) (some ⟨w.heap.size,0,none⟩) [x,y]:=by
 intro i z hi
 match i with
 | 0 =>
  simp only[List.getElem?_cons_zero,Option.some.injEq] at hi
  subst hi
  refine⟨_,0,rfl,hx.kp ((Kp.refl w).alloc _),?_,?_,?_⟩ <;> simp
 | 1 =>
  simp only[List.getElem?_cons_succ,List.getElem?_cons_zero,Option.some.injEq] at hi
  subst hi
  refine⟨_,0,rfl,hy.kp ((Kp.refl w).alloc _),?_,?_,?_⟩ <;> simp
 | i+2=>simp at hi
theorem fltB_zero {p:Int} {ys:List RD}:fltB p ys=0↔ys.all RD.vl=true∧8≤p∧p≤512:=by
 unfold fltB
 have hp:=@preB_iff p
 cases h:ys.all RD.vl with
 | false=>simp
 | true =>
 cases h2:preB p with
 | true=>rw[h2] at hp;simpa using hp
 | false=>rw[h2] at hp;simp;simp at hp;omega
def RowI (w:World) (a:Option Addr) (zs:List RI):Prop :=
 ∀ i x,zs[i]? = some x→∃ b o,a=some ⟨b,o,none⟩∧x.rd w∧w.cell? ⟨b,o+i*7,none⟩=some (.bool x.lo.neg)∧w.cell? ⟨b,o+i*7+1,none⟩=some (.slice x.lo.a x.lo.xs.length x.lo.c)∧w.cell? ⟨b,o+i*7+2,none⟩=some (.int .i64 x.lo.e) ∧
  w.cell? ⟨b,o+i*7+3,none⟩=some (.bool x.hi.neg)∧w.cell? ⟨b,o+i*7+4,none⟩=some (.slice x.hi.a x.hi.xs.length x.hi.c)∧w.cell? ⟨b,o+i*7+5,none⟩=some (.int .i64 x.hi.e)∧w.cell? ⟨b,o+i*7+6,none⟩=some (.bool x.all)
theorem RowI.kp {w w':World} {a:Option Addr} {zs:List RI} (h:RowI w a zs) (k:Kp w w'):RowI w' a zs:=by
 intro i x hi
 obtain⟨b,o,rfl,hr,h0,h1,h2,h3,h4,h5,h6⟩:=h i x hi
 exact⟨b,o,rfl,hr.kp k,k.cell h0,k.cell h1,k.cell h2,k.cell h3,k.cell h4,k.cell h5,k.cell h6⟩
def Upd (g:Nat) (w W:World):Prop :=
 (∀ p:Addr,W.frozen? p=w.frozen? p)∧(∀ a xs,Rd w a xs→Rd W a xs)∧(∀ a:World,Kp a w→a.heap.size≤g→Kp a W)∧(∀ p:Addr,p.block≠g→W.cell? p=w.cell? p)∧W.heap.size=w.heap.size
theorem Upd.refl (g:Nat) (w:World):Upd g w w:=⟨fun _=>rfl,fun _ _ h=>h,fun _ h _=>h,fun _ _=>rfl,rfl⟩
theorem Upd.step {g:Nat} {w W:World} (h:Upd g w W) {i:Nat} {y:Value} (hc:W.cell? ⟨g,i,none⟩=some y) (hy:∀ n:Int,y≠.int .u32 n) (v:Value):Upd g w (W.setCell ⟨g,i,none⟩ v):=by
 obtain⟨h1,h2,h3,h4,h5⟩:=h
 refine⟨fun p=>by rw[← h1 p];simp,fun a xs hr=>(h2 a xs hr).other hc hy,fun a hk hg=>(h3 a hk hg).set hg _,fun p hp=>?_,by rw[← h5];simp⟩
 rw[cell_set_ne,h4 p hp]
 intro e;exact hp (by rw[← e])
theorem set_at {w:World} {g i j:Nat} {v u:Value} (hij:i≠j) (h:w.cell? ⟨g,j,none⟩=some u):(w.setCell ⟨g,i,none⟩ v).cell? ⟨g,j,none⟩=some u:=by
 rw[cell_set_ne (fun e=>hij (by injection e))];exact h
def Box7 (w:World) (g:Nat) (x0 x1 x2 x3 x4 x5 x6:Value):Prop :=
 w.cell? ⟨g,0,none⟩=some x0∧w.cell? ⟨g,1,none⟩=some x1∧w.cell? ⟨g,2,none⟩=some x2∧w.cell? ⟨g,3,none⟩=some x3∧w.cell? ⟨g,4,none⟩=some x4∧w.cell? ⟨g,5,none⟩=some x5∧w.cell? ⟨g,6,none⟩=some x6
theorem Box7.kp {w w':World} {g:Nat} {x0 x1 x2 x3 x4 x5 x6:Value} (h:Box7 w g x0 x1 x2 x3 x4 x5 x6) (k:Kp w w'):Box7 w' g x0 x1 x2 x3 x4 x5 x6:=keep7 k h
theorem Box7.new (w:World) (x0 x1 x2 x3 x4 x5 x6:Value) (t:TypeId):Box7 (w.alloc (.cells #[x0,x1,x2,x3,x4,x5,x6] t)) w.heap.size x0 x1 x2 x3 x4 x5 x6:=by
 refine⟨?_,?_,?_,?_,?_,?_,?_⟩ <;> simp
theorem stored7 {w:World} {g:Nat} {y0 y1 y2 y3 y4 y5 y6:Value} (h:Box7 w g y0 y1 y2 y3 y4 y5 y6)
  (n0:∀ n:Int,y0≠.int .u32 n) (n1:∀ n:Int,y1≠.int .u32 n) (n2:∀ n:Int,y2≠.int .u32 n) (n3:∀ n:Int,y3≠.int .u32 n) (n4:∀ n:Int,y4≠.int .u32 n) (n5:∀ n:Int,y5≠.int .u32 n) (n6:∀ n:Int,y6≠.int .u32 n)
  (x0 x1 x2 x3 x4 x5 x6:Value) {W:World}
  (hW:(((((((w.setCell ⟨g,0,none⟩ x0).setCell ⟨g,1,none⟩ x1).setCell ⟨g,2,none⟩ x2).setCell ⟨g,3,none⟩ x3).setCell ⟨g,4,none⟩ x4).setCell ⟨g,5,none⟩ x5).setCell ⟨g,6,none⟩ x6)=W) :
  Box7 W g x0 x1 x2 x3 x4 x5 x6∧Upd g w W:=by
 subst hW
 obtain⟨h0,h1,h2,h3,h4,h5,h6⟩:=h
 have d (i j:Nat) (h:i≠j):i≠j:=h
 have u0:=(Upd.refl g w).step h0 n0 x0
 have u1:=u0.step (set_at (by decide) h1) n1 x1
 have u2:=u1.step (set_at (by decide) (set_at (by decide) h2)) n2 x2
 have u3:=u2.step (set_at (by decide) (set_at (by decide) (set_at (by decide) h3))) n3 x3
 have u4:=u3.step (set_at (by decide) (set_at (by decide) (set_at (by decide) (set_at (by decide) h4)))) n4 x4
 have u5:=u4.step (set_at (by decide) (set_at (by decide) (set_at (by decide) (set_at (by decide) (set_at (by decide) h5))))) n5 x5
 have u6:=u5.step (set_at (by decide) (set_at (by decide) (set_at (by decide) (set_at (by decide) (set_at (by decide) (set_at (by decide) h6)))))) n6 x6
 refine⟨⟨?_,?_,?_,?_,?_,?_,?_⟩,u6⟩
 ·exact set_at (by decide) (set_at (by decide) (set_at (by decide) (set_at (by decide) (set_at (by decide) (set_at (by decide) (cell_set_eq h0))))))
 ·exact set_at (by decide) (set_at (by decide) (set_at (by decide) (set_at (by decide) (set_at (by decide) (cell_set_eq (set_at (by decide) h1))))))
 ·exact set_at (by decide) (set_at (by decide) (set_at (by decide) (set_at (by decide) (cell_set_eq (set_at (by decide) (set_at (by decide) h2))))))
 ·exact set_at (by decide) (set_at (by decide) (set_at (by decide) (cell_set_eq (set_at (by decide) (set_at (by decide) (set_at (by decide) h3))))))
 ·exact set_at (by decide) (set_at (by decide) (cell_set_eq (set_at (by decide) (set_at (by decide) (set_at (by decide) (set_at (by decide) h4))))))
 ·exact set_at (by decide) (cell_set_eq (set_at (by decide) (set_at (by decide) (set_at (by decide) (set_at (by decide) (set_at (by decide) h5))))))
 exact cell_set_eq (set_at (by decide) (set_at (by decide) (set_at (by decide) (set_at (by decide) (set_at (by decide) (set_at (by decide) h6))))))
def Frz (w:World) (g:Nat):Prop :=
 w.frozen? ⟨g,0,none⟩=false∧w.frozen? ⟨g,1,none⟩=false∧w.frozen? ⟨g,2,none⟩=false∧w.frozen? ⟨g,3,none⟩=false∧w.frozen? ⟨g,4,none⟩=false∧w.frozen? ⟨g,5,none⟩=false∧w.frozen? ⟨g,6,none⟩=false
theorem Frz.kp {w w':World} {g:Nat} {x0 x1 x2 x3 x4 x5 x6:Value} (h:Frz w g) (b:Box7 w g x0 x1 x2 x3 x4 x5 x6) (k:Kp w w'):Frz w' g :=
 ⟨k.frozen b.1 h.1,k.frozen b.2.1 h.2.1,k.frozen b.2.2.1 h.2.2.1,k.frozen b.2.2.2.1 h.2.2.2.1,k.frozen b.2.2.2.2.1 h.2.2.2.2.1,k.frozen b.2.2.2.2.2.1 h.2.2.2.2.2.1,k.frozen b.2.2.2.2.2.2 h.2.2.2.2.2.2⟩
theorem Frz.new (w:World) (x0 x1 x2 x3 x4 x5 x6:Value) (t:TypeId):Frz (w.alloc (.cells #[x0,x1,x2,x3,x4,x5,x6] t)) w.heap.size:=by
 refine⟨?_,?_,?_,?_,?_,?_,?_⟩ <;> simp
def Var7 (w:World) (g:Nat):Prop:=Box7 w g (.bool false) (.slice none 0 0) (.int .i64 0) (.bool false) (.slice none 0 0) (.int .i64 0) (.bool false)∧Frz w g
theorem Var7.kp {w w':World} {g:Nat} (h:Var7 w g) (k:Kp w w'):Var7 w' g:=⟨h.1.kp k,h.2.kp h.1 k⟩
theorem Var7.new (w:World) (t:TypeId):Var7 (w.alloc (.cells #[.bool false,.slice none 0 0,.int .i64 0,.bool false,.slice none 0 0,.int .i64 0,.bool false] t)) w.heap.size:=⟨Box7.new _ _ _ _ _ _ _ _ _,Frz.new _ _ _ _ _ _ _ _ _⟩
theorem rDivDown_of (x y:RD) (p:Int) (D:Dy) (f:Int) (w:World) (hin:∀ W,Kp w W→Calls Tryz.prog 257 #[.agg #[.bool x.neg,.slice x.a x.xs.length x.c,.int .i64 x.e],.agg #[.bool y.neg,.slice y.a y.xs.length y.c,.int .i64 y.e],.int .i64 p,.bool false] W (NumE W D f)) :
  Calls Tryz.prog 222 #[.agg #[.bool x.neg,.slice x.a x.xs.length x.c,.int .i64 x.e],.agg #[.bool y.neg,.slice y.a y.xs.length y.c,.int .i64 y.e],.int .i64 p] w (NumE w D f):=by
 have Ha:=hid hin
 clear hin
 go_enter Tryz.func222,Tryz.ntmps222
 go_wp2_with fail
 generalize hW:(((w.alloc _).alloc _).alloc _)=W at *
 have hk:Kp w W:=hW▸(((Kp.refl w).alloc _).alloc _).alloc _
 have hB:Box3 W (w.heap.size+2) (.bool false) (.slice none 0 0) (.int .i64 0):=hW▸Box3.new3 _ _ _ _ _ _ _
 clear hW
 refine (Ha.out _ hk).mono ?_
 rintro e w5 ⟨z,rfl,hzr,hzd,hzv,hk5⟩
 obtain⟨q0,q1,q2,f0,f1,f2⟩:=hB.kp hk5
 have hk6:=hk.trans hk5
 clear hB hk5
 have hst:=stored q0 q1 q2 nofun nofun nofun (.bool z.neg) (.slice z.a z.xs.length z.c) (.int .i64 z.e)
 go_wp2_with fail
 generalize (((w5.setCell _ _).setCell _ _).setCell _ _)=W2 at hst ⊢
 obtain⟨s0,s1,s2,_,s4,s5,_,_⟩:=hst
 refine bodyPost_ret (v:=.tuple #[.agg #[.bool z.neg,.slice z.a z.xs.length z.c,.int .i64 z.e],.int .i64 f]) (by simp[results,Tryz.results222,go_sem,s0,s1,s2]) rfl ?_
 exact⟨z,rfl,⟨s4 _ _ hzr.1,hzr.2⟩,hzd,hzv,s5 _ hk6 (by omega)⟩
theorem rDivUp_of (x y:RD) (p:Int) (D:Dy) (f:Int) (w:World) (hin:∀ W,Kp w W→Calls Tryz.prog 257 #[.agg #[.bool x.neg,.slice x.a x.xs.length x.c,.int .i64 x.e],.agg #[.bool y.neg,.slice y.a y.xs.length y.c,.int .i64 y.e],.int .i64 p,.bool true] W (NumE W D f)) :
  Calls Tryz.prog 224 #[.agg #[.bool x.neg,.slice x.a x.xs.length x.c,.int .i64 x.e],.agg #[.bool y.neg,.slice y.a y.xs.length y.c,.int .i64 y.e],.int .i64 p] w (NumE w D f):=by
 have Ha:=hid hin
 clear hin
 go_enter Tryz.func224,Tryz.ntmps224
 go_wp2_with fail
 generalize hW:(((w.alloc _).alloc _).alloc _)=W at *
 have hk:Kp w W:=hW▸(((Kp.refl w).alloc _).alloc _).alloc _
 have hB:Box3 W (w.heap.size+2) (.bool false) (.slice none 0 0) (.int .i64 0):=hW▸Box3.new3 _ _ _ _ _ _ _
 clear hW
 refine (Ha.out _ hk).mono ?_
 rintro e w5 ⟨z,rfl,hzr,hzd,hzv,hk5⟩
 obtain⟨q0,q1,q2,f0,f1,f2⟩:=hB.kp hk5
 have hk6:=hk.trans hk5
 clear hB hk5
 have hst:=stored q0 q1 q2 nofun nofun nofun (.bool z.neg) (.slice z.a z.xs.length z.c) (.int .i64 z.e)
 go_wp2_with fail
 generalize (((w5.setCell _ _).setCell _ _).setCell _ _)=W2 at hst ⊢
 obtain⟨s0,s1,s2,_,s4,s5,_,_⟩:=hst
 refine bodyPost_ret (v:=.tuple #[.agg #[.bool z.neg,.slice z.a z.xs.length z.c,.int .i64 z.e],.int .i64 f]) (by simp[results,Tryz.results224,go_sem,s0,s1,s2]) rfl ?_
 exact⟨z,rfl,⟨s4 _ _ hzr.1,hzr.2⟩,hzd,hzv,s5 _ hk6 (by omega)⟩
section
end
def farB (d f:Dy):Prop:=4097<max (topI d) (topI f)-min d.e f.e∧(1<topI d-topI f∨1<topI f-topI d)
instance (d f:Dy):Decidable (farB d f):=by unfold farB;exact inferInstance
theorem rdok_at {w:World} {x:RD} (h:x.ok w):DyAt w x.dy x.a x.c:=⟨rdok_dy h,by rw[rdok_limbs h];exact h.1.1,by rw[rdok_limbs h];exact h.1.2.1,h.1.2.2.1⟩
theorem keepRR {w w':World} (k:Kp w w') {g h:Nat} {x y:RD} (hS:w.cell? ⟨g,0,none⟩=some (.bool x.neg)∧w.cell? ⟨g,1,none⟩=some (.slice x.a x.xs.length x.c)∧w.cell? ⟨g,2,none⟩=some (.int .i64 x.e)∧w.cell? ⟨h,0,none⟩=some (.bool y.neg)∧w.cell? ⟨h,1,none⟩=some (.slice y.a y.xs.length y.c)∧w.cell? ⟨h,2,none⟩=some (.int .i64 y.e)):w'.cell? ⟨g,0,none⟩=some (.bool x.neg)∧w'.cell? ⟨g,1,none⟩=some (.slice x.a x.xs.length x.c)∧w'.cell? ⟨g,2,none⟩=some (.int .i64 x.e)∧w'.cell? ⟨h,0,none⟩=some (.bool y.neg)∧w'.cell? ⟨h,1,none⟩=some (.slice y.a y.xs.length y.c)∧w'.cell? ⟨h,2,none⟩=some (.int .i64 y.e):=keep6 k hS
theorem setRR {w:World} {o g h:Nat} (n:g≠o) (n':h≠o) {x y:RD} {v0 v1 v2:Value} (hS:w.cell? ⟨g,0,none⟩=some (.bool x.neg)∧w.cell? ⟨g,1,none⟩=some (.slice x.a x.xs.length x.c)∧w.cell? ⟨g,2,none⟩=some (.int .i64 x.e)∧w.cell? ⟨h,0,none⟩=some (.bool y.neg)∧w.cell? ⟨h,1,none⟩=some (.slice y.a y.xs.length y.c)∧w.cell? ⟨h,2,none⟩=some (.int .i64 y.e)) :
  (((w.setCell ⟨o,0,none⟩ v0).setCell ⟨o,1,none⟩ v1).setCell ⟨o,2,none⟩ v2).cell? ⟨g,0,none⟩=some (.bool x.neg)∧(((w.setCell ⟨o,0,none⟩ v0).setCell ⟨o,1,none⟩ v1).setCell ⟨o,2,none⟩ v2).cell? ⟨g,1,none⟩=some (.slice x.a x.xs.length x.c)∧(((w.setCell ⟨o,0,none⟩ v0).setCell ⟨o,1,none⟩ v1).setCell ⟨o,2,none⟩ v2).cell? ⟨g,2,none⟩=some (.int .i64 x.e)∧(((w.setCell ⟨o,0,none⟩ v0).setCell ⟨o,1,none⟩ v1).setCell ⟨o,2,none⟩ v2).cell? ⟨h,0,none⟩=some (.bool y.neg)∧(((w.setCell ⟨o,0,none⟩ v0).setCell ⟨o,1,none⟩ v1).setCell ⟨o,2,none⟩ v2).cell? ⟨h,1,none⟩=some (.slice y.a y.xs.length y.c)∧(((w.setCell ⟨o,0,none⟩ v0).setCell ⟨o,1,none⟩ v1).setCell ⟨o,2,none⟩ v2).cell? ⟨h,2,none⟩=some (.int .i64 y.e):=by
 obtain⟨a0,a1,a2,b0,b1,b2⟩:=hS
 obtain⟨c0,c1,c2⟩:=set3x (x0:=v0) (x1:=v1) (x2:=v2) n ⟨a0,a1,a2⟩
 obtain⟨d0,d1,d2⟩:=set3x (x0:=v0) (x1:=v1) (x2:=v2) n' ⟨b0,b1,b2⟩
 exact⟨c0,c1,c2,d0,d1,d2⟩
end Go.Proofs.YteidgoldnllabaaGreatDoor
