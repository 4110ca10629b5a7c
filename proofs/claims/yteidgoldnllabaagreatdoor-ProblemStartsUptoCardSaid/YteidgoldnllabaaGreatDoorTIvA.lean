/-
  Walks: interval.Valid.
-/
import Derived.Test.YteidgoldnllabaaGreatDoorTPub
import Derived.Test.YteidgoldnllabaaGreatDoorTTpoN
set_option maxHeartbeats 4000000
namespace Go.Proofs.YteidgoldnllabaaGreatDoor
open Go.RowKit
open Lib (hid)
theorem keep7 {w w':World} (k:Kp w w') {p0 p1 p2 p3 p4 p5 p6:Addr} {v0 v1 v2 v3 v4 v5 v6:Value} (h:w.cell? p0=some v0∧w.cell? p1=some v1∧w.cell? p2=some v2∧w.cell? p3=some v3∧w.cell? p4=some v4∧w.cell? p5=some v5∧w.cell? p6=some v6):w'.cell? p0=some v0∧w'.cell? p1=some v1∧w'.cell? p2=some v2∧w'.cell? p3=some v3∧w'.cell? p4=some v4∧w'.cell? p5=some v5∧w'.cell? p6=some v6 :=
 let ⟨h0,h1,h2,h3,h4,h5,h6⟩:=h
 ⟨k.cell h0,k.cell h1,k.cell h2,k.cell h3,k.cell h4,k.cell h5,k.cell h6⟩
theorem IValid_raw (x:RI) (w:World) (h:x.rd w) :
  Calls Tryz.prog 56 #[.agg #[.bool x.lo.neg,.slice x.lo.a x.lo.xs.length x.lo.c,.int .i64 x.lo.e,.bool x.hi.neg,.slice x.hi.a x.hi.xs.length x.hi.c,.int .i64 x.hi.e,.bool x.all]] w fun e w'=>e=.returned (.bool x.vl)∧Kp w w':=by
 have H:=hid (show x.vl=if x.all then x.lo.zr&&x.hi.zr else x.lo.vl&&(x.hi.vl&&decide (cmpZ x.lo.iv x.hi.iv≤0)) from rfl)
 go_enter Tryz.func56,Tryz.ntmps56
 cases ha:x.all with
 | true =>
  rw[ha] at H
  clear ha
  go_wp2_with fail
  refine (zero_raw x.lo _).mono ?_
  rintro e w1 ⟨rfl,hk1⟩
  have hS:=keep7 hk1 (show (w.alloc (.cells #[.bool x.lo.neg,.slice x.lo.a x.lo.xs.length x.lo.c,.int .i64 x.lo.e,.bool x.hi.neg,.slice x.hi.a x.hi.xs.length x.hi.c,.int .i64 x.hi.e,.bool true] 115)).cell? ⟨w.heap.size,0,none⟩=some (.bool x.lo.neg)∧(w.alloc (.cells #[.bool x.lo.neg,.slice x.lo.a x.lo.xs.length x.lo.c,.int .i64 x.lo.e,.bool x.hi.neg,.slice x.hi.a x.hi.xs.length x.hi.c,.int .i64 x.hi.e,.bool true] 115)).cell? ⟨w.heap.size,1,none⟩=some (.slice x.lo.a x.lo.xs.length x.lo.c)∧(w.alloc (.cells #[.bool x.lo.neg,.slice x.lo.a x.lo.xs.length x.lo.c,.int .i64 x.lo.e,.bool x.hi.neg,.slice x.hi.a x.hi.xs.length x.hi.c,.int .i64 x.hi.e,.bool true] 115)).cell? ⟨w.heap.size,2,none⟩=some (.int .i64 x.lo.e)∧(w.alloc (.cells #[.bool x.lo.neg,.slice x.lo.a x.lo.xs.length x.lo.c,.int .i64 x.lo.e,.bool x.hi.neg,.slice x.hi.a x.hi.xs.length x.hi.c,.int .i64 x.hi.e,.bool true] 115)).cell? ⟨w.heap.size,3,none⟩=some (.bool x.hi.neg)∧(w.alloc (.cells #[.bool x.lo.neg,.slice x.lo.a x.lo.xs.length x.lo.c,.int .i64 x.lo.e,.bool x.hi.neg,.slice x.hi.a x.hi.xs.length x.hi.c,.int .i64 x.hi.e,.bool true] 115)).cell? ⟨w.heap.size,4,none⟩=some (.slice x.hi.a x.hi.xs.length x.hi.c)∧(w.alloc (.cells #[.bool x.lo.neg,.slice x.lo.a x.lo.xs.length x.lo.c,.int .i64 x.lo.e,.bool x.hi.neg,.slice x.hi.a x.hi.xs.length x.hi.c,.int .i64 x.hi.e,.bool true] 115)).cell? ⟨w.heap.size,5,none⟩=some (.int .i64 x.hi.e)∧(w.alloc (.cells #[.bool x.lo.neg,.slice x.lo.a x.lo.xs.length x.lo.c,.int .i64 x.lo.e,.bool x.hi.neg,.slice x.hi.a x.hi.xs.length x.hi.c,.int .i64 x.hi.e,.bool true] 115)).cell? ⟨w.heap.size,6,none⟩=some (.bool true) by simp)
  have hk2:=((Kp.refl w).alloc _).trans hk1
  clear hk1
  cases hz:x.lo.zr with
  | false =>
   rw[hz] at H
   clear hz
   go_wp2_with fail
   go_ret
   exact⟨ret_bool H.out.symm,hk2⟩
  | true =>
  rw[hz] at H
  clear hz
  go_wp2_with fail
  refine (zero_raw x.hi _).mono ?_
  rintro e w3 ⟨rfl,hk3⟩
  go_wp2_with fail
  go_ret
  exact⟨ret_bool (by rw[H.out];simp),hk2.trans hk3⟩
 | false =>
 rw[ha] at H
 clear ha
 go_wp2_with fail
 have hk0:=((Kp.refl w).alloc (.cells #[.bool x.lo.neg,.slice x.lo.a x.lo.xs.length x.lo.c,.int .i64 x.lo.e,.bool x.hi.neg,.slice x.hi.a x.hi.xs.length x.hi.c,.int .i64 x.hi.e,.bool false] 115))
 refine (Valid_raw x.lo _ (h.1.kp hk0)).mono ?_
 rintro e w1 ⟨rfl,hk1⟩
 have hS:=keep7 hk1 (show (w.alloc (.cells #[.bool x.lo.neg,.slice x.lo.a x.lo.xs.length x.lo.c,.int .i64 x.lo.e,.bool x.hi.neg,.slice x.hi.a x.hi.xs.length x.hi.c,.int .i64 x.hi.e,.bool false] 115)).cell? ⟨w.heap.size,0,none⟩=some (.bool x.lo.neg)∧(w.alloc (.cells #[.bool x.lo.neg,.slice x.lo.a x.lo.xs.length x.lo.c,.int .i64 x.lo.e,.bool x.hi.neg,.slice x.hi.a x.hi.xs.length x.hi.c,.int .i64 x.hi.e,.bool false] 115)).cell? ⟨w.heap.size,1,none⟩=some (.slice x.lo.a x.lo.xs.length x.lo.c)∧(w.alloc (.cells #[.bool x.lo.neg,.slice x.lo.a x.lo.xs.length x.lo.c,.int .i64 x.lo.e,.bool x.hi.neg,.slice x.hi.a x.hi.xs.length x.hi.c,.int .i64 x.hi.e,.bool false] 115)).cell? ⟨w.heap.size,2,none⟩=some (.int .i64 x.lo.e)∧(w.alloc (.cells #[.bool x.lo.neg,.slice x.lo.a x.lo.xs.length x.lo.c,.int .i64 x.lo.e,.bool x.hi.neg,.slice x.hi.a x.hi.xs.length x.hi.c,.int .i64 x.hi.e,.bool false] 115)).cell? ⟨w.heap.size,3,none⟩=some (.bool x.hi.neg)∧(w.alloc (.cells #[.bool x.lo.neg,.slice x.lo.a x.lo.xs.length x.lo.c,.int .i64 x.lo.e,.bool x.hi.neg,.slice x.hi.a x.hi.xs.length x.hi.c,.int .i64 x.hi.e,.bool false] 115)).cell? ⟨w.heap.size,4,none⟩=some (.slice x.hi.a x.hi.xs.length x.hi.c)∧(w.alloc (.cells #[.bool x.lo.neg,.slice x.lo.a x.lo.xs.length x.lo.c,.int .i64 x.lo.e,.bool x.hi.neg,.slice x.hi.a x.hi.xs.length x.hi.c,.int .i64 x.hi.e,.bool false] 115)).cell? ⟨w.heap.size,5,none⟩=some (.int .i64 x.hi.e)∧(w.alloc (.cells #[.bool x.lo.neg,.slice x.lo.a x.lo.xs.length x.lo.c,.int .i64 x.lo.e,.bool x.hi.neg,.slice x.hi.a x.hi.xs.length x.hi.c,.int .i64 x.hi.e,.bool false] 115)).cell? ⟨w.heap.size,6,none⟩=some (.bool false) by simp)
 have hk2:=hk0.trans hk1
 clear hk0 hk1
 cases hz:x.lo.vl with
 | false =>
  rw[hz] at H
  clear hz
  go_wp2_with fail
  go_ret
  exact⟨ret_bool H.out.symm,hk2⟩
 | true =>
 rw[hz] at H
 have Hz:=hid hz
 clear hz
 go_wp2_with fail
 refine (Valid_raw x.hi _ (h.2.kp hk2)).mono ?_
 rintro e w3 ⟨rfl,hk3⟩
 have hS2:=keep7 hk3 hS
 have hk4:=hk2.trans hk3
 clear hk2 hk3 hS
 cases hy:x.hi.vl with
 | false =>
  rw[hy] at H
  clear hy
  go_wp2_with fail
  go_ret
  exact⟨ret_bool H.out.symm,hk4⟩
 | true =>
 rw[hy] at H
 have Hy:=hid hy
 clear hy
 go_wp2_with fail
 refine (Cmp_raw x.lo x.hi _ (h.1.kp hk4) (h.2.kp hk4) Hz.out Hy.out).mono ?_
 rintro e w5 ⟨rfl,hk5⟩
 go_wp2_with fail
 go_ret
 exact⟨ret_bool H.out.symm,hk4.trans hk5⟩
def RI.ok (w:World) (x:RI):Prop:=x.rd w∧x.all=false∧x.vl=true
theorem RI.ok.kp {w w':World} {x:RI} (h:x.ok w) (k:Kp w w'):x.ok w':=⟨h.1.kp k,h.2⟩
theorem RI.ok.parts {w:World} {x:RI} (h:x.ok w):x.lo.vl=true∧x.hi.vl=true∧x.lo.iv≤x.hi.iv:=by
 obtain⟨_,h1,h2⟩:=h
 unfold RI.vl at h2
 rw[h1] at h2
 simp only[Bool.false_eq_true,if_false,Bool.and_eq_true,decide_eq_true_eq] at h2
 refine⟨h2.1,h2.2.1,?_⟩
 have:=h2.2.2
 have h3:=@cmpZ_gt x.lo.iv x.hi.iv
 omega
def RD.ok (w:World) (x:RD):Prop:=x.rd w∧x.vl=true
theorem RD.ok.kp {w w':World} {x:RD} (h:x.ok w) (k:Kp w w'):x.ok w':=⟨h.1.kp k,h.2⟩
theorem RI.ok.lo {w:World} {x:RI} (h:x.ok w):x.lo.ok w:=⟨h.1.1,h.parts.1⟩
theorem RI.ok.hi {w:World} {x:RI} (h:x.ok w):x.hi.ok w:=⟨h.1.2,h.parts.2.1⟩
theorem IValid_ok (x:RI) (w:World) (h:x.ok w) :
  Calls Tryz.prog 56 #[.agg #[.bool x.lo.neg,.slice x.lo.a x.lo.xs.length x.lo.c,.int .i64 x.lo.e,.bool x.hi.neg,.slice x.hi.a x.hi.xs.length x.hi.c,.int .i64 x.hi.e,.bool false]] w fun e w'=>e=.returned (.bool true)∧Kp w w':=by
 have H:=IValid_raw x w h.1
 rwa [h.2.1,h.2.2] at H
theorem keep77 {w w':World} (k:Kp w w') {p0 p1 p2 p3 p4 p5 p6 q0 q1 q2 q3 q4 q5 q6:Addr} {v0 v1 v2 v3 v4 v5 v6 u0 u1 u2 u3 u4 u5 u6:Value}
  (h:(w.cell? p0=some v0∧w.cell? p1=some v1∧w.cell? p2=some v2∧w.cell? p3=some v3∧w.cell? p4=some v4∧w.cell? p5=some v5∧w.cell? p6=some v6)∧w.cell? q0=some u0∧w.cell? q1=some u1∧w.cell? q2=some u2∧w.cell? q3=some u3∧w.cell? q4=some u4∧w.cell? q5=some u5∧w.cell? q6=some u6) :
  (w'.cell? p0=some v0∧w'.cell? p1=some v1∧w'.cell? p2=some v2∧w'.cell? p3=some v3∧w'.cell? p4=some v4∧w'.cell? p5=some v5∧w'.cell? p6=some v6)∧w'.cell? q0=some u0∧w'.cell? q1=some u1∧w'.cell? q2=some u2∧w'.cell? q3=some u3∧w'.cell? q4=some u4∧w'.cell? q5=some u5∧w'.cell? q6=some u6 :=
 ⟨keep7 k h.1,keep7 k h.2⟩
theorem Valid_rok (x:RD) (w:World) (h:x.ok w) :
  Calls Tryz.prog 114 #[.agg #[.bool x.neg,.slice x.a x.xs.length x.c,.int .i64 x.e]] w fun e w'=>e=.returned (.bool true)∧Kp w w':=by
 have H:=Valid_raw x w h.1
 rwa [h.2] at H
theorem Box3.new3 (w:World) (x0 x1 x2:Value) (t:TypeId) (o1 o2:Obj):Box3 (((w.alloc o1).alloc o2).alloc (.cells #[x0,x1,x2] t)) (w.heap.size+2) x0 x1 x2:=by
 have:=Box3.new ((w.alloc o1).alloc o2) x0 x1 x2 t
 rwa [World.size_alloc,World.size_alloc] at this
def DyE (w:World) (d:Dy) (f:Int) (e:Ending) (w':World):Prop :=
 ∃ a c,e=.returned (.tuple #[.agg #[.bool d.neg,.slice a (limbs d.m).length c,.int .i64 d.e],.int .i64 f])∧Rd w' a (limbs d.m)∧(limbs d.m).length≤c∧c≤maxLen∧Kp w w'
theorem dyE_zero {w w':World} {f:Int} {e:Ending} (he:e=.returned (.tuple #[.agg #[.bool false,.slice none 0 0,.int .i64 0],.int .i64 f])) (hk:Kp w w'):DyE w .zero f e w':=by
 subst he
 refine⟨none,0,?_,?_,?_,by unfold maxLen;omega,hk⟩
 ·show _=Ending.returned (.tuple #[.agg #[.bool false,.slice none (limbs 0).length 0,.int .i64 0],.int .i64 f])
  rw[limbs_zero];rfl
 ·show Rd w' none (limbs 0)
  rw[limbs_zero];exact .nil _ _
 show (limbs 0).length≤0
 rw[limbs_zero];exact Nat.le_refl _
def chk (d:Dy):Dy×Int:=if inrB d.m d.e then (d,0) else (.zero,9)
theorem checked_any (d:Dy) (a:Option Addr) (c:Nat) (w:World) (h:Rd w a (limbs d.m)) (hc:(limbs d.m).length≤c) (hm:c≤maxLen) (hl:(limbs d.m).length≤1100000) (he:I64 d.e) :
  Calls Tryz.prog 311 #[.agg #[.bool d.neg,.slice a (limbs d.m).length c,.int .i64 d.e]] w (DyE w (chk d).1 (chk d).2):=by
 have hr:=inRange_any d.neg a (limbs d.m) c d.e ((w.alloc (.cells #[.bool d.neg,.slice a (limbs d.m).length c,.int .i64 d.e] 113)).alloc (.cells #[.bool false,.slice none 0 0,.int .i64 0] 113)) (h.kp (((Kp.refl w).alloc _).alloc _)) hc hm hl he
 rw[val_limbs] at hr
 have Hr:=hid hr
 clear hr
 cases hi:inrB d.m d.e with
 | false =>
  rw[hi] at Hr
  have Hd:=hid (show chk d=(.zero,9) by unfold chk;rw[hi];rfl)
  clear hi
  go_enter Tryz.func311,Tryz.ntmps311
  go_wp2_with fail
  refine Hr.out.mono ?_
  rintro e w1 ⟨rfl,hk⟩
  obtain⟨q0,q1,q2,f0,f1,f2⟩:=(Box3.new2 w (.bool false) (.slice none 0 0) (.int .i64 0) 113 (.cells #[.bool d.neg,.slice a (limbs d.m).length c,.int .i64 d.e] 113)).kp hk
  have hk2:=(((Kp.refl w).alloc _).alloc _).trans hk
  go_wp2_with fail
  have hst:=stored q0 q1 q2 nofun nofun nofun (.bool false) (.slice none 0 0) (.int .i64 0)
  generalize (((w1.setCell _ _).setCell _ _).setCell _ _)=W at hst ⊢
  obtain⟨s0,s1,s2,_,s4,s5,_,_⟩:=hst
  refine bodyPost_ret (v:=.tuple #[.agg #[.bool false,.slice none 0 0,.int .i64 0],.int .i64 9]) (by simp[results,Tryz.results311,go_sem,s0,s1,s2]) rfl ?_
  rw[Hd.out]
  exact dyE_zero rfl (s5 _ hk2 (by omega))
 | true =>
 rw[hi] at Hr
 have Hd:=hid (show chk d=(d,0) by unfold chk;rw[hi];rfl)
 clear hi
 go_enter Tryz.func311,Tryz.ntmps311
 go_wp2_with fail
 refine Hr.out.mono ?_
 rintro e w1 ⟨rfl,hk⟩
 obtain⟨c0,c1,c2,_⟩:=(Box3.new1 w (.bool d.neg) (.slice a (limbs d.m).length c) (.int .i64 d.e) 113 (.cells #[.bool false,.slice none 0 0,.int .i64 0] 113)).kp hk
 obtain⟨q0,q1,q2,f0,f1,f2⟩:=(Box3.new2 w (.bool false) (.slice none 0 0) (.int .i64 0) 113 (.cells #[.bool d.neg,.slice a (limbs d.m).length c,.int .i64 d.e] 113)).kp hk
 have hk2:=(((Kp.refl w).alloc _).alloc _).trans hk
 go_wp2_with fail
 have hst:=stored q0 q1 q2 nofun nofun nofun (.bool d.neg) (.slice a (limbs d.m).length c) (.int .i64 d.e)
 generalize (((w1.setCell _ _).setCell _ _).setCell _ _)=W at hst ⊢
 obtain⟨s0,s1,s2,_,s4,s5,_,_⟩:=hst
 refine bodyPost_ret (v:=.tuple #[.agg #[.bool d.neg,.slice a (limbs d.m).length c,.int .i64 d.e],.int .i64 0]) (by simp[results,Tryz.results311,go_sem,s0,s1,s2]) rfl ?_
 rw[Hd.out]
 exact⟨a,c,rfl,s4 _ _ (h.kp hk2),hc,hm,s5 _ hk2 (by omega)⟩
theorem canon_len (s:Bool) (n:Nat) (e:Int):(limbs (canon s n e).m).length≤(limbs n).length:=by
 unfold canon
 split
 ·show (limbs 0).length≤_;rw[limbs_zero];exact Nat.zero_le _
 exact limbs_length_mono (Nat.div_le_self _ _)
theorem canon_e (s:Bool) {n:Nat} {e:Int} (h0:-1000000000≤e) (h1:e≤1000000000) (hb:(limbs n).length≤256):-1000000000≤(canon s n e).e∧(canon s n e).e≤1000010000:=by
 unfold canon
 split
 ·exact⟨by decide,by decide⟩
 next h =>
 have e1:=bits_oddp h
 obtain⟨k,hk⟩:∃ k:Nat,k=256:=⟨_,rfl⟩
 rw[← hk] at hb
 have e2:bits n≤32*k:=bits_le.2 (by rw[← pow32];exact limbs_length_le.1 hb)
 simp only[]
 omega
theorem Make_any (s:Bool) (a:Option Addr) (xs:List Nat) (c:Nat) (ex:Int) (w:World) (h:Rd w a xs) (hc:xs.length≤c) (hm:c≤maxLen) (hl:xs.length≤256) (he0:-32768≤ex) (he1:ex≤32768) (hT:Tab w) :
  Calls Tryz.prog 305 #[.bool s,.slice a xs.length c,.int .i64 ex] w (DyE w (chk (canon s (val xs) ex)).1 (chk (canon s (val xs) ex)).2):=by
 have hE:=exponent_any ex (w.alloc (.cells #[.bool false,.slice none 0 0,.int .i64 0] 113)) ⟨by omega,by omega⟩
 rw[show expB ex=true from decide_eq_true ⟨he0,he1⟩] at hE
 have HE:=hid hE
 have hll:=limbs_len_le h.lt32
 have hlen:=canon_len s (val xs) ex
 have hee:=canon_e s (show -1000000000≤ex by omega) (show ex≤1000000000 by omega) (show (limbs (val xs)).length≤256 by omega)
 clear hE
 go_enter Tryz.func305,Tryz.ntmps305
 go_wp2_with fail
 refine HE.out.mono ?_
 rintro e w1 ⟨rfl,rfl⟩
 go_wp2_with fail
 refine (canonical_any s a xs c ex _ (h.kp ((Kp.refl w).alloc _)) hc hm hl (by omega) (by omega) (hT.kp ((Kp.refl w).alloc _))).mono ?_
 rintro e w2 ⟨a2,c2,rfl,h2,h3,h4,h5⟩
 generalize canon s (val xs) ex=D at *
 go_wp2_with fail
 refine (checked_any D a2 c2 _ h2 h3 h4 (by omega) ⟨by omega,by omega⟩).mono ?_
 rintro e w3 ⟨a3,c3,rfl,h6,h7,h8,h9⟩
 generalize (chk D).1=F at *
 generalize (chk D).2=f at *
 have hk:=h5.trans h9
 obtain⟨q0,q1,q2,f0,f1,f2⟩:=(Box3.new w (.bool false) (.slice none 0 0) (.int .i64 0) 113).kp hk
 have hk2:=((Kp.refl w).alloc _).trans hk
 go_wp2_with fail
 have hst:=stored q0 q1 q2 nofun nofun nofun (.bool F.neg) (.slice a3 (limbs F.m).length c3) (.int .i64 F.e)
 generalize (((w3.setCell _ _).setCell _ _).setCell _ _)=W at hst ⊢
 obtain⟨s0,s1,s2,_,s4,s5,_,_⟩:=hst
 refine bodyPost_ret (v:=.tuple #[.agg #[.bool F.neg,.slice a3 (limbs F.m).length c3,.int .i64 F.e],.int .i64 f]) (by simp[results,Tryz.results305,go_sem,s0,s1,s2]) rfl ?_
 exact⟨a3,c3,rfl,s4 _ _ h6,h7,h8,s5 _ hk2 (by omega)⟩
def preB (p:Int):Bool:=decide (8≤p∧p≤512)
theorem preB_iff {p:Int}:preB p=true↔8≤p∧p≤512:=by unfold preB;simp
theorem precise_any (p:Int) (w:World) :
  Calls Tryz.prog 291 #[.int .i64 p] w fun e w'=>e=.returned (.bool (preB p))∧w=w':=by
 by_cases h1:8≤p
 rotate_left
 ·have H:=hid (show preB p=false from decide_eq_false (by omega))
  go_enter Tryz.func291,Tryz.ntmps291
  go_wp2_with fail
  go_ret
  exact⟨ret_bool (by first | exact H.out.symm | (rw[H.out];simp;omega)),rfl⟩
 by_cases h2:p≤512
 ·have H:=hid (show preB p=true from decide_eq_true ⟨h1,h2⟩)
  go_enter Tryz.func291,Tryz.ntmps291
  go_wp2_with fail
  go_ret
  exact⟨ret_bool (by first | exact H.out.symm | (rw[H.out];simp;omega)),rfl⟩
 have H:=hid (show preB p=false from decide_eq_false (by omega))
 go_enter Tryz.func291,Tryz.ntmps291
 go_wp2_with fail
 go_ret
 exact⟨ret_bool (by first | exact H.out.symm | (rw[H.out];simp;omega)),rfl⟩
def NatOut (w:World) (v:Nat) (e:Ending) (w':World):Prop :=
 ∃ a c,e=.returned (.slice a (limbs v).length c)∧(limbs v).length≤c∧c≤maxLen∧Rd w' a (limbs v)∧Kp w w'
theorem roshl_any (a:Option Addr) (xs:List Nat) (c:Nat) (n:Int) (w:World) (hx:Rd w a xs) (hxl:xs.length≤256) (hxc:xs.length≤c) (hc:c≤maxLen) (h0:0≤n) (hn:n≤65536) (hv:(limbs (val xs*2 ^ n.toNat)).length≤256) :
  Calls Tryz.prog 283 #[.slice a xs.length c,.int .i64 n] w (NatOut w (val xs*2 ^ n.toNat)):=by
 have H:=hid (Shl_any a xs c n w hx hxl hxc hc h0 hn hv)
 clear hv
 generalize val xs*2 ^ n.toNat=V at *
 go_enter Tryz.func283,Tryz.ntmps283
 go_wp2_with fail
 refine H.out.mono ?_
 rintro e w2 ⟨a2,c2,rfl,h3,h4,h5,h6⟩
 go_wp2_with fail
 go_ret
 exact⟨a2,c2,rfl,h3,h4,h5,h6⟩
def ShrOut (w:World) (v:Nat) (lost:Bool) (e:Ending) (w':World):Prop :=
 ∃ a c,e=.returned (.tuple #[.slice a (limbs v).length c,.bool lost])∧(limbs v).length≤c∧c≤maxLen∧Rd w' a (limbs v)∧Kp w w'
theorem shr_low {V n b:Nat} (hb:bits V=b) (h:b<n):V/2 ^ n=V/2 ^ b∧(decide (V % 2 ^ n=0))=decide (V % 2 ^ b=0):=by
 have h1:V<2 ^ b:=hb▸lt_two_pow_bits V
 have h2:V<2 ^ n:=Nat.lt_of_lt_of_le h1 (Nat.pow_le_pow_right (by decide) (by omega))
 rw[Nat.div_eq_of_lt h1,Nat.div_eq_of_lt h2,Nat.mod_eq_of_lt h1,Nat.mod_eq_of_lt h2]
 exact⟨rfl,rfl⟩
theorem cmp_lost {V m:Nat}:(cmpN (V/2 ^ m*2 ^ m) V != 0)=!decide (V % 2 ^ m=0):=by
 have h:=Nat.div_add_mod V (2 ^ m)
 rw[Nat.mul_comm] at h
 by_cases h0:V % 2 ^ m=0
 ·rw[cmpN_eq (by omega)];simp[h0]
 rw[cmpN_lt (by omega)];simp[h0]
theorem roshr_any (a:Option Addr) (xs:List Nat) (c n:Nat) (w:World) (hx:Rd w a xs) (hxl:xs.length≤256) (hxc:xs.length≤c) (hc:c≤maxLen) (hn:n≤9000000) :
  Calls Tryz.prog 302 #[.slice a xs.length c,.int .i64 n] w (ShrOut w (val xs/2 ^ n) (!decide (val xs % 2 ^ n=0))):=by
 have hb:=bits_val_le hx.lt32
 have hll:=limbs_len_le hx.lt32
 obtain⟨m,hm,hm2⟩:∃ m:Nat,m=(if bits (val xs)<n then bits (val xs) else n)∧m≤bits (val xs):=⟨_,rfl,by split <;> omega⟩
 have e1:val xs/2 ^ n=val xs/2 ^ m∧(decide (val xs % 2 ^ n=0))=decide (val xs % 2 ^ m=0):=by
  rw[hm];split
  ·next h=>exact shr_low rfl h
  ·exact⟨rfl,rfl⟩
 rw[e1.1,e1.2,← cmp_lost]
 clear e1
 have hB:=hid (bits_any a xs c w hx hxc hc (by omega))
 have hS:=hid (Shr_any a xs c m w hx hxl hxc hc (by omega) (by omega))
 rw[Int.toNat_natCast] at hS
 have hle:=Nat.div_le_self (val xs) (2 ^ m)
 have hle2:=Nat.div_mul_le_self (val xs) (2 ^ m)
 have hq:(limbs (val xs/2 ^ m)).length≤256:=Nat.le_trans (limbs_length_mono hle) (by omega)
 have hq2:(limbs (val (limbs (val xs/2 ^ m))*2 ^ ((m:Int)).toNat)).length≤256:=by
  rw[val_limbs,Int.toNat_natCast];exact Nat.le_trans (limbs_length_mono hle2) (by omega)
 have Hq2:=hid hq2
 have hmb:(m:Int)≤65536:=by omega
 clear hq2 hle hle2 hll
 by_cases hlt:bits (val xs)<n
 rotate_left
 ·have hme:m=n:=by rw[hm,if_neg hlt]
  clear hm
  subst hme
  go_enter Tryz.func302,Tryz.ntmps302
  go_wp2_with fail
  refine hB.out.mono ?_
  rintro e w1 ⟨rfl,rfl⟩
  go_wp2_with fail
  refine hS.out.mono ?_
  rintro e w2 ⟨a2,c2,rfl,h3,h4,h5,h6⟩
  go_wp2_with fail
  refine (roshl_any a2 _ c2 _ _ h5 hq h3 h4 (by omega) hmb Hq2.out).mono ?_
  rintro e w3 ⟨a3,c3,rfl,k3,k4,k5,k6⟩
  rw[val_limbs,Int.toNat_natCast] at k3 k5 ⊢
  go_wp2_with fail
  refine (cmp_any a3 a _ xs c3 c _ k5 (hx.kp (h6.trans k6)) k3 hxc k4 hc).mono ?_
  rintro e w4 ⟨rfl,k7⟩
  rw[val_limbs]
  go_wp2_with fail
  go_ret2
  exact⟨a2,c2,rfl,h3,h4,(h5.kp k6).kp k7,(h6.trans k6).trans k7⟩
 have hme:m=bits (val xs):=by rw[hm,if_pos hlt]
 clear hm
 subst hme
 go_enter Tryz.func302,Tryz.ntmps302
 go_wp2_with fail
 refine hB.out.mono ?_
 rintro e w1 ⟨rfl,rfl⟩
 go_wp2_with fail
 refine hB.out.mono ?_
 rintro e w1 ⟨rfl,rfl⟩
 go_wp2_with fail
 refine hS.out.mono ?_
 rintro e w2 ⟨a2,c2,rfl,h3,h4,h5,h6⟩
 go_wp2_with fail
 refine (roshl_any a2 _ c2 _ _ h5 hq h3 h4 (by omega) hmb Hq2.out).mono ?_
 rintro e w3 ⟨a3,c3,rfl,k3,k4,k5,k6⟩
 rw[val_limbs,Int.toNat_natCast] at k3 k5 ⊢
 go_wp2_with fail
 refine (cmp_any a3 a _ xs c3 c _ k5 (hx.kp (h6.trans k6)) k3 hxc k4 hc).mono ?_
 rintro e w4 ⟨rfl,k7⟩
 rw[val_limbs]
 go_wp2_with fail
 go_ret2
 exact⟨a2,c2,rfl,h3,h4,(h5.kp k6).kp k7,(h6.trans k6).trans k7⟩
def rdOf (d:Dy) (a:Option Addr) (c:Nat):RD:=⟨d.neg,a,limbs d.m,c,d.e⟩
theorem rdOf_dy (d:Dy) (a:Option Addr) (c:Nat):(rdOf d a c).dy=d:=by unfold rdOf RD.dy;rw[val_limbs]
theorem rdOf_vl {d:Dy} (h:d.ok) (a:Option Addr) (c:Nat):(rdOf d a c).vl=true:=ok_vld h
theorem rdOf_rd {w:World} {d:Dy} {a:Option Addr} {c:Nat} (hd:d.ok) (h:Rd w a (limbs d.m)) (hc:(limbs d.m).length≤c) (hm:c≤maxLen):(rdOf d a c).rd w:=⟨h,hc,hm,by have:=ok_len hd;show (limbs d.m).length≤1100000;omega,ok_I64 hd⟩
theorem rdOf_ok {w:World} {d:Dy} {a:Option Addr} {c:Nat} (hd:d.ok) (h:Rd w a (limbs d.m)) (hc:(limbs d.m).length≤c) (hm:c≤maxLen):(rdOf d a c).ok w:=⟨rdOf_rd hd h hc hm,rdOf_vl hd a c⟩
theorem rdok_dy {w:World} {x:RD} (h:x.ok w):x.dy.ok:=(vld_ok h.1.1.lt32 h.2).1
theorem rdok_limbs {w:World} {x:RD} (h:x.ok w):limbs x.dy.m=x.xs:=RD.limbs h.1 h.2
theorem rdok_len {w:World} {x:RD} (h:x.ok w):x.xs.length≤128:=by have:=ok_len (rdok_dy h);rwa [rdok_limbs h] at this
theorem rdok_e {w:World} {x:RD} (h:x.ok w):-16384≤x.e∧x.e≤16384:=ok_e (rdok_dy h)
theorem RD.ok.drew {w:World} {x:RD} (h:x.ok w):x.ok w.drew:=h.kp (Kp.refl w).drew
theorem rdok_zero {w:World} {x:RD} (h:x.ok w):x.xs.length=0↔x.dy.m=0:=by
 rw[← rdok_limbs h,List.length_eq_zero_iff,limbs_eq_nil]
def NumOut (w:World) (d:Dy) (e:Ending) (w':World):Prop:=∃ y:RD,e=.returned (.agg #[.bool y.neg,.slice y.a y.xs.length y.c,.int .i64 y.e])∧y.rd w'∧y.dy=d∧(d.ok→y.vl=true)∧Kp w w'
def NumE (w:World) (d:Dy) (f:Int) (e:Ending) (w':World):Prop:=∃ y:RD,e=.returned (.tuple #[.agg #[.bool y.neg,.slice y.a y.xs.length y.c,.int .i64 y.e],.int .i64 f])∧y.rd w'∧y.dy=d∧(d.ok→y.vl=true)∧Kp w w'
def rdZero:RD:=⟨false,none,[],0,0⟩
theorem rdZero_rd (w:World):rdZero.rd w:=⟨Rd.nil _ _,Nat.le_refl _,by show 0≤maxLen;exact Nat.zero_le _,by unfold rdZero;simp,⟨by unfold rdZero;simp,by unfold rdZero;simp⟩⟩
theorem rdZero_vl:rdZero.vl=true:=by
 have:=rdOf_vl Dy.ok_zero none 0
 unfold rdOf at this
 rw[show Dy.zero.m=0 from rfl,limbs_zero] at this
 exact this
theorem numE_zero {w w':World} {f:Int} {e:Ending} (he:e=.returned (.tuple #[.agg #[.bool false,.slice none 0 0,.int .i64 0],.int .i64 f])) (hk:Kp w w'):NumE w .zero f e w' :=
 ⟨rdZero,he,rdZero_rd _,rfl,fun _=>rdZero_vl,hk⟩
theorem numOut_zero {w w':World} {e:Ending} (he:e=.returned (.agg #[.bool false,.slice none 0 0,.int .i64 0])) (hk:Kp w w'):NumOut w .zero e w' :=
 ⟨rdZero,he,rdZero_rd _,rfl,fun _=>rdZero_vl,hk⟩
theorem set3x {w:World} {g b:Nat} (n:b≠g) {v0 v1 v2 x0 x1 x2:Value} (h:w.cell? ⟨b,0,none⟩=some v0∧w.cell? ⟨b,1,none⟩=some v1∧w.cell? ⟨b,2,none⟩=some v2) :
  (((w.setCell ⟨g,0,none⟩ x0).setCell ⟨g,1,none⟩ x1).setCell ⟨g,2,none⟩ x2).cell? ⟨b,0,none⟩=some v0∧(((w.setCell ⟨g,0,none⟩ x0).setCell ⟨g,1,none⟩ x1).setCell ⟨g,2,none⟩ x2).cell? ⟨b,1,none⟩=some v1∧(((w.setCell ⟨g,0,none⟩ x0).setCell ⟨g,1,none⟩ x1).setCell ⟨g,2,none⟩ x2).cell? ⟨b,2,none⟩=some v2:=by
 have ne (i j:Nat):(⟨g,i,none⟩:Addr)≠⟨b,j,none⟩:=fun e=>n (by injection e with e1;exact e1.symm)
 have key (j:Nat):(((w.setCell ⟨g,0,none⟩ x0).setCell ⟨g,1,none⟩ x1).setCell ⟨g,2,none⟩ x2).cell? ⟨b,j,none⟩=w.cell? ⟨b,j,none⟩:=by
  rw[cell_set_ne (ne 2 j),cell_set_ne (ne 1 j),cell_set_ne (ne 0 j)]
 simp only[key]
 exact h
theorem Neg_ok (x:RD) (w:World) (h:x.ok w) :
  Calls Tryz.prog 294 #[.agg #[.bool x.neg,.slice x.a x.xs.length x.c,.int .i64 x.e]] w (NumOut w x.dy.opp):=by
 have hlen:=rdok_len h
 have he:=rdok_e h
 by_cases h0:x.xs.length=0
 ·have hz:((x.xs.length:Int)==0)=true:=beq_iff_eq.2 (by omega)
  have H:=hid (show x.dy.opp=.zero by unfold Dy.opp;rw[if_pos ((rdok_zero h).1 h0)])
  clear h0
  go_enter Tryz.func294,Tryz.ntmps294
  go_wp2_with fail
  generalize hW:((w.alloc _).alloc _)=W at *
  have hk:Kp w W:=hW▸((Kp.refl w).alloc _).alloc _
  have hS:W.cell? ⟨w.heap.size,0,none⟩=some (.bool x.neg)∧W.cell? ⟨w.heap.size,1,none⟩=some (.slice x.a x.xs.length x.c)∧W.cell? ⟨w.heap.size,2,none⟩=some (.int .i64 x.e):=by rw[← hW];simp
  have hB:Box3 W (w.heap.size+1) (.bool false) (.slice none 0 0) (.int .i64 0):=hW▸Box3.new2 _ _ _ _ _ _
  clear hW
  refine (Valid_rok x _ (h.kp hk)).mono ?_
  rintro e w1 ⟨rfl,hk1⟩
  have hS1:=keep3 hk1 hS
  obtain⟨q0,q1,q2,f0,f1,f2⟩:=hB.kp hk1
  have hk2:=hk.trans hk1
  clear hS hk hk1 hB
  go_wp2_with fail
  have hst:=stored q0 q1 q2 nofun nofun nofun (.bool false) (.slice none 0 0) (.int .i64 0)
  generalize (((w1.setCell _ _).setCell _ _).setCell _ _)=W2 at hst ⊢
  obtain⟨s0,s1,s2,_,s4,s5,_,_⟩:=hst
  refine bodyPost_ret (v:=.agg #[.bool false,.slice none 0 0,.int .i64 0]) (by simp[results,Tryz.results294,go_sem,s0,s1,s2]) rfl ?_
  rw[H.out]
  exact numOut_zero rfl (s5 _ hk2 (by omega))
 have hz:((x.xs.length:Int)==0)=false:=beq_eq_false_iff_ne.2 (by omega)
 have H:=hid (show x.dy.opp=⟨!x.neg,val x.xs,x.e⟩ by unfold Dy.opp;rw[if_neg (fun e=>h0 ((rdok_zero h).2 e))];rfl)
 have Hv:=hid (show (x.dy.opp.ok→vld (!x.neg) x.xs x.e=true) from fun hok=>by
  have:=ok_vld hok
  rwa [H.out,show limbs (Dy.m ⟨!x.neg,val x.xs,x.e⟩)=x.xs from rdok_limbs h] at this)
 clear h0
 go_enter Tryz.func294,Tryz.ntmps294
 go_wp2_with fail
 generalize hW:((w.alloc _).alloc _)=W at *
 have hk:Kp w W:=hW▸((Kp.refl w).alloc _).alloc _
 have hS:W.cell? ⟨w.heap.size,0,none⟩=some (.bool x.neg)∧W.cell? ⟨w.heap.size,1,none⟩=some (.slice x.a x.xs.length x.c)∧W.cell? ⟨w.heap.size,2,none⟩=some (.int .i64 x.e):=by rw[← hW];simp
 have hB:Box3 W (w.heap.size+1) (.bool false) (.slice none 0 0) (.int .i64 0):=hW▸Box3.new2 _ _ _ _ _ _
 clear hW
 refine (Valid_rok x _ (h.kp hk)).mono ?_
 rintro e w1 ⟨rfl,hk1⟩
 have hS1:=keep3 hk1 hS
 have hB1:=(hB.kp hk1).kp (Kp.refl w1).drew
 have hk2:=hk.trans hk1
 have hx:=(h.kp hk2).drew
 clear hS hk hk1 hB
 go_wp2_with fail
 have hS2:=keep3 (Kp.refl w1).drew hS1
 clear hS1
 go_region_held3 (fun w'=>w'.cell? ⟨w.heap.size,0,none⟩=some (.bool x.neg)∧w'.cell? ⟨w.heap.size,1,none⟩=some (.slice x.a x.xs.length x.c)∧w'.cell? ⟨w.heap.size,2,none⟩=some (.int .i64 x.e)) (first | with_reducible assumption | with_reducible exact keep3 (by assumption) (by assumption) | with_reducible exact set3x (by omega) (by assumption))
  (first
   | (go_at_call 288;refine (clone_any x.a x.xs x.c _ hx.1.1 (by omega)).mono ?_;rintro e w4 ⟨a4,c4,rfl,r4,l4,m4,hk4⟩;obtain⟨q0,q1,q2,f0,f1,f2⟩:=hB1.kp hk4))
 have hk5:=hk2.drew.trans hk4
 have hxs:=hx.1.1.lt32
 clear hS2 hB1 hx
 have hst:=stored q0 q1 q2 nofun nofun nofun (.bool !x.neg) (.slice a4 x.xs.length c4) (.int .i64 x.e)
 go_wp2_with fail
 generalize (((w4.setCell _ _).setCell _ _).setCell _ _)=W2 at hst ⊢
 obtain⟨s0,s1,s2,_,s4,s5,_,_⟩:=hst
 refine bodyPost_ret (v:=.agg #[.bool (RD.mk (!x.neg) a4 x.xs c4 x.e).neg,.slice (RD.mk (!x.neg) a4 x.xs c4 x.e).a (RD.mk (!x.neg) a4 x.xs c4 x.e).xs.length (RD.mk (!x.neg) a4 x.xs c4 x.e).c,.int .i64 (RD.mk (!x.neg) a4 x.xs c4 x.e).e]) (by simp[results,Tryz.results294,go_sem,s0,s1,s2]) rfl ?_
 exact⟨RD.mk (!x.neg) a4 x.xs c4 x.e,rfl,⟨s4 _ _ r4,l4,m4,by show x.xs.length≤1100000;omega,⟨by show _≤x.e;omega,by show x.e≤_;omega⟩⟩,H.out.symm,Hv.out,s5 _ hk5 (by omega)⟩
def RowD (w:World) (a:Option Addr) (zs:List RD):Prop :=
 ∀ i x,zs[i]? = some x→∃ b o,a=some ⟨b,o,none⟩∧x.rd w∧w.cell? ⟨b,o+i*3,none⟩=some (.bool x.neg)∧w.cell? ⟨b,o+i*3+1,none⟩=some (.slice x.a x.xs.length x.c)∧w.cell? ⟨b,o+i*3+2,none⟩=some (.int .i64 x.e)
theorem RowD.kp {w w':World} {a:Option Addr} {zs:List RD} (h:RowD w a zs) (k:Kp w w'):RowD w' a zs:=by
 intro i x hi
 obtain⟨b,o,rfl,hr,h0,h1,h2⟩:=h i x hi
 exact⟨b,o,rfl,hr.kp k,k.cell h0,k.cell h1,k.cell h2⟩
theorem chk_of_ok {d:Dy} (h:d.ok):chk d=(d,0):=by
 unfold chk
 rw[if_pos]
 unfold inrB
 rw[decide_eq_true_eq]
 rcases h with ⟨h1,_⟩ | ⟨h1,h2⟩
 ·left;rw[h1];exact bits_zero
 exact .inr h2
theorem RowD.rd {w:World} {a:Option Addr} {zs:List RD} (h:RowD w a zs) {x:RD} (hx:x∈zs):x.rd w:=by
 obtain⟨i,hi⟩:=List.getElem?_of_mem hx
 obtain⟨_,_,_,hr,_⟩:=h i x hi
 exact hr
def fltB (p:Int) (ys:List RD):Int:=if ys.all RD.vl then (if preB p then 0 else 2) else 1
theorem fault_any (p:Int) (b:Option Addr) (ys:List RD) (d:Nat) (w:World) (h':RowD w b ys) (hl':ys.length≤1100000) :
  Calls Tryz.prog 280 #[.int .i64 p,.slice b ys.length d] w fun e w'=>e=.returned (.int .i64 (fltB p ys))∧Kp w w':=by
 have H:=hid (show fltB p ys=if ys.all RD.vl then (if preB p then 0 else 2) else 1 from rfl)
 go_enter Tryz.func280,Tryz.ntmps280
 go_wp2_with fail
 go_loopw [9] (fun x wr=>∃ k:Nat,k≤ys.length∧x=.int .i64 k∧Kp w wr∧∀ (i:Nat) (y:RD),ys[i]? = some y→i<k→y.vl=true) (fun x _=>ys.length-(intOf x).toNat)
 case atStart=>exact⟨0,by omega,rfl,Kp.refl _,fun _ _ _ h=>by omega⟩
 case round =>
 obtain⟨k,hk,rfl,hkp,hall⟩:=hrel
 have Hall:=hid hall
 clear hall
 by_cases hlt:k<ys.length
 rotate_left
 ·have Hv:=hid (show ys.all RD.vl=true from List.all_eq_true.2 fun y hy=>by
   obtain⟨i,hi⟩:=List.getElem?_of_mem hy
   exact Hall.out i y hi (by have:=(List.getElem?_eq_some_iff.1 hi).1;omega))
  rw[Hv.out] at H
  go_wp2_with fail
  refine (precise_any p _).mono ?_
  rintro e w1 ⟨rfl,rfl⟩
  cases hp:preB p with
  | false =>
   rw[hp] at H
   clear hp
   go_wp2_with fail
   go_ret
   exact⟨ret_int H.out.symm,hkp⟩
  | true =>
  rw[hp] at H
  clear hp
  go_wp2_with fail
  go_ret
  exact⟨ret_int H.out.symm,hkp⟩
 have hy:=(h'.kp hkp).rd (List.getElem_mem hlt)
 obtain⟨b2,o2,rfl,_,j0,j1,j2⟩:=(h'.kp hkp) k (ys[k]) (List.getElem?_eq_getElem hlt)
 have Hg:=hid (List.getElem?_eq_getElem hlt)
 generalize ys[k]=y at *
 have hi1:(0:Int)≤(k:Int):=by omega
 have hi2:(k:Int)<(ys.length:Int):=by omega
 clear h'
 go_wp2_with fail
 have hk3:=(Kp.refl wr).alloc (.cells #[.bool y.neg,.slice y.a y.xs.length y.c,.int .i64 y.e] 113)
 refine (Valid_raw y _ (hy.kp hk3)).mono ?_
 rintro e w4 ⟨rfl,hk4⟩
 have hk5:=hkp.trans (hk3.trans hk4)
 cases hv:y.vl with
 | false =>
  have Hno:=hid (show fltB p ys=1 by
   rw[H.out,if_neg]
   intro h
   have:=List.all_eq_true.1 h y (List.mem_of_getElem? Hg.out)
   rw[hv] at this;cases this)
  clear hv
  go_wp2_with fail
  go_ret
  exact⟨ret_int Hno.out.symm,hk5⟩
 | true =>
 have Hst:=hid (show ∀ (i:Nat) (y':RD),ys[i]? = some y'→i<k+1→y'.vl=true from fun i y' hy' hi=>by
  by_cases e:i=k
  ·subst e;rw[Hg.out] at hy';cases hy';exact hv
  ·exact Hall.out i y' hy' (by omega))
 clear hv
 go_wp2_with fail
 go_roundw
 case measure=>simp[intOf];omega
 case rel=>exact⟨k+1,by omega,by go_num,hk5,Hst.out⟩
end Go.Proofs.YteidgoldnllabaaGreatDoor
