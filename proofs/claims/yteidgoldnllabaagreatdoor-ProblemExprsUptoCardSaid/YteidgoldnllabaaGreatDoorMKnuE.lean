/-
  Walks: natural.divide, DivMod, of any numbers.
-/
import Derived.Test.YteidgoldnllabaaGreatDoorMKnuD
import Derived.Test.YteidgoldnllabaaGreatDoorMEqU
import Derived.Test.YteidgoldnllabaaGreatDoorMRoDiv
import Derived.Test.YteidgoldnllabaaGreatDoorMOwnD
import Derived.Test.YteidgoldnllabaaGreatDoorMRoSq
import Derived.Deep.Cut
import Derived.Test.YteidgoldnllabaaGreatDoorMProdP
import Derived.Deep.RegionHeld3
import Derived.Deep.RegionLaw
import Derived.Deep.CutRange
import Derived.Test.YteidgoldnllabaaGreatDoorMIvB
import Derived.Test.YteidgoldnllabaaGreatDoorMTpoN
import Derived.Shelf.Spec.TrailingZeros
namespace Go.Proofs.YteidgoldnllabaaGreatDoor
open Go.RowKit
open Lib (hid)
set_option maxRecDepth 100000 in
set_option maxHeartbeats 4000000 in
theorem divide0_any (a b:Option Addr) (xs ys:List Nat) (c d:Nat) (w:World) (hx:Rd w a xs) (hy:Rd w b ys) (hxl:xs.length≤256) (hxc:xs.length≤c) (hyc:ys.length≤d) (hc:c≤maxLen) (hd:d≤maxLen) (hlt:val xs<val ys) :
  Calls Tryz.prog 292 #[.slice a xs.length c,.slice b ys.length d] w (DivOut w (val xs) (val ys) 256):=by
 have H1:=hid (trim_any a xs c w hx hxc hc)
 have H2:=hid (trim_any b ys d w hy hyc hd)
 have g1:=hx.limbs
 have g2:=hy.limbs
 have hl1:=limbs_len_le hx.lt32
 have hl2:=limbs_len_le hy.lt32
 have Hv1:=hid (val_limbs (val xs))
 have Hv2:=hid (val_limbs (val ys))
 have hcu:(limbs (val xs)).length≤c:=by omega
 have hcv:(limbs (val ys)).length≤d:=by omega
 go_enter Tryz.func292,Tryz.ntmps292
 go_wp2_with fail
 refine H1.out.mono ?_
 rintro e w2 ⟨rfl,rfl⟩
 go_wp2_with fail
 refine H2.out.mono ?_
 rintro e w2 ⟨rfl,rfl⟩
 clear H1 H2 hx hy
 generalize val xs=m at *
 generalize val ys=n at *
 generalize limbs m=us at *
 generalize limbs n=vs at *
 have hul:us.length≤256:=by omega
 clear hxl hxc hyc hl1 hl2
 go_wp2_with fail
 refine (cmp_any a b us vs c d _ g1 g2 hcu hcv hc hd).mono ?_
 rw[Hv1.out,Hv2.out]
 rintro e w3 ⟨rfl,hk3⟩
 have hcm:cmpN m n<0:=by rw[cmpN_lt hlt];decide
 have Hlt:=hid hlt
 clear hlt
 go_wp2_with fail
 refine (clone_any a us c _ (g1.kp hk3) (by omega)).mono ?_
 rintro e w4 ⟨a4,c4,rfl,r4,l4,m4,hk4⟩
 go_wp2_with fail
 refine bodyPost_ret (v:=.tuple #[.slice none 0 0,.slice a4 us.length c4]) (by simp[results,Tryz.results292,go_sem]) rfl ?_
 exact⟨none,0,[],a4,c4,us,rfl,Nat.le_refl _,by decide,l4,m4,.nil _ _,r4,by rw[Nat.div_eq_of_lt Hlt.out];rfl,by rw[Nat.mod_eq_of_lt Hlt.out];exact Hv1.out,Nat.zero_le _,hul,hk3.trans hk4⟩
theorem divide_any (a b:Option Addr) (xs ys:List Nat) (c d:Nat) (w:World) (hx:Rd w a xs) (hy:Rd w b ys) (hxl:xs.length≤256) (hxc:xs.length≤c) (hyc:ys.length≤d) (hc:c≤maxLen) (hd:d≤maxLen) (h0:val ys≠0) :
  Calls Tryz.prog 292 #[.slice a xs.length c,.slice b ys.length d] w (DivOut w (val xs) (val ys) 256):=by
 rcases Nat.lt_or_ge (val xs) (val ys) with h | h
 ·exact divide0_any a b xs ys c d w hx hy hxl hxc hyc hc hd h
 have h1:limbs (val ys)≠[]:=fun h=>h0 (limbs_eq_nil.1 h)
 have h2:=List.length_pos_iff.2 h1
 rcases (show (limbs (val ys)).length=1∨2≤(limbs (val ys)).length by omega) with h3 | h3
 ·exact divide1_any a b xs ys c d w hx hy hxl hxc hyc hc hd h3
 exact divide2_any a b xs ys c d w hx hy hxl hxc hyc hc hd h3 h
def quoK (x y:RD) (p:Int) (t:Nat):Nat:=(p+t+bits (val y.xs)-bits (val x.xs)).toNat
def divB (x y:RD) (p:Int) (up:Bool):Dy×Int :=
 if fltB p [x,y]=0 then (if y.xs.length=0 then (.zero,10) else if x.xs.length=0 then (.zero,0) else rndE (quoR (x.neg != y.neg) (val x.xs) (val y.xs) (x.e-y.e) p.toNat up (quoK x y p 2)))
 else (.zero,fltB p [x,y])
set_option maxRecDepth 100000 in
set_option maxHeartbeats 8000000 in
theorem div_rd (x y:RD) (p:Int) (up:Bool) (w:World) (hx:x.rd w) (hy:y.rd w) (hT:Tab w) :
  Calls Tryz.prog 257 #[.agg #[.bool x.neg,.slice x.a x.xs.length x.c,.int .i64 x.e],.agg #[.bool y.neg,.slice y.a y.xs.length y.c,.int .i64 y.e],.int .i64 p,.bool up] w (NumE w (divB x y p up).1 (divB x y p up).2):=by
 obtain⟨D,hD⟩:∃ D,D=divB x y p up:=⟨_,rfl⟩
 have HD:=hid hD
 rw[← hD]
 clear hD
 by_cases hmain:fltB p [x,y]=0∧y.xs.length≠0∧x.xs.length≠0
 ·obtain⟨h0,hy0,hx0⟩:=hmain
  obtain⟨hv,hp0,hp1⟩:=fltB_zero.1 h0
  obtain⟨q,rfl⟩:=Int.eq_ofNat_of_zero_le (show 0≤p by omega)
  have hxo:x.ok w:=⟨hx,by simpa using (List.all_eq_true.1 hv) x (by simp)⟩
  have hyo:y.ok w:=⟨hy,by simpa using (List.all_eq_true.1 hv) y (by simp)⟩
  have zx:=rdok_zero hxo
  have zy:=rdok_zero hyo
  have hxm:val x.xs≠0:=fun h=>hx0 (zx.2 h)
  have hym:val y.xs≠0:=fun h=>hy0 (zy.2 h)
  have hK:((quoK x y q 3:Nat):Int)=max 0 ((q:Int)+3+bits (val y.xs)-bits (val x.xs)):=by unfold quoK;omega
  have hbx:bits (val x.xs)≤4096:=dok_bits (rdok_dy hxo)
  have hby:bits (val y.xs)≤4096:=dok_bits (rdok_dy hyo)
  have hlim:(limbs (val x.xs*2 ^ quoK x y q 3)).length≤256:=limbs_of_bits (by rw[bits_mul_pow hxm];omega)
  have H:=div_of x y q (quoK x y q 3) up w hxo hyo hxm hym (by omega) (by omega) hT hK (fun W a c k hr hc hm hyr=>by
   have h:=divide_any a y.a (limbs (val x.xs*2 ^ quoK x y q 3)) y.xs c y.c W hr hyr hlim hc hyo.1.2.1 hm hyo.1.2.2.1 hym
   rwa [val_limbs] at h)
  have e:quoR (x.neg != y.neg) (val x.xs) (val y.xs) (x.e-y.e) q up (quoK x y q 3)=quoR (x.neg != y.neg) (val x.xs) (val y.xs) (x.e-y.e) q up (quoK x y q 2):=by
   have h3:quoK x y q 3=quoK x y q 2+(quoK x y q 3-quoK x y q 2):=by unfold quoK;omega
   rw[h3]
   exact quoR_more hxm hym (by omega) (by unfold quoK;omega)
  have hDD:D=rndE (rndS (x.neg != y.neg) (val x.xs*2 ^ quoK x y q 3/val y.xs) (x.e-quoK x y q 3-y.e) (decide (0<bits (val x.xs*2 ^ quoK x y q 3 % val y.xs))) q up):=by
   rw[HD.out]
   unfold divB
   rw[if_pos h0,if_neg hy0,if_neg hx0,Int.toNat_natCast,← e]
   unfold quoR
   rw[show x.e-y.e-(quoK x y q 3:Int)=x.e-quoK x y q 3-y.e by omega]
  rw[hDD]
  exact H
 go_enter Tryz.func257,Tryz.ntmps257
 go_wp2_with fail
 generalize hW:(((w.alloc _).alloc _).alloc _)=W at *
 have hk:Kp w W:=hW▸(((Kp.refl w).alloc _).alloc _).alloc _
 have hS:W.cell? ⟨w.heap.size,0,none⟩=some (.bool x.neg)∧W.cell? ⟨w.heap.size,1,none⟩=some (.slice x.a x.xs.length x.c)∧W.cell? ⟨w.heap.size,2,none⟩=some (.int .i64 x.e)∧W.cell? ⟨w.heap.size+1,0,none⟩=some (.bool y.neg)∧W.cell? ⟨w.heap.size+1,1,none⟩=some (.slice y.a y.xs.length y.c)∧W.cell? ⟨w.heap.size+1,2,none⟩=some (.int .i64 y.e):=by rw[← hW];exact keep6 ((Kp.refl _).alloc _) (by simp)
 have hB:Box3 W (w.heap.size+2) (.bool false) (.slice none 0 0) (.int .i64 0):=hW▸Box3.new3 _ _ _ _ _ _ _
 have hsz:W.heap.size=w.heap.size+1+1+1:=by rw[← hW];simp
 clear hW
 have hka:=(Kp.refl W).alloc (.cells #[.bool x.neg,.slice x.a x.xs.length x.c,.int .i64 x.e,.bool y.neg,.slice y.a y.xs.length y.c,.int .i64 y.e] 113)
 have hRw:=rowD_two W x y (hx.kp hk) (hy.kp hk) 113
 rw[hsz] at hRw
 clear hsz
 refine (fault_any p _ [x,y] 2 _ hRw (by simp)).mono ?_
 rintro e w1 ⟨rfl,hk1⟩
 have hS1:=keepRR (hka.trans hk1) hS
 have hB1:=hB.kp (hka.trans hk1)
 have hk2:=hk.trans (hka.trans hk1)
 clear hS hB hk hk1 hka hRw
 by_cases h0:fltB p [x,y]=0
 rotate_left
 ·have hz:(fltB p [x,y]==0)=false:=beq_eq_false_iff_ne.2 h0
  have hz2:(fltB p [x,y] != 0)=true:=by rw[bne,hz];rfl
  have HD2:=hid (show D=(.zero,fltB p [x,y]) by rw[HD.out];unfold divB;rw[if_neg h0])
  clear h0 hS1 hmain
  obtain⟨q0,q1,q2,f0,f1,f2⟩:=hB1
  go_wp2_with fail
  have hst:=stored q0 q1 q2 nofun nofun nofun (.bool false) (.slice none 0 0) (.int .i64 0)
  generalize (((w1.setCell _ _).setCell _ _).setCell _ _)=W9 at hst ⊢
  obtain⟨s0,s1,s2,_,s4,s5,_,_⟩:=hst
  refine bodyPost_ret (v:=.tuple #[.agg #[.bool false,.slice none 0 0,.int .i64 0],.int .i64 (fltB p [x,y])]) (by simp[results,Tryz.results257,go_sem,s0,s1,s2]) rfl ?_
  rw[HD2.out]
  exact numE_zero rfl (s5 _ hk2 (by omega))
 rw[h0]
 obtain⟨q0,q1,q2,f0,f1,f2⟩:=hB1
 obtain⟨s0,s1,s2,t0,t1,t2⟩:=hS1
 by_cases hy0:y.xs.length=0
 ·have hz:((y.xs.length:Int)==0)=true:=beq_iff_eq.2 (by omega)
  have HD3:=hid (show D=(.zero,10) by rw[HD.out];unfold divB;rw[if_pos h0,if_pos hy0])
  clear hy0 h0 hmain
  go_wp2_with fail
  have hst:=stored q0 q1 q2 nofun nofun nofun (.bool false) (.slice none 0 0) (.int .i64 0)
  generalize (((w1.setCell _ _).setCell _ _).setCell _ _)=W9 at hst ⊢
  obtain⟨s0,s1,s2,_,s4,s5,_,_⟩:=hst
  refine bodyPost_ret (v:=.tuple #[.agg #[.bool false,.slice none 0 0,.int .i64 0],.int .i64 10]) (by simp[results,Tryz.results257,go_sem,s0,s1,s2]) rfl ?_
  rw[HD3.out]
  exact numE_zero rfl (s5 _ hk2 (by omega))
 have hx0:x.xs.length=0:=Classical.byContradiction fun h=>hmain ⟨h0,hy0,h⟩
 have hz:((y.xs.length:Int)==0)=false:=beq_eq_false_iff_ne.2 (by omega)
 have hz2:((x.xs.length:Int)==0)=true:=beq_iff_eq.2 (by omega)
 have HD3:=hid (show D=(.zero,0) by rw[HD.out];unfold divB;rw[if_pos h0,if_neg hy0,if_pos hx0])
 clear hy0 h0 hx0 hmain
 go_wp2_with fail
 have hst:=stored q0 q1 q2 nofun nofun nofun (.bool false) (.slice none 0 0) (.int .i64 0)
 generalize (((w1.setCell _ _).setCell _ _).setCell _ _)=W9 at hst ⊢
 obtain⟨s0,s1,s2,_,s4,s5,_,_⟩:=hst
 refine bodyPost_ret (v:=.tuple #[.agg #[.bool false,.slice none 0 0,.int .i64 0],.int .i64 0]) (by simp[results,Tryz.results257,go_sem,s0,s1,s2]) rfl ?_
 rw[HD3.out]
 exact numE_zero rfl (s5 _ hk2 (by omega))
section
end
def inR (r' r:List RI):Prop:=r'.length=r.length∧∀ (j:Nat) (x' x:RI),r'[j]? = some x'→r[j]? = some x→x'.pl.ok∧insP x'.pl x.pl
theorem inR.tail {x' x:RI} {r' r:List RI} (h:inR (x'::r') (x::r)):inR r' r:=⟨by simpa using h.1,fun j y' y hy' hy=>h.2 (j+1) y' y (by simpa using hy') (by simpa using hy)⟩
def inM (Z m:List (List RI)):Prop:=Z.length=m.length∧∀ (i:Nat) (r' r:List RI),Z[i]? = some r'→m[i]? = some r→inR r' r
theorem inM.tail {x' x:List RI} {r' r:List (List RI)} (h:inM (x'::r') (x::r)):inM r' r:=⟨by simpa using h.1,fun j y' y hy' hy=>h.2 (j+1) y' y (by simpa using hy') (by simpa using hy)⟩
def endR (x:RI) (d:RD):Prop:=d=x.lo∨d=x.hi
theorem endR.ok {w:World} {x:RI} {d:RD} (h:endR x d) (hx:x.rd w) (hv:x.vl=true):d.rd w∧d.vl=true:=by
 have hz:∀ y:RD,y.zr=true→y.vl=true:=fun y hy=>by
  obtain⟨h1,h2,h3⟩:=RD.zr_parts.1 hy
  unfold RD.vl;rw[h1,h2,h3];exact rdZero_vl
 have hp:x.lo.vl=true∧x.hi.vl=true:=by
  unfold RI.vl at hv
  split at hv
  ·rw[Bool.and_eq_true] at hv;exact⟨hz _ hv.1,hz _ hv.2⟩
  ·rw[Bool.and_eq_true,Bool.and_eq_true] at hv;exact⟨hv.1,hv.2.1⟩
 rcases h with rfl | rfl
 ·exact⟨hx.1,hp.1⟩
 exact⟨hx.2,hp.2⟩
theorem endR.has {w:World} {x:RI} {d:RD} (h:endR x d) (hx:x.rd w) (hv:x.vl=true):hasV x.pl d.iv:=by
 have ho:=RI.pl_ok hx hv
 rcases h with rfl | rfl
 ·exact hasV.lo ho
 exact hasV.hi ho
def sumZ (c:Nat→Int):Nat→Int
 | 0=>0
 | t+1=>sumZ c t+c t
theorem sumZ_congr {c d:Nat→Int}:∀ {n:Nat},(∀ t,t<n→c t=d t)→sumZ c n=sumZ d n
 | 0,_=>rfl
 | n+1,h=>by show sumZ c n+c n=sumZ d n+d n;rw[sumZ_congr (fun t ht=>h t (by omega)),h n (by omega)]
def dotS (l z:List RD) (k:Nat) (v:Int):Prop:=∃ c:Nat→Int,(∀ (t:Nat) (x y:RD),t<k→l[t]? = some x→z[t]? = some y→c t*2 ^ 16384=x.iv*y.iv)∧v=sumZ c k
theorem dotS.zero (l z:List RD):dotS l z 0 0:=⟨fun _=>0,fun t x y h=>by omega,rfl⟩
theorem dotS.step {l z:List RD} {k:Nat} {v q:Int} {x y:RD} (h:dotS l z k v) (hx:l[k]? = some x) (hy:z[k]? = some y) (hq:q*2 ^ 16384=x.iv*y.iv):dotS l z (k+1) (v+q):=by
 obtain⟨c,h1,rfl⟩:=h
 refine⟨fun t=>if t=k then q else c t,fun t a b ht ha hb=>?_,?_⟩
 ·by_cases e:t=k
  ·subst e;rw[hx] at ha;rw[hy] at hb;cases ha;cases hb;show (if t=t then q else c t)*_=_;rw[if_pos rfl];exact hq
  show (if t=k then q else c t)*_=_;rw[if_neg e];exact h1 t a b (by omega) ha hb
 show sumZ c k+q=sumZ _ k+(if k=k then q else c k)
 rw[if_pos rfl,sumZ_congr (c:=fun t=>if t=k then q else c t) (d:=c) (fun t ht=>if_neg (by omega))]
theorem OutH.made (w:World) (n:Nat):OutH w (w.alloc (.cells (madeCells #[.slice none 0 0] n) 58)) w.heap.size n []:=by
 have hg:=heap_alloc_new w (.cells (madeCells #[.slice none 0 0] n) 58)
 refine⟨⟨Nat.le_refl _,by simp,by simp⟩,(Kp.refl w).alloc _,fun i _=>frozen_of_row _ _ _ _ _ hg,fun i _ hi=>?_,fun i r h=>by simp at h⟩
 rw[cell_of_row _ _ _ _ _ _ hg,← Array.getElem?_toList,toList_madeCells_one]
 simp[hi]
end Go.Proofs.YteidgoldnllabaaGreatDoor
