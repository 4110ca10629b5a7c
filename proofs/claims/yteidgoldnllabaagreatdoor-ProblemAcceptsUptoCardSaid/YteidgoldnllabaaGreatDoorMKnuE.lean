/-
  Walks: natural.divide, DivMod, of any numbers.
-/
import Derived.Test.YteidgoldnllabaaGreatDoorMKnuD
import Derived.Test.YteidgoldnllabaaGreatDoorMDivA
import Derived.Test.YteidgoldnllabaaGreatDoorMRoDiv
import Derived.Test.YteidgoldnllabaaGreatDoorMIdxR
import Derived.Test.YteidgoldnllabaaGreatDoorMRoSq
import Derived.Deep.Cut
import Derived.Test.YteidgoldnllabaaGreatDoorMProdP
import Derived.Deep.RegionHeld3
import Derived.Deep.RegionLaw
import Derived.Deep.CutRange
import Derived.Test.YteidgoldnllabaaGreatDoorMTpoN
import Derived.Test.YteidgoldnllabaaGreatDoorMNum
import Derived.Test.YteidgoldnllabaaGreatDoorMRnd
import Derived.Shelf.Spec.TrailingZeros
namespace Go.Proofs.YteidgoldnllabaaGreatDoor
open Go.RowKit
open Lib (hid)
set_option maxRecDepth 100000 in
set_option maxHeartbeats 4000000 in
theorem divide0_any (a b:Option Addr) (xs ys:List Nat) (c d:Nat) (w:World) (hx:Rd w a xs) (hy:Rd w b ys) (hxl:xs.length≤256) (hxc:xs.length≤c) (hyc:ys.length≤d) (hc:c≤maxLen) (hd:d≤maxLen) (hlt:val xs<val ys) :
  Calls Tryz.prog 292 #[.slice a xs.length c,.slice b ys.length d] w (DivOut w (val xs) (val ys) 256):=by
 have H1:=hid (trim_any a xs c w hx hxc hc)
 have H2:=hid (trim_any b ys d w hy hyc hd)
 have g1:=hx.limbs
 have g2:=hy.limbs
 have hl1:=limbs_len_le hx.lt32
 have hl2:=limbs_len_le hy.lt32
 have Hv1:=hid (val_limbs (val xs))
 have Hv2:=hid (val_limbs (val ys))
 have hcu:(limbs (val xs)).length≤c:=by omega
 have hcv:(limbs (val ys)).length≤d:=by omega
 go_enter Tryz.func292,Tryz.ntmps292
 go_wp2_with fail
 refine H1.out.mono ?_
 rintro e w2 ⟨rfl,rfl⟩
 go_wp2_with fail
 refine H2.out.mono ?_
 rintro e w2 ⟨rfl,rfl⟩
 clear H1 H2 hx hy
 generalize val xs=m at *
 generalize val ys=n at *
 generalize limbs m=us at *
 generalize limbs n=vs at *
 have hul:us.length≤256:=by omega
 clear hxl hxc hyc hl1 hl2
 go_wp2_with fail
 refine (cmp_any a b us vs c d _ g1 g2 hcu hcv hc hd).mono ?_
 rw[Hv1.out,Hv2.out]
 rintro e w3 ⟨rfl,hk3⟩
 have hcm:cmpN m n<0:=by rw[cmpN_lt hlt];decide
 have Hlt:=hid hlt
 clear hlt
 go_wp2_with fail
 refine (clone_any a us c _ (g1.kp hk3) (by omega)).mono ?_
 rintro e w4 ⟨a4,c4,rfl,r4,l4,m4,hk4⟩
 go_wp2_with fail
 refine bodyPost_ret (v:=.tuple #[.slice none 0 0,.slice a4 us.length c4]) (by simp[results,Tryz.results292,go_sem]) rfl ?_
 exact⟨none,0,[],a4,c4,us,rfl,Nat.le_refl _,by decide,l4,m4,.nil _ _,r4,by rw[Nat.div_eq_of_lt Hlt.out];rfl,by rw[Nat.mod_eq_of_lt Hlt.out];exact Hv1.out,Nat.zero_le _,hul,hk3.trans hk4⟩
theorem divide_any (a b:Option Addr) (xs ys:List Nat) (c d:Nat) (w:World) (hx:Rd w a xs) (hy:Rd w b ys) (hxl:xs.length≤256) (hxc:xs.length≤c) (hyc:ys.length≤d) (hc:c≤maxLen) (hd:d≤maxLen) (h0:val ys≠0) :
  Calls Tryz.prog 292 #[.slice a xs.length c,.slice b ys.length d] w (DivOut w (val xs) (val ys) 256):=by
 rcases Nat.lt_or_ge (val xs) (val ys) with h | h
 ·exact divide0_any a b xs ys c d w hx hy hxl hxc hyc hc hd h
 have h1:limbs (val ys)≠[]:=fun h=>h0 (limbs_eq_nil.1 h)
 have h2:=List.length_pos_iff.2 h1
 rcases (show (limbs (val ys)).length=1∨2≤(limbs (val ys)).length by omega) with h3 | h3
 ·exact divide1_any a b xs ys c d w hx hy hxl hxc hyc hc hd h3
 exact divide2_any a b xs ys c d w hx hy hxl hxc hyc hc hd h3 h
def quoK (x y:RD) (p:Int) (t:Nat):Nat:=(p+t+bits (val y.xs)-bits (val x.xs)).toNat
def divB (x y:RD) (p:Int) (up:Bool):Dy×Int :=
 if fltB p [x,y]=0 then (if y.xs.length=0 then (.zero,10) else if x.xs.length=0 then (.zero,0) else rndE (quoR (x.neg != y.neg) (val x.xs) (val y.xs) (x.e-y.e) p.toNat up (quoK x y p 2)))
 else (.zero,fltB p [x,y])
set_option maxRecDepth 100000 in
set_option maxHeartbeats 8000000 in
theorem div_rd (x y:RD) (p:Int) (up:Bool) (w:World) (hx:x.rd w) (hy:y.rd w) (hT:Tab w) :
  Calls Tryz.prog 257 #[.agg #[.bool x.neg,.slice x.a x.xs.length x.c,.int .i64 x.e],.agg #[.bool y.neg,.slice y.a y.xs.length y.c,.int .i64 y.e],.int .i64 p,.bool up] w (NumE w (divB x y p up).1 (divB x y p up).2):=by
 obtain⟨D,hD⟩:∃ D,D=divB x y p up:=⟨_,rfl⟩
 have HD:=hid hD
 rw[← hD]
 clear hD
 by_cases hmain:fltB p [x,y]=0∧y.xs.length≠0∧x.xs.length≠0
 ·obtain⟨h0,hy0,hx0⟩:=hmain
  obtain⟨hv,hp0,hp1⟩:=fltB_zero.1 h0
  obtain⟨q,rfl⟩:=Int.eq_ofNat_of_zero_le (show 0≤p by omega)
  have hxo:x.ok w:=⟨hx,by simpa using (List.all_eq_true.1 hv) x (by simp)⟩
  have hyo:y.ok w:=⟨hy,by simpa using (List.all_eq_true.1 hv) y (by simp)⟩
  have zx:=rdok_zero hxo
  have zy:=rdok_zero hyo
  have hxm:val x.xs≠0:=fun h=>hx0 (zx.2 h)
  have hym:val y.xs≠0:=fun h=>hy0 (zy.2 h)
  have hK:((quoK x y q 3:Nat):Int)=max 0 ((q:Int)+3+bits (val y.xs)-bits (val x.xs)):=by unfold quoK;omega
  have hbx:bits (val x.xs)≤4096:=dok_bits (rdok_dy hxo)
  have hby:bits (val y.xs)≤4096:=dok_bits (rdok_dy hyo)
  have hlim:(limbs (val x.xs*2 ^ quoK x y q 3)).length≤256:=limbs_of_bits (by rw[bits_mul_pow hxm];omega)
  have H:=div_of x y q (quoK x y q 3) up w hxo hyo hxm hym (by omega) (by omega) hT hK (fun W a c k hr hc hm hyr=>by
   have h:=divide_any a y.a (limbs (val x.xs*2 ^ quoK x y q 3)) y.xs c y.c W hr hyr hlim hc hyo.1.2.1 hm hyo.1.2.2.1 hym
   rwa [val_limbs] at h)
  have e:quoR (x.neg != y.neg) (val x.xs) (val y.xs) (x.e-y.e) q up (quoK x y q 3)=quoR (x.neg != y.neg) (val x.xs) (val y.xs) (x.e-y.e) q up (quoK x y q 2):=by
   have h3:quoK x y q 3=quoK x y q 2+(quoK x y q 3-quoK x y q 2):=by unfold quoK;omega
   rw[h3]
   exact quoR_more hxm hym (by omega) (by unfold quoK;omega)
  have hDD:D=rndE (rndS (x.neg != y.neg) (val x.xs*2 ^ quoK x y q 3/val y.xs) (x.e-quoK x y q 3-y.e) (decide (0<bits (val x.xs*2 ^ quoK x y q 3 % val y.xs))) q up):=by
   rw[HD.out]
   unfold divB
   rw[if_pos h0,if_neg hy0,if_neg hx0,Int.toNat_natCast,← e]
   unfold quoR
   rw[show x.e-y.e-(quoK x y q 3:Int)=x.e-quoK x y q 3-y.e by omega]
  rw[hDD]
  exact H
 go_enter Tryz.func257,Tryz.ntmps257
 go_wp2_with fail
 generalize hW:(((w.alloc _).alloc _).alloc _)=W at *
 have hk:Kp w W:=hW▸(((Kp.refl w).alloc _).alloc _).alloc _
 have hS:W.cell? ⟨w.heap.size,0,none⟩=some (.bool x.neg)∧W.cell? ⟨w.heap.size,1,none⟩=some (.slice x.a x.xs.length x.c)∧W.cell? ⟨w.heap.size,2,none⟩=some (.int .i64 x.e)∧W.cell? ⟨w.heap.size+1,0,none⟩=some (.bool y.neg)∧W.cell? ⟨w.heap.size+1,1,none⟩=some (.slice y.a y.xs.length y.c)∧W.cell? ⟨w.heap.size+1,2,none⟩=some (.int .i64 y.e):=by rw[← hW];exact keep6 ((Kp.refl _).alloc _) (by simp)
 have hB:Box3 W (w.heap.size+2) (.bool false) (.slice none 0 0) (.int .i64 0):=hW▸Box3.new3 _ _ _ _ _ _ _
 have hsz:W.heap.size=w.heap.size+1+1+1:=by rw[← hW];simp
 clear hW
 have hka:=(Kp.refl W).alloc (.cells #[.bool x.neg,.slice x.a x.xs.length x.c,.int .i64 x.e,.bool y.neg,.slice y.a y.xs.length y.c,.int .i64 y.e] 113)
 have hRw:=rowD_two W x y (hx.kp hk) (hy.kp hk) 113
 rw[hsz] at hRw
 clear hsz
 refine (fault_any p _ [x,y] 2 _ hRw (by simp)).mono ?_
 rintro e w1 ⟨rfl,hk1⟩
 have hS1:=keepRR (hka.trans hk1) hS
 have hB1:=hB.kp (hka.trans hk1)
 have hk2:=hk.trans (hka.trans hk1)
 clear hS hB hk hk1 hka hRw
 by_cases h0:fltB p [x,y]=0
 rotate_left
 ·have hz:(fltB p [x,y]==0)=false:=beq_eq_false_iff_ne.2 h0
  have hz2:(fltB p [x,y] != 0)=true:=by rw[bne,hz];rfl
  have HD2:=hid (show D=(.zero,fltB p [x,y]) by rw[HD.out];unfold divB;rw[if_neg h0])
  clear h0 hS1 hmain
  obtain⟨q0,q1,q2,f0,f1,f2⟩:=hB1
  go_wp2_with fail
  have hst:=stored q0 q1 q2 nofun nofun nofun (.bool false) (.slice none 0 0) (.int .i64 0)
  generalize (((w1.setCell _ _).setCell _ _).setCell _ _)=W9 at hst ⊢
  obtain⟨s0,s1,s2,_,s4,s5,_,_⟩:=hst
  refine bodyPost_ret (v:=.tuple #[.agg #[.bool false,.slice none 0 0,.int .i64 0],.int .i64 (fltB p [x,y])]) (by simp[results,Tryz.results257,go_sem,s0,s1,s2]) rfl ?_
  rw[HD2.out]
  exact numE_zero rfl (s5 _ hk2 (by omega))
 rw[h0]
 obtain⟨q0,q1,q2,f0,f1,f2⟩:=hB1
 obtain⟨s0,s1,s2,t0,t1,t2⟩:=hS1
 by_cases hy0:y.xs.length=0
 ·have hz:((y.xs.length:Int)==0)=true:=beq_iff_eq.2 (by omega)
  have HD3:=hid (show D=(.zero,10) by rw[HD.out];unfold divB;rw[if_pos h0,if_pos hy0])
  clear hy0 h0 hmain
  go_wp2_with fail
  have hst:=stored q0 q1 q2 nofun nofun nofun (.bool false) (.slice none 0 0) (.int .i64 0)
  generalize (((w1.setCell _ _).setCell _ _).setCell _ _)=W9 at hst ⊢
  obtain⟨s0,s1,s2,_,s4,s5,_,_⟩:=hst
  refine bodyPost_ret (v:=.tuple #[.agg #[.bool false,.slice none 0 0,.int .i64 0],.int .i64 10]) (by simp[results,Tryz.results257,go_sem,s0,s1,s2]) rfl ?_
  rw[HD3.out]
  exact numE_zero rfl (s5 _ hk2 (by omega))
 have hx0:x.xs.length=0:=Classical.byContradiction fun h=>hmain ⟨h0,hy0,h⟩
 have hz:((y.xs.length:Int)==0)=false:=beq_eq_false_iff_ne.2 (by omega)
 have hz2:((x.xs.length:Int)==0)=true:=beq_iff_eq.2 (by omega)
 have HD3:=hid (show D=(.zero,0) by rw[HD.out];unfold divB;rw[if_pos h0,if_neg hy0,if_pos hx0])
 clear hy0 h0 hx0 hmain
 go_wp2_with fail
 have hst:=stored q0 q1 q2 nofun nofun nofun (.bool false) (.slice none 0 0) (.int .i64 0)
 generalize (((w1.setCell _ _).setCell _ _).setCell _ _)=W9 at hst ⊢
 obtain⟨s0,s1,s2,_,s4,s5,_,_⟩:=hst
 refine bodyPost_ret (v:=.tuple #[.agg #[.bool false,.slice none 0 0,.int .i64 0],.int .i64 0]) (by simp[results,Tryz.results257,go_sem,s0,s1,s2]) rfl ?_
 rw[HD3.out]
 exact numE_zero rfl (s5 _ hk2 (by omega))
section
end
def inR (r' r:List RI):Prop:=r'.length=r.length∧∀ (j:Nat) (x' x:RI),r'[j]? = some x'→r[j]? = some x→x'.pl.ok∧insP x'.pl x.pl
theorem inR.tail {x' x:RI} {r' r:List RI} (h:inR (x'::r') (x::r)):inR r' r:=⟨by simpa using h.1,fun j y' y hy' hy=>h.2 (j+1) y' y (by simpa using hy') (by simpa using hy)⟩
def inM (Z m:List (List RI)):Prop:=Z.length=m.length∧∀ (i:Nat) (r' r:List RI),Z[i]? = some r'→m[i]? = some r→inR r' r
theorem inM.tail {x' x:List RI} {r' r:List (List RI)} (h:inM (x'::r') (x::r)):inM r' r:=⟨by simpa using h.1,fun j y' y hy' hy=>h.2 (j+1) y' y (by simpa using hy') (by simpa using hy)⟩
def endR (x:RI) (d:RD):Prop:=d=x.lo∨d=x.hi
theorem endR.ok {w:World} {x:RI} {d:RD} (h:endR x d) (hx:x.rd w) (hv:x.vl=true):d.rd w∧d.vl=true:=by
 have hz:∀ y:RD,y.zr=true→y.vl=true:=fun y hy=>by
  obtain⟨h1,h2,h3⟩:=RD.zr_parts.1 hy
  unfold RD.vl;rw[h1,h2,h3];exact rdZero_vl
 have hp:x.lo.vl=true∧x.hi.vl=true:=by
  unfold RI.vl at hv
  split at hv
  ·rw[Bool.and_eq_true] at hv;exact⟨hz _ hv.1,hz _ hv.2⟩
  ·rw[Bool.and_eq_true,Bool.and_eq_true] at hv;exact⟨hv.1,hv.2.1⟩
 rcases h with rfl | rfl
 ·exact⟨hx.1,hp.1⟩
 exact⟨hx.2,hp.2⟩
theorem endR.has {w:World} {x:RI} {d:RD} (h:endR x d) (hx:x.rd w) (hv:x.vl=true):hasV x.pl d.iv:=by
 have ho:=RI.pl_ok hx hv
 rcases h with rfl | rfl
 ·exact hasV.lo ho
 exact hasV.hi ho
def sumZ (c:Nat→Int):Nat→Int
 | 0=>0
 | t+1=>sumZ c t+c t
theorem sumZ_congr {c d:Nat→Int}:∀ {n:Nat},(∀ t,t<n→c t=d t)→sumZ c n=sumZ d n
 | 0,_=>rfl
 | n+1,h=>by show sumZ c n+c n=sumZ d n+d n;rw[sumZ_congr (fun t ht=>h t (by omega)),h n (by omega)]
def dotS (l z:List RD) (k:Nat) (v:Int):Prop:=∃ c:Nat→Int,(∀ (t:Nat) (x y:RD),t<k→l[t]? = some x→z[t]? = some y→c t*2 ^ 16384=x.iv*y.iv)∧v=sumZ c k
theorem dotS.zero (l z:List RD):dotS l z 0 0:=⟨fun _=>0,fun t x y h=>by omega,rfl⟩
theorem dotS.step {l z:List RD} {k:Nat} {v q:Int} {x y:RD} (h:dotS l z k v) (hx:l[k]? = some x) (hy:z[k]? = some y) (hq:q*2 ^ 16384=x.iv*y.iv):dotS l z (k+1) (v+q):=by
 obtain⟨c,h1,rfl⟩:=h
 refine⟨fun t=>if t=k then q else c t,fun t a b ht ha hb=>?_,?_⟩
 ·by_cases e:t=k
  ·subst e;rw[hx] at ha;rw[hy] at hb;cases ha;cases hb;show (if t=t then q else c t)*_=_;rw[if_pos rfl];exact hq
  show (if t=k then q else c t)*_=_;rw[if_neg e];exact h1 t a b (by omega) ha hb
 show sumZ c k+q=sumZ _ k+(if k=k then q else c k)
 rw[if_pos rfl,sumZ_congr (c:=fun t=>if t=k then q else c t) (d:=c) (fun t ht=>if_neg (by omega))]
theorem OutH.made (w:World) (n:Nat):OutH w (w.alloc (.cells (madeCells #[.slice none 0 0] n) 58)) w.heap.size n []:=by
 have hg:=heap_alloc_new w (.cells (madeCells #[.slice none 0 0] n) 58)
 refine⟨⟨Nat.le_refl _,by simp,by simp⟩,(Kp.refl w).alloc _,fun i _=>frozen_of_row _ _ _ _ _ hg,fun i _ hi=>?_,fun i r h=>by simp at h⟩
 rw[cell_of_row _ _ _ _ _ _ hg,← Array.getElem?_toList,toList_madeCells_one]
 simp[hi]
set_option maxHeartbeats 1000000 in
theorem r2trim_any (a:Option Addr) (xs:List Nat) (c:Nat) (w:World) (h:Rd w a xs) (hc:xs.length≤c) (hm:c≤maxLen) (hl:xs.length≤1100000) :
  Calls Tryz.prog 273 #[.slice a xs.length c] w (NatOut w (val xs)):=by
 have hend:∀ (n:Nat) (W:World),n=(limbs (val xs)).length→Rd W a (limbs (val xs))→Rd (W.alloc (.cells #[] 213)) a (limbs (val xs)):=fun n W _ hr=>hr.kp ((Kp.refl W).alloc _)
 have hm':=hm
 unfold maxLen at hm
 have hll:=limbs_len_le h.lt32
 go_enter Tryz.func273,Tryz.ntmps273
 go_wp2
 go_loop [3] (fun x=>∃ n:Nat,n≤xs.length∧x=.int .i64 n∧∀ i,n≤i→i<xs.length→nth xs i=0) (fun x=>(intOf x).toNat)
 case atStart=>exact⟨xs.length,Nat.le_refl _,rfl,fun i h1 h2=>by omega⟩
 case round =>
 obtain⟨n,hn,rfl,hz⟩:=hrel
 have Hz:=hid hz;clear hz
 by_cases h0:n=0
 ·have htop:=trim_top h.lt32 hn Hz.out (by omega)
  have hlen:(limbs (val xs)).length=n:=by rw[← htop,List.length_take,Nat.min_eq_left hn]
  have hr:=h.limbs.kp ((Kp.refl w).alloc (.cells #[] 213))
  have Hlen:=hid hlen
  clear htop hlen
  subst h0
  go_wp2_with (at_builtin;refine wpList_append_u32s rfl _ _ rfl w.heap.size _ [] rfl (Own.empty w _ (Nat.le_refl _)) a (limbs (val xs)) c (by rw[Hlen.out];rfl) hr (by simp;omega) (by simp) ?_;intro a2 c2 w2 hown2 hb2)
  go_ret
  obtain⟨h5,h6,h7,h8⟩:=hown2.rd
  rw[List.nil_append] at h6 h8
  exact⟨a2,c2,by simp,h6,h7,h8,((Kp.refl w).alloc _).below.trans hb2⟩
 obtain⟨b,o,rfl,hcell⟩:=h.some (i:=n-1) (by omega)
 have hk:=hcell (n-1) (by omega)
 clear hcell
 by_cases hx:nth xs (n-1)=0
 ·have hx2:((nth xs (n-1):Int)==0)=true:=by simp[hx]
  have Hx:=hid hx;clear hx
  go_wp2
  go_round
  case measure=>simp[intOf];omega
  case rel =>
  refine⟨n-1,by omega,by congr 1;omega,fun i h1 h2=>?_⟩
  by_cases hi:i=n-1
  ·rw[hi];exact Hx.out
  exact Hz.out i (by omega) h2
 have hx2:((nth xs (n-1):Int)==0)=false:=by simp;omega
 have htop:=trim_top h.lt32 hn Hz.out (fun _=>hx)
 have hlen:(limbs (val xs)).length=n:=by rw[← htop,List.length_take,Nat.min_eq_left hn]
 have hr:=h.limbs.kp ((Kp.refl w).alloc (.cells #[] 213))
 have Hlen:=hid hlen
 clear htop hlen
 go_wp2_with (at_builtin;refine wpList_append_u32s rfl _ _ rfl w.heap.size _ [] rfl (Own.empty w _ (Nat.le_refl _)) (some ⟨b,o,none⟩) (limbs (val xs)) c (by rw[Hlen.out];rfl) hr (by simp;omega) (by simp) ?_;intro a2 c2 w2 hown2 hb2)
 go_ret
 obtain⟨h5,h6,h7,h8⟩:=hown2.rd
 rw[List.nil_append] at h6 h8
 exact⟨a2,c2,by simp,h6,h7,h8,((Kp.refl w).alloc _).below.trans hb2⟩
def cmpL (xs ys:List Nat):Int:=if xs.length<ys.length then -1 else if ys.length<xs.length then 1 else cmpN (val xs) (val ys)
theorem cmpL_lt {xs ys:List Nat} (h:xs.length<ys.length):cmpL xs ys=-1:=by unfold cmpL;rw[if_pos h]
theorem cmpL_gt {xs ys:List Nat} (h:ys.length<xs.length):cmpL xs ys=1:=by unfold cmpL;rw[if_neg (by omega),if_pos h]
theorem cmpL_eq {xs ys:List Nat} (h:xs.length=ys.length):cmpL xs ys=cmpN (val xs) (val ys):=by unfold cmpL;rw[if_neg (by omega),if_neg (by omega)]
set_option maxHeartbeats 1000000 in
theorem r2compare_any (a b:Option Addr) (xs ys:List Nat) (c d:Nat) (w:World) (h1:Rd w a xs) (h2:Rd w b ys) (hxl:xs.length≤1100000) (_hyl:ys.length≤1100000) :
  Calls Tryz.prog 200 #[.slice a xs.length c,.slice b ys.length d] w fun e w'=>e=.returned (.int .i64 (cmpL xs ys))∧Kp w w':=by
 go_enter Tryz.func200,Tryz.ntmps200
 rcases Nat.lt_trichotomy xs.length ys.length with hlen | hlen | hlen
 ·have hne:((xs.length:Int) != ys.length)=true:=by simp;omega
  go_wp2_with fail
  go_ret
  exact⟨ret_int (cmpL_lt hlen).symm,.refl _⟩
 ·have hne:((xs.length:Int) != ys.length)=false:=by simp;omega
  have Hlen:=hid hlen
  have hle1:xs.length≤ys.length:=by omega
  have hle2:ys.length≤xs.length:=by omega
  clear hlen
  go_wp2_with fail
  go_loopw [5] (fun ix wr=>∃ k:Nat,k≤xs.length∧ix=.int .i64 ((k:Int)-1)∧xs.drop k=ys.drop k∧Kp w wr) (fun ix _=>(intOf ix+1).toNat)
  case atStart=>exact⟨xs.length,Nat.le_refl _,rfl,by rw[List.drop_of_length_le (Nat.le_refl _),List.drop_of_length_le (by omega)],.refl _⟩
  case round =>
  obtain⟨k,hk,rfl,hdrop,hkp⟩:=hrel
  have Hdrop:=hid hdrop
  clear hdrop
  rcases k with _ | j
  ·rw[show (((0:Nat):Int)-1)=-1 from rfl]
   go_wp2_with fail
   go_ret
   have:xs=ys:=by have:=Hdrop.out;rwa [List.drop_zero,List.drop_zero] at this
   exact⟨ret_int ((cmpL_eq Hlen.out).trans (cmpN_eq (by rw[this]))).symm,hkp⟩
  rw[show (((j+1:Nat):Int)-1)=(j:Int) from by omega]
  obtain⟨b1,o1,rfl,hcx⟩:=(h1.kp hkp).some (i:=j) (by omega)
  have hx1:=hcx j (by omega)
  obtain⟨b2,o2,rfl,hcy⟩:=(h2.kp hkp).some (i:=j) (by omega)
  have hy1:=hcy j (by omega)
  clear hcx hcy
  have bx:=h1.lt32.nth j
  have by':=h2.lt32.nth j
  rcases Nat.lt_trichotomy (nth xs j) (nth ys j) with hd1 | hd1 | hd1
  ·have Hr:=hid (val_lt_of_top Hlen.out (by omega) h1.lt32 Hdrop.out hd1)
   go_wp2_with fail
   go_quiet (fail)
   go_wp2_with fail
   go_ret
   exact⟨ret_int ((cmpL_eq Hlen.out).trans (cmpN_lt Hr.out)).symm,by first | exact hkp.drewN _ | exact (hkp.drewN _).drewN _⟩
  ·have hd2:¬ nth xs j<nth ys j:=by omega
   have hd3:¬ nth ys j<nth xs j:=by omega
   have Hd1:=hid hd1
   clear hd1
   go_wp2_with fail
   go_quiet (fail)
   go_wp2_with fail
   go_quiet (fail)
   go_wp2_with fail
   go_roundw
   case measure=>simp[intOf]
   case rel =>
   refine⟨j,by omega,rfl,?_,hkp.drewN _⟩
   rw[drop_eq_nth (show j<xs.length by omega),drop_eq_nth (show j<ys.length by omega),Hdrop.out,Hd1.out]
  have hd2:¬ nth xs j<nth ys j:=by omega
  have Hr:=hid (val_lt_of_top (us:=ys) (vs:=xs) (k:=j) Hlen.out.symm (by omega) h2.lt32 Hdrop.out.symm hd1)
  go_wp2_with fail
  go_quiet (fail)
  go_wp2_with fail
  go_quiet (fail)
  go_wp2_with fail
  go_ret
  exact⟨ret_int ((cmpL_eq Hlen.out).trans (cmpN_gt Hr.out)).symm,by first | exact hkp.drewN _ | exact (hkp.drewN _).drewN _⟩
 have hne:((xs.length:Int) != ys.length)=true:=by simp;omega
 go_wp2_with fail
 go_ret
 exact⟨ret_int (cmpL_gt hlen).symm,.refl _⟩
theorem bit_nth {xs:List Nat} (h:Lt32 xs) (n:Nat):nth xs (n/32)/2 ^ (n % 32) % 2=val xs/2 ^ n % 2:=by
 have e:2 ^ n=4294967296 ^ (n/32)*2 ^ (n % 32):=by rw[pow32,← Nat.pow_add];congr 1;omega
 by_cases hl:n/32<xs.length
 rotate_left
 ·rw[nth_ge (by omega),Nat.zero_div]
  have h1:val xs<2 ^ n:=by
   refine Nat.lt_of_lt_of_le (val_lt h) ?_
   rw[pow32]
   exact Nat.pow_le_pow_right (by decide) (by omega)
  rw[Nat.div_eq_of_lt h1]
 have e1:=val_take_drop xs (n/32) (by omega)
 have e2:xs.drop (n/32)=nth xs (n/32)::xs.drop (n/32+1):=drop_eq_nth hl
 have e3:val xs/4294967296 ^ (n/32)=val (xs.drop (n/32)):=by
  have h1:val (xs.take (n/32))<4294967296 ^ (n/32):=by
   have:=val_lt (h.take (n/32))
   rwa [List.length_take,Nat.min_eq_left (by omega)] at this
  have hp:0<4294967296 ^ (n/32):=Nat.pow_pos (by decide)
  rw[e1,Nat.add_mul_div_left _ _ hp,Nat.div_eq_of_lt h1,Nat.zero_add]
 rw[e,← Nat.div_div_eq_div_mul,e3,e2,val_cons]
 have hr:n % 32<32:=Nat.mod_lt _ (by decide)
 obtain⟨d,hd⟩:∃ d,4294967296=2 ^ (n % 32)*(2*d):=⟨2 ^ (31-n % 32),by
  rw[show 2*2 ^ (31-n % 32)=2 ^ (31-n % 32+1) from by rw[Nat.pow_succ];omega,← Nat.pow_add,show n % 32+(31-n % 32+1)=32 from by omega]⟩
 have e4:4294967296*val (xs.drop (n/32+1))=2 ^ (n % 32)*(2*(d*val (xs.drop (n/32+1)))):=by
  conv=>lhs;rw[hd]
  rw[Nat.mul_assoc,Nat.mul_assoc]
 rw[e4,Nat.add_mul_div_left _ _ (two_pow_pos _)]
 omega
theorem tz_least {V n:Nat} (h0:V≠0) (hz:V % 2 ^ n=0):n≤tz V∧(V/2 ^ n % 2=1→n=tz V):=by
 obtain⟨h1,h2⟩:=oddp_spec h0
 have hle:n≤tz V:=by
  apply Classical.byContradiction;intro hn
  have hd:V=2 ^ n*(V/2 ^ n):=by have:=Nat.div_add_mod V (2 ^ n);omega
  have e:2 ^ n=2 ^ tz V*(2*2 ^ (n-tz V-1)):=by
   rw[show 2*2 ^ (n-tz V-1)=2 ^ (n-tz V-1+1) from by rw[Nat.pow_succ];omega,← Nat.pow_add];congr 1;omega
  have e2:oddp V*2 ^ tz V=2*(2 ^ (n-tz V-1)*(V/2 ^ n))*2 ^ tz V:=by
   refine h2.symm.trans (hd.trans ?_)
   generalize V/2 ^ n=q
   rw[e,Nat.mul_assoc,Nat.mul_comm (2 ^ tz V),Nat.mul_assoc 2]
  have:=Nat.eq_of_mul_eq_mul_right (two_pow_pos _) e2
  omega
 refine⟨hle,fun h=>?_⟩
 apply Classical.byContradiction;intro hn
 have e:V/2 ^ n=2*(oddp V*2 ^ (tz V-n-1)):=by
  conv=>lhs;rw[h2]
  rw[show 2 ^ tz V=2*2 ^ (tz V-n-1)*2 ^ n from by rw[show 2*2 ^ (tz V-n-1)=2 ^ (tz V-n-1+1) from by rw[Nat.pow_succ];omega,← Nat.pow_add];congr 1;omega]
  rw[← Nat.mul_assoc,Nat.mul_div_cancel _ (two_pow_pos n),Nat.mul_left_comm]
 omega
theorem bit32 {x r:Nat} (hx:x<4294967296):Go.bits BinOp.and IntKind.u32 ((x:Int)/2 ^ r) 1=((x/2 ^ r % 2:Nat):Int):=by
 have e:((x:Int)/2 ^ r)=((x/2 ^ r:Nat):Int):=by rw[Int.natCast_ediv,Int.natCast_pow];rfl
 rw[e]
 have h1:=Nat.div_le_self x (2 ^ r)
 have h:=Go.Proofs.bits_and_u32_nat (x/2 ^ r) 1 (by omega) (by omega)
 rw[Nat.and_one_is_mod] at h
 exact h
theorem bits_of_nz {V:Nat} (h0:V≠0):tz V<bits V:=by
 have:=bits_oddp h0
 have:=bits_pos (oddp_ne_zero h0)
 omega
set_option maxRecDepth 100000 in
set_option maxHeartbeats 4000000 in
theorem r2zeros_any (a:Option Addr) (xs:List Nat) (c:Nat) (w:World) (h:Rd w a xs) (hl:xs.length≤1100000) (h0:val xs≠0) :
  Calls Tryz.prog 274 #[.slice a xs.length c] w fun e w'=>e=.returned (.int .i64 (tz (val xs)))∧w=w':=by
 have hbv:=bits_val_le h.lt32
 have htz:=bits_of_nz h0
 have H0:=hid h0
 clear h0
 go_enter Tryz.func274,Tryz.ntmps274
 go_wp2
 go_loop [3] (fun x=>∃ n:Nat,n≤tz (val xs)∧x=.int .i64 n∧val xs % 2 ^ n=0) (fun x=>tz (val xs)+1-(intOf x).toNat)
 case atStart=>exact⟨0,Nat.zero_le _,rfl,by simp[Nat.mod_one]⟩
 case round =>
 obtain⟨n,hn,rfl,hz⟩:=hrel
 have Hz:=hid hz;clear hz
 have hq:n/32<xs.length:=by omega
 obtain⟨b,o,rfl,hcell⟩:=h.some hq
 have hk:=hcell (n/32) hq
 have Hb:=hid (bit_nth h.lt32 n)
 have hnb:=h.lt32.nth (n/32)
 have hi1:(0:Int)≤((n/32:Nat):Int):=by omega
 have hi2:((n/32:Nat):Int)<(xs.length:Int):=by omega
 clear hcell
 have h32:=bit32 (r:=n % 32) hnb
 have hle:=(tz_least H0.out Hz.out)
 by_cases hbit:val xs/2 ^ n % 2=1
 ·have ht:(Go.bits BinOp.and IntKind.u32 ((nth xs (n/32):Int)/2 ^ (n % 32)) 1==0)=false:=beq_eq_false_iff_ne.2 (by rw[h32,Hb.out,hbit];decide)
  have Hn:=hid (hle.2 hbit)
  clear h32 hle hbit
  go_wp2_with fail
  go_ret
  exact⟨by rw[← Hn.out];rfl,rfl⟩
 have ht:(Go.bits BinOp.and IntKind.u32 ((nth xs (n/32):Int)/2 ^ (n % 32)) 1==0)=true:=beq_iff_eq.2 (by rw[h32,Hb.out];omega)
 have hz2:val xs % 2 ^ (n+1)=0:=by
  rw[Nat.add_comm,mod_pow_add]
  exact⟨Hz.out,by rw[Nat.pow_one];omega⟩
 have Hz2:=hid hz2
 have Hle2:=hid (tz_least H0.out hz2).1
 clear h32 hle hbit hz2
 go_wp2_with fail
 go_round
 case measure=>simp[intOf];omega
 case rel=>exact⟨n+1,Hle2.out,by go_num,Hz2.out⟩
theorem right_step {zs vs:List Nat} {k r z t:Nat} (hk:zs.length=k) (h:val zs*2 ^ r+t=val (vs.take k)+4294967296 ^ k*(nth vs k % 2 ^ r))
  (hz:z*2 ^ r+nth vs k % 2 ^ r=nth vs k+4294967296*(nth vs (k+1) % 2 ^ r)) :
  val (zs++[z])*2 ^ r+t=val (vs.take (k+1))+4294967296 ^ (k+1)*(nth vs (k+1) % 2 ^ r):=by
 rw[val_snoc,hk,val_take_step vs,Nat.pow_succ,Nat.mul_assoc,Nat.add_mul,Nat.mul_assoc]
 generalize 4294967296 ^ k=P at *
 have e:P*(z*2 ^ r+nth vs k % 2 ^ r)=P*(z*2 ^ r)+P*(nth vs k % 2 ^ r):=Nat.mul_add _ _ _
 rw[hz,Nat.mul_add] at e
 omega
theorem and_low {s:Nat} (hs:s<18446744073709551616):Go.bits BinOp.and IntKind.u64 (s:Int) 4294967295=((s % 4294967296:Nat):Int):=by
 have h:=bits_and_u64_nat s 4294967295 hs (by omega)
 rw[show s &&& 4294967295=s % 4294967296 from Nat.and_two_pow_sub_one_eq_mod s 32] at h
 exact h
theorem cell_low {x y r:Nat} (hx:x<4294967296) (hy:y<4294967296):(Go.bits BinOp.and IntKind.u64 (((x:Int)+4294967296*y)/2 ^ r) 4294967295) % 4294967296=(((x+4294967296*y)/2 ^ r % 4294967296:Nat):Int):=by
 have e:(((x:Int)+4294967296*y)/2 ^ r)=(((x+4294967296*y)/2 ^ r:Nat):Int):=by
  rw[Int.natCast_ediv,Int.natCast_add,Int.natCast_mul,Int.natCast_pow];rfl
 have h1:=Nat.div_le_self (x+4294967296*y) (2 ^ r)
 rw[e,and_low (by omega)]
 omega
theorem cell_low0 {x r:Nat} (hx:x<4294967296):(Go.bits BinOp.and IntKind.u64 ((x:Int)/2 ^ r) 4294967295) % 4294967296=((x/2 ^ r % 4294967296:Nat):Int):=by
 have:=@cell_low x 0 r hx (by decide)
 simpa using this
set_option maxHeartbeats 2000000 in
set_option maxRecDepth 100000 in
theorem r2right_any (a:Option Addr) (xs:List Nat) (c n:Nat) (w:World) (h1:Rd w a xs) (hxc:xs.length≤c) (hc:c≤maxLen) (hxl:xs.length≤1100000) (hn:n≤40000000) :
  Calls Tryz.prog 275 #[.slice a xs.length c,.int .i64 n] w (NatOut w (val xs/2 ^ n)):=by
 have hc':=hc
 by_cases hq:xs.length≤n/32
 ·have hq2:(xs.length:Int)≤(n:Int)/32:=by omega
  have h2:=val_lt h1.lt32
  rw[pow32] at h2
  have hz:val xs/2 ^ n=0:=Nat.div_eq_of_lt (Nat.lt_of_lt_of_le h2 (Nat.pow_le_pow_right (by decide) (by omega)))
  rw[hz]
  clear hz h2
  go_enter Tryz.func275,Tryz.ntmps275
  go_wp2_with fail
  go_ret
  exact⟨none,0,by rw[limbs_zero];rfl,by rw[limbs_zero];exact Nat.le_refl _,by unfold maxLen;omega,by rw[limbs_zero];exact .nil _ _,.refl _⟩
 have hq2:¬ (xs.length:Int)≤(n:Int)/32:=by omega
 obtain⟨b1,o1,rfl,_⟩:=h1.some (i:=0) (by omega)
 have h2:=h1.drop (n/32)
 have hq3:(n:Int)/32<xs.length:=by omega
 have hvl:(xs.drop (n/32)).length=xs.length-n/32:=List.length_drop
 have hval:val (xs.drop (n/32))=val xs/4294967296 ^ (n/32):=by
  have e:=val_take_drop xs (n/32) (by omega)
  have b:=val_lt (h1.lt32.take (n/32))
  rw[List.length_take,Nat.min_eq_left (by omega)] at b
  rw[e,Nat.add_mul_div_left _ _ (Nat.pow_pos (by decide)),Nat.div_eq_of_lt b,Nat.zero_add]
 have hfin:val xs/2 ^ n=val (xs.drop (n/32))/2 ^ (n % 32):=by rw[hval,Nat.div_div_eq_div_mul,pow_split]
 rw[hfin]
 clear hval hfin
 generalize xs.drop (n/32)=vs at *
 have hr:n % 32<32:=Nat.mod_lt _ (by decide)
 have Hvl:=hid hvl
 have hvl2:xs.length-n/32≤vs.length:=by omega
 clear hvl
 go_enter Tryz.func275,Tryz.ntmps275
 go_wp2_with fail
 go_loopw [5,6] (fun v ix wr=>∃ (k:Nat) (zs:List Nat),k≤xs.length-n/32∧ix=.int .i64 k∧zs.length=k∧Own wr w.heap.size v zs ∧
  val zs*2 ^ (n % 32)+nth vs 0 % 2 ^ (n % 32)=val (vs.take k)+4294967296 ^ k*(nth vs k % 2 ^ (n % 32))∧Kp w wr) (fun _ ix _=>(xs.length-n/32)-(intOf ix).toNat)
 case atStart=>exact⟨0,[],Nat.zero_le _,rfl,rfl,Own.nil _ _,by simp[val],.refl _⟩
 case round =>
 obtain⟨k,zs,hk,rfl,hzl,hown,hvz,hkp⟩:=hrel
 have Hvz:=hid hvz
 have Hzl:=hid hzl
 have hzl2:zs.length+1≤9000000:=by omega
 clear hvz hzl
 by_cases hlt:k<xs.length-n/32
 rotate_left
 ·have hke:k=xs.length-n/32:=by omega
  have e2:=Hvz.out
  have h0:nth vs k=0:=nth_ge (by rw[Hvl.out,hke];omega)
  rw[h0,Nat.zero_mod,Nat.mul_zero,Nat.add_zero,hke,List.take_of_length_le (by rw[Hvl.out];omega)] at e2
  have hlt3:=Nat.mod_lt (nth vs 0) (two_pow_pos (n % 32))
  have e3:val zs=val vs/2 ^ (n % 32):=by
   rw[← e2,Nat.mul_comm,Nat.mul_add_div (two_pow_pos _),Nat.div_eq_of_lt hlt3,Nat.add_zero]
  obtain⟨a5,c5,e5,l5,m5,r5⟩:=hown.value
  subst e5
  have E3:=hid e3
  have hT:=hid (r2trim_any a5 zs c5 wr r5 l5 m5 (by have:=Hzl.out;omega))
  have hkk:=hid hkp
  clear e2 e3 h0 hlt3 hkp hown
  go_wp2_with fail
  refine hT.out.mono ?_
  rintro e w7 ⟨a6,c6,rfl,l6,m6,r6,k6⟩
  go_wp2_with fail
  go_ret
  rw[← E3.out]
  exact⟨a6,c6,rfl,l6,m6,r6,hkk.out.trans k6⟩
 obtain⟨b2,o2,e2,hcx⟩:=(h2.kp hkp).some (i:=k) (by omega)
 cases e2
 have hx1:=hcx k (by omega)
 have bx:=h2.lt32.nth k
 have bx2:=h2.lt32.nth (k+1)
 have Hst:=hid (fun z=>right_step (z:=z) Hzl.out Hvz.out)
 have Hl:=hid (shr_limb (y:=nth vs (k+1)) bx hr)
 by_cases hlt2:k+1<xs.length-n/32
 ·have hx2:=hcx (k+1) (by omega)
  have hor:=shr_or bx bx2
  clear hcx
  have hcl:=hid (cell_low (r:=n % 32) bx bx2)
  go_wp2_with (at_builtin;refine wpList_append_u32 rfl _ _ rfl w.heap.size _ _ rfl (hown.alloc _) _ _ rfl (World.cell?_alloc_new _ _ _ _) ((nth vs k+4294967296*nth vs (k+1))/2 ^ (n % 32) % 4294967296) hcl.out (Nat.mod_lt _ (by decide)) hzl2 (by have:=hkp.size;simp;omega) ?_;intro a2 c2 w2 hown2 hb2)
  go_roundw
  case measure=>simp[intOf];omega
  case rel=>exact⟨k+1,_,by omega,by go_num,by simp[Hzl.out],hown2,Hst.out _ Hl.out,(hkp.alloc _).below.trans hb2⟩
 have h0:nth vs (k+1)=0:=nth_ge (by rw[Hvl.out];omega)
 have H0:=hid h0
 have hcl:=hid (cell_low0 (r:=n % 32) bx)
 have hltt:¬ ((k:Int)+1<((xs.length-n/32:Nat):Int)):=by omega
 clear hcx h0
 go_wp2_with (at_builtin;refine wpList_append_u32 rfl _ _ rfl w.heap.size _ _ rfl (hown.alloc _) _ _ rfl (World.cell?_alloc_new _ _ _ _) (nth vs k/2 ^ (n % 32) % 4294967296) hcl.out (Nat.mod_lt _ (by decide)) hzl2 (by have:=hkp.size;simp;omega) ?_;intro a2 c2 w2 hown2 hb2)
 go_roundw
 case measure=>simp[intOf];omega
 case rel =>
 have h3:=Hl.out
 rw[H0.out,Nat.mul_zero,Nat.add_zero] at h3
 exact⟨k+1,_,by omega,by go_num,by simp[Hzl.out],hown2,Hst.out _ (by rw[H0.out];exact h3),(hkp.alloc _).below.trans hb2⟩
theorem and_lowI {x:Int} {s:Nat} (h:x=s) (hs:s<18446744073709551616):Go.bits BinOp.and IntKind.u64 x 4294967295 % 4294967296=((s % 4294967296:Nat):Int):=by
 subst h
 rw[and_low hs]
 omega
theorem plus_step {zs xs ys:List Nat} {k c z c':Nat} (hk:zs.length=k) (h:val zs+4294967296 ^ k*c=val (xs.take k)+val (ys.take k)) (hz:z+4294967296*c'=c+nth xs k+nth ys k) :
  val (zs++[z])+4294967296 ^ (k+1)*c'=val (xs.take (k+1))+val (ys.take (k+1)):=by
 rw[val_snoc,hk,val_take_step xs,val_take_step ys,Nat.pow_succ,Nat.mul_assoc]
 generalize 4294967296 ^ k=P at *
 have e:P*(z+4294967296*c')=P*(c+nth xs k+nth ys k):=by rw[hz]
 rw[Nat.mul_add,Nat.mul_add,Nat.mul_add] at e
 omega
set_option maxHeartbeats 2000000 in
set_option maxRecDepth 100000 in
theorem r2plus_any (a b:Option Addr) (xs ys:List Nat) (c d:Nat) (w:World) (h1:Rd w a xs) (h2:Rd w b ys) (hxl:xs.length≤1000000) (hyl:ys.length≤1000000) :
  Calls Tryz.prog 247 #[.slice a xs.length c,.slice b ys.length d] w (NatOut w (val xs+val ys)):=by
 go_enter Tryz.func247,Tryz.ntmps247
 go_wp2_with fail
 go_loopw [5,6,7] (fun v cy ix wr=>∃ (k q:Nat) (zs:List Nat),(k≤xs.length∨k≤ys.length)∧q≤1∧cy=.int .u64 q∧ix=.int .i64 k∧zs.length=k∧Own wr w.heap.size v zs ∧
   val zs+4294967296 ^ k*q=val (xs.take k)+val (ys.take k)∧Kp w wr) (fun _ _ ix _=>(xs.length+ys.length)-(intOf ix).toNat)
 case atStart=>exact⟨0,0,[],.inl (Nat.zero_le _),by decide,rfl,rfl,rfl,Own.nil _ _,by simp[val],.refl _⟩
 case round =>
 obtain⟨k,q,zs,hk,hq,rfl,rfl,hzl,hown,hvz,hkp⟩:=hrel
 have Hvz:=hid hvz
 have Hzl:=hid hzl
 have hzl2:zs.length+1≤9000000:=by omega
 clear hvz
 by_cases hlx:k<xs.length
 ·obtain⟨b1,o1,rfl,hcx⟩:=(h1.kp hkp).some (i:=k) (by omega)
  have hx1:=hcx k (by omega)
  have bx:=h1.lt32.nth k
  clear hcx
  by_cases hly:k<ys.length
  rotate_left
  ·have H0:=hid (nth_ge (xs:=ys) (i:=k) (by omega))
   clear hzl
   have Hst:=hid (fun z c'=>plus_step (z:=z) (c':=c') Hzl.out Hvz.out)
   have hcl:=hid (and_lowI (x:=(q:Int)+nth xs k) (s:=q+nth xs k) (by omega) (by omega))
   go_wp2_with (at_builtin;refine wpList_append_u32 rfl _ _ rfl w.heap.size _ _ rfl (hown.alloc _) _ _ rfl (World.cell?_alloc_new _ _ _ _) ((q+nth xs k) % 4294967296) hcl.out (Nat.mod_lt _ (by decide)) hzl2 (by have:=hkp.size;simp;omega) ?_;intro a2 c2 w2 hown2 hb2)
   go_roundw
   case measure=>simp[intOf];omega
   case rel=>exact⟨k+1,(q+nth xs k)/4294967296,_,by omega,by omega,by go_num,by go_num,by simp[Hzl.out],hown2,Hst.out _ _ (by rw[H0.out];omega),(hkp.alloc _).below.trans hb2⟩
  obtain⟨b2,o2,rfl,hcy⟩:=(h2.kp hkp).some (i:=k) (by omega)
  have hy1:=hcy k (by omega)
  have by':=h2.lt32.nth k
  clear hcy hzl
  have Hst:=hid (fun z c'=>plus_step (z:=z) (c':=c') Hzl.out Hvz.out)
  have hcl:=hid (and_lowI (x:=(q:Int)+nth xs k+nth ys k) (s:=q+nth xs k+nth ys k) (by omega) (by omega))
  go_wp2_with (at_builtin;refine wpList_append_u32 rfl _ _ rfl w.heap.size _ _ rfl (hown.alloc _) _ _ rfl (World.cell?_alloc_new _ _ _ _) ((q+nth xs k+nth ys k) % 4294967296) hcl.out (Nat.mod_lt _ (by decide)) hzl2 (by have:=hkp.size;simp;omega) ?_;intro a2 c2 w2 hown2 hb2)
  go_roundw
  case measure=>simp[intOf];omega
  case rel=>exact⟨k+1,(q+nth xs k+nth ys k)/4294967296,_,by omega,by omega,by go_num,by go_num,by simp[Hzl.out],hown2,Hst.out _ _ (by omega),(hkp.alloc _).below.trans hb2⟩
 have hX0:nth xs k=0:=nth_ge (by omega)
 by_cases hly:k<ys.length
 ·obtain⟨b2,o2,rfl,hcy⟩:=(h2.kp hkp).some (i:=k) (by omega)
  have hy1:=hcy k (by omega)
  have by':=h2.lt32.nth k
  have H0:=hid hX0
  clear hcy hzl hX0
  have Hst:=hid (fun z c'=>plus_step (z:=z) (c':=c') Hzl.out Hvz.out)
  have hcl:=hid (and_lowI (x:=(q:Int)+nth ys k) (s:=q+nth ys k) (by omega) (by omega))
  go_wp2_with (at_builtin;refine wpList_append_u32 rfl _ _ rfl w.heap.size _ _ rfl (hown.alloc _) _ _ rfl (World.cell?_alloc_new _ _ _ _) ((q+nth ys k) % 4294967296) hcl.out (Nat.mod_lt _ (by decide)) hzl2 (by have:=hkp.size;simp;omega) ?_;intro a2 c2 w2 hown2 hb2)
  go_roundw
  case measure=>simp[intOf];omega
  case rel=>exact⟨k+1,(q+nth ys k)/4294967296,_,by omega,by omega,by go_num,by go_num,by simp[Hzl.out],hown2,Hst.out _ _ (by rw[H0.out];omega),(hkp.alloc _).below.trans hb2⟩
 have e3:=hid (show val (zs++[q])=val xs+val ys by
  have e:=Hvz.out
  rw[List.take_of_length_le (by omega),List.take_of_length_le (by omega)] at e
  rw[val_snoc,hzl];exact e)
 have hqq:(q:Int) % 4294967296=(q:Int):=by omega
 clear hzl hX0
 have hkk:=hid hkp
 go_wp2_with (at_builtin;refine wpList_append_u32 rfl _ _ rfl w.heap.size _ _ rfl (hown.alloc _) _ _ rfl (World.cell?_alloc_new _ _ _ _) q rfl (by omega) hzl2 (by have:=hkp.size;simp;omega) ?_;intro a2 c2 w2 hown2 hb2)
 obtain⟨l5,m5,r5,r6⟩:=hown2.rd
 have hT:=r2trim_any a2 (zs++[q]) c2 w2 r6 m5 r5 (by rw[List.length_append,List.length_singleton];have:=Hzl.out;omega)
 rw[List.length_append,List.length_singleton] at hT
 have HT:=hid hT
 have hkw:=hid (show Kp w w2 from (hkk.out.alloc _).below.trans hb2)
 clear hown2 r6 hT hb2 hown hkp hqq l5 m5 r5
 refine HT.out.mono ?_
 rintro e w7 ⟨a6,c6,rfl,l6,m6,r6,k6⟩
 go_wp2_with fail
 go_ret
 rw[← e3.out]
 exact⟨a6,c6,rfl,l6,m6,r6,hkw.out.trans k6⟩
theorem minus_step {zs xs ys:List Nat} {k c z c':Nat} (hk:zs.length=k) (h:val zs+val (ys.take k)=val (xs.take k)+4294967296 ^ k*c) (hz:z+(c+nth ys k)=nth xs k+4294967296*c') :
  val (zs++[z])+val (ys.take (k+1))=val (xs.take (k+1))+4294967296 ^ (k+1)*c':=by
 rw[val_snoc,hk,val_take_step xs,val_take_step ys,Nat.pow_succ,Nat.mul_assoc]
 generalize 4294967296 ^ k=P at *
 have e:P*(z+(c+nth ys k))=P*(nth xs k+4294967296*c'):=by rw[hz]
 rw[Nat.mul_add,Nat.mul_add,Nat.mul_add] at e
 omega
set_option maxHeartbeats 2000000 in
set_option maxRecDepth 100000 in
theorem r2minus_any (a b:Option Addr) (xs ys:List Nat) (c d:Nat) (w:World) (h1:Rd w a xs) (h2:Rd w b ys) (hxl:xs.length≤1000000) (hyl:ys.length≤xs.length) (hle:val ys≤val xs) :
  Calls Tryz.prog 248 #[.slice a xs.length c,.slice b ys.length d] w (NatOut w (val xs-val ys)):=by
 have Hle:=hid hle
 clear hle
 go_enter Tryz.func248,Tryz.ntmps248
 go_wp2_with fail
 go_loopw [5,6,7] (fun v cy ix wr=>∃ (k q:Nat) (zs:List Nat),k≤xs.length∧q≤1∧cy=.int .u64 q∧ix=.int .i64 k∧zs.length=k∧Own wr w.heap.size v zs ∧
   val zs+val (ys.take k)=val (xs.take k)+4294967296 ^ k*q∧Kp w wr) (fun _ _ ix _=>xs.length-(intOf ix).toNat)
 case atStart=>exact⟨0,0,[],Nat.zero_le _,by decide,rfl,rfl,rfl,Own.nil _ _,by simp[val],.refl _⟩
 case round =>
 obtain⟨k,q,zs,hk,hq,rfl,rfl,hzl,hown,hvz,hkp⟩:=hrel
 have Hvz:=hid hvz
 have Hzl:=hid hzl
 have hzl2:zs.length+1≤9000000:=by omega
 clear hvz
 by_cases hlx:k<xs.length
 ·obtain⟨b1,o1,rfl,hcx⟩:=(h1.kp hkp).some (i:=k) (by omega)
  have hx1:=hcx k (by omega)
  have bx:=h1.lt32.nth k
  clear hcx hzl
  have Hst:=hid (fun z c'=>minus_step (z:=z) (c':=c') Hzl.out Hvz.out)
  by_cases hly:k<ys.length
  ·obtain⟨b2,o2,rfl,hcy⟩:=(h2.kp hkp).some (i:=k) (by omega)
   have hy1:=hcy k (by omega)
   have by':=h2.lt32.nth k
   clear hcy
   have hcl:=hid (and_lowI (x:=(nth xs k:Int)+4294967296-((q:Int)+nth ys k)) (s:=nth xs k+4294967296-(q+nth ys k)) (by omega) (by omega))
   go_wp2_with (at_builtin;refine wpList_append_u32 rfl _ _ rfl w.heap.size _ _ rfl (hown.alloc _) _ _ rfl (World.cell?_alloc_new _ _ _ _) ((nth xs k+4294967296-(q+nth ys k)) % 4294967296) hcl.out (Nat.mod_lt _ (by decide)) hzl2 (by have:=hkp.size;simp;omega) ?_;intro a2 c2 w2 hown2 hb2)
   go_roundw
   case measure=>simp[intOf];omega
   case rel=>exact⟨k+1,1-(nth xs k+4294967296-(q+nth ys k))/4294967296,_,by omega,by omega,by congr 1;omega,by go_num,by simp[Hzl.out],hown2,Hst.out _ _ (by omega),(hkp.alloc _).below.trans hb2⟩
  have H0:=hid (nth_ge (xs:=ys) (i:=k) (by omega))
  have hcl:=hid (and_lowI (x:=(nth xs k:Int)+4294967296-(q:Int)) (s:=nth xs k+4294967296-q) (by omega) (by omega))
  go_wp2_with (at_builtin;refine wpList_append_u32 rfl _ _ rfl w.heap.size _ _ rfl (hown.alloc _) _ _ rfl (World.cell?_alloc_new _ _ _ _) ((nth xs k+4294967296-q) % 4294967296) hcl.out (Nat.mod_lt _ (by decide)) hzl2 (by have:=hkp.size;simp;omega) ?_;intro a2 c2 w2 hown2 hb2)
  go_roundw
  case measure=>simp[intOf];omega
  case rel=>exact⟨k+1,1-(nth xs k+4294967296-q)/4294967296,_,by omega,by omega,by congr 1;omega,by go_num,by simp[Hzl.out],hown2,Hst.out _ _ (by rw[H0.out];omega),(hkp.alloc _).below.trans hb2⟩
 obtain⟨a5,c5,e5,l5,m5,r5⟩:=hown.value
 subst e5
 have e3:=hid (show val zs=val xs-val ys by
  have e:=Hvz.out
  have hl:=Hle.out
  have hb:=val_lt r5.lt32
  rw[hzl] at hb
  rw[List.take_of_length_le (by omega),List.take_of_length_le (by omega)] at e
  generalize 4294967296 ^ k=P at *
  have hq2:q=0∨q=1:=by omega
  rcases hq2 with rfl | rfl <;> omega)
 have hT:=hid (r2trim_any a5 zs c5 wr r5 l5 m5 (by omega))
 have hkk:=hid hkp
 clear hkp hown hzl
 go_wp2_with fail
 refine hT.out.mono ?_
 rintro e w7 ⟨a6,c6,rfl,l6,m6,r6,k6⟩
 go_wp2_with fail
 go_ret
 rw[← e3.out]
 exact⟨a6,c6,rfl,l6,m6,r6,hkk.out.trans k6⟩
end Go.Proofs.YteidgoldnllabaaGreatDoor
