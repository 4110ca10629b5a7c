/-
  Walks: natural.divide, DivMod, of any numbers.
-/
import Derived.Test.YteidgoldnllabaaGreatDoorTKnuD
import Derived.Test.YteidgoldnllabaaGreatDoorTEqU
import Derived.Test.YteidgoldnllabaaGreatDoorTDotM
import Derived.Test.YteidgoldnllabaaGreatDoorTAwk4
import Derived.Deep.Cut
import Derived.Test.YteidgoldnllabaaGreatDoorTIncP
import Derived.Test.YteidgoldnllabaaGreatDoorTBoxB
import Derived.Deep.RegionHeld3
import Derived.Deep.RegionLaw
import Derived.Deep.CutRange
import Derived.Test.YteidgoldnllabaaGreatDoorTIvA
import Derived.Test.YteidgoldnllabaaGreatDoorTTpoN
import Derived.Shelf.Spec.TrailingZeros
set_option maxHeartbeats 8000000
set_option maxRecDepth 100000
namespace Go.Proofs.YteidgoldnllabaaGreatDoor
open Go.RowKit
open Lib (hid)
theorem divide0_any (a b:Option Addr) (xs ys:List Nat) (c d:Nat) (w:World) (hx:Rd w a xs) (hy:Rd w b ys) (hxl:xs.length≤256) (hxc:xs.length≤c) (hyc:ys.length≤d) (hc:c≤maxLen) (hd:d≤maxLen) (hlt:val xs<val ys) :
  Calls Tryz.prog 292 #[.slice a xs.length c,.slice b ys.length d] w (DivOut w (val xs) (val ys) 256):=by
 have H1:=hid (trim_any a xs c w hx hxc hc)
 have H2:=hid (trim_any b ys d w hy hyc hd)
 have g1:=hx.limbs
 have g2:=hy.limbs
 have hl1:=limbs_len_le hx.lt32
 have hl2:=limbs_len_le hy.lt32
 have Hv1:=hid (val_limbs (val xs))
 have Hv2:=hid (val_limbs (val ys))
 have hcu:(limbs (val xs)).length≤c:=by omega
 have hcv:(limbs (val ys)).length≤d:=by omega
 go_enter Tryz.func292,Tryz.ntmps292
 go_wp2_with fail
 refine H1.out.mono ?_
 rintro e w2 ⟨rfl,rfl⟩
 go_wp2_with fail
 refine H2.out.mono ?_
 rintro e w2 ⟨rfl,rfl⟩
 clear H1 H2 hx hy
 generalize val xs=m at *
 generalize val ys=n at *
 generalize limbs m=us at *
 generalize limbs n=vs at *
 have hul:us.length≤256:=by omega
 clear hxl hxc hyc hl1 hl2
 go_wp2_with fail
 refine (cmp_any a b us vs c d _ g1 g2 hcu hcv hc hd).mono ?_
 rw[Hv1.out,Hv2.out]
 rintro e w3 ⟨rfl,hk3⟩
 have hcm:cmpN m n<0:=by rw[cmpN_lt hlt];decide
 have Hlt:=hid hlt
 clear hlt
 go_wp2_with fail
 refine (clone_any a us c _ (g1.kp hk3) (by omega)).mono ?_
 rintro e w4 ⟨a4,c4,rfl,r4,l4,m4,hk4⟩
 go_wp2_with fail
 refine bodyPost_ret (v:=.tuple #[.slice none 0 0,.slice a4 us.length c4]) (by simp[results,Tryz.results292,go_sem]) rfl ?_
 exact⟨none,0,[],a4,c4,us,rfl,Nat.le_refl _,by decide,l4,m4,.nil _ _,r4,by rw[Nat.div_eq_of_lt Hlt.out];rfl,by rw[Nat.mod_eq_of_lt Hlt.out];exact Hv1.out,Nat.zero_le _,hul,hk3.trans hk4⟩
theorem divide_any (a b:Option Addr) (xs ys:List Nat) (c d:Nat) (w:World) (hx:Rd w a xs) (hy:Rd w b ys) (hxl:xs.length≤256) (hxc:xs.length≤c) (hyc:ys.length≤d) (hc:c≤maxLen) (hd:d≤maxLen) (h0:val ys≠0) :
  Calls Tryz.prog 292 #[.slice a xs.length c,.slice b ys.length d] w (DivOut w (val xs) (val ys) 256):=by
 rcases Nat.lt_or_ge (val xs) (val ys) with h | h
 ·exact divide0_any a b xs ys c d w hx hy hxl hxc hyc hc hd h
 have h1:limbs (val ys)≠[]:=fun h=>h0 (limbs_eq_nil.1 h)
 have h2:=List.length_pos_iff.2 h1
 rcases (show (limbs (val ys)).length=1∨2≤(limbs (val ys)).length by omega) with h3 | h3
 ·exact divide1_any a b xs ys c d w hx hy hxl hxc hyc hc hd h3
 exact divide2_any a b xs ys c d w hx hy hxl hxc hyc hc hd h3 h
def quoK (x y:RD) (p:Int) (t:Nat):Nat:=(p+t+bits (val y.xs)-bits (val x.xs)).toNat
def divB (x y:RD) (p:Int) (up:Bool):Dy×Int :=
 if fltB p [x,y]=0 then (if y.xs.length=0 then (.zero,10) else if x.xs.length=0 then (.zero,0) else rndE (quoR (x.neg != y.neg) (val x.xs) (val y.xs) (x.e-y.e) p.toNat up (quoK x y p 2)))
 else (.zero,fltB p [x,y])
theorem div_rd (x y:RD) (p:Int) (up:Bool) (w:World) (hx:x.rd w) (hy:y.rd w) (hT:Tab w) :
  Calls Tryz.prog 257 #[.agg #[.bool x.neg,.slice x.a x.xs.length x.c,.int .i64 x.e],.agg #[.bool y.neg,.slice y.a y.xs.length y.c,.int .i64 y.e],.int .i64 p,.bool up] w (NumE w (divB x y p up).1 (divB x y p up).2):=by
 obtain⟨D,hD⟩:∃ D,D=divB x y p up:=⟨_,rfl⟩
 have HD:=hid hD
 rw[← hD]
 clear hD
 by_cases hmain:fltB p [x,y]=0∧y.xs.length≠0∧x.xs.length≠0
 ·obtain⟨h0,hy0,hx0⟩:=hmain
  obtain⟨hv,hp0,hp1⟩:=fltB_zero.1 h0
  obtain⟨q,rfl⟩:=Int.eq_ofNat_of_zero_le (show 0≤p by omega)
  have hxo:x.ok w:=⟨hx,by simpa using (List.all_eq_true.1 hv) x (by simp)⟩
  have hyo:y.ok w:=⟨hy,by simpa using (List.all_eq_true.1 hv) y (by simp)⟩
  have zx:=rdok_zero hxo
  have zy:=rdok_zero hyo
  have hxm:val x.xs≠0:=fun h=>hx0 (zx.2 h)
  have hym:val y.xs≠0:=fun h=>hy0 (zy.2 h)
  have hK:((quoK x y q 3:Nat):Int)=max 0 ((q:Int)+3+bits (val y.xs)-bits (val x.xs)):=by unfold quoK;omega
  have hbx:bits (val x.xs)≤4096:=dok_bits (rdok_dy hxo)
  have hby:bits (val y.xs)≤4096:=dok_bits (rdok_dy hyo)
  have hlim:(limbs (val x.xs*2 ^ quoK x y q 3)).length≤256:=limbs_of_bits (by rw[bits_mul_pow hxm];omega)
  have H:=div_of x y q (quoK x y q 3) up w hxo hyo hxm hym (by omega) (by omega) hT hK (fun W a c k hr hc hm hyr=>by
   have h:=divide_any a y.a (limbs (val x.xs*2 ^ quoK x y q 3)) y.xs c y.c W hr hyr hlim hc hyo.1.2.1 hm hyo.1.2.2.1 hym
   rwa [val_limbs] at h)
  have e:quoR (x.neg != y.neg) (val x.xs) (val y.xs) (x.e-y.e) q up (quoK x y q 3)=quoR (x.neg != y.neg) (val x.xs) (val y.xs) (x.e-y.e) q up (quoK x y q 2):=by
   have h3:quoK x y q 3=quoK x y q 2+(quoK x y q 3-quoK x y q 2):=by unfold quoK;omega
   rw[h3]
   exact quoR_more hxm hym (by omega) (by unfold quoK;omega)
  have hDD:D=rndE (rndS (x.neg != y.neg) (val x.xs*2 ^ quoK x y q 3/val y.xs) (x.e-quoK x y q 3-y.e) (decide (0<bits (val x.xs*2 ^ quoK x y q 3 % val y.xs))) q up):=by
   rw[HD.out]
   unfold divB
   rw[if_pos h0,if_neg hy0,if_neg hx0,Int.toNat_natCast,← e]
   unfold quoR
   rw[show x.e-y.e-(quoK x y q 3:Int)=x.e-quoK x y q 3-y.e by omega]
  rw[hDD]
  exact H
 go_enter Tryz.func257,Tryz.ntmps257
 go_wp2_with fail
 generalize hW:(((w.alloc _).alloc _).alloc _)=W at *
 have hk:Kp w W:=hW▸(((Kp.refl w).alloc _).alloc _).alloc _
 have hS:W.cell? ⟨w.heap.size,0,none⟩=some (.bool x.neg)∧W.cell? ⟨w.heap.size,1,none⟩=some (.slice x.a x.xs.length x.c)∧W.cell? ⟨w.heap.size,2,none⟩=some (.int .i64 x.e)∧W.cell? ⟨w.heap.size+1,0,none⟩=some (.bool y.neg)∧W.cell? ⟨w.heap.size+1,1,none⟩=some (.slice y.a y.xs.length y.c)∧W.cell? ⟨w.heap.size+1,2,none⟩=some (.int .i64 y.e):=by rw[← hW];exact keep6 ((Kp.refl _).alloc _) (by simp)
 have hB:Box3 W (w.heap.size+2) (.bool false) (.slice none 0 0) (.int .i64 0):=hW▸Box3.new3 _ _ _ _ _ _ _
 have hsz:W.heap.size=w.heap.size+1+1+1:=by rw[← hW];simp
 clear hW
 have hka:=(Kp.refl W).alloc (.cells #[.bool x.neg,.slice x.a x.xs.length x.c,.int .i64 x.e,.bool y.neg,.slice y.a y.xs.length y.c,.int .i64 y.e] 113)
 have hRw:=rowD_two W x y (hx.kp hk) (hy.kp hk) 113
 rw[hsz] at hRw
 clear hsz
 refine (fault_any p _ [x,y] 2 _ hRw (by simp)).mono ?_
 rintro e w1 ⟨rfl,hk1⟩
 have hS1:=keepRR (hka.trans hk1) hS
 have hB1:=hB.kp (hka.trans hk1)
 have hk2:=hk.trans (hka.trans hk1)
 clear hS hB hk hk1 hka hRw
 by_cases h0:fltB p [x,y]=0
 rotate_left
 ·have hz:(fltB p [x,y]==0)=false:=beq_eq_false_iff_ne.2 h0
  have hz2:(fltB p [x,y] != 0)=true:=by rw[bne,hz];rfl
  have HD2:=hid (show D=(.zero,fltB p [x,y]) by rw[HD.out];unfold divB;rw[if_neg h0])
  clear h0 hS1 hmain
  obtain⟨q0,q1,q2,f0,f1,f2⟩:=hB1
  go_wp2_with fail
  have hst:=stored q0 q1 q2 nofun nofun nofun (.bool false) (.slice none 0 0) (.int .i64 0)
  generalize (((w1.setCell _ _).setCell _ _).setCell _ _)=W9 at hst ⊢
  obtain⟨s0,s1,s2,_,s4,s5,_,_⟩:=hst
  refine bodyPost_ret (v:=.tuple #[.agg #[.bool false,.slice none 0 0,.int .i64 0],.int .i64 (fltB p [x,y])]) (by simp[results,Tryz.results257,go_sem,s0,s1,s2]) rfl ?_
  rw[HD2.out]
  exact numE_zero rfl (s5 _ hk2 (by omega))
 rw[h0]
 obtain⟨q0,q1,q2,f0,f1,f2⟩:=hB1
 obtain⟨s0,s1,s2,t0,t1,t2⟩:=hS1
 by_cases hy0:y.xs.length=0
 ·have hz:((y.xs.length:Int)==0)=true:=beq_iff_eq.2 (by omega)
  have HD3:=hid (show D=(.zero,10) by rw[HD.out];unfold divB;rw[if_pos h0,if_pos hy0])
  clear hy0 h0 hmain
  go_wp2_with fail
  have hst:=stored q0 q1 q2 nofun nofun nofun (.bool false) (.slice none 0 0) (.int .i64 0)
  generalize (((w1.setCell _ _).setCell _ _).setCell _ _)=W9 at hst ⊢
  obtain⟨s0,s1,s2,_,s4,s5,_,_⟩:=hst
  refine bodyPost_ret (v:=.tuple #[.agg #[.bool false,.slice none 0 0,.int .i64 0],.int .i64 10]) (by simp[results,Tryz.results257,go_sem,s0,s1,s2]) rfl ?_
  rw[HD3.out]
  exact numE_zero rfl (s5 _ hk2 (by omega))
 have hx0:x.xs.length=0:=Classical.byContradiction fun h=>hmain ⟨h0,hy0,h⟩
 have hz:((y.xs.length:Int)==0)=false:=beq_eq_false_iff_ne.2 (by omega)
 have hz2:((x.xs.length:Int)==0)=true:=beq_iff_eq.2 (by omega)
 have HD3:=hid (show D=(.zero,0) by rw[HD.out];unfold divB;rw[if_pos h0,if_neg hy0,if_pos hx0])
 clear hy0 h0 hx0 hmain
 go_wp2_with fail
 have hst:=stored q0 q1 q2 nofun nofun nofun (.bool false) (.slice none 0 0) (.int .i64 0)
 generalize (((w1.setCell _ _).setCell _ _).setCell _ _)=W9 at hst ⊢
 obtain⟨s0,s1,s2,_,s4,s5,_,_⟩:=hst
 refine bodyPost_ret (v:=.tuple #[.agg #[.bool false,.slice none 0 0,.int .i64 0],.int .i64 0]) (by simp[results,Tryz.results257,go_sem,s0,s1,s2]) rfl ?_
 rw[HD3.out]
 exact numE_zero rfl (s5 _ hk2 (by omega))
section
end
def cmpL (xs ys:List Nat):Int:=if xs.length<ys.length then -1 else if ys.length<xs.length then 1 else cmpN (val xs) (val ys)
theorem cmpL_lt {xs ys:List Nat} (h:xs.length<ys.length):cmpL xs ys=-1:=by unfold cmpL;rw[if_pos h]
theorem cmpL_gt {xs ys:List Nat} (h:ys.length<xs.length):cmpL xs ys=1:=by unfold cmpL;rw[if_neg (by omega),if_pos h]
theorem cmpL_eq {xs ys:List Nat} (h:xs.length=ys.length):cmpL xs ys=cmpN (val xs) (val ys):=by unfold cmpL;rw[if_neg (by omega),if_neg (by omega)]
theorem r2compare_any (a b:Option Addr) (xs ys:List Nat) (c d:Nat) (w:World) (h1:Rd w a xs) (h2:Rd w b ys) (hxl:xs.length≤1100000) (_hyl:ys.length≤1100000) :
  Calls Tryz.prog 200 #[.slice a xs.length c,.slice b ys.length d] w fun e w'=>e=.returned (.int .i64 (cmpL xs ys))∧Kp w w':=by
 go_enter Tryz.func200,Tryz.ntmps200
 rcases Nat.lt_trichotomy xs.length ys.length with hlen | hlen | hlen
 ·have hne:((xs.length:Int) != ys.length)=true:=by simp;omega
  go_wp2_with fail
  go_ret
  exact⟨ret_int (cmpL_lt hlen).symm,.refl _⟩
 ·have hne:((xs.length:Int) != ys.length)=false:=by simp;omega
  have Hlen:=hid hlen
  have hle1:xs.length≤ys.length:=by omega
  have hle2:ys.length≤xs.length:=by omega
  clear hlen
  go_wp2_with fail
  go_loopw [5] (fun ix wr=>∃ k:Nat,k≤xs.length∧ix=.int .i64 ((k:Int)-1)∧xs.drop k=ys.drop k∧Kp w wr) (fun ix _=>(intOf ix+1).toNat)
  case atStart=>exact⟨xs.length,Nat.le_refl _,rfl,by rw[List.drop_of_length_le (Nat.le_refl _),List.drop_of_length_le (by omega)],.refl _⟩
  case round =>
  obtain⟨k,hk,rfl,hdrop,hkp⟩:=hrel
  have Hdrop:=hid hdrop
  clear hdrop
  rcases k with _ | j
  ·rw[show (((0:Nat):Int)-1)=-1 from rfl]
   go_wp2_with fail
   go_ret
   have:xs=ys:=by have:=Hdrop.out;rwa [List.drop_zero,List.drop_zero] at this
   exact⟨ret_int ((cmpL_eq Hlen.out).trans (cmpN_eq (by rw[this]))).symm,hkp⟩
  rw[show (((j+1:Nat):Int)-1)=(j:Int) from by omega]
  obtain⟨b1,o1,rfl,hcx⟩:=(h1.kp hkp).some (i:=j) (by omega)
  have hx1:=hcx j (by omega)
  obtain⟨b2,o2,rfl,hcy⟩:=(h2.kp hkp).some (i:=j) (by omega)
  have hy1:=hcy j (by omega)
  clear hcx hcy
  have bx:=h1.lt32.nth j
  have by':=h2.lt32.nth j
  rcases Nat.lt_trichotomy (nth xs j) (nth ys j) with hd1 | hd1 | hd1
  ·have Hr:=hid (val_lt_of_top Hlen.out (by omega) h1.lt32 Hdrop.out hd1)
   go_wp2_with fail
   go_quiet (fail)
   go_wp2_with fail
   go_ret
   exact⟨ret_int ((cmpL_eq Hlen.out).trans (cmpN_lt Hr.out)).symm,by first | exact hkp.drewN _ | exact (hkp.drewN _).drewN _⟩
  ·have hd2:¬ nth xs j<nth ys j:=by omega
   have hd3:¬ nth ys j<nth xs j:=by omega
   have Hd1:=hid hd1
   clear hd1
   go_wp2_with fail
   go_quiet (fail)
   go_wp2_with fail
   go_quiet (fail)
   go_wp2_with fail
   go_roundw
   case measure=>simp[intOf]
   case rel =>
   refine⟨j,by omega,rfl,?_,hkp.drewN _⟩
   rw[drop_eq_nth (show j<xs.length by omega),drop_eq_nth (show j<ys.length by omega),Hdrop.out,Hd1.out]
  have hd2:¬ nth xs j<nth ys j:=by omega
  have Hr:=hid (val_lt_of_top (us:=ys) (vs:=xs) (k:=j) Hlen.out.symm (by omega) h2.lt32 Hdrop.out.symm hd1)
  go_wp2_with fail
  go_quiet (fail)
  go_wp2_with fail
  go_quiet (fail)
  go_wp2_with fail
  go_ret
  exact⟨ret_int ((cmpL_eq Hlen.out).trans (cmpN_gt Hr.out)).symm,by first | exact hkp.drewN _ | exact (hkp.drewN _).drewN _⟩
 have hne:((xs.length:Int) != ys.length)=true:=by simp;omega
 go_wp2_with fail
 go_ret
 exact⟨ret_int (cmpL_gt hlen).symm,.refl _⟩
theorem val_inj {xs ys:List Nat} (hx:Lt32 xs) (hy:Lt32 ys) (hl:xs.length=ys.length) (h:val xs=val ys):xs=ys:=by
 induction xs generalizing ys with
 | nil=>cases ys with
  | nil=>rfl
  | cons y ys=>simp at hl
 | cons x xs ih=>cases ys with
  | nil=>simp at hl
  | cons y ys =>
   rw[val_cons,val_cons] at h
   have h1:=hx x (by simp)
   have h2:=hy y (by simp)
   have e1:x=y:=by omega
   subst e1
   rw[ih (fun z hz=>hx z (List.mem_cons_of_mem _ hz)) (fun z hz=>hy z (List.mem_cons_of_mem _ hz)) (by simpa using hl) (by omega)]
def eqR (x y:RD):Bool:=decide (x.neg=y.neg)&&(decide (x.e=y.e)&&decide (x.xs=y.xs))
theorem r2Equal_any (x y:RD) (w:World) (hx:x.rd w) (hy:y.rd w) :
  Calls Tryz.prog 160 #[.agg #[.bool x.neg,.slice x.a x.xs.length x.c,.int .i64 x.e],.agg #[.bool y.neg,.slice y.a y.xs.length y.c,.int .i64 y.e]] w fun e w'=>e=.returned (.bool (eqR x y))∧Kp w w':=by
 have H:=hid (show eqR x y=(decide (x.neg=y.neg)&&(decide (x.e=y.e)&&decide (x.xs=y.xs))) from rfl)
 have hk:Kp w ((w.alloc (.cells #[.bool x.neg,.slice x.a x.xs.length x.c,.int .i64 x.e] 113)).alloc (.cells #[.bool y.neg,.slice y.a y.xs.length y.c,.int .i64 y.e] 113)):=((Kp.refl w).alloc _).alloc _
 have hC:=r2compare_any x.a y.a x.xs y.xs x.c y.c _ (hx.1.kp hk) (hy.1.kp hk) hx.2.2.2.1 hy.2.2.2.1
 have Hx:=hid hx
 have Hy:=hid hy
 have Hk:=hid hk
 have HC:=hid hC
 clear hx hy hk hC
 by_cases h1:x.neg=y.neg
 rotate_left
 ·have e1:(x.neg==y.neg)=false:=beq_eq_false_iff_ne.2 h1
  rw[decide_eq_false h1] at H
  clear h1
  go_enter Tryz.func160,Tryz.ntmps160
  go_wp2_with fail
  go_ret
  exact⟨ret_bool (by rw[H.out];rfl),Hk.out⟩
 have e1:(x.neg==y.neg)=true:=beq_iff_eq.2 h1
 rw[decide_eq_true h1] at H
 have H1:=hid h1
 clear h1
 by_cases h2:x.e=y.e
 rotate_left
 ·have e2:(x.e==y.e)=false:=beq_eq_false_iff_ne.2 h2
  rw[decide_eq_false h2] at H
  clear h2
  go_enter Tryz.func160,Tryz.ntmps160
  go_wp2_with fail
  go_ret
  exact⟨ret_bool (by rw[H.out];rfl),Hk.out⟩
 have e2:(x.e==y.e)=true:=beq_iff_eq.2 h2
 rw[decide_eq_true h2] at H
 have H2:=hid h2
 clear h2
 by_cases h3:x.xs.length=y.xs.length
 rotate_left
 ·have e3:((x.xs.length:Int)==(y.xs.length:Int))=false:=beq_eq_false_iff_ne.2 (by omega)
  rw[decide_eq_false (fun e=>h3 (by rw[e]))] at H
  clear h3
  go_enter Tryz.func160,Tryz.ntmps160
  go_wp2_with fail
  go_ret
  exact⟨ret_bool (by rw[H.out];rfl),Hk.out⟩
 have e3:((x.xs.length:Int)==(y.xs.length:Int))=true:=beq_iff_eq.2 (by omega)
 have H3:=hid h3
 clear h3
 by_cases h4:x.xs=y.xs
 ·have e4:(cmpL x.xs y.xs==0)=true:=beq_iff_eq.2 (by rw[cmpL_eq H3.out,cmpN_eq (by rw[h4])])
  rw[decide_eq_true h4] at H
  clear h4
  go_enter Tryz.func160,Tryz.ntmps160
  go_wp2_with fail
  refine HC.out.mono ?_
  rintro e w2 ⟨rfl,hk2⟩
  go_wp2_with fail
  go_ret
  exact⟨ret_bool (by rw[H.out];rfl),Hk.out.trans hk2⟩
 have e4:(cmpL x.xs y.xs==0)=false:=beq_eq_false_iff_ne.2 (fun e=>by
  rw[cmpL_eq H3.out] at e
  refine h4 (val_inj Hx.out.1.lt32 Hy.out.1.lt32 H3.out ?_)
  unfold cmpN at e
  split at e
  ·omega
  ·split at e
   ·assumption
   ·omega)
 rw[decide_eq_false h4] at H
 clear h4
 go_enter Tryz.func160,Tryz.ntmps160
 go_wp2_with fail
 refine HC.out.mono ?_
 rintro e w2 ⟨rfl,hk2⟩
 go_wp2_with fail
 go_ret
 exact⟨ret_bool (by rw[H.out];rfl),Hk.out.trans hk2⟩
theorem bit_nth {xs:List Nat} (h:Lt32 xs) (n:Nat):nth xs (n/32)/2 ^ (n % 32) % 2=val xs/2 ^ n % 2:=by
 have e:2 ^ n=4294967296 ^ (n/32)*2 ^ (n % 32):=by rw[pow32,← Nat.pow_add];congr 1;omega
 by_cases hl:n/32<xs.length
 rotate_left
 ·rw[nth_ge (by omega),Nat.zero_div]
  have h1:val xs<2 ^ n:=by
   refine Nat.lt_of_lt_of_le (val_lt h) ?_
   rw[pow32]
   exact Nat.pow_le_pow_right (by decide) (by omega)
  rw[Nat.div_eq_of_lt h1]
 have e1:=val_take_drop xs (n/32) (by omega)
 have e2:xs.drop (n/32)=nth xs (n/32)::xs.drop (n/32+1):=drop_eq_nth hl
 have e3:val xs/4294967296 ^ (n/32)=val (xs.drop (n/32)):=by
  have h1:val (xs.take (n/32))<4294967296 ^ (n/32):=by
   have:=val_lt (h.take (n/32))
   rwa [List.length_take,Nat.min_eq_left (by omega)] at this
  have hp:0<4294967296 ^ (n/32):=Nat.pow_pos (by decide)
  rw[e1,Nat.add_mul_div_left _ _ hp,Nat.div_eq_of_lt h1,Nat.zero_add]
 rw[e,← Nat.div_div_eq_div_mul,e3,e2,val_cons]
 have hr:n % 32<32:=Nat.mod_lt _ (by decide)
 obtain⟨d,hd⟩:∃ d,4294967296=2 ^ (n % 32)*(2*d):=⟨2 ^ (31-n % 32),by
  rw[show 2*2 ^ (31-n % 32)=2 ^ (31-n % 32+1) from by rw[Nat.pow_succ];omega,← Nat.pow_add,show n % 32+(31-n % 32+1)=32 from by omega]⟩
 have e4:4294967296*val (xs.drop (n/32+1))=2 ^ (n % 32)*(2*(d*val (xs.drop (n/32+1)))):=by
  conv=>lhs;rw[hd]
  rw[Nat.mul_assoc,Nat.mul_assoc]
 rw[e4,Nat.add_mul_div_left _ _ (two_pow_pos _)]
 omega
theorem tz_least {V n:Nat} (h0:V≠0) (hz:V % 2 ^ n=0):n≤tz V∧(V/2 ^ n % 2=1→n=tz V):=by
 obtain⟨h1,h2⟩:=oddp_spec h0
 have hle:n≤tz V:=by
  apply Classical.byContradiction;intro hn
  have hd:V=2 ^ n*(V/2 ^ n):=by have:=Nat.div_add_mod V (2 ^ n);omega
  have e:2 ^ n=2 ^ tz V*(2*2 ^ (n-tz V-1)):=by
   rw[show 2*2 ^ (n-tz V-1)=2 ^ (n-tz V-1+1) from by rw[Nat.pow_succ];omega,← Nat.pow_add];congr 1;omega
  have e2:oddp V*2 ^ tz V=2*(2 ^ (n-tz V-1)*(V/2 ^ n))*2 ^ tz V:=by
   refine h2.symm.trans (hd.trans ?_)
   generalize V/2 ^ n=q
   rw[e,Nat.mul_assoc,Nat.mul_comm (2 ^ tz V),Nat.mul_assoc 2]
  have:=Nat.eq_of_mul_eq_mul_right (two_pow_pos _) e2
  omega
 refine⟨hle,fun h=>?_⟩
 apply Classical.byContradiction;intro hn
 have e:V/2 ^ n=2*(oddp V*2 ^ (tz V-n-1)):=by
  conv=>lhs;rw[h2]
  rw[show 2 ^ tz V=2*2 ^ (tz V-n-1)*2 ^ n from by rw[show 2*2 ^ (tz V-n-1)=2 ^ (tz V-n-1+1) from by rw[Nat.pow_succ];omega,← Nat.pow_add];congr 1;omega]
  rw[← Nat.mul_assoc,Nat.mul_div_cancel _ (two_pow_pos n),Nat.mul_left_comm]
 omega
theorem bit32 {x r:Nat} (hx:x<4294967296):Go.bits BinOp.and IntKind.u32 ((x:Int)/2 ^ r) 1=((x/2 ^ r % 2:Nat):Int):=by
 have e:((x:Int)/2 ^ r)=((x/2 ^ r:Nat):Int):=by rw[Int.natCast_ediv,Int.natCast_pow];rfl
 rw[e]
 have h1:=Nat.div_le_self x (2 ^ r)
 have h:=Go.Proofs.bits_and_u32_nat (x/2 ^ r) 1 (by omega) (by omega)
 rw[Nat.and_one_is_mod] at h
 exact h
theorem bits_of_nz {V:Nat} (h0:V≠0):tz V<bits V:=by
 have:=bits_oddp h0
 have:=bits_pos (oddp_ne_zero h0)
 omega
end Go.Proofs.YteidgoldnllabaaGreatDoor
