/-
  Walks: slices.Clone of limbs, dyadic.trimmed, size, low.
-/
import Derived.Test.YteidgoldnllabaaGreatDoorMTpoN
import Derived.Deep.RegionHeld3
set_option maxHeartbeats 4000000
set_option maxRecDepth 100000
namespace Go.Proofs.YteidgoldnllabaaGreatDoor
open Go.RowKit
open Lib (hid)
def Shows (w:World) (xs:List Nat) (e:Ending) (w':World):Prop :=
 ∃ a c,e=.returned (.slice a xs.length c)∧Rd w' a xs∧xs.length≤c∧c≤maxLen∧Kp w w'
theorem clone_any (a:Option Addr) (xs:List Nat) (c:Nat) (w:World) (h:Rd w a xs) (hl:xs.length≤1100000) :
  Calls Tryz.prog 288 #[.slice a xs.length c] w (Shows w xs):=by
 have hn:=nil_u32
 cases a with
 | some ad =>
  go_enter Tryz.func288,Tryz.ntmps288
  go_wp2_with (at_builtin;refine wpList_append_u32s rfl _ _ rfl w.heap.size _ [] rfl (Own.empty w _ (Nat.le_refl _)) (some ad) xs c rfl (h.kp ((Kp.refl w).alloc _)) (by simp;omega) (by simp) ?_;intro a2 c2 w2 hown2 hb2)
  go_ret
  obtain⟨h5,h6,h7,h8⟩:=hown2.rd
  exact⟨a2,c2,by simp,h8,h6,h7,((Kp.refl w).alloc _).below.trans hb2⟩
 | none =>
 have hys:xs=[]:=by
  rcases h.2 with h | ⟨b,o,h,_⟩
  ·exact h
  ·cases h
 subst hys
 go_enter Tryz.func288,Tryz.ntmps288
 go_wp2_with fail
 go_ret
 exact⟨none,0,rfl,.nil _ _,Nat.le_refl _,by unfold maxLen;omega,.refl _⟩
theorem size_any (a:Option Addr) (xs:List Nat) (c:Nat) (w:World) (h:Rd w a xs) (hc:xs.length≤c) (hm:c≤maxLen) (hl:xs.length≤1100000) :
  Calls Tryz.prog 201 #[.slice a xs.length c] w fun e w'=>e=.returned (.int .i64 (bits (val xs)))∧w=w':=by
 have H:=hid (bits_any a xs c w h hc hm hl)
 go_enter Tryz.func201,Tryz.ntmps201
 go_wp2_with (refine H.out.mono ?_;rintro e w2 ⟨rfl,rfl⟩)
 go_ret
 exact⟨rfl,rfl⟩
theorem trimmed_any (a:Option Addr) (xs:List Nat) (c:Nat) (w:World) (h:Rd w a xs) (hc:xs.length≤c) (hm:c≤maxLen) :
  Calls Tryz.prog 285 #[.slice a xs.length c] w fun e w'=>e=.returned (.slice a (limbs (val xs)).length c)∧w=w':=by
 unfold maxLen at hm
 go_enter Tryz.func285,Tryz.ntmps285
 go_wp2
 go_loop [3] (fun x=>∃ n:Nat,n≤xs.length∧x=.int .i64 n∧∀ i,n≤i→i<xs.length→nth xs i=0) (fun x=>(intOf x).toNat)
 case atStart=>exact⟨xs.length,Nat.le_refl _,rfl,fun i h1 h2=>by omega⟩
 case round =>
 obtain⟨n,hn,rfl,hz⟩:=hrel
 have Hz:=hid hz;clear hz
 by_cases h0:n=0
 ·subst h0
  go_wp2
  go_ret
  have:=trim_top h.lt32 hn Hz.out (by omega)
  rw[← this]
  exact⟨rfl,rfl⟩
 obtain⟨b,o,rfl,hcell⟩:=h.some (i:=n-1) (by omega)
 have hk:=hcell (n-1) (by omega)
 clear hcell
 by_cases hx:nth xs (n-1)=0
 rotate_left
 ·have hx2:((nth xs (n-1):Int)==0)=false:=by simp;omega
  go_wp2
  go_ret
  have:=trim_top h.lt32 hn Hz.out (fun _=>hx)
  rw[← this,List.length_take,Nat.min_eq_left hn]
  exact⟨rfl,rfl⟩
 have hx2:((nth xs (n-1):Int)==0)=true:=by simp[hx]
 have Hx:=hid hx;clear hx
 go_wp2
 go_round
 case measure=>simp[intOf];omega
 case rel =>
 refine⟨n-1,by omega,by congr 1;omega,fun i h1 h2=>?_⟩
 by_cases hi:i=n-1
 ·rw[hi];exact Hx.out
 exact Hz.out i (by omega) h2
theorem tz_add {x r:Nat} (h0:x≠0) (hx:x<4294967296):tz (x+4294967296*r)=tz x:=by
 obtain⟨h1,h2⟩:=oddp_spec h0
 have ht:tz x<32:=by
  apply Classical.byContradiction;intro hn
  have h3:2 ^ 32≤2 ^ tz x:=Nat.pow_le_pow_right (by decide) (by omega)
  have h4:1*2 ^ tz x≤oddp x*2 ^ tz x:=Nat.mul_le_mul_right _ (by omega)
  omega
 have e:x+4294967296*r=(oddp x+2 ^ (32-tz x)*r)*2 ^ tz x:=by
  rw[Nat.add_mul,← h2,Nat.mul_right_comm,← Nat.pow_add,show 32-tz x+tz x=32 from by omega]
 rw[e]
 refine tz_mul_pow ?_ _
 rw[show 32-tz x=(31-tz x)+1 from by omega,Nat.pow_succ,Nat.mul_assoc,Nat.mul_left_comm,Nat.add_mul_mod_self_left]
 exact h1
theorem tz_limbs {xs:List Nat} {k:Nat} (h:Lt32 xs) (hk:k<xs.length) (hz:∀ i,i<k→nth xs i=0) (hx:nth xs k≠0):tz (val xs)=32*k+tz (nth xs k):=by
 have e:=val_take_drop xs k (by omega)
 have e0:val (xs.take k)=0:=val_zeros fun i hi=>by
  rw[List.length_take] at hi
  rw[nth_take (by omega)];exact hz i (by omega)
 rw[e0,drop_eq_nth hk,val_cons,Nat.zero_add,pow32,Nat.mul_comm] at e
 rw[e,tz_shift (by omega),tz_add hx (h.nth k)];omega
theorem low_any (a:Option Addr) (xs:List Nat) (c:Nat) (w:World) (h:Rd w a xs) (hl:xs.length≤1100000) (h0:val xs≠0) (hT:Tab w) :
  Calls Tryz.prog 286 #[.slice a xs.length c] w fun e w'=>e=.returned (.int .i64 (tz (val xs)))∧w=w':=by
 have H0:=hid h0
 clear h0
 go_enter Tryz.func286,Tryz.ntmps286
 go_wp2_with fail
 go_loop [3,8] (fun n x=>∃ k:Nat,k≤xs.length∧x=.int .i64 k∧n=.int .i64 (32*k:Nat)∧∀ i,i<k→nth xs i=0) (fun _ x=>xs.length-(intOf x).toNat)
 case atStart=>exact⟨0,Nat.zero_le _,rfl,rfl,fun i h1=>by omega⟩
 case round =>
 obtain⟨k,hk,rfl,rfl,hz⟩:=hrel
 have Hz:=hid hz;clear hz
 by_cases hlt:k<xs.length
 rotate_left
 ·exfalso
  exact H0.out (val_zeros fun i hi=>Hz.out i (by omega))
 obtain⟨b,o,rfl,hcell⟩:=h.some hlt
 have hc1:=hcell k hlt
 have bx:=h.lt32.nth k
 clear hcell
 by_cases hx:nth xs k=0
 ·have hx2:((nth xs k:Int) != 0)=false:=by simp[hx]
  have Hx:=hid hx;clear hx
  go_wp2_with fail
  go_round
  case measure=>simp[intOf];omega
  case rel =>
  refine⟨k+1,by omega,by go_num,by congr 1,fun i h1=>?_⟩
  by_cases hi:i=k
  ·rw[hi];exact Hx.out
  exact Hz.out i (by omega)
 have hx2:((nth xs k:Int) != 0)=true:=by simp;omega
 have Hr:=hid (tz_limbs h.lt32 hlt Hz.out hx)
 have ht:tz (nth xs k)≤32:=by
  have:=bits_oddp hx
  have h2:=bits_le.2 (show nth xs k<2 ^ 32 from bx)
  omega
 go_wp2_with fail
 refine (tz32_any _ _ hx bx hT).mono ?_
 rintro e w2 ⟨rfl,rfl⟩
 go_wp2_with fail
 go_ret
 exact⟨ret_int (by rw[Hr.out];omega),rfl⟩
def DyOut (w:World) (d:Dy) (e:Ending) (w':World):Prop :=
 ∃ a c,e=.returned (.agg #[.bool d.neg,.slice a (limbs d.m).length c,.int .i64 d.e])∧Rd w' a (limbs d.m)∧(limbs d.m).length≤c∧c≤maxLen∧Kp w w'
theorem Rd.other {w:World} {a:Option Addr} {xs:List Nat} (h:Rd w a xs) {p:Addr} {v u:Value} (hp:w.cell? p=.some v) (hv:∀ n:Int,v≠.int .u32 n):Rd (w.setCell p u) a xs:=by
 obtain⟨h1,h2⟩:=h
 refine⟨h1,?_⟩
 rcases h2 with h2 | ⟨b,o,rfl,h2⟩
 ·exact .inl h2
 refine .inr ⟨b,o,rfl,fun i hi=>?_⟩
 rw[World.cell?_setCell_other]
 ·exact h2 i hi
 intro e
 rw[e,h2 i hi] at hp
 exact hv _ (Option.some.inj hp).symm
theorem dyOut_intro {w w':World} {d:Dy} {e:Ending} (a:Option Addr) (n c:Nat) (s:Bool) (k:Int) (he:e=.returned (.agg #[.bool s,.slice a n c,.int .i64 k])) (hs:s=d.neg) (hn:n=(limbs d.m).length) (hk:k=d.e)
  (hr:Rd w' a (limbs d.m)) (hc:n≤c) (hm:c≤maxLen) (hkp:Kp w w'):DyOut w d e w':=by
 subst hs hn hk;exact⟨a,c,he,hr,hc,hm,hkp⟩
theorem dybox {w w1:World} (hk:Kp (w.alloc (.cells #[.bool false,.slice none 0 0,.int .i64 0] 113)) w1) :
  w1.cell? ⟨w.heap.size,0,none⟩=some (.bool false)∧w1.cell? ⟨w.heap.size,1,none⟩=some (.slice none 0 0)∧w1.cell? ⟨w.heap.size,2,none⟩=some (.int .i64 0) ∧
  w1.frozen? ⟨w.heap.size,0,none⟩=false∧w1.frozen? ⟨w.heap.size,1,none⟩=false∧w1.frozen? ⟨w.heap.size,2,none⟩=false:=by
 have c0:(w.alloc (.cells #[.bool false,.slice none 0 0,.int .i64 0] 113)).cell? ⟨w.heap.size,0,none⟩=some (.bool false):=by simp
 have c1:(w.alloc (.cells #[.bool false,.slice none 0 0,.int .i64 0] 113)).cell? ⟨w.heap.size,1,none⟩=some (.slice none 0 0):=by simp
 have c2:(w.alloc (.cells #[.bool false,.slice none 0 0,.int .i64 0] 113)).cell? ⟨w.heap.size,2,none⟩=some (.int .i64 0):=by simp
 exact⟨hk.cell c0,hk.cell c1,hk.cell c2,hk.frozen c0 (by simp),hk.frozen c1 (by simp),hk.frozen c2 (by simp)⟩
def Box3 (w:World) (g:Nat) (x0 x1 x2:Value):Prop :=
 w.cell? ⟨g,0,none⟩=some x0∧w.cell? ⟨g,1,none⟩=some x1∧w.cell? ⟨g,2,none⟩=some x2 ∧
 w.frozen? ⟨g,0,none⟩=false∧w.frozen? ⟨g,1,none⟩=false∧w.frozen? ⟨g,2,none⟩=false
theorem Box3.new (w:World) (x0 x1 x2:Value) (t:TypeId):Box3 (w.alloc (.cells #[x0,x1,x2] t)) w.heap.size x0 x1 x2:=by
 refine⟨?_,?_,?_,?_,?_,?_⟩ <;> simp
theorem Box3.kp {w w':World} {g:Nat} {x0 x1 x2:Value} (h:Box3 w g x0 x1 x2) (k:Kp w w'):Box3 w' g x0 x1 x2 :=
 ⟨k.cell h.1,k.cell h.2.1,k.cell h.2.2.1,k.frozen h.1 h.2.2.2.1,k.frozen h.2.1 h.2.2.2.2.1,k.frozen h.2.2.1 h.2.2.2.2.2⟩
theorem Box3.alloc {w:World} {g:Nat} {x0 x1 x2:Value} (h:Box3 w g x0 x1 x2) (o:Obj):Box3 (w.alloc o) g x0 x1 x2:=h.kp ((Kp.refl w).alloc o)
theorem Box3.new1 (w:World) (x0 x1 x2:Value) (t:TypeId) (o:Obj):Box3 ((w.alloc (.cells #[x0,x1,x2] t)).alloc o) w.heap.size x0 x1 x2:=(Box3.new w x0 x1 x2 t).alloc o
theorem Box3.new2 (w:World) (x0 x1 x2:Value) (t:TypeId) (o:Obj):Box3 ((w.alloc o).alloc (.cells #[x0,x1,x2] t)) (w.heap.size+1) x0 x1 x2:=by
 have:=Box3.new (w.alloc o) x0 x1 x2 t
 rwa [World.size_alloc] at this
def Stored (g:Nat) (x0 x1 x2:Value) (w W:World):Prop :=
 W.cell? ⟨g,0,none⟩=some x0∧W.cell? ⟨g,1,none⟩=some x1∧W.cell? ⟨g,2,none⟩=some x2∧(∀ j,W.frozen? ⟨g,j,none⟩=w.frozen? ⟨g,j,none⟩) ∧
 (∀ a xs,Rd w a xs→Rd W a xs)∧(∀ a:World,Kp a w→a.heap.size≤g→Kp a W)∧(∀ p:Addr,p.block≠g→W.cell? p=w.cell? p)∧W.heap.size=w.heap.size
theorem cell_set_ne {w:World} {g i:Nat} {p:Addr} {v:Value} (h:(⟨g,i,none⟩:Addr)≠p):(w.setCell ⟨g,i,none⟩ v).cell? p=w.cell? p:=by
 rw[World.cell?_setCell_other];exact h
theorem cell_set_eq {w:World} {g i:Nat} {v u:Value} (h:w.cell? ⟨g,i,none⟩=some u):(w.setCell ⟨g,i,none⟩ v).cell? ⟨g,i,none⟩=some v:=by
 apply World.cell?_setCell_same;exact h
theorem stored {w:World} {g:Nat} {y0 y1 y2:Value} (q0:w.cell? ⟨g,0,none⟩=some y0) (q1:w.cell? ⟨g,1,none⟩=some y1) (q2:w.cell? ⟨g,2,none⟩=some y2)
  (n0:∀ n:Int,y0≠.int .u32 n) (n1:∀ n:Int,y1≠.int .u32 n) (n2:∀ n:Int,y2≠.int .u32 n) (x0 x1 x2:Value) :
  Stored g x0 x1 x2 w (((w.setCell ⟨g,0,none⟩ x0).setCell ⟨g,1,none⟩ x1).setCell ⟨g,2,none⟩ x2):=by
 have ne (i j:Nat) (h:i≠j):(⟨g,i,none⟩:Addr)≠⟨g,j,none⟩:=fun e=>h (by injection e)
 have a1:(w.setCell ⟨g,0,none⟩ x0).cell? ⟨g,1,none⟩=some y1:=by rw[cell_set_ne (ne 0 1 (by decide))];exact q1
 have a2:((w.setCell ⟨g,0,none⟩ x0).setCell ⟨g,1,none⟩ x1).cell? ⟨g,2,none⟩=some y2:=by
  rw[cell_set_ne (ne 1 2 (by decide)),cell_set_ne (ne 0 2 (by decide))];exact q2
 refine⟨?_,?_,cell_set_eq a2,fun j=>by simp,fun a xs h=>((h.other q0 n0).other a1 n1).other a2 n2,fun a h hg=>((h.set hg _).set hg _).set hg _,fun p hp=>?_,by simp⟩
 ·rw[cell_set_ne (ne 2 0 (by decide)),cell_set_ne (ne 1 0 (by decide))];exact cell_set_eq q0
 ·rw[cell_set_ne (ne 2 1 (by decide))];exact cell_set_eq a1
 have hne (i:Nat):(⟨g,i,none⟩:Addr)≠p:=fun e=>hp (by rw[← e])
 rw[cell_set_ne (hne 2),cell_set_ne (hne 1),cell_set_ne (hne 0)]
theorem canonical_any (s:Bool) (a:Option Addr) (xs:List Nat) (c:Nat) (ex:Int) (w:World) (h:Rd w a xs) (hc:xs.length≤c) (hm:c≤maxLen) (hl:xs.length≤256) (he0:-1000000000≤ex) (he1:ex≤1000000000) (hT:Tab w) :
  Calls Tryz.prog 258 #[.bool s,.slice a xs.length c,.int .i64 ex] w (DyOut w (canon s (val xs) ex)):=by
 have hll:=limbs_len_le h.lt32
 go_enter Tryz.func258,Tryz.ntmps258
 go_wp2_with fail
 refine (trimmed_any a xs c _ (h.kp ((Kp.refl w).alloc _)) hc hm).mono ?_
 rintro e w2 ⟨rfl,rfl⟩
 by_cases h0:val xs=0
 ·have hn:(limbs (val xs)).length=0:=by rw[h0,limbs_zero];rfl
  rw[hn]
  clear hn
  have H0:=hid h0
  clear h0
  go_wp2_with fail
  refine bodyPost_ret (v:=.agg #[.bool false,.slice none 0 0,.int .i64 0]) (by simp[results,Tryz.results258,go_sem]) rfl ?_
  rw[H0.out,canon_zero]
  exact dyOut_intro none 0 0 false 0 rfl rfl (by show 0=(limbs 0).length;rw[limbs_zero];rfl) rfl (by show Rd _ none (limbs 0);rw[limbs_zero];exact .nil _ _) (Nat.le_refl _) (by unfold maxLen;omega) ((Kp.refl w).alloc _)
 have hpos:0<(limbs (val xs)).length:=by
  rcases Nat.eq_zero_or_pos (limbs (val xs)).length with h1 | h1
  ·exact absurd (limbs_eq_nil.1 (List.length_eq_zero_iff.1 h1)) h0
  ·exact h1
 have hne:(((limbs (val xs)).length:Int)==0)=false:=beq_eq_false_iff_ne.2 (by omega)
 have hr:=h.limbs.kp ((Kp.refl w).alloc (.cells #[.bool false,.slice none 0 0,.int .i64 0] 113))
 have Hc:=hid (show canon s (val xs) ex=⟨s,oddp (val xs),ex+tz (val xs)⟩ by unfold canon;rw[if_neg h0])
 have htz:tz (val xs)≤10000:=by
  have e1:=bits_oddp h0
  have e2:=bits_le.2 (show val xs<2 ^ (32*xs.length) by rw[← pow32];exact val_lt h.lt32)
  omega
 have hv1:=val_limbs (val xs)
 have Hodd:=hid (show val xs/2 ^ tz (val xs)=oddp (val xs) from rfl)
 have holen:(limbs (oddp (val xs))).length≤256:=by
  have:=limbs_length_mono (show oddp (val xs)≤val xs from Nat.div_le_self _ _)
  omega
 have hm2:(limbs (val xs)).length≤c:=by omega
 have hl2:(limbs (val xs)).length≤256:=by omega
 clear h hc hl hll
 generalize hX:limbs (val xs)=us at *
 rw[← hv1] at Hc Hodd htz h0 holen
 clear hX
 generalize val xs=V at *
 subst hv1
 go_wp2_with fail
 refine (low_any a us c _ hr (by omega) h0 (hT.kp ((Kp.refl w).alloc _))).mono ?_
 rintro e w2 ⟨rfl,rfl⟩
 go_wp2_with fail
 refine (Shr_any a us c _ _ hr hl2 hm2 hm (by omega) (by omega)).mono ?_
 rintro e w2 ⟨a2,c2,rfl,h3,h4,h5,h6⟩
 rw[Int.toNat_natCast,Hodd.out] at h3 h5 ⊢
 go_wp2_with fail
 refine (clone_any a2 _ c2 _ h5 (by omega)).mono ?_
 rintro e w3 ⟨a3,c3,rfl,h7,h8,h9,h10⟩
 go_wp2_with fail
 refine (clip_any a3 _ c3 _ h8 h9).mono ?_
 rintro e w4 ⟨rfl,rfl⟩
 have hk:=h6.trans h10
 obtain⟨q0,q1,q2,f0,f1,f2⟩:=dybox hk
 clear hm hT hne hpos h5 h6 h3 h4 hr
 go_wp2_with fail
 have hst:=stored q0 q1 q2 nofun nofun nofun (.bool s) (.slice a3 (limbs (oddp (val us))).length (limbs (oddp (val us))).length) (.int .i64 (ex+tz (val us)))
 generalize (((w3.setCell _ _).setCell _ _).setCell _ _)=W at hst ⊢
 obtain⟨s0,s1,s2,_,s4,s5,_,_⟩:=hst
 refine bodyPost_ret (v:=.agg #[.bool s,.slice a3 (limbs (oddp (val us))).length (limbs (oddp (val us))).length,.int .i64 (ex+tz (val us))]) (by simp[results,Tryz.results258,go_sem,s0,s1,s2]) rfl ?_
 rw[Hc.out]
 exact dyOut_intro a3 _ _ s _ rfl rfl rfl rfl (s4 _ _ h7) (Nat.le_refl _) (by omega) (s5 _ (((Kp.refl w).alloc _).trans hk) (Nat.le_refl _))
def I64 (e:Int):Prop:=-9223372036854775808≤e∧e≤9223372036854775807
def inrB (m:Nat) (e:Int):Bool:=decide (bits m=0∨(bits m≤4096∧-16384≤e∧e≤16384∧(bits m:Int)+e≤16384))
theorem bits_val_le {xs:List Nat} (h:Lt32 xs):bits (val xs)≤32*xs.length:=bits_le.2 (by rw[← pow32];exact val_lt h)
theorem inRange_any (s:Bool) (a:Option Addr) (xs:List Nat) (c:Nat) (ex:Int) (w:World) (h:Rd w a xs) (hc:xs.length≤c) (hm:c≤maxLen) (hl:xs.length≤1100000) (he:I64 ex) :
  Calls Tryz.prog 162 #[.agg #[.bool s,.slice a xs.length c,.int .i64 ex]] w fun e w'=>e=.returned (.bool (inrB (val xs) ex))∧Kp w w':=by
 obtain⟨he0,he1⟩:=he
 have hb:bits (val xs)≤35200000:=by have:=bits_val_le h.lt32;omega
 by_cases h0:bits (val xs)=0
 ·have hz:((bits (val xs):Int)==0)=true:=by rw[h0];rfl
  have H:=hid (show inrB (val xs) ex=true from decide_eq_true (.inl h0))
  clear h0
  go_enter Tryz.func162,Tryz.ntmps162
  go_wp2_with fail
  refine (size_any a xs c _ (h.kp ((Kp.refl w).alloc _)) hc hm hl).mono ?_
  rintro e w2 ⟨rfl,rfl⟩
  go_wp2_with fail
  go_ret
  exact⟨ret_bool (by first | exact H.out.symm | (rw[H.out];simp;omega)),(Kp.refl w).alloc _⟩
 have hz:((bits (val xs):Int)==0)=false:=beq_eq_false_iff_ne.2 (by omega)
 by_cases h1:bits (val xs)≤4096
 rotate_left
 ·have H:=hid (show inrB (val xs) ex=false from decide_eq_false (by omega))
  clear h0
  go_enter Tryz.func162,Tryz.ntmps162
  go_wp2_with fail
  refine (size_any a xs c _ (h.kp ((Kp.refl w).alloc _)) hc hm hl).mono ?_
  rintro e w2 ⟨rfl,rfl⟩
  go_wp2_with fail
  go_ret
  exact⟨ret_bool (by first | exact H.out.symm | (rw[H.out];simp;omega)),(Kp.refl w).alloc _⟩
 by_cases h2:-16384≤ex
 rotate_left
 ·have H:=hid (show inrB (val xs) ex=false from decide_eq_false (by omega))
  clear h0
  go_enter Tryz.func162,Tryz.ntmps162
  go_wp2_with fail
  refine (size_any a xs c _ (h.kp ((Kp.refl w).alloc _)) hc hm hl).mono ?_
  rintro e w2 ⟨rfl,rfl⟩
  go_wp2_with fail
  go_ret
  exact⟨ret_bool (by first | exact H.out.symm | (rw[H.out];simp;omega)),(Kp.refl w).alloc _⟩
 by_cases h3:ex≤16384
 rotate_left
 ·have H:=hid (show inrB (val xs) ex=false from decide_eq_false (by omega))
  clear h0
  go_enter Tryz.func162,Tryz.ntmps162
  go_wp2_with fail
  refine (size_any a xs c _ (h.kp ((Kp.refl w).alloc _)) hc hm hl).mono ?_
  rintro e w2 ⟨rfl,rfl⟩
  go_wp2_with fail
  go_ret
  exact⟨ret_bool (by first | exact H.out.symm | (rw[H.out];simp;omega)),(Kp.refl w).alloc _⟩
 by_cases h4:(bits (val xs):Int)+ex≤16384
 ·have H:=hid (show inrB (val xs) ex=true from decide_eq_true (.inr ⟨h1,h2,h3,h4⟩))
  clear h0
  go_enter Tryz.func162,Tryz.ntmps162
  go_wp2_with fail
  refine (size_any a xs c _ (h.kp ((Kp.refl w).alloc _)) hc hm hl).mono ?_
  rintro e w2 ⟨rfl,rfl⟩
  go_wp2_with fail
  go_ret
  exact⟨ret_bool (by first | exact H.out.symm | (rw[H.out];simp;omega)),(Kp.refl w).alloc _⟩
 have H:=hid (show inrB (val xs) ex=false from decide_eq_false (by omega))
 clear h0
 go_enter Tryz.func162,Tryz.ntmps162
 go_wp2_with fail
 refine (size_any a xs c _ (h.kp ((Kp.refl w).alloc _)) hc hm hl).mono ?_
 rintro e w2 ⟨rfl,rfl⟩
 go_wp2_with fail
 go_ret
 exact⟨ret_bool (by first | exact H.out.symm | (rw[H.out];simp;omega)),(Kp.refl w).alloc _⟩
def expB (e:Int):Bool:=decide (-32768≤e∧e≤32768)
theorem exponent_any (ex:Int) (w:World) (he:I64 ex) :
  Calls Tryz.prog 310 #[.int .i64 ex] w fun e w'=>e=.returned (.bool (expB ex))∧w=w':=by
 obtain⟨he0,he1⟩:=he
 by_cases h1:-32768≤ex
 rotate_left
 ·have H:=hid (show expB ex=false from decide_eq_false (by omega))
  go_enter Tryz.func310,Tryz.ntmps310
  go_wp2_with fail
  go_ret
  exact⟨ret_bool (by first | exact H.out.symm | (rw[H.out];simp;omega)),rfl⟩
 by_cases h2:ex≤32768
 ·have H:=hid (show expB ex=true from decide_eq_true ⟨h1,h2⟩)
  go_enter Tryz.func310,Tryz.ntmps310
  go_wp2_with fail
  go_ret
  exact⟨ret_bool (by first | exact H.out.symm | (rw[H.out];simp;omega)),rfl⟩
 have H:=hid (show expB ex=false from decide_eq_false (by omega))
 go_enter Tryz.func310,Tryz.ntmps310
 go_wp2_with fail
 go_ret
 exact⟨ret_bool (by first | exact H.out.symm | (rw[H.out];simp;omega)),rfl⟩
def vld (s:Bool) (xs:List Nat) (e:Int):Bool :=
 if xs=[] then !s&&decide (e=0)
 else decide (xs.length≤256)&&(decide (nth xs 0 % 2=1)&&(decide (nth xs (xs.length-1)≠0)&&inrB (val xs) e))
def dyOf (s:Bool) (xs:List Nat) (e:Int):Dy:=⟨s,val xs,e⟩
theorem val_mod_two {xs:List Nat}:val xs % 2=nth xs 0 % 2:=by
 cases xs with
 | cons x xs=>rw[nth_cons_zero,val_cons];omega
 | nil=>rfl
theorem vld_ok {s:Bool} {xs:List Nat} {e:Int} (h:Lt32 xs) (hv:vld s xs e=true):(dyOf s xs e).ok∧limbs (val xs)=xs∧xs.length≤256:=by
 unfold vld at hv
 split at hv
 ·next h0 =>
  subst h0
  simp at hv
  exact⟨.inl ⟨rfl,hv.1,hv.2⟩,limbs_zero,by simp⟩
 next h0 =>
 simp only[Bool.and_eq_true,decide_eq_true_eq] at hv
 obtain⟨h1,h2,h3,h4⟩:=hv
 have ht:=top_of_nth (fun _=>h3)
 have hl:=limbs_val h ht
 refine⟨.inr ?_,hl,h1⟩
 unfold inrB at h4
 have h5:=of_decide_eq_true h4
 have hne:val xs≠0:=fun h0'=>h0 (val_eq_zero_top ht h0')
 have:=bits_pos hne
 refine⟨by show val xs % 2=1;rw[val_mod_two];exact h2,?_⟩
 show bits (val xs)≤4096∧-16384≤e∧e≤16384∧(bits (val xs):Int)+e≤16384
 omega
theorem limbs_len_bits {n k:Nat} (h:bits n≤32*k):(limbs n).length≤k:=limbs_length_le.2 (by rw[pow32];exact bits_le.1 h)
theorem ok_vld {d:Dy} (h:d.ok):vld d.neg (limbs d.m) d.e=true:=by
 unfold vld
 rcases h with ⟨h1,h2,h3⟩ | ⟨h1,h2,h3,h4,h5⟩
 ·rw[h1,limbs_zero,if_pos rfl,h2,h3];rfl
 have h0:d.m≠0:=by omega
 have hne:limbs d.m≠[]:=by rw[Ne,limbs_eq_nil];exact h0
 rw[if_neg hne,val_limbs]
 have hl:(limbs d.m).length≤256:=limbs_len_bits (by omega)
 have hp:0<(limbs d.m).length:=List.length_pos_iff.2 hne
 have e1:nth (limbs d.m) 0 % 2=1:=by rw[← val_mod_two,val_limbs];exact h1
 have e2:=top_nth (limbs_top d.m) hp
 have e3:inrB d.m d.e=true:=decide_eq_true (.inr ⟨h2,h3,h4,h5⟩)
 rw[e3]
 simp[hl,e1,e2]
theorem ok_len {d:Dy} (h:d.ok):(limbs d.m).length≤128:=by
 rcases h with ⟨h1,h2,h3⟩ | ⟨h1,h2,h3,h4,h5⟩
 ·rw[h1,limbs_zero];simp
 exact limbs_len_bits (by omega)
theorem Valid_any (s:Bool) (a:Option Addr) (xs:List Nat) (c:Nat) (ex:Int) (w:World) (h:Rd w a xs) (hc:xs.length≤c) (hm:c≤maxLen) (hl:xs.length≤1100000) (he:I64 ex) :
  Calls Tryz.prog 114 #[.agg #[.bool s,.slice a xs.length c,.int .i64 ex]] w fun e w'=>e=.returned (.bool (vld s xs ex))∧Kp w w':=by
 have Hr:=hid (inRange_any s a xs c ex (w.alloc (.cells #[.bool s,.slice a xs.length c,.int .i64 ex] 113)) (h.kp ((Kp.refl w).alloc _)) hc hm hl he)
 by_cases h0:xs=[]
 ·have H:=hid (show vld s xs ex=(!s&&decide (ex=0)) by unfold vld;rw[if_pos h0])
  have hz:xs.length=0:=by rw[h0];rfl
  clear h0
  rw[hz]
  cases s with
  | true =>
   go_enter Tryz.func114,Tryz.ntmps114
   go_wp2_with fail
   go_ret
   exact⟨ret_bool (by rw[H.out];rfl),(Kp.refl w).alloc _⟩
  | false =>
  by_cases hx:ex=0
  ·have hx2:(ex==0)=true:=beq_iff_eq.2 hx
   have Hx:=hid hx
   clear hx
   go_enter Tryz.func114,Tryz.ntmps114
   go_wp2_with fail
   go_ret
   exact⟨ret_bool (by rw[H.out,Hx.out];rfl),(Kp.refl w).alloc _⟩
  have hx2:(ex==0)=false:=beq_eq_false_iff_ne.2 hx
  go_enter Tryz.func114,Tryz.ntmps114
  go_wp2_with fail
  go_ret
  exact⟨ret_bool (by rw[H.out];simp[hx]),(Kp.refl w).alloc _⟩
 have H:=hid (show vld s xs ex=(decide (xs.length≤256)&&(decide (nth xs 0 % 2=1)&&(decide (nth xs (xs.length-1)≠0)&&inrB (val xs) ex))) by unfold vld;rw[if_neg h0])
 have hpos:0<xs.length:=List.length_pos_iff.2 h0
 clear h0
 have hz:((xs.length:Int)==0)=false:=beq_eq_false_iff_ne.2 (by omega)
 obtain⟨b,o,rfl,hcell⟩:=(h.kp ((Kp.refl w).alloc (.cells #[.bool s,.slice a xs.length c,.int .i64 ex] 113))).some hpos
 have x0:=hcell 0 hpos
 have x1:=hcell (xs.length-1) (by omega)
 rw[Nat.add_zero] at x0
 clear hcell
 by_cases h1:xs.length≤256
 rotate_left
 ·have h1':decide ((xs.length:Int)≤256)=false:=decide_eq_false (by omega)
  go_enter Tryz.func114,Tryz.ntmps114
  go_wp2_with fail
  go_ret
  exact⟨ret_bool (by rw[H.out];simp;omega),(Kp.refl w).alloc _⟩
 by_cases h2:nth xs 0 % 2=1
 rotate_left
 ·have h2':((nth xs 0:Int) % 2==1)=false:=beq_eq_false_iff_ne.2 (by omega)
  have H2:=hid h2
  clear h2
  go_enter Tryz.func114,Tryz.ntmps114
  go_wp2_with fail
  go_ret
  exact⟨ret_bool (by rw[H.out];simp[H2.out]),(Kp.refl w).alloc _⟩
 have h2':((nth xs 0:Int) % 2==1)=true:=beq_iff_eq.2 (by omega)
 by_cases h3:nth xs (xs.length-1)=0
 ·have h3':((nth xs (xs.length-1):Int) != 0)=false:=by rw[h3];rfl
  have H3:=hid h3
  have H2:=hid h2
  clear h3 h2
  go_enter Tryz.func114,Tryz.ntmps114
  go_wp2_with fail
  go_ret
  exact⟨ret_bool (by rw[H.out,H3.out];simp),(Kp.refl w).alloc _⟩
 have h3':((nth xs (xs.length-1):Int) != 0)=true:=by rw[bne_iff_ne];omega
 have H3:=hid h3
 have H2:=hid h2
 clear h3 h2
 go_enter Tryz.func114,Tryz.ntmps114
 go_wp2_with fail
 refine Hr.out.mono ?_
 rintro e w1 ⟨rfl,hk⟩
 go_wp2_with fail
 go_ret
 exact⟨ret_bool (by rw[H.out];simp[H3.out,H2.out,h1]),((Kp.refl w).alloc _).trans hk⟩
section
section
variable {n K p:Nat}
end
end
section
def Dy.opp (d:Dy):Dy:=if d.m=0 then .zero else ⟨!d.neg,d.m,d.e⟩
theorem Dy.opp_iv (d:Dy):d.opp.iv=-d.iv:=by
 unfold Dy.opp
 split
 ·next h=>rw[Dy.iv_zero,Dy.iv_eq_zero.2 h];rfl
 unfold Dy.iv sg;cases d.neg <;> simp
theorem Dy.opp_ok {d:Dy} (h:d.ok):d.opp.ok:=by
 unfold Dy.opp
 split
 ·exact Dy.ok_zero
 next h0 =>
 rcases h with ⟨h1,_⟩ | h1
 ·exact absurd h1 h0
 exact .inr h1
theorem isP.zero (p:Nat):isP p .zero:=⟨Dy.ok_zero,Nat.zero_le _⟩
end
def DyAt (w:World) (d:Dy) (a:Option Addr) (c:Nat):Prop:=d.ok∧Rd w a (limbs d.m)∧(limbs d.m).length≤c∧c≤maxLen
theorem DyAt.kp {w w':World} {d:Dy} {a:Option Addr} {c:Nat} (h:DyAt w d a c) (k:Kp w w'):DyAt w' d a c:=⟨h.1,h.2.1.kp k,h.2.2⟩
theorem ok_e {d:Dy} (h:d.ok):-16384≤d.e∧d.e≤16384:=by
 rcases h with ⟨_,_,h⟩ | ⟨_,_,h,h',_⟩ <;> omega
theorem ok_I64 {d:Dy} (h:d.ok):I64 d.e:=by have:=ok_e h;exact⟨by omega,by omega⟩
theorem Valid_ok (d:Dy) (a:Option Addr) (c:Nat) (w:World) (h:DyAt w d a c) :
  Calls Tryz.prog 114 #[.agg #[.bool d.neg,.slice a (limbs d.m).length c,.int .i64 d.e]] w fun e w'=>e=.returned (.bool true)∧Kp w w':=by
 have:=Valid_any d.neg a (limbs d.m) c d.e w h.2.1 h.2.2.1 h.2.2.2 (by have:=ok_len h.1;omega) (ok_I64 h.1)
 rwa [ok_vld h.1] at this
theorem size_ok (d:Dy) (a:Option Addr) (c:Nat) (w:World) (h:DyAt w d a c) :
  Calls Tryz.prog 201 #[.slice a (limbs d.m).length c] w fun e w'=>e=.returned (.int .i64 (bits d.m))∧w=w':=by
 have hs:=size_any a (limbs d.m) c w h.2.1 h.2.2.1 h.2.2.2 (by have:=ok_len h.1;omega)
 rwa [val_limbs] at hs
def topI (d:Dy):Int:=if d.m=0 then 0 else (bits d.m:Int)+d.e
theorem Bits_ok (d:Dy) (a:Option Addr) (c:Nat) (w:World) (h:DyAt w d a c) :
  Calls Tryz.prog 281 #[.agg #[.bool d.neg,.slice a (limbs d.m).length c,.int .i64 d.e]] w fun e w'=>e=.returned (.int .i64 (bits d.m))∧Kp w w':=by
 go_enter Tryz.func281,Tryz.ntmps281
 go_wp2_with fail
 refine (Valid_ok d a c _ (h.kp ((Kp.refl w).alloc _))).mono ?_
 rintro e w1 ⟨rfl,hk⟩
 obtain⟨c0,c1,c2,_⟩:=(Box3.new w (.bool d.neg) (.slice a (limbs d.m).length c) (.int .i64 d.e) 113).kp hk
 have hk2:=((Kp.refl w).alloc _).trans hk
 go_wp2_with fail
 refine (size_ok d a c _ (h.kp hk2)).mono ?_
 rintro e w2 ⟨rfl,rfl⟩
 go_wp2_with fail
 go_ret
 exact⟨rfl,hk2⟩
theorem keep2 {w w':World} (k:Kp w w') {p0 p1:Addr} {v0 v1:Value} (h:w.cell? p0=some v0∧w.cell? p1=some v1):w'.cell? p0=some v0∧w'.cell? p1=some v1 :=
 let ⟨h0,h1⟩:=h
 ⟨k.cell h0,k.cell h1⟩
theorem keep3 {w w':World} (k:Kp w w') {p0 p1 p2:Addr} {v0 v1 v2:Value} (h:w.cell? p0=some v0∧w.cell? p1=some v1∧w.cell? p2=some v2):w'.cell? p0=some v0∧w'.cell? p1=some v1∧w'.cell? p2=some v2 :=
 let ⟨h0,h1,h2⟩:=h
 ⟨k.cell h0,k.cell h1,k.cell h2⟩
theorem keep6 {w w':World} (k:Kp w w') {p0 p1 p2 p3 p4 p5:Addr} {v0 v1 v2 v3 v4 v5:Value} (h:w.cell? p0=some v0∧w.cell? p1=some v1∧w.cell? p2=some v2∧w.cell? p3=some v3∧w.cell? p4=some v4∧w.cell? p5=some v5):w'.cell? p0=some v0∧w'.cell? p1=some v1∧w'.cell? p2=some v2∧w'.cell? p3=some v3∧w'.cell? p4=some v4∧w'.cell? p5=some v5 :=
 let ⟨h0,h1,h2,h3,h4,h5⟩:=h
 ⟨k.cell h0,k.cell h1,k.cell h2,k.cell h3,k.cell h4,k.cell h5⟩
structure RD where
 neg:Bool
 a:Option Addr
 xs:List Nat
 c:Nat
 e:Int
def RD.rd (w:World) (x:RD):Prop:=Rd w x.a x.xs∧x.xs.length≤x.c∧x.c≤maxLen∧x.xs.length≤1100000∧I64 x.e
theorem RD.rd.kp {w w':World} {x:RD} (h:x.rd w) (k:Kp w w'):x.rd w':=⟨h.1.kp k,h.2⟩
def RD.vl (x:RD):Bool:=vld x.neg x.xs x.e
def RD.dy (x:RD):Dy:=⟨x.neg,val x.xs,x.e⟩
theorem RD.limbs {w:World} {x:RD} (h:x.rd w) (hv:x.vl=true):limbs x.dy.m=x.xs:=(vld_ok h.1.lt32 hv).2.1
theorem Valid_raw (x:RD) (w:World) (h:x.rd w) :
  Calls Tryz.prog 114 #[.agg #[.bool x.neg,.slice x.a x.xs.length x.c,.int .i64 x.e]] w fun e w'=>e=.returned (.bool x.vl)∧Kp w w' :=
 Valid_any x.neg x.a x.xs x.c x.e w h.1 h.2.1 h.2.2.1 h.2.2.2.1 h.2.2.2.2
structure RI where
 lo:RD
 hi:RD
 all:Bool
def RI.rd (w:World) (x:RI):Prop:=x.lo.rd w∧x.hi.rd w
theorem RI.rd.kp {w w':World} {x:RI} (h:x.rd w) (k:Kp w w'):x.rd w':=⟨h.1.kp k,h.2.kp k⟩
theorem keep7 {w w':World} (k:Kp w w') {p0 p1 p2 p3 p4 p5 p6:Addr} {v0 v1 v2 v3 v4 v5 v6:Value} (h:w.cell? p0=some v0∧w.cell? p1=some v1∧w.cell? p2=some v2∧w.cell? p3=some v3∧w.cell? p4=some v4∧w.cell? p5=some v5∧w.cell? p6=some v6):w'.cell? p0=some v0∧w'.cell? p1=some v1∧w'.cell? p2=some v2∧w'.cell? p3=some v3∧w'.cell? p4=some v4∧w'.cell? p5=some v5∧w'.cell? p6=some v6 :=
 let ⟨h0,h1,h2,h3,h4,h5,h6⟩:=h
 ⟨k.cell h0,k.cell h1,k.cell h2,k.cell h3,k.cell h4,k.cell h5,k.cell h6⟩
end Go.Proofs.YteidgoldnllabaaGreatDoor
