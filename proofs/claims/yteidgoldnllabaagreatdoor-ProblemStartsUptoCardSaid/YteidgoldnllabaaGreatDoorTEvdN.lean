/-
  Walks: slices.IndexFunc, ContainsFunc, tree.every at the structs of a problem.
-/
import Derived.Test.YteidgoldnllabaaGreatDoorTRCoN
set_option maxHeartbeats 4000000
namespace Go.Proofs.YteidgoldnllabaaGreatDoor
open Go.RowKit Go.Sort
def AnsV {α:Type} (cells:α→List Value) (P:Program) (g:FuncId) (cap:Array Value) (w:World) (zs:List α) (p:α→Bool):Prop :=
 Enters P g∧∀ x,x∈zs→∀ w1,Kp w w1→Calls P g (#[.agg (cells x).toArray]++cap) w1 fun e w2=>e=.returned (.bool (p x))∧Kp w1 w2
theorem idxVD (a:Option Addr) (zs:List De) (c:Nat) (g:FuncId) (cap:Array Value) (w:World) (B:Nat) (p:De→Bool) (hm:zs.length≤1100000) (hrow:RowV De.cells 5 w B a zs) (hp:AnsV De.cells Tryz.prog g cap w zs p) :
  Calls Tryz.prog 213 #[.slice a zs.length c,.func (.func g) #[] cap] w fun e w'=>((∃ k:Nat,e=.returned (.int .i64 (k:Int))∧k<zs.length∧zs.any p=true)∨(e=.returned (.int .i64 (-1))∧zs.any p=false))∧Kp w w':=by
 have HR:=Lib.hid hrow
 have HP:=Lib.hid hp.2
 have hgo:∀ args w,(callFunc g args).run Tryz.prog w=.ok (.enter g args) w:=hp.1
 clear hrow hp
 go_enter Tryz.func213,Tryz.ntmps213
 go_wp2
 go_loopw [8] (fun x wr=>∃ k:Nat,k≤zs.length∧x=.int .i64 k∧(∀ (i:Nat) (s:De),zs[i]? = some s→i<k→p s=false)∧Kp w wr) (fun x _=>zs.length-(intOf x).toNat)
 case atStart=>exact⟨0,by omega,rfl,fun i s _ h=>absurd h (Nat.not_lt_zero _),.refl _⟩
 case round =>
 obtain⟨k,hk,rfl,hz,hkp⟩:=hrel
 have Hz:=Lib.hid hz
 have Hk:=Lib.hid hkp
 clear hz
 by_cases hlt:k<zs.length
 rotate_left
 ·have Ha:=Lib.hid (show zs.any p=false from List.any_eq_false.2 fun s hs=>by
   obtain⟨i,hi⟩:=List.getElem?_of_mem hs
   rw[Hz.out i s hi (by have:=(List.getElem?_eq_some_iff.1 hi).1;omega)];decide)
  clear hkp
  go_wp2
  go_ret
  exact⟨.inr ⟨rfl,Ha.out⟩,Hk.out⟩
 obtain⟨s,hs⟩:∃ s,zs[k]? = some s:=⟨_,List.getElem?_eq_getElem hlt⟩
 obtain⟨b,o,rfl,_,h0⟩:=HR.out.kp hkp k s hs
 have Hc:Calls Tryz.prog g (#[.agg #[.string s.name,.int .i64 s.ln,.int .i64 s.ld,.int .i64 s.hn,.int .i64 s.hd]]++cap) wr fun e w2=>e=.returned (.bool (p s))∧Kp wr w2:=HP.out s (List.mem_of_getElem? hs) wr hkp
 have Hs:=Lib.hid hs
 have q0:wr.cell? ⟨b,o+k*5,none⟩=some (.string s.name):=h0 0 _ rfl;have q1:=h0 1 _ rfl;have q2:=h0 2 _ rfl;have q3:=h0 3 _ rfl;have q4:=h0 4 _ rfl
 clear hs hkp h0
 cases hq:p s with
 | true =>
  rw[hq] at Hc
  have Hc:=Lib.hid Hc
  have Ha:=Lib.hid (show zs.any p=true from List.any_eq_true.2 ⟨s,List.mem_of_getElem? Hs.out,hq⟩)
  clear hq
  go_wp2_with (refine Hc.out.mono ?_;rintro e w2 ⟨rfl,k2⟩)
  go_ret
  exact⟨.inl ⟨k,rfl,hlt,Ha.out⟩,Hk.out.trans k2⟩
 | false =>
 rw[hq] at Hc
 have Hc:=Lib.hid Hc
 have Hq:=Lib.hid hq
 clear hq
 go_wp2_with (refine Hc.out.mono ?_;rintro e w2 ⟨rfl,k2⟩)
 go_roundw
 case measure=>simp[intOf];omega
 case rel =>
 refine⟨k+1,by omega,by go_num,fun i s' hs' hi=>?_,Hk.out.trans k2⟩
 by_cases h:i=k
 ·subst h;rw[Hs.out] at hs';cases hs';exact Hq.out
 exact Hz.out i s' hs' (by omega)
theorem containsVD (a:Option Addr) (zs:List De) (c:Nat) (g:FuncId) (cap:Array Value) (w:World) (B:Nat) (p:De→Bool) (hm:zs.length≤1100000) (hrow:RowV De.cells 5 w B a zs) (hp:AnsV De.cells Tryz.prog g cap w zs p) :
  Calls Tryz.prog 174 #[.slice a zs.length c,.func (.func g) #[] cap] w fun e w'=>e=.returned (.bool (zs.any p))∧Kp w w':=by
 have Hc:=Lib.hid (idxVD a zs c g cap w B p hm hrow hp)
 clear hp hrow
 obtain⟨b0,hb0⟩:∃ b0,zs.any p=b0:=⟨_,rfl⟩
 rw[hb0] at Hc ⊢
 clear hb0
 go_enter Tryz.func174,Tryz.ntmps174
 go_wp2_with (refine Hc.out.mono ?_;rintro e w2 ⟨(⟨k,rfl,hk,hb⟩ | ⟨rfl,hb⟩),k2⟩)
 ·have hk0:(0:Int)≤(k:Int):=by omega
  subst hb
  go_wp2
  go_ret
  exact⟨rfl,k2⟩
 subst hb
 go_wp2
 go_ret
 exact⟨rfl,k2⟩
theorem every1VD (x:De) (g:FuncId) (cap:Array Value) (sb:Nat) (w:World) (q:Bool) (hb:w.cell? ⟨sb,0,none⟩=some (.func (.func g) #[] cap)) (hE:Enters Tryz.prog g)
  (hc:∀ w1,Kp w w1→Calls Tryz.prog g (#[.agg #[.string x.name,.int .i64 x.ln,.int .i64 x.ld,.int .i64 x.hn,.int .i64 x.hd]]++cap) w1 fun e w2=>e=.returned (.bool q)∧Kp w1 w2) :
  Calls Tryz.prog 175 (#[.agg #[.string x.name,.int .i64 x.ln,.int .i64 x.ld,.int .i64 x.hn,.int .i64 x.hd]]++#[.pointer (some ⟨sb,0,none⟩)]) w fun e w2=>e=.returned (.bool (!q))∧Kp w w2:=by
 have hgo:∀ args w,(callFunc g args).run Tryz.prog w=.ok (.enter g args) w:=hE
 show Calls Tryz.prog 175 #[.agg #[.string x.name,.int .i64 x.ln,.int .i64 x.ld,.int .i64 x.hn,.int .i64 x.hd],.pointer (some ⟨sb,0,none⟩)] w _
 have k1:Kp w (w.alloc (.cells #[.string x.name,.int .i64 x.ln,.int .i64 x.ld,.int .i64 x.hn,.int .i64 x.hd] 68)):=(Kp.refl w).alloc _
 have h0:CellsV (w.alloc (.cells #[.string x.name,.int .i64 x.ln,.int .i64 x.ld,.int .i64 x.hn,.int .i64 x.hd] 68)) w.heap.size 0 x.cells:=CellsV.new w x.cells _ _ rfl
 have hb1:=k1.cell hb
 have Hc:=Lib.hid (hc _ k1)
 go_enter Tryz.func175,Tryz.ntmps175
 go_upto_region 1 with fail
 generalize w.alloc _=W at *
 have K1:=Lib.hid k1
 have q0:=h0 0 _ rfl;have q1:=h0 1 _ rfl;have q2:=h0 2 _ rfl;have q3:=h0 3 _ rfl;have q4:=h0 4 _ rfl
 clear h0 hc hb k1
 go_wp2_with (refine Hc.out.mono ?_;rintro e w2 ⟨rfl,k2⟩)
 go_ret
 exact⟨rfl,K1.out.trans k2⟩
theorem everyVD (a:Option Addr) (zs:List De) (c:Nat) (g:FuncId) (cap:Array Value) (w:World) (B:Nat) (p:De→Bool) (hm:zs.length≤1100000) (hrow:RowV De.cells 5 w B a zs) (hp:AnsV De.cells Tryz.prog g cap w zs p) :
  Calls Tryz.prog 124 #[.slice a zs.length c,.func (.func g) #[] cap] w fun e w'=>e=.returned (.bool (zs.all p))∧Kp w w':=by
 have k1:Kp w (w.alloc (.cells #[.func (.func g) #[] cap] 183)):=(Kp.refl w).alloc _
 have hb:(w.alloc (.cells #[.func (.func g) #[] cap] 183)).cell? ⟨w.heap.size,0,none⟩=some (.func (.func g) #[] cap):=new_cell _ _ _ _ rfl
 have he:(!zs.any fun s=>!p s)=zs.all p:=by simp[List.all_eq_not_any_not]
 obtain⟨b0,hb0⟩:∃ b0,zs.all p=b0:=⟨_,rfl⟩
 rw[hb0] at he ⊢
 go_enter Tryz.func124,Tryz.ntmps124
 go_upto_region 1 with fail
 generalize w.alloc _=W at *
 have HC:=Lib.hid (containsVD a zs c 175 #[.pointer (some ⟨w.heap.size,0,none⟩)] W B (fun s=>!p s) hm (hrow.kp k1)
  ⟨fun _ _=>by kernel_rfl,fun s hs w1 hk=>every1VD s g cap w.heap.size w1 (p s) (hk.cell hb) hp.1 (fun w2 h2=>hp.2 s hs w2 (k1.trans (hk.trans h2)))⟩)
 have hz:(zs.any fun s=>!p s)=!b0:=by rw[← he];simp
 rw[hz] at HC
 have K1:=Lib.hid k1
 clear hz he hb0 hrow hp hb k1
 go_wp2_with (go_at_call 174;go_fit HC.out;rintro r w2 ⟨rfl,k2⟩)
 go_ret
 exact⟨by simp,K1.out.trans k2⟩
theorem idxVQ (a:Option Addr) (zs:List Qe) (c:Nat) (g:FuncId) (cap:Array Value) (w:World) (B:Nat) (p:Qe→Bool) (hm:zs.length≤1100000) (hrow:RowV Qe.cells 7 w B a zs) (hp:AnsV Qe.cells Tryz.prog g cap w zs p) :
  Calls Tryz.prog 84 #[.slice a zs.length c,.func (.func g) #[] cap] w fun e w'=>((∃ k:Nat,e=.returned (.int .i64 (k:Int))∧k<zs.length∧zs.any p=true)∨(e=.returned (.int .i64 (-1))∧zs.any p=false))∧Kp w w':=by
 have HR:=Lib.hid hrow
 have HP:=Lib.hid hp.2
 have hgo:∀ args w,(callFunc g args).run Tryz.prog w=.ok (.enter g args) w:=hp.1
 clear hrow hp
 go_enter Tryz.func84,Tryz.ntmps84
 go_wp2
 go_loopw [8] (fun x wr=>∃ k:Nat,k≤zs.length∧x=.int .i64 k∧(∀ (i:Nat) (s:Qe),zs[i]? = some s→i<k→p s=false)∧Kp w wr) (fun x _=>zs.length-(intOf x).toNat)
 case atStart=>exact⟨0,by omega,rfl,fun i s _ h=>absurd h (Nat.not_lt_zero _),.refl _⟩
 case round =>
 obtain⟨k,hk,rfl,hz,hkp⟩:=hrel
 have Hz:=Lib.hid hz
 have Hk:=Lib.hid hkp
 clear hz
 by_cases hlt:k<zs.length
 rotate_left
 ·have Ha:=Lib.hid (show zs.any p=false from List.any_eq_false.2 fun s hs=>by
   obtain⟨i,hi⟩:=List.getElem?_of_mem hs
   rw[Hz.out i s hi (by have:=(List.getElem?_eq_some_iff.1 hi).1;omega)];decide)
  clear hkp
  go_wp2
  go_ret
  exact⟨.inr ⟨rfl,Ha.out⟩,Hk.out⟩
 obtain⟨s,hs⟩:∃ s,zs[k]? = some s:=⟨_,List.getElem?_eq_getElem hlt⟩
 obtain⟨b,o,rfl,_,h0⟩:=HR.out.kp hkp k s hs
 have Hc:Calls Tryz.prog g (#[.agg #[.string s.name,.int .i64 s.e.kind,.int .i64 s.e.rn,.int .i64 s.e.rd,.string s.e.name,.int .i64 s.e.pw,.slice s.e.a s.e.l.length s.e.c]]++cap) wr fun e w2=>e=.returned (.bool (p s))∧Kp wr w2:=HP.out s (List.mem_of_getElem? hs) wr hkp
 have Hs:=Lib.hid hs
 have q0:wr.cell? ⟨b,o+k*7,none⟩=some (.string s.name):=h0 0 _ rfl;have q1:=h0 1 _ rfl;have q2:=h0 2 _ rfl;have q3:=h0 3 _ rfl;have q4:=h0 4 _ rfl;have q5:=h0 5 _ rfl;have q6:=h0 6 _ rfl
 clear hs hkp h0
 cases hq:p s with
 | true =>
  rw[hq] at Hc
  have Hc:=Lib.hid Hc
  have Ha:=Lib.hid (show zs.any p=true from List.any_eq_true.2 ⟨s,List.mem_of_getElem? Hs.out,hq⟩)
  clear hq
  go_wp2_with (refine Hc.out.mono ?_;rintro e w2 ⟨rfl,k2⟩)
  go_ret
  exact⟨.inl ⟨k,rfl,hlt,Ha.out⟩,Hk.out.trans k2⟩
 | false =>
 rw[hq] at Hc
 have Hc:=Lib.hid Hc
 have Hq:=Lib.hid hq
 clear hq
 go_wp2_with (refine Hc.out.mono ?_;rintro e w2 ⟨rfl,k2⟩)
 go_roundw
 case measure=>simp[intOf];omega
 case rel =>
 refine⟨k+1,by omega,by go_num,fun i s' hs' hi=>?_,Hk.out.trans k2⟩
 by_cases h:i=k
 ·subst h;rw[Hs.out] at hs';cases hs';exact Hq.out
 exact Hz.out i s' hs' (by omega)
theorem containsVQ (a:Option Addr) (zs:List Qe) (c:Nat) (g:FuncId) (cap:Array Value) (w:World) (B:Nat) (p:Qe→Bool) (hm:zs.length≤1100000) (hrow:RowV Qe.cells 7 w B a zs) (hp:AnsV Qe.cells Tryz.prog g cap w zs p) :
  Calls Tryz.prog 214 #[.slice a zs.length c,.func (.func g) #[] cap] w fun e w'=>e=.returned (.bool (zs.any p))∧Kp w w':=by
 have Hc:=Lib.hid (idxVQ a zs c g cap w B p hm hrow hp)
 clear hp hrow
 obtain⟨b0,hb0⟩:∃ b0,zs.any p=b0:=⟨_,rfl⟩
 rw[hb0] at Hc ⊢
 clear hb0
 go_enter Tryz.func214,Tryz.ntmps214
 go_wp2_with (refine Hc.out.mono ?_;rintro e w2 ⟨(⟨k,rfl,hk,hb⟩ | ⟨rfl,hb⟩),k2⟩)
 ·have hk0:(0:Int)≤(k:Int):=by omega
  subst hb
  go_wp2
  go_ret
  exact⟨rfl,k2⟩
 subst hb
 go_wp2
 go_ret
 exact⟨rfl,k2⟩
theorem every1VQ (x:Qe) (g:FuncId) (cap:Array Value) (sb:Nat) (w:World) (q:Bool) (hb:w.cell? ⟨sb,0,none⟩=some (.func (.func g) #[] cap)) (hE:Enters Tryz.prog g)
  (hc:∀ w1,Kp w w1→Calls Tryz.prog g (#[.agg #[.string x.name,.int .i64 x.e.kind,.int .i64 x.e.rn,.int .i64 x.e.rd,.string x.e.name,.int .i64 x.e.pw,.slice x.e.a x.e.l.length x.e.c]]++cap) w1 fun e w2=>e=.returned (.bool q)∧Kp w1 w2) :
  Calls Tryz.prog 215 (#[.agg #[.string x.name,.int .i64 x.e.kind,.int .i64 x.e.rn,.int .i64 x.e.rd,.string x.e.name,.int .i64 x.e.pw,.slice x.e.a x.e.l.length x.e.c]]++#[.pointer (some ⟨sb,0,none⟩)]) w fun e w2=>e=.returned (.bool (!q))∧Kp w w2:=by
 have hgo:∀ args w,(callFunc g args).run Tryz.prog w=.ok (.enter g args) w:=hE
 show Calls Tryz.prog 215 #[.agg #[.string x.name,.int .i64 x.e.kind,.int .i64 x.e.rn,.int .i64 x.e.rd,.string x.e.name,.int .i64 x.e.pw,.slice x.e.a x.e.l.length x.e.c],.pointer (some ⟨sb,0,none⟩)] w _
 have k1:Kp w (w.alloc (.cells #[.string x.name,.int .i64 x.e.kind,.int .i64 x.e.rn,.int .i64 x.e.rd,.string x.e.name,.int .i64 x.e.pw,.slice x.e.a x.e.l.length x.e.c] 73)):=(Kp.refl w).alloc _
 have h0:CellsV (w.alloc (.cells #[.string x.name,.int .i64 x.e.kind,.int .i64 x.e.rn,.int .i64 x.e.rd,.string x.e.name,.int .i64 x.e.pw,.slice x.e.a x.e.l.length x.e.c] 73)) w.heap.size 0 x.cells:=CellsV.new w x.cells _ _ rfl
 have hb1:=k1.cell hb
 have Hc:=Lib.hid (hc _ k1)
 go_enter Tryz.func215,Tryz.ntmps215
 go_upto_region 1 with fail
 generalize w.alloc _=W at *
 have K1:=Lib.hid k1
 have q0:=h0 0 _ rfl;have q1:=h0 1 _ rfl;have q2:=h0 2 _ rfl;have q3:=h0 3 _ rfl;have q4:=h0 4 _ rfl;have q5:=h0 5 _ rfl;have q6:=h0 6 _ rfl
 clear h0 hc hb k1
 go_wp2_with (refine Hc.out.mono ?_;rintro e w2 ⟨rfl,k2⟩)
 go_ret
 exact⟨rfl,K1.out.trans k2⟩
theorem everyVQ (a:Option Addr) (zs:List Qe) (c:Nat) (g:FuncId) (cap:Array Value) (w:World) (B:Nat) (p:Qe→Bool) (hm:zs.length≤1100000) (hrow:RowV Qe.cells 7 w B a zs) (hp:AnsV Qe.cells Tryz.prog g cap w zs p) :
  Calls Tryz.prog 178 #[.slice a zs.length c,.func (.func g) #[] cap] w fun e w'=>e=.returned (.bool (zs.all p))∧Kp w w':=by
 have k1:Kp w (w.alloc (.cells #[.func (.func g) #[] cap] 156)):=(Kp.refl w).alloc _
 have hb:(w.alloc (.cells #[.func (.func g) #[] cap] 156)).cell? ⟨w.heap.size,0,none⟩=some (.func (.func g) #[] cap):=new_cell _ _ _ _ rfl
 have he:(!zs.any fun s=>!p s)=zs.all p:=by simp[List.all_eq_not_any_not]
 obtain⟨b0,hb0⟩:∃ b0,zs.all p=b0:=⟨_,rfl⟩
 rw[hb0] at he ⊢
 go_enter Tryz.func178,Tryz.ntmps178
 go_upto_region 1 with fail
 generalize w.alloc _=W at *
 have HC:=Lib.hid (containsVQ a zs c 215 #[.pointer (some ⟨w.heap.size,0,none⟩)] W B (fun s=>!p s) hm (hrow.kp k1)
  ⟨fun _ _=>by kernel_rfl,fun s hs w1 hk=>every1VQ s g cap w.heap.size w1 (p s) (hk.cell hb) hp.1 (fun w2 h2=>hp.2 s hs w2 (k1.trans (hk.trans h2)))⟩)
 have hz:(zs.any fun s=>!p s)=!b0:=by rw[← he];simp
 rw[hz] at HC
 have K1:=Lib.hid k1
 clear hz he hb0 hrow hp hb k1
 go_wp2_with (go_at_call 214;go_fit HC.out;rintro r w2 ⟨rfl,k2⟩)
 go_ret
 exact⟨by simp,K1.out.trans k2⟩
theorem idxVR (a:Option Addr) (zs:List Qe) (c:Nat) (g:FuncId) (cap:Array Value) (w:World) (B:Nat) (p:Qe→Bool) (hm:zs.length≤1100000) (hrow:RowV Qe.cells 7 w B a zs) (hp:AnsV Qe.cells Tryz.prog g cap w zs p) :
  Calls Tryz.prog 253 #[.slice a zs.length c,.func (.func g) #[] cap] w fun e w'=>((∃ k:Nat,e=.returned (.int .i64 (k:Int))∧k<zs.length∧zs.any p=true)∨(e=.returned (.int .i64 (-1))∧zs.any p=false))∧Kp w w':=by
 have HR:=Lib.hid hrow
 have HP:=Lib.hid hp.2
 have hgo:∀ args w,(callFunc g args).run Tryz.prog w=.ok (.enter g args) w:=hp.1
 clear hrow hp
 go_enter Tryz.func253,Tryz.ntmps253
 go_wp2
 go_loopw [8] (fun x wr=>∃ k:Nat,k≤zs.length∧x=.int .i64 k∧(∀ (i:Nat) (s:Qe),zs[i]? = some s→i<k→p s=false)∧Kp w wr) (fun x _=>zs.length-(intOf x).toNat)
 case atStart=>exact⟨0,by omega,rfl,fun i s _ h=>absurd h (Nat.not_lt_zero _),.refl _⟩
 case round =>
 obtain⟨k,hk,rfl,hz,hkp⟩:=hrel
 have Hz:=Lib.hid hz
 have Hk:=Lib.hid hkp
 clear hz
 by_cases hlt:k<zs.length
 rotate_left
 ·have Ha:=Lib.hid (show zs.any p=false from List.any_eq_false.2 fun s hs=>by
   obtain⟨i,hi⟩:=List.getElem?_of_mem hs
   rw[Hz.out i s hi (by have:=(List.getElem?_eq_some_iff.1 hi).1;omega)];decide)
  clear hkp
  go_wp2
  go_ret
  exact⟨.inr ⟨rfl,Ha.out⟩,Hk.out⟩
 obtain⟨s,hs⟩:∃ s,zs[k]? = some s:=⟨_,List.getElem?_eq_getElem hlt⟩
 obtain⟨b,o,rfl,_,h0⟩:=HR.out.kp hkp k s hs
 have Hc:Calls Tryz.prog g (#[.agg #[.string s.name,.int .i64 s.e.kind,.int .i64 s.e.rn,.int .i64 s.e.rd,.string s.e.name,.int .i64 s.e.pw,.slice s.e.a s.e.l.length s.e.c]]++cap) wr fun e w2=>e=.returned (.bool (p s))∧Kp wr w2:=HP.out s (List.mem_of_getElem? hs) wr hkp
 have Hs:=Lib.hid hs
 have q0:wr.cell? ⟨b,o+k*7,none⟩=some (.string s.name):=h0 0 _ rfl;have q1:=h0 1 _ rfl;have q2:=h0 2 _ rfl;have q3:=h0 3 _ rfl;have q4:=h0 4 _ rfl;have q5:=h0 5 _ rfl;have q6:=h0 6 _ rfl
 clear hs hkp h0
 cases hq:p s with
 | true =>
  rw[hq] at Hc
  have Hc:=Lib.hid Hc
  have Ha:=Lib.hid (show zs.any p=true from List.any_eq_true.2 ⟨s,List.mem_of_getElem? Hs.out,hq⟩)
  clear hq
  go_wp2_with (refine Hc.out.mono ?_;rintro e w2 ⟨rfl,k2⟩)
  go_ret
  exact⟨.inl ⟨k,rfl,hlt,Ha.out⟩,Hk.out.trans k2⟩
 | false =>
 rw[hq] at Hc
 have Hc:=Lib.hid Hc
 have Hq:=Lib.hid hq
 clear hq
 go_wp2_with (refine Hc.out.mono ?_;rintro e w2 ⟨rfl,k2⟩)
 go_roundw
 case measure=>simp[intOf];omega
 case rel =>
 refine⟨k+1,by omega,by go_num,fun i s' hs' hi=>?_,Hk.out.trans k2⟩
 by_cases h:i=k
 ·subst h;rw[Hs.out] at hs';cases hs';exact Hq.out
 exact Hz.out i s' hs' (by omega)
theorem containsVR (a:Option Addr) (zs:List Qe) (c:Nat) (g:FuncId) (cap:Array Value) (w:World) (B:Nat) (p:Qe→Bool) (hm:zs.length≤1100000) (hrow:RowV Qe.cells 7 w B a zs) (hp:AnsV Qe.cells Tryz.prog g cap w zs p) :
  Calls Tryz.prog 218 #[.slice a zs.length c,.func (.func g) #[] cap] w fun e w'=>e=.returned (.bool (zs.any p))∧Kp w w':=by
 have Hc:=Lib.hid (idxVR a zs c g cap w B p hm hrow hp)
 clear hp hrow
 obtain⟨b0,hb0⟩:∃ b0,zs.any p=b0:=⟨_,rfl⟩
 rw[hb0] at Hc ⊢
 clear hb0
 go_enter Tryz.func218,Tryz.ntmps218
 go_wp2_with (refine Hc.out.mono ?_;rintro e w2 ⟨(⟨k,rfl,hk,hb⟩ | ⟨rfl,hb⟩),k2⟩)
 ·have hk0:(0:Int)≤(k:Int):=by omega
  subst hb
  go_wp2
  go_ret
  exact⟨rfl,k2⟩
 subst hb
 go_wp2
 go_ret
 exact⟨rfl,k2⟩
theorem every1VR (x:Qe) (g:FuncId) (cap:Array Value) (sb:Nat) (w:World) (q:Bool) (hb:w.cell? ⟨sb,0,none⟩=some (.func (.func g) #[] cap)) (hE:Enters Tryz.prog g)
  (hc:∀ w1,Kp w w1→Calls Tryz.prog g (#[.agg #[.string x.name,.int .i64 x.e.kind,.int .i64 x.e.rn,.int .i64 x.e.rd,.string x.e.name,.int .i64 x.e.pw,.slice x.e.a x.e.l.length x.e.c]]++cap) w1 fun e w2=>e=.returned (.bool q)∧Kp w1 w2) :
  Calls Tryz.prog 219 (#[.agg #[.string x.name,.int .i64 x.e.kind,.int .i64 x.e.rn,.int .i64 x.e.rd,.string x.e.name,.int .i64 x.e.pw,.slice x.e.a x.e.l.length x.e.c]]++#[.pointer (some ⟨sb,0,none⟩)]) w fun e w2=>e=.returned (.bool (!q))∧Kp w w2:=by
 have hgo:∀ args w,(callFunc g args).run Tryz.prog w=.ok (.enter g args) w:=hE
 show Calls Tryz.prog 219 #[.agg #[.string x.name,.int .i64 x.e.kind,.int .i64 x.e.rn,.int .i64 x.e.rd,.string x.e.name,.int .i64 x.e.pw,.slice x.e.a x.e.l.length x.e.c],.pointer (some ⟨sb,0,none⟩)] w _
 have k1:Kp w (w.alloc (.cells #[.string x.name,.int .i64 x.e.kind,.int .i64 x.e.rn,.int .i64 x.e.rd,.string x.e.name,.int .i64 x.e.pw,.slice x.e.a x.e.l.length x.e.c] 107)):=(Kp.refl w).alloc _
 have h0:CellsV (w.alloc (.cells #[.string x.name,.int .i64 x.e.kind,.int .i64 x.e.rn,.int .i64 x.e.rd,.string x.e.name,.int .i64 x.e.pw,.slice x.e.a x.e.l.length x.e.c] 107)) w.heap.size 0 x.cells:=CellsV.new w x.cells _ _ rfl
 have hb1:=k1.cell hb
 have Hc:=Lib.hid (hc _ k1)
 go_enter Tryz.func219,Tryz.ntmps219
 go_upto_region 1 with fail
 generalize w.alloc _=W at *
 have K1:=Lib.hid k1
 have q0:=h0 0 _ rfl;have q1:=h0 1 _ rfl;have q2:=h0 2 _ rfl;have q3:=h0 3 _ rfl;have q4:=h0 4 _ rfl;have q5:=h0 5 _ rfl;have q6:=h0 6 _ rfl
 clear h0 hc hb k1
 go_wp2_with (refine Hc.out.mono ?_;rintro e w2 ⟨rfl,k2⟩)
 go_ret
 exact⟨rfl,K1.out.trans k2⟩
theorem everyVR (a:Option Addr) (zs:List Qe) (c:Nat) (g:FuncId) (cap:Array Value) (w:World) (B:Nat) (p:Qe→Bool) (hm:zs.length≤1100000) (hrow:RowV Qe.cells 7 w B a zs) (hp:AnsV Qe.cells Tryz.prog g cap w zs p) :
  Calls Tryz.prog 182 #[.slice a zs.length c,.func (.func g) #[] cap] w fun e w'=>e=.returned (.bool (zs.all p))∧Kp w w':=by
 have k1:Kp w (w.alloc (.cells #[.func (.func g) #[] cap] 222)):=(Kp.refl w).alloc _
 have hb:(w.alloc (.cells #[.func (.func g) #[] cap] 222)).cell? ⟨w.heap.size,0,none⟩=some (.func (.func g) #[] cap):=new_cell _ _ _ _ rfl
 have he:(!zs.any fun s=>!p s)=zs.all p:=by simp[List.all_eq_not_any_not]
 obtain⟨b0,hb0⟩:∃ b0,zs.all p=b0:=⟨_,rfl⟩
 rw[hb0] at he ⊢
 go_enter Tryz.func182,Tryz.ntmps182
 go_upto_region 1 with fail
 generalize w.alloc _=W at *
 have HC:=Lib.hid (containsVR a zs c 219 #[.pointer (some ⟨w.heap.size,0,none⟩)] W B (fun s=>!p s) hm (hrow.kp k1)
  ⟨fun _ _=>by kernel_rfl,fun s hs w1 hk=>every1VR s g cap w.heap.size w1 (p s) (hk.cell hb) hp.1 (fun w2 h2=>hp.2 s hs w2 (k1.trans (hk.trans h2)))⟩)
 have hz:(zs.any fun s=>!p s)=!b0:=by rw[← he];simp
 rw[hz] at HC
 have K1:=Lib.hid k1
 clear hz he hb0 hrow hp hb k1
 go_wp2_with (go_at_call 218;go_fit HC.out;rintro r w2 ⟨rfl,k2⟩)
 go_ret
 exact⟨by simp,K1.out.trans k2⟩
theorem idxVX (a:Option Addr) (zs:List Ed) (c:Nat) (g:FuncId) (cap:Array Value) (w:World) (B:Nat) (p:Ed→Bool) (hm:zs.length≤1100000) (hrow:RowV Ed.cells 9 w B a zs) (hp:AnsV Ed.cells Tryz.prog g cap w zs p) :
  Calls Tryz.prog 252 #[.slice a zs.length c,.func (.func g) #[] cap] w fun e w'=>((∃ k:Nat,e=.returned (.int .i64 (k:Int))∧k<zs.length∧zs.any p=true)∨(e=.returned (.int .i64 (-1))∧zs.any p=false))∧Kp w w':=by
 have HR:=Lib.hid hrow
 have HP:=Lib.hid hp.2
 have hgo:∀ args w,(callFunc g args).run Tryz.prog w=.ok (.enter g args) w:=hp.1
 clear hrow hp
 go_enter Tryz.func252,Tryz.ntmps252
 go_wp2
 go_loopw [8] (fun x wr=>∃ k:Nat,k≤zs.length∧x=.int .i64 k∧(∀ (i:Nat) (s:Ed),zs[i]? = some s→i<k→p s=false)∧Kp w wr) (fun x _=>zs.length-(intOf x).toNat)
 case atStart=>exact⟨0,by omega,rfl,fun i s _ h=>absurd h (Nat.not_lt_zero _),.refl _⟩
 case round =>
 obtain⟨k,hk,rfl,hz,hkp⟩:=hrel
 have Hz:=Lib.hid hz
 have Hk:=Lib.hid hkp
 clear hz
 by_cases hlt:k<zs.length
 rotate_left
 ·have Ha:=Lib.hid (show zs.any p=false from List.any_eq_false.2 fun s hs=>by
   obtain⟨i,hi⟩:=List.getElem?_of_mem hs
   rw[Hz.out i s hi (by have:=(List.getElem?_eq_some_iff.1 hi).1;omega)];decide)
  clear hkp
  go_wp2
  go_ret
  exact⟨.inr ⟨rfl,Ha.out⟩,Hk.out⟩
 obtain⟨s,hs⟩:∃ s,zs[k]? = some s:=⟨_,List.getElem?_eq_getElem hlt⟩
 obtain⟨b,o,rfl,_,h0⟩:=HR.out.kp hkp k s hs
 have Hc:Calls Tryz.prog g (#[.agg #[.int .i64 s.g.kind,.int .i64 s.g.rn,.int .i64 s.g.rd,.string s.g.name,.int .i64 s.g.pw,.slice s.g.a s.g.l.length s.g.c,.int .i64 s.dir,.string s.tx,.slice s.a s.rs.length s.c]]++cap) wr fun e w2=>e=.returned (.bool (p s))∧Kp wr w2:=HP.out s (List.mem_of_getElem? hs) wr hkp
 have Hs:=Lib.hid hs
 have q0:wr.cell? ⟨b,o+k*9,none⟩=some (.int .i64 s.g.kind):=h0 0 _ rfl;have q1:=h0 1 _ rfl;have q2:=h0 2 _ rfl;have q3:=h0 3 _ rfl;have q4:=h0 4 _ rfl;have q5:=h0 5 _ rfl;have q6:=h0 6 _ rfl;have q7:=h0 7 _ rfl;have q8:=h0 8 _ rfl
 clear hs hkp h0
 cases hq:p s with
 | true =>
  rw[hq] at Hc
  have Hc:=Lib.hid Hc
  have Ha:=Lib.hid (show zs.any p=true from List.any_eq_true.2 ⟨s,List.mem_of_getElem? Hs.out,hq⟩)
  clear hq
  go_wp2_with (refine Hc.out.mono ?_;rintro e w2 ⟨rfl,k2⟩)
  go_ret
  exact⟨.inl ⟨k,rfl,hlt,Ha.out⟩,Hk.out.trans k2⟩
 | false =>
 rw[hq] at Hc
 have Hc:=Lib.hid Hc
 have Hq:=Lib.hid hq
 clear hq
 go_wp2_with (refine Hc.out.mono ?_;rintro e w2 ⟨rfl,k2⟩)
 go_roundw
 case measure=>simp[intOf];omega
 case rel =>
 refine⟨k+1,by omega,by go_num,fun i s' hs' hi=>?_,Hk.out.trans k2⟩
 by_cases h:i=k
 ·subst h;rw[Hs.out] at hs';cases hs';exact Hq.out
 exact Hz.out i s' hs' (by omega)
theorem containsVX (a:Option Addr) (zs:List Ed) (c:Nat) (g:FuncId) (cap:Array Value) (w:World) (B:Nat) (p:Ed→Bool) (hm:zs.length≤1100000) (hrow:RowV Ed.cells 9 w B a zs) (hp:AnsV Ed.cells Tryz.prog g cap w zs p) :
  Calls Tryz.prog 216 #[.slice a zs.length c,.func (.func g) #[] cap] w fun e w'=>e=.returned (.bool (zs.any p))∧Kp w w':=by
 have Hc:=Lib.hid (idxVX a zs c g cap w B p hm hrow hp)
 clear hp hrow
 obtain⟨b0,hb0⟩:∃ b0,zs.any p=b0:=⟨_,rfl⟩
 rw[hb0] at Hc ⊢
 clear hb0
 go_enter Tryz.func216,Tryz.ntmps216
 go_wp2_with (refine Hc.out.mono ?_;rintro e w2 ⟨(⟨k,rfl,hk,hb⟩ | ⟨rfl,hb⟩),k2⟩)
 ·have hk0:(0:Int)≤(k:Int):=by omega
  subst hb
  go_wp2
  go_ret
  exact⟨rfl,k2⟩
 subst hb
 go_wp2
 go_ret
 exact⟨rfl,k2⟩
theorem every1VX (x:Ed) (g:FuncId) (cap:Array Value) (sb:Nat) (w:World) (q:Bool) (hb:w.cell? ⟨sb,0,none⟩=some (.func (.func g) #[] cap)) (hE:Enters Tryz.prog g)
  (hc:∀ w1,Kp w w1→Calls Tryz.prog g (#[.agg #[.int .i64 x.g.kind,.int .i64 x.g.rn,.int .i64 x.g.rd,.string x.g.name,.int .i64 x.g.pw,.slice x.g.a x.g.l.length x.g.c,.int .i64 x.dir,.string x.tx,.slice x.a x.rs.length x.c]]++cap) w1 fun e w2=>e=.returned (.bool q)∧Kp w1 w2) :
  Calls Tryz.prog 217 (#[.agg #[.int .i64 x.g.kind,.int .i64 x.g.rn,.int .i64 x.g.rd,.string x.g.name,.int .i64 x.g.pw,.slice x.g.a x.g.l.length x.g.c,.int .i64 x.dir,.string x.tx,.slice x.a x.rs.length x.c]]++#[.pointer (some ⟨sb,0,none⟩)]) w fun e w2=>e=.returned (.bool (!q))∧Kp w w2:=by
 have hgo:∀ args w,(callFunc g args).run Tryz.prog w=.ok (.enter g args) w:=hE
 show Calls Tryz.prog 217 #[.agg #[.int .i64 x.g.kind,.int .i64 x.g.rn,.int .i64 x.g.rd,.string x.g.name,.int .i64 x.g.pw,.slice x.g.a x.g.l.length x.g.c,.int .i64 x.dir,.string x.tx,.slice x.a x.rs.length x.c],.pointer (some ⟨sb,0,none⟩)] w _
 have k1:Kp w (w.alloc (.cells #[.int .i64 x.g.kind,.int .i64 x.g.rn,.int .i64 x.g.rd,.string x.g.name,.int .i64 x.g.pw,.slice x.g.a x.g.l.length x.g.c,.int .i64 x.dir,.string x.tx,.slice x.a x.rs.length x.c] 103)):=(Kp.refl w).alloc _
 have h0:CellsV (w.alloc (.cells #[.int .i64 x.g.kind,.int .i64 x.g.rn,.int .i64 x.g.rd,.string x.g.name,.int .i64 x.g.pw,.slice x.g.a x.g.l.length x.g.c,.int .i64 x.dir,.string x.tx,.slice x.a x.rs.length x.c] 103)) w.heap.size 0 x.cells:=CellsV.new w x.cells _ _ rfl
 have hb1:=k1.cell hb
 have Hc:=Lib.hid (hc _ k1)
 go_enter Tryz.func217,Tryz.ntmps217
 go_upto_region 1 with fail
 generalize w.alloc _=W at *
 have K1:=Lib.hid k1
 have q0:=h0 0 _ rfl;have q1:=h0 1 _ rfl;have q2:=h0 2 _ rfl;have q3:=h0 3 _ rfl;have q4:=h0 4 _ rfl;have q5:=h0 5 _ rfl;have q6:=h0 6 _ rfl;have q7:=h0 7 _ rfl;have q8:=h0 8 _ rfl
 clear h0 hc hb k1
 go_wp2_with (refine Hc.out.mono ?_;rintro e w2 ⟨rfl,k2⟩)
 go_ret
 exact⟨rfl,K1.out.trans k2⟩
theorem everyVX (a:Option Addr) (zs:List Ed) (c:Nat) (g:FuncId) (cap:Array Value) (w:World) (B:Nat) (p:Ed→Bool) (hm:zs.length≤1100000) (hrow:RowV Ed.cells 9 w B a zs) (hp:AnsV Ed.cells Tryz.prog g cap w zs p) :
  Calls Tryz.prog 180 #[.slice a zs.length c,.func (.func g) #[] cap] w fun e w'=>e=.returned (.bool (zs.all p))∧Kp w w':=by
 have k1:Kp w (w.alloc (.cells #[.func (.func g) #[] cap] 223)):=(Kp.refl w).alloc _
 have hb:(w.alloc (.cells #[.func (.func g) #[] cap] 223)).cell? ⟨w.heap.size,0,none⟩=some (.func (.func g) #[] cap):=new_cell _ _ _ _ rfl
 have he:(!zs.any fun s=>!p s)=zs.all p:=by simp[List.all_eq_not_any_not]
 obtain⟨b0,hb0⟩:∃ b0,zs.all p=b0:=⟨_,rfl⟩
 rw[hb0] at he ⊢
 go_enter Tryz.func180,Tryz.ntmps180
 go_upto_region 1 with fail
 generalize w.alloc _=W at *
 have HC:=Lib.hid (containsVX a zs c 217 #[.pointer (some ⟨w.heap.size,0,none⟩)] W B (fun s=>!p s) hm (hrow.kp k1)
  ⟨fun _ _=>by kernel_rfl,fun s hs w1 hk=>every1VX s g cap w.heap.size w1 (p s) (hk.cell hb) hp.1 (fun w2 h2=>hp.2 s hs w2 (k1.trans (hk.trans h2)))⟩)
 have hz:(zs.any fun s=>!p s)=!b0:=by rw[← he];simp
 rw[hz] at HC
 have K1:=Lib.hid k1
 clear hz he hb0 hrow hp hb k1
 go_wp2_with (go_at_call 216;go_fit HC.out;rintro r w2 ⟨rfl,k2⟩)
 go_ret
 exact⟨by simp,K1.out.trans k2⟩
theorem idxVM (a:Option Addr) (zs:List Mo) (c:Nat) (g:FuncId) (cap:Array Value) (w:World) (B:Nat) (p:Mo→Bool) (hm:zs.length≤1100000) (hrow:RowV Mo.cells 3 w B a zs) (hp:AnsV Mo.cells Tryz.prog g cap w zs p) :
  Calls Tryz.prog 74 #[.slice a zs.length c,.func (.func g) #[] cap] w fun e w'=>((∃ k:Nat,e=.returned (.int .i64 (k:Int))∧k<zs.length∧zs.any p=true)∨(e=.returned (.int .i64 (-1))∧zs.any p=false))∧Kp w w':=by
 have HR:=Lib.hid hrow
 have HP:=Lib.hid hp.2
 have hgo:∀ args w,(callFunc g args).run Tryz.prog w=.ok (.enter g args) w:=hp.1
 clear hrow hp
 go_enter Tryz.func74,Tryz.ntmps74
 go_wp2
 go_loopw [8] (fun x wr=>∃ k:Nat,k≤zs.length∧x=.int .i64 k∧(∀ (i:Nat) (s:Mo),zs[i]? = some s→i<k→p s=false)∧Kp w wr) (fun x _=>zs.length-(intOf x).toNat)
 case atStart=>exact⟨0,by omega,rfl,fun i s _ h=>absurd h (Nat.not_lt_zero _),.refl _⟩
 case round =>
 obtain⟨k,hk,rfl,hz,hkp⟩:=hrel
 have Hz:=Lib.hid hz
 have Hk:=Lib.hid hkp
 clear hz
 by_cases hlt:k<zs.length
 rotate_left
 ·have Ha:=Lib.hid (show zs.any p=false from List.any_eq_false.2 fun s hs=>by
   obtain⟨i,hi⟩:=List.getElem?_of_mem hs
   rw[Hz.out i s hi (by have:=(List.getElem?_eq_some_iff.1 hi).1;omega)];decide)
  clear hkp
  go_wp2
  go_ret
  exact⟨.inr ⟨rfl,Ha.out⟩,Hk.out⟩
 obtain⟨s,hs⟩:∃ s,zs[k]? = some s:=⟨_,List.getElem?_eq_getElem hlt⟩
 obtain⟨b,o,rfl,_,h0⟩:=HR.out.kp hkp k s hs
 have Hc:Calls Tryz.prog g (#[.agg #[.string s.name,.slice s.fa s.fs.length s.fc,.slice s.ea s.es.length s.ec]]++cap) wr fun e w2=>e=.returned (.bool (p s))∧Kp wr w2:=HP.out s (List.mem_of_getElem? hs) wr hkp
 have Hs:=Lib.hid hs
 have q0:wr.cell? ⟨b,o+k*3,none⟩=some (.string s.name):=h0 0 _ rfl;have q1:=h0 1 _ rfl;have q2:=h0 2 _ rfl
 clear hs hkp h0
 cases hq:p s with
 | true =>
  rw[hq] at Hc
  have Hc:=Lib.hid Hc
  have Ha:=Lib.hid (show zs.any p=true from List.any_eq_true.2 ⟨s,List.mem_of_getElem? Hs.out,hq⟩)
  clear hq
  go_wp2_with (refine Hc.out.mono ?_;rintro e w2 ⟨rfl,k2⟩)
  go_ret
  exact⟨.inl ⟨k,rfl,hlt,Ha.out⟩,Hk.out.trans k2⟩
 | false =>
 rw[hq] at Hc
 have Hc:=Lib.hid Hc
 have Hq:=Lib.hid hq
 clear hq
 go_wp2_with (refine Hc.out.mono ?_;rintro e w2 ⟨rfl,k2⟩)
 go_roundw
 case measure=>simp[intOf];omega
 case rel =>
 refine⟨k+1,by omega,by go_num,fun i s' hs' hi=>?_,Hk.out.trans k2⟩
 by_cases h:i=k
 ·subst h;rw[Hs.out] at hs';cases hs';exact Hq.out
 exact Hz.out i s' hs' (by omega)
theorem containsVM (a:Option Addr) (zs:List Mo) (c:Nat) (g:FuncId) (cap:Array Value) (w:World) (B:Nat) (p:Mo→Bool) (hm:zs.length≤1100000) (hrow:RowV Mo.cells 3 w B a zs) (hp:AnsV Mo.cells Tryz.prog g cap w zs p) :
  Calls Tryz.prog 176 #[.slice a zs.length c,.func (.func g) #[] cap] w fun e w'=>e=.returned (.bool (zs.any p))∧Kp w w':=by
 have Hc:=Lib.hid (idxVM a zs c g cap w B p hm hrow hp)
 clear hp hrow
 obtain⟨b0,hb0⟩:∃ b0,zs.any p=b0:=⟨_,rfl⟩
 rw[hb0] at Hc ⊢
 clear hb0
 go_enter Tryz.func176,Tryz.ntmps176
 go_wp2_with (refine Hc.out.mono ?_;rintro e w2 ⟨(⟨k,rfl,hk,hb⟩ | ⟨rfl,hb⟩),k2⟩)
 ·have hk0:(0:Int)≤(k:Int):=by omega
  subst hb
  go_wp2
  go_ret
  exact⟨rfl,k2⟩
 subst hb
 go_wp2
 go_ret
 exact⟨rfl,k2⟩
theorem every1VM (x:Mo) (g:FuncId) (cap:Array Value) (sb:Nat) (w:World) (q:Bool) (hb:w.cell? ⟨sb,0,none⟩=some (.func (.func g) #[] cap)) (hE:Enters Tryz.prog g)
  (hc:∀ w1,Kp w w1→Calls Tryz.prog g (#[.agg #[.string x.name,.slice x.fa x.fs.length x.fc,.slice x.ea x.es.length x.ec]]++cap) w1 fun e w2=>e=.returned (.bool q)∧Kp w1 w2) :
  Calls Tryz.prog 177 (#[.agg #[.string x.name,.slice x.fa x.fs.length x.fc,.slice x.ea x.es.length x.ec]]++#[.pointer (some ⟨sb,0,none⟩)]) w fun e w2=>e=.returned (.bool (!q))∧Kp w w2:=by
 have hgo:∀ args w,(callFunc g args).run Tryz.prog w=.ok (.enter g args) w:=hE
 show Calls Tryz.prog 177 #[.agg #[.string x.name,.slice x.fa x.fs.length x.fc,.slice x.ea x.es.length x.ec],.pointer (some ⟨sb,0,none⟩)] w _
 have k1:Kp w (w.alloc (.cells #[.string x.name,.slice x.fa x.fs.length x.fc,.slice x.ea x.es.length x.ec] 41)):=(Kp.refl w).alloc _
 have h0:CellsV (w.alloc (.cells #[.string x.name,.slice x.fa x.fs.length x.fc,.slice x.ea x.es.length x.ec] 41)) w.heap.size 0 x.cells:=CellsV.new w x.cells _ _ rfl
 have hb1:=k1.cell hb
 have Hc:=Lib.hid (hc _ k1)
 go_enter Tryz.func177,Tryz.ntmps177
 go_upto_region 1 with fail
 generalize w.alloc _=W at *
 have K1:=Lib.hid k1
 have q0:=h0 0 _ rfl;have q1:=h0 1 _ rfl;have q2:=h0 2 _ rfl
 clear h0 hc hb k1
 go_wp2_with (refine Hc.out.mono ?_;rintro e w2 ⟨rfl,k2⟩)
 go_ret
 exact⟨rfl,K1.out.trans k2⟩
theorem everyVM (a:Option Addr) (zs:List Mo) (c:Nat) (g:FuncId) (cap:Array Value) (w:World) (B:Nat) (p:Mo→Bool) (hm:zs.length≤1100000) (hrow:RowV Mo.cells 3 w B a zs) (hp:AnsV Mo.cells Tryz.prog g cap w zs p) :
  Calls Tryz.prog 126 #[.slice a zs.length c,.func (.func g) #[] cap] w fun e w'=>e=.returned (.bool (zs.all p))∧Kp w w':=by
 have k1:Kp w (w.alloc (.cells #[.func (.func g) #[] cap] 147)):=(Kp.refl w).alloc _
 have hb:(w.alloc (.cells #[.func (.func g) #[] cap] 147)).cell? ⟨w.heap.size,0,none⟩=some (.func (.func g) #[] cap):=new_cell _ _ _ _ rfl
 have he:(!zs.any fun s=>!p s)=zs.all p:=by simp[List.all_eq_not_any_not]
 obtain⟨b0,hb0⟩:∃ b0,zs.all p=b0:=⟨_,rfl⟩
 rw[hb0] at he ⊢
 go_enter Tryz.func126,Tryz.ntmps126
 go_upto_region 1 with fail
 generalize w.alloc _=W at *
 have HC:=Lib.hid (containsVM a zs c 177 #[.pointer (some ⟨w.heap.size,0,none⟩)] W B (fun s=>!p s) hm (hrow.kp k1)
  ⟨fun _ _=>by kernel_rfl,fun s hs w1 hk=>every1VM s g cap w.heap.size w1 (p s) (hk.cell hb) hp.1 (fun w2 h2=>hp.2 s hs w2 (k1.trans (hk.trans h2)))⟩)
 have hz:(zs.any fun s=>!p s)=!b0:=by rw[← he];simp
 rw[hz] at HC
 have K1:=Lib.hid k1
 clear hz he hb0 hrow hp hb k1
 go_wp2_with (go_at_call 176;go_fit HC.out;rintro r w2 ⟨rfl,k2⟩)
 go_ret
 exact⟨by simp,K1.out.trans k2⟩
end Go.Proofs.YteidgoldnllabaaGreatDoor
