/-
  Walks: tree.walk.
-/
import Derived.Test.YteidgoldnllabaaGreatDoorTIdxX
import Derived.Test.YteidgoldnllabaaGreatDoorTNum
import Derived.Sort.OwnSorted
import Derived.Lib.OwnBridge
import Derived.Lib.RowBridge
import Derived.RangeFuncBox
import Derived.Maps.OwnIn
import Derived.Maps.AppendAt
set_option maxHeartbeats 4000000
set_option maxRecDepth 20000
namespace Go.Proofs.YteidgoldnllabaaGreatDoor
open Go.RowKit
open Lib (hid)
section
open Go.RowKit Go.Sort Go.Shelf
attribute [local go_sem] Oper.semAt_some
def WalkOut (T:Turf) (M:Nat→Prop) (J Jx:List Ex→World→Prop) (pre ys:List Ex) (W:World) (r:Ending) (W':World):Prop :=
 (r=.returned (.bool true)∧J (pre++ys) W'∧Grown T M W W')∨(r=.returned (.bool false)∧∃ q,q <+: ys∧Jx (pre++q) W')
def WalkAt (l N _B0:Nat) (T:Turf) (J Jx:List Ex→World→Prop) (e:Ex):Prop :=
 ∀ (pre:List Ex) (W:World) (M:Nat→Prop) (B:Nat),e.at W B→e.inM M→Safe T M W→J pre W→pre.length+e.size≤N →
  Calls Tryz.prog 193 #[.agg #[.int .i64 e.kind,.int .i64 e.rn,.int .i64 e.rd,.string e.name,.int .i64 e.pw,.slice e.a e.l.length e.c],.func (.yield l) #[] #[]] W (WalkOut T M J Jx pre e.flat W)
theorem walk1_any (l N B0:Nat) (T:Turf) (J Jx:List Ex→World→Prop) (hJ:AbidesFrom B0 J) (x:Ex) (hx:WalkAt l N B0 T J Jx x) (pre:List Ex) (W:World) (M:Nat→Prop) (B yb:Nat) (hat:x.at W B) (hin:x.inM M) (hs:Safe T M W) (h0:J pre W) (hN:pre.length+x.size≤N)
  (hy:W.cell? ⟨yb,0,none⟩=some (.func (.yield l) #[] #[])) :
  Calls Tryz.prog 228 #[.agg #[.int .i64 x.kind,.int .i64 x.rn,.int .i64 x.rd,.string x.name,.int .i64 x.pw,.slice x.a x.l.length x.c],.pointer (some ⟨yb,0,none⟩)] W (WalkOut T M J Jx pre x.flat W):=by
 have k1:Kp W (W.alloc (.cells #[.int .i64 x.kind,.int .i64 x.rn,.int .i64 x.rd,.string x.name,.int .i64 x.pw,.slice x.a x.l.length x.c] 71)):=(Kp.refl W).alloc _
 have hS:((W.alloc (.cells #[.int .i64 x.kind,.int .i64 x.rn,.int .i64 x.rd,.string x.name,.int .i64 x.pw,.slice x.a x.l.length x.c] 71)).cell? ⟨W.heap.size,0,none⟩=some (.int .i64 x.kind)∧(W.alloc (.cells #[.int .i64 x.kind,.int .i64 x.rn,.int .i64 x.rd,.string x.name,.int .i64 x.pw,.slice x.a x.l.length x.c] 71)).cell? ⟨W.heap.size,1,none⟩=some (.int .i64 x.rn)∧(W.alloc (.cells #[.int .i64 x.kind,.int .i64 x.rn,.int .i64 x.rd,.string x.name,.int .i64 x.pw,.slice x.a x.l.length x.c] 71)).cell? ⟨W.heap.size,2,none⟩=some (.int .i64 x.rd)∧(W.alloc (.cells #[.int .i64 x.kind,.int .i64 x.rn,.int .i64 x.rd,.string x.name,.int .i64 x.pw,.slice x.a x.l.length x.c] 71)).cell? ⟨W.heap.size,3,none⟩=some (.string x.name)∧(W.alloc (.cells #[.int .i64 x.kind,.int .i64 x.rn,.int .i64 x.rd,.string x.name,.int .i64 x.pw,.slice x.a x.l.length x.c] 71)).cell? ⟨W.heap.size,4,none⟩=some (.int .i64 x.pw)∧(W.alloc (.cells #[.int .i64 x.kind,.int .i64 x.rn,.int .i64 x.rd,.string x.name,.int .i64 x.pw,.slice x.a x.l.length x.c] 71)).cell? ⟨W.heap.size,5,none⟩=some (.slice x.a x.l.length x.c)):=by simp
 go_enter Tryz.func228,Tryz.ntmps228
 go_upto_region 1 with fail
 generalize W.alloc _=V at *
 have HW:=hid (hx pre V M B (Ex.at_kp hat k1) hin (hs.kp k1).1 (abides_kp hJ h0 k1) hN)
 have HG:=hid (hs.kp k1)
 have y1:=k1.cell hy
 clear hx hat hin hs h0 k1 hy hJ
 obtain⟨q0,q1,q2,q3,q4,q5⟩:=hS
 go_wp2_with (go_at_call 193;go_fit HW.out;rintro r w2 (⟨rfl,h1,h2⟩ | ⟨rfl,h1⟩))
 ·go_ret
  exact .inl ⟨rfl,h1,HG.out.trans h2⟩
 go_ret
 exact .inr ⟨rfl,h1⟩
theorem flatL_take {l:List Ex} {k:Nat} {x:Ex} (hx:l[k]? = some x):Ex.flatL (l.take (k+1))=Ex.flatL (l.take k)++x.flat:=by
 rw[List.take_add_one,hx]
 have key:∀ t:List Ex,Ex.flatL (t++[x])=Ex.flatL t++x.flat:=by
  intro t
  induction t with
  | nil=>rw[List.nil_append,Ex.flatL_cons,Ex.flatL_nil,List.append_nil,List.nil_append]
  | cons y t ih=>rw[List.cons_append,Ex.flatL_cons,Ex.flatL_cons,ih,List.append_assoc]
 exact key _
theorem flatL_split {l:List Ex} {k:Nat} {x:Ex} (hx:l[k]? = some x):Ex.flatL l=Ex.flatL (l.take k)++(x.flat++Ex.flatL (l.drop (k+1))):=by
 have key:∀ (t u:List Ex),Ex.flatL (t++u)=Ex.flatL t++Ex.flatL u:=by
  intro t u
  induction t with
  | nil=>rw[List.nil_append,Ex.flatL_nil,List.nil_append]
  | cons y t ih=>rw[List.cons_append,Ex.flatL_cons,Ex.flatL_cons,ih,List.append_assoc]
 obtain⟨hk,hx⟩:=List.getElem?_eq_some_iff.1 hx
 conv=>lhs;rw[← List.take_append_drop k l,List.drop_eq_getElem_cons hk,hx]
 rw[key,Ex.flatL_cons]
theorem every_walk (l N B0:Nat) (T:Turf) (J Jx:List Ex→World→Prop) (e:Ex) (pre:List Ex) (W1 w2:World) (M:Nat→Prop) (B b0:Nat) (hat:e.at W1 B) (hin:e.inM M)
  (hM1:Safe T (fun j=>M j∨(j=b0∨j=b0+1)) W1) (hN:pre.length+e.size≤N) (hY1:W1.cell? ⟨b0+1,0,none⟩=some (.func (.yield l) #[] #[])) (hJ:AbidesFrom B0 J)
  (ih:∀ x∈e.l,WalkAt l N B0 T J Jx x) (hj2:J (pre++[e]) w2) (hk2:KpT T W1 w2) :
  Calls Tryz.prog 227 #[.slice e.a e.l.length e.c,.func (.func 228) #[] #[.pointer (some ⟨b0+1,0,none⟩)]] w2 fun r W' =>
   (r=.returned (.bool true)∧J (pre++e.flat) W'∧Grown T M W1 W')∨(r=.returned (.bool false)∧∃ q,q <+: e.flat∧Jx (pre++q) W'):=by
 obtain⟨⟨_,_,_,hl⟩,hrow,hch⟩:=Ex.at_iff.1 hat
 obtain⟨hin1,hin2⟩:=Ex.inM_iff.1 hin
 have g12:=hk2 _ hM1
 refine every_any e.a e.l e.c 228 #[.pointer (some ⟨b0+1,0,none⟩)] w2 _ (by omega) fun W3 sb k3 hsb hbox=>?_
 have hcb:CellsAt W3 sb:=⟨_,_,_,hbox⟩
 have hM3:Safe T (fun j=>(M j∨(j=b0∨j=b0+1))∨j=sb) W3:=g12.1.add k3 (fun j=>j=sb) fun j hj=>by subst hj;exact⟨hsb,hcb⟩
 have g13:Grown T (fun j=>M j∨(j=b0∨j=b0+1)) W1 W3:=g12.trans (g12.1.kp k3)
 have hJ3:J (pre++[e]) W3:=abides_kp hJ hj2 k3
 refine⟨B,fun k W=>J (pre++[e]++Ex.flatL (e.l.take k)) W∧Grown T (fun j=>(M j∨(j=b0∨j=b0+1))∨j=sb) W3 W,fun k W=>∃ q,q <+: e.flat∧Jx (pre++q) W,
  ⟨by rw[List.take_zero,Ex.flatL_nil,List.append_nil];exact hJ3,.refl hM3⟩,fun k W h=>⟨?_,?_⟩,fun k W W' h k'=>⟨abides_kp hJ h.1 k',h.2.trans (h.2.1.kp k')⟩,⟨fun _ _=>by kernel_rfl,fun k x hx W h=>?_⟩,fun W h=>.inl ⟨rfl,?_,?_⟩,fun k W h=>.inr ⟨rfl,h⟩⟩
 ·refine rowX_same hrow (hin1.imp id fun ⟨b,e1,hb⟩=>⟨b,e1,?_⟩)
  exact (h.2.2 b (.inl (.inl hb))).trans (g13.2 b (.inl hb))
 ·rw[cell_same (h.2.2 sb (.inr rfl)) 0]
  simp[World.cell?,hbox]
 ·have hxm:=List.mem_of_getElem? hx
  have hsp:=flatL_split hx
  have hlen:(Ex.flatL (e.l.take k)).length+x.size≤Ex.sizeL e.l:=by
   have h1:=flatL_len (l:=e.l) fun y _=>y.flat_len
   rw[hsp,List.length_append,List.length_append,x.flat_len] at h1
   omega
  have hsame:∀ j,M j→W.heap[j]? = W1.heap[j]?:=fun j hj=>(h.2.2 j (.inl (.inl hj))).trans (g13.2 j (.inl hj))
  have hy:W.cell? ⟨b0+1,0,none⟩=some (.func (.yield l) #[] #[]):=by
   rw[cell_same ((h.2.2 (b0+1) (.inl (.inr (.inr rfl)))).trans (g13.2 (b0+1) (.inr (.inr rfl)))) 0];exact hY1
  refine (walk1_any l N B0 T J Jx hJ x (ih x hxm) (pre++[e]++Ex.flatL (e.l.take k)) W (fun j=>(M j∨(j=b0∨j=b0+1))∨j=sb) B (b0+1) (Ex.at_inM hsame x (hin2 x hxm) (hch x hxm)) (Ex.inM_mono (fun j hj=>.inl (.inl hj)) x (hin2 x hxm)) h.2.1 h.1 ?_ hy).mono ?_
  ·have:=e.size_eq
   simp only[List.length_append,List.length_cons,List.length_nil]
   omega
  rintro r W' (⟨rfl,h1,h2⟩ | ⟨rfl,q,hq,h1⟩)
  ·refine .inl ⟨rfl,?_,h.2.trans h2⟩
   rw[flatL_take hx,← List.append_assoc];exact h1
  refine .inr ⟨rfl,[e]++Ex.flatL (e.l.take k)++q,?_,by simpa [List.append_assoc] using h1⟩
  obtain⟨t,ht⟩:=hq
  refine⟨t++Ex.flatL (e.l.drop (k+1)),?_⟩
  rw[e.flat_eq,hsp,← ht]
  simp
 ·have h1:=h.1
  rw[List.take_length] at h1
  rw[e.flat_eq]
  simpa [List.append_assoc] using h1
 exact (g13.mono fun j hj=>.inl hj).trans (h.2.mono fun j hj=>.inl (.inl hj))
theorem walk_any (n l N B0:Nat) (T:Turf) (J Jx:List Ex→World→Prop) (hJ:AbidesFrom B0 J)
  (hY:∀ m pre x W,J pre W→pre.length<N→YieldAt Fence.wide m Tryz.prog l #[.agg #[.int .i64 x.kind,.int .i64 x.rn,.int .i64 x.rd,.string x.name,.int .i64 x.pw,.slice x.a x.l.length x.c]] W fun e W'=>(e=.returned (.bool true)∧J (pre++[x]) W'∧KpT T W W')∨(e=.returned (.bool false)∧Jx (pre++[x]) W')) :
  ∀ e:Ex,WalkAt l N B0 T J Jx e:=by
 refine Ex.ind fun e ih pre w M B hat hin hsafe h0 hN=>?_
 have k1:Kp w ((w.alloc (.cells #[.int .i64 e.kind,.int .i64 e.rn,.int .i64 e.rd,.string e.name,.int .i64 e.pw,.slice e.a e.l.length e.c] 71)).alloc (.cells #[.func (.yield l) #[] #[]] 76)):=((Kp.refl w).alloc _).alloc _
 have hB1:BoxX ((w.alloc (.cells #[.int .i64 e.kind,.int .i64 e.rn,.int .i64 e.rd,.string e.name,.int .i64 e.pw,.slice e.a e.l.length e.c] 71)).alloc (.cells #[.func (.yield l) #[] #[]] 76)) w.heap.size e:=(BoxX.new w e _ rfl).kp ((Kp.refl _).alloc _)
 have hY1:((w.alloc (.cells #[.int .i64 e.kind,.int .i64 e.rn,.int .i64 e.rd,.string e.name,.int .i64 e.pw,.slice e.a e.l.length e.c] 71)).alloc (.cells #[.func (.yield l) #[] #[]] 76)).cell? ⟨w.heap.size+1,0,none⟩=some (.func (.yield l) #[] #[]):=new_cell _ _ _ _ (by simp)
 have hdd:∀ k:Nat,(Fence.wide.depth.isSome=true→1≤k):=fun k h=>by cases h
 refine (callsIn_wide (n:=n)).1 ?_
 refine callsIn_of_wp Tryz.func193 rfl trivial ?_ rfl
 simp only[Tryz.ntmps193,List.size_toArray,List.length_cons,List.length_nil,Nat.reduceAdd,Nat.reduceSub,Array.replicate_succ,Array.replicate_zero,List.push_toArray,List.append_toArray,List.nil_append,List.cons_append]
 generalize hW1:(w.alloc (.cells #[.int .i64 e.kind,.int .i64 e.rn,.int .i64 e.rd,.string e.name,.int .i64 e.pw,.slice e.a e.l.length e.c] 71)).alloc (.cells #[.func (.yield l) #[] #[]] 76)=W1 at *
 obtain⟨fn,tmps,assign,body,hy,hR⟩:=hY (n-1) pre e W1 (abides_kp hJ h0 k1) (by have:=e.size_pos;omega)
 have HS1:=hid (hsafe.kp k1)
 have HM1:=hid (hsafe.add k1 (fun j=>j=w.heap.size∨j=w.heap.size+1) (fun j hj=>hj.elim (fun h=>by subst h;exact⟨Nat.le_refl _,cellsAt_of hB1.1.1⟩) (fun h=>by subst h;exact⟨by omega,cellsAt_of hY1⟩)))
 have HA:=hid (Ex.at_kp hat k1)
 have HIN:=hid hin
 have HI:=hid ih
 have HJ:=hid hJ
 have HN:=hid hN
 have HB1:=hid hB1
 have HY1:=hid hY1
 obtain⟨⟨q0,q1,q2,q3,q4,q5⟩,_⟩:=hB1
 clear hsafe hat hin ih hJ h0 hN hY k1
 have HE:=hid fun (w2:World) (hj2:J (pre++[e]) w2) (hk2:KpT T W1 w2)=>every_walk l N B0 T J Jx e pre W1 w2 M B w.heap.size HA.out HIN.out HM1.out HN.out HY1.out HJ.out HI.out hj2 hk2
 subst hW1
 gi_wp2_with (first
  | ((try refine⟨hdd _,?_⟩);refine hR.mono ?_;clear hR;rintro r w2 (⟨rfl,hj2,hk2⟩ | ⟨rfl,hx2⟩) <;> (try have q52:=(cell_same ((hk2 _ HM1.out).2 _ (.inr (.inl rfl))) 5).trans q5))
  | fail)
 ·refine⟨trivial,hdd _,?_⟩
  refine (callsIn_wide.2 (HE.out _ hj2 hk2)).mono ?_
  rintro r w3 (⟨rfl,h1,h2⟩ | ⟨rfl,h1⟩)
  ·gi_wp2
   go_ret
   exact .inl ⟨rfl,h1,HS1.out.trans h2⟩
  gi_wp2
  go_ret
  exact .inr ⟨rfl,h1⟩
 refine⟨trivial,?_⟩
 gi_wp2
 go_ret
 exact .inr ⟨rfl,[e],by rw[Ex.flat_eq];exact⟨_,rfl⟩,hx2⟩
end
section
open Go.RowKit Go.Sort Go.Shelf
attribute [local go_sem] Oper.semAt_some
theorem Ex.er_flat:∀ e:Ex,e.er.flat=e.flat.map Ex.er:=by
 refine Ex.ind fun e ih=>?_
 rw[Ex.flat_eq,e.flat_eq,Ex.er_l,List.map_cons]
 congr 1
 have key:∀ l:List Ex,(∀ x∈l,x.er.flat=x.flat.map Ex.er)→Ex.flatL (l.map Ex.er)=(Ex.flatL l).map Ex.er:=by
  intro l
  induction l with
  | nil=>intro _;rw[List.map_nil,Ex.flatL_nil];rfl
  | cons x t iht=>intro h;rw[List.map_cons,Ex.flatL_cons,Ex.flatL_cons,List.map_append,h x (.head _),iht fun y hy=>h y (.tail _ hy)]
 exact key e.l ih
theorem flat_er {x y:Ex} (h:x.er=y.er):x.flat.map Ex.er=y.flat.map Ex.er:=by rw[← x.er_flat,← y.er_flat,h]
def flatE (e:Ex):List Ex:=if e.ok=true then e.flat.map Ex.er else []
theorem flatE_len {e:Ex} (h:e.ok=true):(flatE e).length=e.size:=by unfold flatE;rw[if_pos h,List.length_map,e.flat_len]
theorem ok_size {e:Ex} (h:e.ok=true):e.size≤200:=by
 unfold Ex.ok at h
 simp only[Bool.and_eq_true,decide_eq_true_eq] at h
 exact h.2.2
theorem flatE_le (e:Ex):(flatE e).length≤200:=by
 by_cases h:e.ok=true
 ·rw[flatE_len h];exact ok_size h
 unfold flatE;rw[if_neg h];exact Nat.zero_le _
theorem roomW {F:Fence} (hd:F.depth=none) (k:Nat):F.room k:=fun d h=>by rw[hd] at h;cases h
theorem yieldAny {m:Nat} (m':Nat) {P:Program} {l:Nat} {args:Array Value} {W:World} {R:Ending→World→Prop} (h:YieldAt Fence.wide m P l args W R):YieldAt Fence.wide m' P l args W R:=by
 obtain⟨fn,tmps,assign,body,hy,hR⟩:=h
 exact⟨fn,tmps,assign,body,hy,hR.1,fun c cs _=>hR.2 c cs (roomW rfl _)⟩
theorem safe_clone {T:Turf} {W w2 w3:World} {e e':Ex} (hG:T.G W) (k2:Kp W w2) (k3:Kp w2 w3) (he:e'.er=e.er) (hm:e'.made w2 w3):∃ M,Safe T M w3∧e'.inM M∧([]:List Ex).length+e'.size≤e.size:=by
 have hs0:Safe T (fun _=>False) w2:=⟨(T.kp _ _ hG k2).1,fun _ h=>h.elim,fun _ h=>h.elim⟩
 refine⟨_,hs0.add k3 (fun k=>w2.heap.size≤k∧CellsAt w3 k) (fun _ h=>h),Ex.inM_mono (fun _ h=>Or.inr h) e' (inM_own e' _ _ hm.2 hm.1),?_⟩
 rw[← e'.er_size,he,e.er_size,List.length_nil]
 omega
theorem walkc_stops (n:Nat) (e:Ex) (eb B:Nat) (w:World) (T:Turf) (hG:T.G w) (hat:e.at w B) (hB:B≤w.heap.size) (hb:BoxX w eb e) :
  SeqStopsK Fence.wide n Tryz.prog 192 #[.pointer (some ⟨eb,0,none⟩)] (fun x:Ex=>#[.agg #[.int .i64 x.kind,.int .i64 x.rn,.int .i64 x.rd,.string x.name,.int .i64 x.pw,.slice x.a x.l.length x.c]]) (KpT T) (fun xs=>xs.map Ex.er=flatE e) (fun pre=>pre.map Ex.er <+: flatE e) (flatE e).length w:=fun l J Jx W hW hJ hJx hY h0=>by
 refine callsIn_wide.2 ?_
 show Calls Tryz.prog 192 #[.func (.yield l) #[] #[],.pointer (some ⟨eb,0,none⟩)] W _
 have kW:Kp w W:=hW
 have hat1:=Ex.at_kp hat kW
 have hB1:=Nat.le_trans hB kW.size
 have hbW:=hb.kp kW
 have HGW:=hid (T.kp w W hG kW).1
 have HV:=hid (tvalid_any e B W hat1 hB1)
 have HC:=hid fun W' (k:Kp W W')=>clone_anyT e B W' (Ex.at_kp hat1 k) (Nat.le_trans hB1 k.size)
 have HF:=hid (show flatE e=_ from rfl)
 have HJ:=hid hJ
 have H0:=hid h0
 have HB:=hid hbW
 obtain⟨⟨q0,q1,q2,q3,q4,q5⟩,_⟩:=hbW
 have HY:=hid hY
 clear hY hJx hJ h0 hat1 hat hb hG kW hW
 rcases Bool.eq_false_or_eq_true e.ok with h1 | h1
 ·rw[h1] at HV
  have H1:=hid h1
  have HWk:=hid (walk_any n l e.size W.heap.size T J Jx HJ.out fun m pre x W1 hj hl=>yieldAny m (HY.out pre x W1 hj (by rw[flatE_len h1];exact hl)))
  clear h1 HY
  go_enter Tryz.func192,Tryz.ntmps192
  go_wp2_with (first
   | (go_at_call 93;go_fit HV.out;rintro r w2 ⟨rfl,k2⟩;obtain⟨⟨t0,t1,t2,t3,t4,t5⟩,_⟩:=HB.out.kp k2)
   | (go_at_call 158;go_loud (go_fit (HC.out _ k2);rintro r w3 ⟨e',rfl,he,k3,hm⟩;obtain⟨M,hs,hin,hsz⟩:=safe_clone HGW.out k2 k3 he hm))
   | (go_at_call 193;go_fit (HWk.out e' [] w3 M _ hm.1 hin hs (abides_kp HJ.out H0.out (k2.trans k3)) (hsz));rintro r w4 (⟨rfl,g1,g2⟩ | ⟨rfl,q,g1,g2⟩))
   | fail)
  ·go_end0
   exact⟨⟨_,rfl⟩,.inl ⟨e'.flat,by unfold flatE;rw[if_pos H1.out];exact flat_er he,by simpa using g1⟩⟩
  ·go_end0
   refine⟨⟨_,rfl⟩,.inr ⟨q,?_,by simpa using g2⟩⟩
   unfold flatE
   rw[if_pos H1.out,← flat_er he]
   exact g1.map Ex.er
 ·rw[h1] at HV
  have H1:=hid h1
  clear h1 HC HY
  go_enter Tryz.func192,Tryz.ntmps192
  go_wp2_with (go_at_call 93;go_fit HV.out;rintro r w2 ⟨rfl,k2⟩)
  go_end0
  exact⟨⟨_,rfl⟩,.inl ⟨[],by unfold flatE;rw[if_neg (by rw[H1.out];decide)];rfl,abides_kp HJ.out H0.out k2⟩⟩
theorem twalk_any (e:Ex) (w:World):Calls Tryz.prog 148 #[.agg #[.int .i64 e.kind,.int .i64 e.rn,.int .i64 e.rd,.string e.name,.int .i64 e.pw,.slice e.a e.l.length e.c]] w fun r w'=>r=.returned (.func (.func 192) #[] #[.pointer (some ⟨w.heap.size,0,none⟩)])∧w'=w.alloc (.cells #[.int .i64 e.kind,.int .i64 e.rn,.int .i64 e.rd,.string e.name,.int .i64 e.pw,.slice e.a e.l.length e.c] 71):=by
 go_enter Tryz.func148,Tryz.ntmps148
 go_wp2_with fail
 go_ret
 exact⟨rfl,rfl⟩
end
section
open Go.RowKit Go.Sort Go.Shelf
attribute [local go_sem] Oper.semAt_some
end
section
open Go.RowKit Go.Sort Go.Shelf
attribute [local go_sem] Oper.semAt_some
theorem boxX_kept {W W':World} {row:Option Nat} {g:Nat} {x:Ex} (h:BoxX W g x) (hg:W.grownBy W' row) (hrow:∀ r,row=some r→∃ o:Obj,W.heap[r]? = some o∧o.isCells=false):BoxX W' g x:=by
 obtain⟨⟨q0,q1,q2,q3,q4,q5⟩,hf,hl⟩:=h
 obtain⟨o,ho,hc⟩:=cells_of_cell q0
 have he:=grownBy_keeps_cells hg hrow ho hc
 exact⟨⟨cell_kept q0 hg hrow,cell_kept q1 hg hrow,cell_kept q2 hg hrow,cell_kept q3 hg hrow,cell_kept q4 hg hrow,cell_kept q5 hg hrow⟩,fun i=>(World.frozen?_of_block (a:=⟨g,i,none⟩) he).trans (hf i),Nat.lt_of_lt_of_le hl hg.size⟩
end
section
open Go.RowKit Go.Sort
theorem strNe {s t:ByteArray} (h:s≠t):(s.toList==t.toList)=false:=beq_eq_false_iff_ne.2 fun e=>h (by
 rw[ByteArray.toList_eq,ByteArray.toList_eq] at e
 exact Go.WideShapes.bytes_inj e)
end
section
open Go.RowKit Go.Sort
end
section
open Go.RowKit Go.Sort
def RowS (w:World) (a:Option Addr) (ss:List ByteArray):Prop:=∀ (i:Nat) (s:ByteArray),ss[i]? = some s→∃ b o,a=some ⟨b,o,none⟩∧w.cell? ⟨b,o+i,none⟩=some (.string s)
theorem RowS.kp {w w':World} {a:Option Addr} {ss:List ByteArray} (h:RowS w a ss) (k:Kp w w'):RowS w' a ss:=fun i s hs=>by
 obtain⟨b,o,e,hc⟩:=h i s hs
 exact⟨b,o,e,k.cell hc⟩
end
section
open Go.RowKit Go.Sort
theorem varE_at {w:World} {B:Nat} {s:ByteArray} (h:s.size≤maxLen):(varE s).at w B :=
 Ex.at_iff.2 ⟨⟨Nat.zero_le _,Nat.zero_le _,h,Nat.zero_le _⟩,fun i x hx=>by simp[varE,Ex.l] at hx,fun x hx=>by simp[varE,Ex.l] at hx⟩
end
section
open Go.RowKit Go.Shelf Go.Sort
def OwnS (w:World) (base:Nat) (v:Value) (ss:List (List UInt8)):Prop:=w.ownsRow base 9 1 v ss.length (ss.map encStr)
theorem sortS_any (base:Nat) (v:Value) (ss:List (List UInt8)) (w:World) (h:OwnS w base v ss) (hl:ss.length≤1100000) :
  Calls Tryz.prog 149 #[v] w fun e w'=>e=.returned (.tuple #[])∧w.grownBy w' v.ownBlock∧OwnS w' base v (ss.mergeSort leB):=by
 by_cases hv:v=.slice none 0 0
 ·subst hv
  have h0:ss=[]:=by
   rcases h.2 with ⟨_,h0⟩ | ⟨g,cap,cur,e,_⟩
   ·exact List.length_eq_zero_iff.1 h0
   ·cases e
  subst h0
  refine (Any.slices_Sort_string_none lays190 none 0 w).mono fun e w' hh=>?_
  obtain⟨e1,e2⟩:=hh
  subst e2
  exact⟨e1,⟨rfl,rfl,rfl,Nat.le_refl _,fun _ _ _=>rfl⟩,by rw[List.mergeSort_nil];exact h⟩
 rcases h.2 with ⟨e,_⟩ | ⟨g,cap,cur,rfl,hb,hg,hn,hc,hs,ht⟩
 ·exact absurd e hv
 rw[Nat.mul_one] at ht
 have hH:Holds encStr w g 0 ss.toArray:=holds_of_block hg ht
 refine (Any.slices_Sort_string lays190 g 0 cap ss w hH (Array.getElem?_eq_some_iff.1 hg).1 (by omega)).mono fun e w' hh=>?_
 obtain⟨e1,n,os,e2⟩:=hh
 subst e2
 refine⟨e1,grownBy_sorted _,?_⟩
 have hlen:(ss.mergeSort leB).length=ss.length:=(sortB_perm ss).length_eq
 unfold OwnS
 rw[hlen]
 exact ownsRow_sorted hlen hb hg hn hc hs
theorem compS_any (base:Nat) (v:Value) (ss:List (List UInt8)) (w:World) (h:OwnS w base v ss) (hl:ss.length≤1100000) :
  Calls Tryz.prog 150 #[v] w fun e w'=>∃ v',e=.returned v'∧w.grownBy w' v.ownBlock∧OwnS w' base v' (Lib.compact ss):=by
 by_cases hv:v=.slice none 0 0
 ·subst hv
  have h0:ss=[]:=by
   rcases h.2 with ⟨_,h0⟩ | ⟨g,cap,cur,e,_⟩
   ·exact List.length_eq_zero_iff.1 h0
   ·cases e
  subst h0
  refine (Any.slices_Compact_string_empty lays194 none 0 w).mono fun e w' hh=>?_
  obtain⟨e1,e2⟩:=hh
  subst e2
  exact⟨_,e1,⟨rfl,rfl,rfl,Nat.le_refl _,fun _ _ _=>rfl⟩,h⟩
 obtain⟨g,cap,rfl,hb,hlt,hn,hc,_,hH⟩:=Lib.holds_of_ownsRow h hv
 refine (Any.slices_Compact_string lays194 g 0 cap ss w hH (by omega) hn).mono fun e w' hh=>?_
 obtain⟨e1,q,e2⟩:=hh
 subst e2
 have hle:=Lib.compact_length_le ss
 refine⟨_,e1,?_,?_⟩
 ·have:=grownBy_sorted (w:=w) (g:=g) (n:=q) (os:=#[]) (Lib.compact ss++List.replicate (ss.length-(Lib.compact ss).length) []).toArray
  show w.grownBy _ (some g)
  simpa using this
 have:=Lib.ownsRow_putRow (q:=q) (k:=(Lib.compact ss).length) (ys:=Lib.compact ss++List.replicate (ss.length-(Lib.compact ss).length) []) h (by simp;omega) hle
 rw[List.take_left] at this
 exact this
end
section
open Go.RowKit Go.Sort Go.Shelf
attribute [local go_sem] Oper.semAt_some
def nmL (xs:List Ex):List (List UInt8):=(xs.filter fun x=>decide (x.kind=2)).map fun x=>x.name.data.toList
theorem nmL_snoc (pre:List Ex) (x:Ex):nmL (pre++[x])=nmL pre++(if x.kind=2 then [x.name.data.toList] else []):=by
 unfold nmL
 rw[List.filter_append,List.map_append]
 by_cases h:x.kind=2 <;> simp[h]
theorem nmL_er (xs:List Ex):nmL (xs.map Ex.er)=nmL xs:=by
 unfold nmL
 induction xs with
 | nil=>rfl
 | cons x t ih =>
  rw[List.map_cons,List.filter_cons,List.filter_cons,Ex.er_kind]
  split
  ·rw[List.map_cons,List.map_cons,Ex.er_name,ih]
  ·exact ih
theorem nmL_le (xs:List Ex):(nmL xs).length≤xs.length:=by unfold nmL;rw[List.length_map];exact List.length_filter_le _ _
def namO (e:Ex):List ByteArray:=namesL (((flatE e).filter fun x:Ex=>decide (x.kind=2)).map Ex.name)
theorem namO_sort (e:Ex):Lib.compact ((nmL (flatE e)).mergeSort leB)=(namO e).map (·.data.toList):=by
 obtain⟨rs,h1,h2⟩:=sort_names (((flatE e).filter fun x:Ex=>decide (x.kind=2)).map Ex.name)
 rw[List.map_map] at h1
 rw[h2] at h1
 exact h1
theorem infoStr:(Tryz.prog.info? 9).map (fun i=>(i.zero,i.size,i.bytes))=some (some (.string ⟨#[]⟩),1,16):=by kernel_rfl
def tSlice (B:Nat):Turf where
 X:=fun W k=>k=B∨∃ g n c,W.cell? ⟨B,0,none⟩=some (.slice (some g) n c)∧k=g.block
 G:=fun W=>CellsAt W B∧∀ g n c,W.cell? ⟨B,0,none⟩=some (.slice (some g) n c)→g.block<W.heap.size
 lt:=fun W k h hx=>by
  rcases hx with rfl | ⟨g,n,c,h1,rfl⟩
  ·exact h.1.lt
  ·exact h.2 g n c h1
 kp':=fun W W' h k=>by
  have e:=cell_same (k.2 B h.1) 0
  refine⟨⟨h.1.same (k.2 B h.1),fun g n c hc=>?_⟩,fun j hj=>?_⟩
  ·rw[e] at hc
   exact Nat.lt_of_lt_of_le (h.2 g n c hc) k.1
  ·rcases hj with rfl | ⟨g,n,c,h1,rfl⟩
   ·exact .inl rfl
   ·rw[e] at h1
    exact .inr ⟨g,n,c,h1,rfl⟩
theorem boxed_cellsAt {W:World} {B:Nat} {t:TypeId} {v:Value} (h:Boxed W B t v):CellsAt W B:=⟨_,_,_,h⟩
theorem tSlice_append {W w1:World} {B n0 k m:Nat} {t e:TypeId} {size:Nat} {v v':Value} {xs ys:List Value} {tmp:Obj} (hv:Boxed W B t v) (hrow:W.ownsRow n0 e size v k xs) (hown:w1.ownsRow n0 e size v' m ys)
  (hv2:Boxed (w1.setCell ⟨B,0,none⟩ v') B t v') (hg:(W.alloc tmp).grownBy w1 v.ownBlock) (hat:v'.ownBlock=v.ownBlock∨v'.ownBlock=some (W.alloc tmp).heap.size):KpT (tSlice B) W (w1.setCell ⟨B,0,none⟩ v'):=by
 have hsz:=hg.size
 simp only[World.size_alloc] at hsz hat
 have hblk:∀ g n c,v=.slice (some g) n c→v.ownBlock=some g.block:=fun g n c e=>by rw[e];rfl
 refine kpT_of (by simp;omega) (fun j hj hx=>?_) (fun h=>⟨boxed_cellsAt hv2,fun g n c hc=>?_⟩) (fun h j hj=>?_)
 ·have hjB:j≠B:=fun e=>hx (.inl e)
  rw[Below.heap_setCell _ _ _ _ hjB]
  have hne:some j≠v.ownBlock:=fun e=>hx (.inr (by
   rcases hrow.2 with ⟨rfl,_⟩ | ⟨g,cap,cur,rfl,_⟩
   ·cases e
   ·refine⟨_,_,_,hv.cell,?_⟩
    simp only[Value.ownBlock,Option.some.injEq] at e
    exact e))
  rw[hg.block j (by simp only[World.size_alloc];have:=hj.lt;omega) hne]
  exact Below.heap_alloc _ _ _ hj.lt
 ·rw[hv2.cell] at hc
  injection hc with hc
  subst hc
  rcases hown.2 with ⟨h0,_⟩ | ⟨g',cap,cur,e,_,hgb,_⟩
  ·cases h0
  injection e with e1
  injection e1 with e1
  subst e1
  simp only[World.size_setCell]
  exact (Array.getElem?_eq_some_iff.1 hgb).1
 rcases hj with rfl | ⟨g,n,c,hc,rfl⟩
 ·exact .inl (.inl rfl)
 rw[hv2.cell] at hc
 injection hc with hc
 rcases hat with h1 | h1
 ·rw[hc] at h1
  rcases hrow.2 with ⟨rfl,_⟩ | ⟨g',cap,cur,rfl,_⟩
  ·cases h1
  simp only[Value.ownBlock,Option.some.injEq] at h1
  exact .inl (.inr ⟨_,_,_,hv.cell,h1⟩)
 rw[hc] at h1
 simp only[Value.ownBlock,Option.some.injEq] at h1
 exact .inr (by omega)
end
section
open Go.RowKit Go.Sort Go.Shelf
attribute [local go_sem] Oper.semAt_some
theorem tnames_any (e:Ex) (B:Nat) (w:World) (hat:e.at w B) (hB:B≤w.heap.size):Calls Tryz.prog 95 #[.agg #[.int .i64 e.kind,.int .i64 e.rn,.int .i64 e.rd,.string e.name,.int .i64 e.pw,.slice e.a e.l.length e.c]] w fun r w'=>∃ v,r=.returned v∧OwnS w' w.heap.size v ((namO e).map (·.data.toList))∧Kp w w':=by
 have k1:Kp w ((w.alloc (.cells #[.int .i64 e.kind,.int .i64 e.rn,.int .i64 e.rd,.string e.name,.int .i64 e.pw,.slice e.a e.l.length e.c] 71)).alloc (.cells #[.slice none 0 0] 46)):=((Kp.refl w).alloc _).alloc _
 have hB1:BoxX ((w.alloc (.cells #[.int .i64 e.kind,.int .i64 e.rn,.int .i64 e.rd,.string e.name,.int .i64 e.pw,.slice e.a e.l.length e.c] 71)).alloc (.cells #[.slice none 0 0] 46)) w.heap.size e:=(BoxX.new w e _ rfl).kp ((Kp.refl _).alloc _)
 have hn:Boxed ((w.alloc (.cells #[.int .i64 e.kind,.int .i64 e.rn,.int .i64 e.rd,.string e.name,.int .i64 e.pw,.slice e.a e.l.length e.c] 71)).alloc (.cells #[.slice none 0 0] 46)) (w.heap.size+1) 46 (.slice none 0 0):=by
  have:=Boxed.new (w.alloc (.cells #[.int .i64 e.kind,.int .i64 e.rn,.int .i64 e.rd,.string e.name,.int .i64 e.pw,.slice e.a e.l.length e.c] 71)) 46 (.slice none 0 0)
  rwa [World.size_alloc] at this
 have k3:=(Kp.refl ((w.alloc (.cells #[.int .i64 e.kind,.int .i64 e.rn,.int .i64 e.rd,.string e.name,.int .i64 e.pw,.slice e.a e.l.length e.c] 71)).alloc (.cells #[.slice none 0 0] 46))).alloc (.cells #[.int .i64 e.kind,.int .i64 e.rn,.int .i64 e.rd,.string e.name,.int .i64 e.pw,.slice e.a e.l.length e.c] 71)
 obtain⟨i0,hi,hz0,hz1,hz2⟩:=info_parts infoStr
 refine (callsIn_wide (n:=3)).1 ?_
 refine callsIn_of_wp_marks Tryz.func95 rfl trivial ?_ rfl
 simp only[Tryz.ntmps95,List.size_toArray,List.length_cons,List.length_nil,Nat.reduceAdd,Nat.reduceSub,Array.replicate_succ,Array.replicate_zero,List.push_toArray,List.append_toArray,List.nil_append,List.cons_append]
 have HB:=hid hB1
 obtain⟨⟨q0,q1,q2,q3,q4,q5⟩,_⟩:=hB1
 gi_wp2_with (refine⟨trivial,?_⟩;gi_at_call 148;refine (callsIn_wide.2 (twalk_any e _)).mono ?_;rintro r w' ⟨rfl,rfl⟩)
 have k2:=k1.trans k3
 have hb2:BoxX (((w.alloc (.cells #[.int .i64 e.kind,.int .i64 e.rn,.int .i64 e.rd,.string e.name,.int .i64 e.pw,.slice e.a e.l.length e.c] 71)).alloc (.cells #[.slice none 0 0] 46)).alloc (.cells #[.int .i64 e.kind,.int .i64 e.rn,.int .i64 e.rd,.string e.name,.int .i64 e.pw,.slice e.a e.l.length e.c] 71)) (w.heap.size+1+1) e:=BoxX.new _ e _ (by simp)
 have hn2:=hn.alloc (.cells #[.int .i64 e.kind,.int .i64 e.rn,.int .i64 e.rd,.string e.name,.int .i64 e.pw,.slice e.a e.l.length e.c] 71)
 have hz:(((w.alloc (.cells #[.int .i64 e.kind,.int .i64 e.rn,.int .i64 e.rd,.string e.name,.int .i64 e.pw,.slice e.a e.l.length e.c] 71)).alloc (.cells #[.slice none 0 0] 46)).alloc (.cells #[.int .i64 e.kind,.int .i64 e.rn,.int .i64 e.rd,.string e.name,.int .i64 e.pw,.slice e.a e.l.length e.c] 71)).heap.size=w.heap.size+3:=by simp
 clear q0 q1 q2 q3 q4 q5 hn k1 HB k3
 generalize (((w.alloc (.cells #[.int .i64 e.kind,.int .i64 e.rn,.int .i64 e.rd,.string e.name,.int .i64 e.pw,.slice e.a e.l.length e.c] 71)).alloc (.cells #[.slice none 0 0] 46)).alloc (.cells #[.int .i64 e.kind,.int .i64 e.rn,.int .i64 e.rd,.string e.name,.int .i64 e.pw,.slice e.a e.l.length e.c] 71))=W0 at *
 refine wpIn_rangeFunc_ownH rfl (by omega) (gf:=192) (lb:=#[.pointer (some ⟨w.heap.size+1+1,0,none⟩)]) rfl trivial (enters_of Tryz.func192 (by kernel_rfl) rfl)
  (walkc_stops (3-1) e (w.heap.size+1+1) B W0 (tSlice (w.heap.size+1)) ⟨boxed_cellsAt hn2,fun g n c hc=>by rw[hn2.cell] at hc;cases hc⟩ (Ex.at_kp hat k2) (Nat.le_trans hB k2.size) hb2)
  KpT.trans (fun W l o o' _ hl ho _=>kpT_put W l o o' hl ho) (Below.refl _ _) (fun _=>rfl)
  (fun pre W=>(∃ v,Boxed W (w.heap.size+1) 46 v∧W.ownsRow w.heap.size 9 1 v (nmL pre).length ((nmL pre).map encStr)∧True)∧Below w.heap.size w W)
  (fun _ _ _=>False)
  (OwnFrom.and (Own.from (holdsRow_own w.heap.size (w.heap.size+1) 46 9 1 (fun pre=>(nmL pre).length) (fun pre=>(nmL pre).map encStr) (fun _ _=>True)) _) (ownFrom_below (Nat.le_refl _) (by omega)))
  (fun _ _ _ _ _ hs _ _=>hs)
  ⟨⟨_,hn2,World.ownsRow_nil _ _ _ _,trivial⟩,k2⟩
  (fun x a' W=>∃ Bx,w.heap.size+1<Bx∧BoxX W Bx x∧a'={ tmps:=#[.agg #[.int .i64 e.kind,.int .i64 e.rn,.int .i64 e.rd,.string e.name,.int .i64 e.pw,.slice e.a e.l.length e.c],.pointer (some ⟨w.heap.size,0,none⟩),.slice none 0 0,.pointer (some ⟨w.heap.size+1,0,none⟩),.pointer (some ⟨Bx,0,none⟩),.agg #[.int .i64 e.kind,.int .i64 e.rn,.int .i64 e.rd,.string e.name,.int .i64 e.pw,.slice e.a e.l.length e.c],.func (.func 192) #[] #[.pointer (some ⟨w.heap.size+1+1,0,none⟩)],.agg #[.int .i64 x.kind,.int .i64 x.rn,.int .i64 x.rd,.string x.name,.int .i64 x.pw,.slice x.a x.l.length x.c],undef,undef,undef,undef,undef,undef,undef,undef,undef,undef,undef,undef],defers:=[] })
  (fun x a' _ X Y row hs hg hr=>by obtain⟨Bx,h1,h2,h3⟩:=hs;exact⟨Bx,h1,boxX_kept h2 hg (fun r e=>(hr r e).2),h3⟩)
  ?assign ?body ?done ?stop
 case assign =>
  rintro l pre x W K ⟨⟨v,h1,h2,_⟩,hB1⟩ hK
  simp only[List.zip_toArray,List.zip_cons_cons,List.zip_nil_right,List.foldl_toArray',List.foldl_cons,List.foldl_nil]
  gi_wp2
  exact hK _ _ ((KeepsOthers.alloc _ _).from _) (Kp.kpT ((Kp.refl W).alloc _)) ⟨⟨v,h1.alloc _,h2.alloc _,trivial⟩,hB1.alloc hB1.size _⟩ ⟨W.heap.size,h1.lt,BoxX.new W x _ rfl,rfl⟩
 case body =>
  rintro l pre x a' W hl ⟨r,hr⟩ ⟨⟨v,h1,h2,_⟩,hB1⟩ ⟨Bx,hBx,⟨⟨x0,x1,x2,x3,x4,x5⟩,_⟩,rfl⟩ hlt
  have hsn:=nmL_snoc pre x
  have hc:=h1.cell
  have hle:=flatE_le e
  have hle2:=nmL_le pre
  by_cases hk:x.kind=2
  ·rw[if_pos hk] at hsn
   have hk2:(x.kind==2)=true:=by rw[hk];rfl
   clear hk
   gi_wp2_with (gi_at_builtin;refine wpListIn_append_own_at _ rfl _ _ 46 rfl w.heap.size 9 i0 (.string ⟨#[]⟩) 1 16 Tryz.underlying46 hi hz0 hz1 hz2 rfl (by decide) _ _ _ rfl (h2.alloc _) ⟨W.heap.size,0,none⟩ 1 1 [.string x.name] rfl rfl (cell_one_new _ _ _) (by simp[Value.oneCell']) (by unfold maxLen;omega) (by omega) (by have:=hB1.size;simp;omega) ?_;intro v' w1 hown' hgrow _ hat';obtain⟨g',cap',rfl⟩:=ownsRow_succ hown';obtain⟨hv1,hv2,hr2,hk2,hb2⟩:=h1.appended (by decide) h2 hB1.size (by omega) hown' hgrow;have hc1:=hv1.cell;have hf1:=hv1.frozen)
   refine⟨hk2.from _,tSlice_append h1 h2 hown' hv2 hgrow hat',⟨_,hv2,?_,trivial⟩,hB1.trans hb2⟩
   rw[hsn]
   simpa using hr2
  rw[if_neg hk,List.append_nil] at hsn
  have hk2:(x.kind==2)=false:=beq_eq_false_iff_ne.2 hk
  clear hk
  gi_wp2
  exact⟨KeepsFrom.refl _ _,(Kp.refl W).kpT,⟨v,h1,by rw[hsn];exact h2,trivial⟩,hB1⟩
 case stop =>
  rintro D c pre W _ _ h _
  exact h.elim
 case done =>
 rintro D xs W hD hxs ⟨⟨v,h1,h2,_⟩,hB1⟩ hK
 have hnm:nmL xs=nmL (flatE e):=by rw[← hxs,nmL_er]
 rw[hnm] at h2
 have hle:=nmL_le (flatE e)
 have hle2:=flatE_le e
 have hc:=h1.cell
 have HS:=hid (sortS_any w.heap.size v (nmL (flatE e)) W h2 (by omega))
 gi_wp2_with (refine⟨trivial,?_⟩;gi_at_call 149;refine (callsIn_wide.2 HS.out).mono ?_;rintro r w2 ⟨rfl,hg2,ho2⟩;have hv2:=h1.kept hg2 (h1.not_row (by decide) h2);have hc2:=hv2.cell)
 have ho3:=ho2
 have HC:=hid (compS_any w.heap.size v ((nmL (flatE e)).mergeSort leB) w2 ho3 (by rw[(sortB_perm _).length_eq];omega))
 have hlt2:w.heap.size≤w2.heap.size:=Nat.le_trans hB1.size hg2.size
 have hb2':=hB1.grown hg2 hB1.size (fun k hk=>(h2.lt k hk).1)
 have hKD:w2.heap[D]? = some (.deferred (some [])):=(hg2.block D (Array.getElem?_eq_some_iff.1 hK).1 (fun e1=>by
  rcases h2.2 with ⟨rfl,_⟩ | ⟨g,cap,cur,rfl,_,hgb,_⟩
  ·cases e1
  ·simp only[Value.ownBlock,Option.some.injEq] at e1
   subst e1
   rw[hK] at hgb
   cases hgb)).trans hK
 refine⟨trivial,?_⟩
 refine (callsIn_wide.2 HC.out).mono ?_
 rintro r w3 ⟨v3,rfl,hg3,ho4⟩
 rw[namO_sort] at ho4
 have hKD3:w3.heap[D]? = some (.deferred (some [])):=(hg3.block D (Array.getElem?_eq_some_iff.1 hKD).1 (fun e1=>by
  rcases ho3.2 with ⟨rfl,_⟩ | ⟨g,cap,cur,rfl,_,hgb,_⟩
  ·cases e1
  ·simp only[Value.ownBlock,Option.some.injEq] at e1
   subst e1
   rw[hKD] at hgb
   cases hgb)).trans hKD
 have hb3:=hb2'.grown hg3 hlt2 (fun k hk=>(ho3.lt k hk).1)
 gi_wp2
 refine⟨by simp,.inl ⟨_,_,rfl,run_takeDeferred hKD3,?_⟩⟩
 exact⟨_,results_tmp rfl _ _ _,v3,rfl,ownsRow_putObj ho4 _ hKD3 rfl,hb3.trans (belowK_b (w:=w) (Nat.le_refl _) w3 D _ _ (by omega) hKD3 rfl rfl)⟩
end
end Go.Proofs.YteidgoldnllabaaGreatDoor
