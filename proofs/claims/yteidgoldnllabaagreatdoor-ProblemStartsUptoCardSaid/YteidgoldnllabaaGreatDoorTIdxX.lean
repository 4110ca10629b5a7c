/-
  Walks: slices.IndexFunc, ContainsFunc at trees, with a function that changes what it holds.
-/
import Derived.Test.YteidgoldnllabaaGreatDoorTLexN
import Derived.Test.YteidgoldnllabaaGreatDoorTNodN
import Derived.Sort.Row
import Derived.Deep.AppendLies
import Derived.Maps.OwnSet
import Derived.Carry
import Derived.Shelf.Abstract
import Derived.RangeFuncNested
import Derived.RangeFuncBound
import Derived.RangeFuncCalls
import Derived.RangeFuncLeaves
import Derived.Shelf.RegionOpen
import Derived.OwnWalkIn
import Derived.TacticsInMore
import Derived.LoopNIn
import Derived.LoopIn
set_option maxHeartbeats 4000000
set_option maxRecDepth 20000
namespace Go.Proofs.YteidgoldnllabaaGreatDoor
open Go.RowKit
open Lib (hid)
def StepX (P:Program) (g:FuncId) (cap:Array Value) (l:List Ex) (J R:Nat→World→Prop):Prop :=
 Enters P g∧∀ (k:Nat) (x:Ex),l[k]? = some x→∀ W,J k W→Calls P g (#[.agg #[.int .i64 x.kind,.int .i64 x.rn,.int .i64 x.rd,.string x.name,.int .i64 x.pw,.slice x.a x.l.length x.c]]++cap) W fun e W'=>(e=.returned (.bool true)∧R k W')∨(e=.returned (.bool false)∧J (k+1) W')
theorem idxX (a:Option Addr) (l:List Ex) (c B:Nat) (g:FuncId) (cap:Array Value) (w:World) (J R:Nat→World→Prop) (hm:l.length≤1100000) (hrow:∀ k W,J k W→RowX W B a l) (hJ:J 0 w) (hp:StepX Tryz.prog g cap l J R) :
  Calls Tryz.prog 145 #[.slice a l.length c,.func (.func g) #[] cap] w fun e w'=>(∃ k,k<l.length∧e=.returned (.int .i64 (k:Int))∧R k w')∨(e=.returned (.int .i64 (-1))∧J l.length w'):=by
 have HR:=hid hrow
 have HP:=hid hp.2
 have hgo:∀ args w,(callFunc g args).run Tryz.prog w=.ok (.enter g args) w:=hp.1
 clear hrow hp
 go_enter Tryz.func145,Tryz.ntmps145
 go_wp2
 go_loopw [8] (fun x wr=>∃ k:Nat,k≤l.length∧x=.int .i64 k∧J k wr) (fun x _=>l.length-(intOf x).toNat)
 case atStart=>exact⟨0,by omega,rfl,hJ⟩
 case round =>
 obtain⟨k,hk,rfl,hj⟩:=hrel
 have Hj:=hid hj
 clear hj hJ
 by_cases hlt:k<l.length
 rotate_left
 ·obtain rfl:k=l.length:=by omega
  go_wp2
  go_ret
  exact .inr ⟨rfl,Hj.out⟩
 obtain⟨x,hx⟩:∃ x,l[k]? = some x:=⟨_,List.getElem?_eq_getElem hlt⟩
 obtain⟨b,o,rfl,hb,h0,h1,h2,h3,h4,h5⟩:=(HR.out k wr Hj.out) k x hx
 have Hc:=hid (HP.out k x hx wr Hj.out)
 clear hx hb
 go_wp2_with (refine Hc.out.mono ?_;rintro e w2 (⟨rfl,hq⟩ | ⟨rfl,hq⟩))
 ·go_wp2
  go_ret
  exact .inl ⟨k,hlt,rfl,hq⟩
 go_wp2
 go_roundw
 case measure=>simp[intOf];omega
 case rel=>exact⟨k+1,by omega,by go_num,hq⟩
theorem containsX (a:Option Addr) (l:List Ex) (c B:Nat) (g:FuncId) (cap:Array Value) (w:World) (J R:Nat→World→Prop) (hm:l.length≤1100000) (hrow:∀ k W,J k W→RowX W B a l) (hJ:J 0 w) (hp:StepX Tryz.prog g cap l J R) :
  Calls Tryz.prog 91 #[.slice a l.length c,.func (.func g) #[] cap] w fun e w'=>(e=.returned (.bool true)∧∃ k,k<l.length∧R k w')∨(e=.returned (.bool false)∧J l.length w'):=by
 have Hc:=hid (idxX a l c B g cap w J R hm hrow hJ hp)
 clear hp hrow hJ
 go_enter Tryz.func91,Tryz.ntmps91
 go_wp2_with (refine Hc.out.mono ?_;rintro e w2 (⟨k,hk,rfl,hq⟩ | ⟨rfl,hq⟩))
 ·have hk0:(0:Int)≤(k:Int):=by omega
  go_wp2
  go_ret
  exact .inl ⟨rfl,k,hk,hq⟩
 go_wp2
 go_ret
 exact .inr ⟨rfl,hq⟩
section
open Go.RowKit Go.Sort
theorem setcell_twice (w:World) (g:Nat) (v v':Value):(w.setCell ⟨g,0,none⟩ v).setCell ⟨g,0,none⟩ v'=w.setCell ⟨g,0,none⟩ v':=by
 rw[setCell_eq,setCell_eq,mapBlock_mapBlock,setCell_eq]
 congr 1
 funext c
 simp
theorem cell_ltT {w:World} {g i:Nat} {v:Value} (h:w.cell? ⟨g,i,none⟩=some v):g<w.heap.size:=by
 rcases Nat.lt_or_ge g w.heap.size with h1 | h1
 ·exact h1
 simp[World.cell?,Array.getElem?_eq_none h1] at h
theorem set_same {w:World} {g:Nat} {v:Value} (h:w.cell? ⟨g,0,none⟩=some v):w.setCell ⟨g,0,none⟩ v=w:=by
 have hg:=cell_ltT h
 have hh:w.heap[g]? = some (w.heap[g]'hg):=Array.getElem?_eq_getElem hg
 rw[setCell_eq]
 unfold mapBlock
 have he:w.heap.modify g (onCells (·.setIfInBounds 0 v))=w.heap:=by
  apply Array.ext
  ·simp
  ·intro k h1 h2
   rw[Array.getElem_modify]
   split
   ·subst k
    unfold World.cell? at h
    simp only[hh] at h
    cases ho:w.heap[g]'hg with
    | cells c e fr =>
     rw[ho] at h
     simp only[onCells]
     have h':c[0]? = some v:=by simpa using h
     have hc:c.setIfInBounds 0 v=c:=by
      apply Array.ext
      ·simp
      ·intro q q1 q2
       rw[Array.getElem_setIfInBounds]
       split
       ·subst q
        rw[Array.getElem?_eq_getElem q2] at h'
        injection h' with h'
        exact h'.symm
       ·rfl
     rw[hc]
    | _=>rfl
   ·rfl
 rw[he]
theorem keep_set {w:World} {g s i:Nat} {v u:Value} (hs:w.cell? ⟨s,i,none⟩=some v) (h:g<s):(w.setCell ⟨g,0,none⟩ u).cell? ⟨s,i,none⟩=some v:=by
 rw[setcell_ne (fun e=>by injection e with e1;omega)];exact hs
theorem new_cell (u:World) (v:Value) (t:TypeId) (s:Nat) (h:u.heap.size=s):(u.alloc (.cells #[v] t)).cell? ⟨s,0,none⟩=some v:=by subst h;simp
def CountAt (e:Ex):Prop:=∀ (dp n B g:Nat) (w:World),e.at w B→B≤g→w.cell? ⟨g,0,none⟩=some (.int .i64 (n:Int))→w.frozen? ⟨g,0,none⟩=false→dp≤21→n≤200 →
 Calls Tryz.prog 146 #[.agg #[.int .i64 e.kind,.int .i64 e.rn,.int .i64 e.rd,.string e.name,.int .i64 e.pw,.slice e.a e.l.length e.c],.int .i64 (dp:Int),.pointer (some ⟨g,0,none⟩)] w fun r w'=>r=.returned (.bool (e.cnt dp n).1)∧Kp (w.setCell ⟨g,0,none⟩ (.int .i64 ((e.cnt dp n).2:Int))) w'
theorem count1_any (x:Ex) (hx:CountAt x) (dp m B g p1 p2:Nat) (w:World) (hat:x.at w B) (hB:B≤g) (hD:w.cell? ⟨p1,0,none⟩=some (.int .i64 (dp:Int))) (hP:w.cell? ⟨p2,0,none⟩=some (.pointer (some ⟨g,0,none⟩)))
  (hg:w.cell? ⟨g,0,none⟩=some (.int .i64 (m:Int))) (hf:w.frozen? ⟨g,0,none⟩=false) (hdp:dp≤20) (hm:m≤200) :
  Calls Tryz.prog 191 #[.agg #[.int .i64 x.kind,.int .i64 x.rn,.int .i64 x.rd,.string x.name,.int .i64 x.pw,.slice x.a x.l.length x.c],.pointer (some ⟨p1,0,none⟩),.pointer (some ⟨p2,0,none⟩)] w fun r w'=>r=.returned (.bool (!(x.cnt (dp+1) m).1))∧Kp (w.setCell ⟨g,0,none⟩ (.int .i64 ((x.cnt (dp+1) m).2:Int))) w':=by
 have k1:Kp w (w.alloc (.cells #[.int .i64 x.kind,.int .i64 x.rn,.int .i64 x.rd,.string x.name,.int .i64 x.pw,.slice x.a x.l.length x.c] 71)):=(Kp.refl w).alloc _
 have hS:((w.alloc (.cells #[.int .i64 x.kind,.int .i64 x.rn,.int .i64 x.rd,.string x.name,.int .i64 x.pw,.slice x.a x.l.length x.c] 71)).cell? ⟨w.heap.size,0,none⟩=some (.int .i64 x.kind)∧(w.alloc (.cells #[.int .i64 x.kind,.int .i64 x.rn,.int .i64 x.rd,.string x.name,.int .i64 x.pw,.slice x.a x.l.length x.c] 71)).cell? ⟨w.heap.size,1,none⟩=some (.int .i64 x.rn)∧(w.alloc (.cells #[.int .i64 x.kind,.int .i64 x.rn,.int .i64 x.rd,.string x.name,.int .i64 x.pw,.slice x.a x.l.length x.c] 71)).cell? ⟨w.heap.size,2,none⟩=some (.int .i64 x.rd)∧(w.alloc (.cells #[.int .i64 x.kind,.int .i64 x.rn,.int .i64 x.rd,.string x.name,.int .i64 x.pw,.slice x.a x.l.length x.c] 71)).cell? ⟨w.heap.size,3,none⟩=some (.string x.name)∧(w.alloc (.cells #[.int .i64 x.kind,.int .i64 x.rn,.int .i64 x.rd,.string x.name,.int .i64 x.pw,.slice x.a x.l.length x.c] 71)).cell? ⟨w.heap.size,4,none⟩=some (.int .i64 x.pw)∧(w.alloc (.cells #[.int .i64 x.kind,.int .i64 x.rn,.int .i64 x.rd,.string x.name,.int .i64 x.pw,.slice x.a x.l.length x.c] 71)).cell? ⟨w.heap.size,5,none⟩=some (.slice x.a x.l.length x.c)):=by simp
 have HC:=fun W (h:Kp w W)=>hid (hx (dp+1) m B g W (Ex.at_kp hat h) hB (h.cell hg) (h.frozen hg hf) (by omega) hm)
 have hdi:=hid (show ((dp+1:Nat):Int)=(dp:Int)+1 by omega)
 clear hx
 go_enter Tryz.func191,Tryz.ntmps191
 go_upto_region 1 with fail
 generalize w.alloc _=W at *
 have HC:=hid (HC W k1).out
 rw[hdi.out] at HC
 have hD1:=k1.cell hD
 have hP1:=k1.cell hP
 have K1:=hid k1
 clear hD hP hg hf hat k1
 go_wp2_with (go_at_call 146;go_fit HC.out;rintro r w2 ⟨rfl,k2⟩)
 go_ret
 exact⟨rfl,(kp_bothT K1.out _ _).trans k2⟩
theorem count_any:∀ e:Ex,CountAt e:=by
 refine Ex.ind fun e ih dp n B g w hat hB hg hf hdp hn=>?_
 have k1:Kp w (((w.alloc (.cells #[.int .i64 e.kind,.int .i64 e.rn,.int .i64 e.rd,.string e.name,.int .i64 e.pw,.slice e.a e.l.length e.c] 71)).alloc (.cells #[.int .i64 (dp:Int)] 3)).alloc (.cells #[.pointer (some ⟨g,0,none⟩)] 79)):=((Kp.refl w).alloc _).alloc _ |>.alloc _
 have hS:((((w.alloc (.cells #[.int .i64 e.kind,.int .i64 e.rn,.int .i64 e.rd,.string e.name,.int .i64 e.pw,.slice e.a e.l.length e.c] 71)).alloc (.cells #[.int .i64 (dp:Int)] 3)).alloc (.cells #[.pointer (some ⟨g,0,none⟩)] 79)).cell? ⟨w.heap.size,0,none⟩=some (.int .i64 e.kind)∧(((w.alloc (.cells #[.int .i64 e.kind,.int .i64 e.rn,.int .i64 e.rd,.string e.name,.int .i64 e.pw,.slice e.a e.l.length e.c] 71)).alloc (.cells #[.int .i64 (dp:Int)] 3)).alloc (.cells #[.pointer (some ⟨g,0,none⟩)] 79)).cell? ⟨w.heap.size,1,none⟩=some (.int .i64 e.rn)∧(((w.alloc (.cells #[.int .i64 e.kind,.int .i64 e.rn,.int .i64 e.rd,.string e.name,.int .i64 e.pw,.slice e.a e.l.length e.c] 71)).alloc (.cells #[.int .i64 (dp:Int)] 3)).alloc (.cells #[.pointer (some ⟨g,0,none⟩)] 79)).cell? ⟨w.heap.size,2,none⟩=some (.int .i64 e.rd)∧(((w.alloc (.cells #[.int .i64 e.kind,.int .i64 e.rn,.int .i64 e.rd,.string e.name,.int .i64 e.pw,.slice e.a e.l.length e.c] 71)).alloc (.cells #[.int .i64 (dp:Int)] 3)).alloc (.cells #[.pointer (some ⟨g,0,none⟩)] 79)).cell? ⟨w.heap.size,3,none⟩=some (.string e.name)∧(((w.alloc (.cells #[.int .i64 e.kind,.int .i64 e.rn,.int .i64 e.rd,.string e.name,.int .i64 e.pw,.slice e.a e.l.length e.c] 71)).alloc (.cells #[.int .i64 (dp:Int)] 3)).alloc (.cells #[.pointer (some ⟨g,0,none⟩)] 79)).cell? ⟨w.heap.size,4,none⟩=some (.int .i64 e.pw)∧(((w.alloc (.cells #[.int .i64 e.kind,.int .i64 e.rn,.int .i64 e.rd,.string e.name,.int .i64 e.pw,.slice e.a e.l.length e.c] 71)).alloc (.cells #[.int .i64 (dp:Int)] 3)).alloc (.cells #[.pointer (some ⟨g,0,none⟩)] 79)).cell? ⟨w.heap.size,5,none⟩=some (.slice e.a e.l.length e.c)):=keepE6 (((Kp.refl _).alloc _).alloc _) (by simp)
 have hD:(((w.alloc (.cells #[.int .i64 e.kind,.int .i64 e.rn,.int .i64 e.rd,.string e.name,.int .i64 e.pw,.slice e.a e.l.length e.c] 71)).alloc (.cells #[.int .i64 (dp:Int)] 3)).alloc (.cells #[.pointer (some ⟨g,0,none⟩)] 79)).cell? ⟨w.heap.size+1,0,none⟩=some (.int .i64 (dp:Int)):=((Kp.refl _).alloc _).cell (new_cell _ _ _ _ (by simp))
 have hP:(((w.alloc (.cells #[.int .i64 e.kind,.int .i64 e.rn,.int .i64 e.rd,.string e.name,.int .i64 e.pw,.slice e.a e.l.length e.c] 71)).alloc (.cells #[.int .i64 (dp:Int)] 3)).alloc (.cells #[.pointer (some ⟨g,0,none⟩)] 79)).cell? ⟨w.heap.size+1+1,0,none⟩=some (.pointer (some ⟨g,0,none⟩)):=new_cell _ _ _ _ (by simp)
 have hgl:g<w.heap.size:=cell_ltT hg
 go_enter Tryz.func146,Tryz.ntmps146
 go_upto_region 1 with fail
 generalize World.alloc _ _=W at *
 have g1:=k1.cell hg
 have g2:=k1.frozen hg hf
 have hn1:=hid (show (n:Int)+1=((n+1:Nat):Int) by omega)
 go_upto_region 2 with fail
 have k2:=kp_bothT k1 ⟨g,0,none⟩ (.int .i64 ((n:Int)+1))
 have q:((W.setCell ⟨g,0,none⟩ (.int .i64 ((n:Int)+1))).cell? ⟨w.heap.size,0,none⟩=some (.int .i64 e.kind)∧(W.setCell ⟨g,0,none⟩ (.int .i64 ((n:Int)+1))).cell? ⟨w.heap.size,1,none⟩=some (.int .i64 e.rn)∧(W.setCell ⟨g,0,none⟩ (.int .i64 ((n:Int)+1))).cell? ⟨w.heap.size,2,none⟩=some (.int .i64 e.rd)∧(W.setCell ⟨g,0,none⟩ (.int .i64 ((n:Int)+1))).cell? ⟨w.heap.size,3,none⟩=some (.string e.name)∧(W.setCell ⟨g,0,none⟩ (.int .i64 ((n:Int)+1))).cell? ⟨w.heap.size,4,none⟩=some (.int .i64 e.pw)∧(W.setCell ⟨g,0,none⟩ (.int .i64 ((n:Int)+1))).cell? ⟨w.heap.size,5,none⟩=some (.slice e.a e.l.length e.c)):=by
  obtain⟨a0,a1,a2,a3,a4,a5⟩:=hS
  exact⟨keep_set a0 hgl,keep_set a1 hgl,keep_set a2 hgl,keep_set a3 hgl,keep_set a4 hgl,keep_set a5 hgl⟩
 have qD:=keep_set (u:=.int .i64 ((n:Int)+1)) hD (show g<w.heap.size+1 by omega)
 have qP:=keep_set (u:=.int .i64 ((n:Int)+1)) hP (show g<w.heap.size+1+1 by omega)
 have qg:(W.setCell ⟨g,0,none⟩ (.int .i64 ((n:Int)+1))).cell? ⟨g,0,none⟩=some (.int .i64 ((n:Int)+1)):=by apply World.cell?_setCell_same;exact g1
 have qf:(W.setCell ⟨g,0,none⟩ (.int .i64 ((n:Int)+1))).frozen? ⟨g,0,none⟩=false:=by simpa using g2
 clear hS hD hP g1 g2 hg hf
 generalize W.setCell ⟨g,0,none⟩ _=W2 at *
 have K2:=hid k2
 have HE:=hid (e.cnt_eq dp n)
 clear k2 k1
 by_cases c1:20<dp
 ·have c1':(20:Int)<dp:=by omega
  have he:=HE.out
  rw[if_pos (Or.inl c1)] at he
  have He:=hid he
  clear he
  go_wp2_with fail
  go_ret
  exact⟨ret_bool (by rw[He.out]),by rw[He.out,← hn1.out];exact K2.out⟩
 have c1':¬ (20:Int)<dp:=by omega
 by_cases c2:200<n+1
 ·have c2':(200:Int)<(n:Int)+1:=by omega
  have he:=HE.out
  rw[if_pos (Or.inr (Or.inl c2))] at he
  have He:=hid he
  clear he
  go_wp2_with fail
  go_ret
  exact⟨ret_bool (by rw[He.out]),by rw[He.out,← hn1.out];exact K2.out⟩
 have c2':¬ (200:Int)<(n:Int)+1:=by omega
 obtain⟨⟨hlc,hcm,hnm,hl⟩,hrow,hch⟩:=Ex.at_iff.1 hat
 have HN:=hid (node_any e W2 (by omega) hnm)
 cases hb:nodeB e with
 | false =>
  have he:=HE.out
  rw[if_pos (Or.inr (Or.inr hb))] at he
  have He:=hid he
  rw[hb] at HN
  clear he hb hrow hch
  go_wp2_with (go_at_call 190;go_fit HN.out;rintro r w2 ⟨rfl,j2⟩)
  go_ret
  exact⟨ret_bool (by rw[He.out]),by rw[He.out,← hn1.out];exact K2.out.trans j2⟩
 | true =>
 have he:=HE.out
 rw[if_neg (by rw[hb];intro h;rcases h with h | h | h;exact c1 h;exact c2 h;cases h)] at he
 have He:=hid he
 rw[hb] at HN
 clear he hb
 go_upto_region 4 with (go_at_call 190;go_fit HN.out;rintro r W3 ⟨rfl,j2⟩;obtain⟨t0,t1,t2,t3,t4,t5⟩:=keepE6 j2 q)
 have K3:=hid (K2.out.trans j2)
 have u1:=j2.cell qD
 have u2:=j2.cell qP
 have u3:=j2.cell qg
 have u4:=j2.frozen qg qf
 have u5:∀ x∈e.l,x.at W3 B:=fun x hx=>Ex.at_kp (Ex.at_set (hch x hx) hB _) K3.out
 have u6:RowX W3 B e.a e.l:=(hrow.set hB _).kp K3.out
 have hg3:g<W3.heap.size:=cell_ltT u3
 have HX:=hid (containsX e.a e.l e.c B 191 #[.pointer (some ⟨w.heap.size+1,0,none⟩),.pointer (some ⟨w.heap.size+1+1,0,none⟩)] W3
  (fun k Wk=>∃ m:Nat,Ex.cntL e.l (dp+1) (n+1)=Ex.cntL (e.l.drop k) (dp+1) m∧m≤200∧Kp (W3.setCell ⟨g,0,none⟩ (.int .i64 (m:Int))) Wk)
  (fun k Wk=>∃ m:Nat,Ex.cntL e.l (dp+1) (n+1)=(false,m)∧Kp (W3.setCell ⟨g,0,none⟩ (.int .i64 (m:Int))) Wk)
  (by omega)
  (fun k Wk hJ=>by obtain⟨m,_,_,hk⟩:=hJ;exact (u6.set hB _).kp hk)
  ⟨n+1,rfl,by omega,by rw[← hn1.out,set_same u3];exact .refl _⟩
  ⟨fun _ _=>by kernel_rfl,fun k x hx Wk hJ=>by
   obtain⟨m,he,hm,hk⟩:=hJ
   have hxm:=List.mem_of_getElem? hx
   have v3:Wk.cell? ⟨g,0,none⟩=some (.int .i64 (m:Int)):=hk.cell (by apply World.cell?_setCell_same;exact u3)
   have v4:Wk.frozen? ⟨g,0,none⟩=false:=hk.frozen (v:=.int .i64 (m:Int)) (by apply World.cell?_setCell_same;exact u3) (by simpa using u4)
   have v1:=hk.cell (keep_set (u:=.int .i64 (m:Int)) u1 (show g<w.heap.size+1 by omega))
   have v2:=hk.cell (keep_set (u:=.int .i64 (m:Int)) u2 (show g<w.heap.size+1+1 by omega))
   have hd:e.l.drop k=x::e.l.drop (k+1):=List.drop_eq_getElem_cons (List.getElem?_eq_some_iff.1 hx).1 |>.trans (by rw[(List.getElem?_eq_some_iff.1 hx).2])
   have hc:=Ex.cntL_cons x (e.l.drop (k+1)) (dp+1) m
   refine (count1_any x (ih x hxm) dp m B g _ _ Wk (Ex.at_kp (Ex.at_set (u5 x hxm) hB _) hk) hB v1 v2 v3 v4 (by omega) hm).mono ?_
   rintro r W' ⟨rfl,hk'⟩
   have hK:Kp (W3.setCell ⟨g,0,none⟩ (.int .i64 ((x.cnt (dp+1) m).2:Int))) W':=by
    have:=(kp_bothT hk ⟨g,0,none⟩ (.int .i64 ((x.cnt (dp+1) m).2:Int))).trans hk'
    rwa [setcell_twice] at this
   cases hb:(x.cnt (dp+1) m).1 with
   | false =>
    rw[if_neg (by rw[hb];decide)] at hc
    exact .inl ⟨rfl,_,by rw[he,hd,hc],hK⟩
   | true =>
    rw[if_pos hb] at hc
    have hi:=cnt_iff x (dp+1) m
    have h1:=hi.1.1 hb
    have h2:=hi.2 hb
    exact .inr ⟨rfl,_,by rw[he,hd,hc],by omega,hK⟩⟩)
 clear u5 u6 hrow hch ih
 have F0:=hn1.out
 clear F0
 go_wp2_with (go_at_call 91;go_fit HX.out;rintro r W4 (⟨rfl,k,hk,m,hm,hkk⟩ | ⟨rfl,m,hm,hm2,hkk⟩))
 ·go_ret
  have hk2:Kp (w.setCell ⟨g,0,none⟩ (.int .i64 (m:Int))) W4:=by
   have:=(kp_bothT K3.out ⟨g,0,none⟩ (.int .i64 (m:Int))).trans hkk
   rwa [setcell_twice] at this
  exact⟨ret_bool (by rw[He.out,hm]),by rw[He.out,hm];exact hk2⟩
 go_ret
 have hk2:Kp (w.setCell ⟨g,0,none⟩ (.int .i64 (m:Int))) W4:=by
  have:=(kp_bothT K3.out ⟨g,0,none⟩ (.int .i64 (m:Int))).trans hkk
  rwa [setcell_twice] at this
 rw[List.drop_length,Ex.cntL_nil] at hm
 exact⟨ret_bool (by rw[He.out,hm]),by rw[He.out,hm];exact hk2⟩
theorem tvalid_any (e:Ex) (B:Nat) (w:World) (hat:e.at w B) (hB:B≤w.heap.size):Calls Tryz.prog 93 #[.agg #[.int .i64 e.kind,.int .i64 e.rn,.int .i64 e.rd,.string e.name,.int .i64 e.pw,.slice e.a e.l.length e.c]] w fun r w'=>r=.returned (.bool e.ok)∧Kp w w':=by
 have hok:=hid (cnt_ok e)
 have k1:Kp w (w.alloc (.cells #[.int .i64 e.kind,.int .i64 e.rn,.int .i64 e.rd,.string e.name,.int .i64 e.pw,.slice e.a e.l.length e.c] 71)):=(Kp.refl w).alloc _
 have hS:((w.alloc (.cells #[.int .i64 e.kind,.int .i64 e.rn,.int .i64 e.rd,.string e.name,.int .i64 e.pw,.slice e.a e.l.length e.c] 71)).cell? ⟨w.heap.size,0,none⟩=some (.int .i64 e.kind)∧(w.alloc (.cells #[.int .i64 e.kind,.int .i64 e.rn,.int .i64 e.rd,.string e.name,.int .i64 e.pw,.slice e.a e.l.length e.c] 71)).cell? ⟨w.heap.size,1,none⟩=some (.int .i64 e.rn)∧(w.alloc (.cells #[.int .i64 e.kind,.int .i64 e.rn,.int .i64 e.rd,.string e.name,.int .i64 e.pw,.slice e.a e.l.length e.c] 71)).cell? ⟨w.heap.size,2,none⟩=some (.int .i64 e.rd)∧(w.alloc (.cells #[.int .i64 e.kind,.int .i64 e.rn,.int .i64 e.rd,.string e.name,.int .i64 e.pw,.slice e.a e.l.length e.c] 71)).cell? ⟨w.heap.size,3,none⟩=some (.string e.name)∧(w.alloc (.cells #[.int .i64 e.kind,.int .i64 e.rn,.int .i64 e.rd,.string e.name,.int .i64 e.pw,.slice e.a e.l.length e.c] 71)).cell? ⟨w.heap.size,4,none⟩=some (.int .i64 e.pw)∧(w.alloc (.cells #[.int .i64 e.kind,.int .i64 e.rn,.int .i64 e.rd,.string e.name,.int .i64 e.pw,.slice e.a e.l.length e.c] 71)).cell? ⟨w.heap.size,5,none⟩=some (.slice e.a e.l.length e.c)):=by simp
 have hz:(w.alloc (.cells #[.int .i64 e.kind,.int .i64 e.rn,.int .i64 e.rd,.string e.name,.int .i64 e.pw,.slice e.a e.l.length e.c] 71)).heap.size=w.heap.size+1:=by simp
 go_enter Tryz.func93,Tryz.ntmps93
 go_upto_region 1 with fail
 generalize w.alloc _=W at *
 have k2:Kp w (W.alloc (.cells #[.int .i64 0] 3)):=k1.alloc _
 have kW:Kp W (W.alloc (.cells #[.int .i64 0] 3)):=(Kp.refl W).alloc _
 have hc:(W.alloc (.cells #[.int .i64 0] 3)).cell? ⟨w.heap.size+1,0,none⟩=some (.int .i64 0):=new_cell _ _ _ _ hz
 have hf:(W.alloc (.cells #[.int .i64 0] 3)).frozen? ⟨w.heap.size+1,0,none⟩=false:=by rw[← hz];simp
 have hS2:=keepE6 kW hS
 go_upto_region 2 with fail
 generalize W.alloc _=W2 at *
 have HC:Calls Tryz.prog 146 #[.agg #[.int .i64 e.kind,.int .i64 e.rn,.int .i64 e.rd,.string e.name,.int .i64 e.pw,.slice e.a e.l.length e.c],.int .i64 1,.pointer (some ⟨w.heap.size+1,0,none⟩)] W2 fun r w'=>r=.returned (.bool (e.cnt 1 0).1)∧Kp (W2.setCell ⟨w.heap.size+1,0,none⟩ (.int .i64 ((e.cnt 1 0).2:Int))) w' :=
  count_any e 1 0 B (w.heap.size+1) W2 (Ex.at_kp hat k2) (by omega) hc hf (by omega) (by omega)
 have HC:=hid HC
 have K2:=hid k2
 clear k1 kW hS hat k2
 obtain⟨t0,t1,t2,t3,t4,t5⟩:=hS2
 go_wp2_with (go_at_call 146;go_fit HC.out;rintro r w2 ⟨rfl,k3⟩)
 go_ret
 exact⟨ret_bool hok.out,(K2.out.set (by omega) _).trans k3⟩
end
section
open Go.RowKit Go.Sort
end
section
def Ex.cells (x:Ex):List Value:=[.int .i64 x.kind,.int .i64 x.rn,.int .i64 x.rd,.string x.name,.int .i64 x.pw,.slice x.a x.l.length x.c]
theorem Ex.cells_len (x:Ex):x.cells.length=6:=rfl
theorem flatX_len (zs:List Ex):(zs.flatMap Ex.cells).length=zs.length*6:=by
 induction zs with
 | nil=>rfl
 | cons z zs ih=>rw[List.flatMap_cons,List.length_append,ih,Ex.cells_len,List.length_cons];omega
theorem flatX_get {zs:List Ex} {i:Nat} {x:Ex} (h:zs[i]? = some x) {j:Nat} (hj:j<6):(zs.flatMap Ex.cells)[i*6+j]? = x.cells[j]?:=by
 induction zs generalizing i with
 | nil=>simp at h
 | cons z zs ih =>
  rw[List.flatMap_cons]
  cases i with
  | zero =>
   simp only[List.getElem?_cons_zero,Option.some.injEq] at h
   subst h
   rw[List.getElem?_append_left (by rw[Ex.cells_len];omega),Nat.zero_mul,Nat.zero_add]
  | succ i =>
   rw[List.getElem?_cons_succ] at h
   rw[List.getElem?_append_right (by rw[Ex.cells_len];omega),Ex.cells_len,← ih h]
   congr 1;omega
mutual
def Ex.own (w:World):Ex→Nat→Nat→Prop
 | .mk _ _ _ _ _ a _ l,lo,hi=>lo≤hi∧(l=[]∨∃ b,a=some ⟨b,0,none⟩∧lo≤b∧(∀ i,i<l.length*6→w.frozen? ⟨b,i,none⟩=false)∧Ex.ownL w l (b+1) hi)
def Ex.ownL (w:World):List Ex→Nat→Nat→Prop
 | [],lo,hi=>lo≤hi
 | x::t,lo,hi=>∃ m,x.own w lo m∧Ex.ownL w t m hi
end
theorem Ex.own_iff {w:World} {e:Ex} {lo hi:Nat}:e.own w lo hi↔lo≤hi∧(e.l=[]∨∃ b,e.a=some ⟨b,0,none⟩∧lo≤b∧(∀ i,i<e.l.length*6→w.frozen? ⟨b,i,none⟩=false)∧Ex.ownL w e.l (b+1) hi):=by
 cases e;rw[Ex.own];exact Iff.rfl
theorem Ex.ownL_nil {w:World} {lo hi:Nat}:Ex.ownL w [] lo hi↔lo≤hi:=by rw[Ex.ownL]
theorem Ex.ownL_cons {w:World} {x:Ex} {t:List Ex} {lo hi:Nat}:Ex.ownL w (x::t) lo hi↔∃ m,x.own w lo m∧Ex.ownL w t m hi:=by rw[Ex.ownL]
theorem Ex.own_le {w:World} {e:Ex} {lo hi:Nat} (h:e.own w lo hi):lo≤hi:=(Ex.own_iff.1 h).1
theorem Ex.ownL_le {w:World}:∀ {l:List Ex} {lo hi:Nat},Ex.ownL w l lo hi→lo≤hi
 | [],_,_,h=>Ex.ownL_nil.1 h
 | _::_,_,_,h=>by
  obtain⟨m,h1,h2⟩:=Ex.ownL_cons.1 h
  exact Nat.le_trans (Ex.own_le h1) (Ex.ownL_le h2)
theorem Ex.own_down {w:World} {e:Ex} {lo lo' hi:Nat} (h:e.own w lo hi) (hh:lo'≤lo):e.own w lo' hi:=by
 obtain⟨h1,h2⟩:=Ex.own_iff.1 h
 refine Ex.own_iff.2 ⟨by omega,?_⟩
 rcases h2 with h2 | ⟨b,h3,h4,h5,h6⟩
 ·exact .inl h2
 exact .inr ⟨b,h3,by omega,h5,h6⟩
theorem Ex.ownL_snoc {w:World} {x:Ex}:∀ {l:List Ex} {lo m hi:Nat},Ex.ownL w l lo m→x.own w m hi→Ex.ownL w (l++[x]) lo hi
 | [],lo,m,hi,h,hx=>Ex.ownL_cons.2 ⟨hi,Ex.own_down hx (Ex.ownL_nil.1 h),Ex.ownL_nil.2 (Nat.le_refl _)⟩
 | y::t,lo,m,hi,h,hx=>by
  obtain⟨m',h1,h2⟩:=Ex.ownL_cons.1 h
  exact Ex.ownL_cons.2 ⟨m',h1,Ex.ownL_snoc h2 hx⟩
theorem Ex.ownL_same {w w':World}:∀ {l:List Ex} {lo hi:Nat},(∀ x∈l,∀ lo hi,(∀ b i,lo≤b→b<hi→w'.frozen? ⟨b,i,none⟩=w.frozen? ⟨b,i,none⟩)→x.own w lo hi→x.own w' lo hi) →
  (∀ b i,lo≤b→b<hi→w'.frozen? ⟨b,i,none⟩=w.frozen? ⟨b,i,none⟩)→Ex.ownL w l lo hi→Ex.ownL w' l lo hi
 | [],_,_,_,_,h=>Ex.ownL_nil.2 (Ex.ownL_nil.1 h)
 | x::t,lo,hi,hx,hf,h=>by
  obtain⟨m,h1,h2⟩:=Ex.ownL_cons.1 h
  have h3:=Ex.own_le h1
  have h4:=Ex.ownL_le h2
  exact Ex.ownL_cons.2 ⟨m,hx x (.head _) _ _ (fun b i hb hb2=>hf b i hb (by omega)) h1,Ex.ownL_same (fun y hy=>hx y (.tail _ hy)) (fun b i hb hb2=>hf b i (by omega) hb2) h2⟩
theorem Ex.own_same {w w':World}:∀ (e:Ex) (lo hi:Nat),(∀ b i,lo≤b→b<hi→w'.frozen? ⟨b,i,none⟩=w.frozen? ⟨b,i,none⟩)→e.own w lo hi→e.own w' lo hi:=by
 refine Ex.ind fun e ih lo hi hf h=>?_
 obtain⟨h1,h2⟩:=Ex.own_iff.1 h
 refine Ex.own_iff.2 ⟨h1,?_⟩
 rcases h2 with h2 | ⟨b,h3,h4,h5,h6⟩
 ·exact .inl h2
 have h7:=Ex.ownL_le h6
 exact .inr ⟨b,h3,h4,fun i hi=>(hf b i h4 (by omega)).trans (h5 i hi),Ex.ownL_same (fun x hx=>ih x hx) (fun b' i hb hb2=>hf b' i (by omega) hb2) h6⟩
theorem Ex.ownL_kp {w w':World} {l:List Ex} {lo hi:Nat} (h:Ex.ownL w l lo hi) (hf:∀ b i,lo≤b→b<hi→w'.frozen? ⟨b,i,none⟩=w.frozen? ⟨b,i,none⟩):Ex.ownL w' l lo hi:=Ex.ownL_same (fun x _=>Ex.own_same x) hf h
theorem Ex.at_own' {w w':World} {B B':Nat} (hB:B≤B'):∀ (e:Ex) (lo hi:Nat),e.own w lo hi→(∀ b i v,lo≤b→b<hi→w.cell? ⟨b,i,none⟩=some v→w'.cell? ⟨b,i,none⟩=some v)→e.at w B→e.at w' B':=by
 refine Ex.ind fun e ih lo hi ho hc h=>?_
 obtain⟨h1,h2,h3⟩:=Ex.at_iff.1 h
 obtain⟨_,ho2⟩:=Ex.own_iff.1 ho
 rcases ho2 with he | ⟨b,ha,hb,_,hL⟩
 ·exact Ex.at_iff.2 ⟨h1,fun i x hx=>by rw[he] at hx;simp at hx,fun x hx=>by rw[he] at hx;simp at hx⟩
 have hbh:=Ex.ownL_le hL
 have key:∀ (l:List Ex) (lo':Nat),b+1≤lo'→Ex.ownL w l lo' hi→(∀ x∈l,x∈e.l)→∀ x∈l,x.at w' B':=by
  intro l
  induction l with
  | nil=>intro _ _ _ _ x hx;cases hx
  | cons y t iht =>
   intro lo' hlo hl hm x hx
   obtain⟨m,k1,k2⟩:=Ex.ownL_cons.1 hl
   have k3:=Ex.own_le k1
   have k4:=Ex.ownL_le k2
   rcases List.mem_cons.1 hx with rfl | hx
   ·exact ih x (hm x (.head _)) lo' m k1 (fun b' i v q1 q2=>hc b' i v (by omega) (by omega)) (h3 x (hm x (.head _)))
   ·exact iht m (by omega) k2 (fun z hz=>hm z (.tail _ hz)) x hx
 refine Ex.at_iff.2 ⟨h1,fun i x hx=>?_,key e.l (b+1) (Nat.le_refl _) hL fun x hx=>hx⟩
 obtain⟨b',o,e1,hb',c0,c1,c2,c3,c4,c5⟩:=h2 i x hx
 rw[ha] at e1
 cases e1
 exact⟨b,0,ha,by omega,hc _ _ _ hb (by omega) c0,hc _ _ _ hb (by omega) c1,hc _ _ _ hb (by omega) c2,hc _ _ _ hb (by omega) c3,hc _ _ _ hb (by omega) c4,hc _ _ _ hb (by omega) c5⟩
def Ex.made (w0 w:World) (e:Ex):Prop:=e.at w w.heap.size∧e.own w w0.heap.size w.heap.size
theorem Ex.at_up {w:World} {e:Ex} {B B':Nat} (h:e.at w B) (hB:B≤B'):e.at w B':=Ex.same hB (fun _ _ _ _ h=>h) e h
theorem frozen_kpT {w w':World} (k:Kp w w') {b i:Nat} (hb:b<w.heap.size):w'.frozen? ⟨b,i,none⟩=w.frozen? ⟨b,i,none⟩:=Below.frozen (p:=⟨b,i,none⟩) k hb
def RowC (w:World) (g:Nat) (xs:List Ex):Prop:=(∀ (i:Nat) (x:Ex),xs[i]? = some x→w.cell? ⟨g,i*6,none⟩=some (.int .i64 x.kind)∧w.cell? ⟨g,i*6+1,none⟩=some (.int .i64 x.rn)∧w.cell? ⟨g,i*6+2,none⟩=some (.int .i64 x.rd)∧w.cell? ⟨g,i*6+3,none⟩=some (.string x.name)∧w.cell? ⟨g,i*6+4,none⟩=some (.int .i64 x.pw)∧w.cell? ⟨g,i*6+5,none⟩=some (.slice x.a x.l.length x.c))∧(∀ i,i<xs.length*6→w.frozen? ⟨g,i,none⟩=false)∧g<w.heap.size
theorem RowC.kp {w w':World} {g:Nat} {xs:List Ex} (h:RowC w g xs) (k:Kp w w'):RowC w' g xs :=
 ⟨fun i x hx=>keepE6 k (h.1 i x hx),fun i hi=>(frozen_kpT k h.2.2).trans (h.2.1 i hi),Nat.lt_of_lt_of_le h.2.2 k.size⟩
theorem RowC.row {w:World} {g B:Nat} {xs:List Ex} (h:RowC w g xs) (hB:w.heap.size≤B):RowX w B (some ⟨g,0,none⟩) xs:=fun i x hx=>by
 obtain⟨h0,h1,h2,h3,h4,h5⟩:=h.1 i x hx
 have e:0+i*6=i*6:=by omega
 refine⟨g,0,rfl,Nat.lt_of_lt_of_le h.2.2 hB,?_⟩
 rw[e]
 exact⟨h0,h1,h2,h3,h4,h5⟩
theorem RowC.set {w W:World} {g k:Nat} {xs:List Ex} {x y:Ex} (h:RowC w g xs) (hk:xs[k]? = some y)
  (hs:W.cell? ⟨g,k*6,none⟩=some (.int .i64 x.kind)∧W.cell? ⟨g,k*6+1,none⟩=some (.int .i64 x.rn)∧W.cell? ⟨g,k*6+2,none⟩=some (.int .i64 x.rd)∧W.cell? ⟨g,k*6+3,none⟩=some (.string x.name)∧W.cell? ⟨g,k*6+4,none⟩=some (.int .i64 x.pw)∧W.cell? ⟨g,k*6+5,none⟩=some (.slice x.a x.l.length x.c)) (ho:∀ p:Addr,p.block≠g∨p.off<k*6∨k*6+6≤p.off→p.spot=none→W.cell? p=w.cell? p) (hf:∀ p,W.frozen? p=w.frozen? p) (hz:W.heap.size=w.heap.size):RowC W g (xs.set k x):=by
 refine⟨fun i z hi=>?_,fun i hi=>(hf _).trans (h.2.1 i (by simpa using hi)),by rw[hz];exact h.2.2⟩
 by_cases hik:k=i
 ·subst hik
  have hkl:=(List.getElem?_eq_some_iff.1 hk).1
  rw[List.getElem?_set_self hkl] at hi
  cases hi
  exact hs
 rw[List.getElem?_set_ne hik] at hi
 obtain⟨h0,h1,h2,h3,h4,h5⟩:=h.1 i z hi
 have q (j:Nat) (hj:j<6):W.cell? ⟨g,i*6+j,none⟩=w.cell? ⟨g,i*6+j,none⟩:=ho ⟨g,i*6+j,none⟩ (by simp only;omega) rfl
 exact⟨(q 0 (by omega)).trans h0,(q 1 (by omega)).trans h1,(q 2 (by omega)).trans h2,(q 3 (by omega)).trans h3,(q 4 (by omega)).trans h4,(q 5 (by omega)).trans h5⟩
end
section
open Go.RowKit Go.Sort
theorem infoExp:(Tryz.prog.info? 71).map (fun i=>(i.zero,i.size,i.bytes))=some (some (.agg #[.int .i64 0,.int .i64 0,.int .i64 0,.string ByteArray.empty,.int .i64 0,.slice none 0 0]),6,72):=by kernel_rfl
theorem nil_exp (w:World) (a:Option Addr) (n c n' c':Nat):(binOp .eql 69 (.slice a n c) (.slice none n' c')).run Tryz.prog w=.ok (.bool a.isNone) w :=
 Lib.run_eql_slice_nil w _ _ a n c n' c' Tryz.underlying69
theorem rowC_of {w:World} {base n:Nat} {v:Value} {xs:List Ex} (h:w.ownsRow base 71 6 v xs.length (xs.flatMap Ex.cells)) (hn:xs.length=n) :
  ∃ a c,v=.slice a n c∧n≤c∧c≤maxLen∧(xs=[]∨∃ g,a=some ⟨g,0,none⟩∧base≤g∧RowC w g xs):=by
 subst hn
 obtain⟨h2,h3⟩:=h
 rcases h3 with ⟨rfl,h3⟩ | ⟨g,cap,cur,rfl,hb,hg,hn,hc,hs,ht⟩
 ·have h0:xs=[]:=List.length_eq_zero_iff.1 h3
  subst h0
  exact⟨none,0,rfl,Nat.le_refl _,by decide,.inl rfl⟩
 refine⟨_,_,rfl,hn,hc,.inr ⟨g,rfl,hb,fun i x hi=>?_,fun i _=>frozen_of_row w g i cur _ hg,(Array.getElem?_eq_some_iff.1 hg).1⟩⟩
 have hil:i<xs.length:=(List.getElem?_eq_some_iff.1 hi).1
 have key (j:Nat) (hj:j<6) (u:Value) (hu:x.cells[j]? = some u):w.cell? ⟨g,i*6+j,none⟩=some u:=by
  rw[cell_of_row w g _ cur _ _ hg]
  have h5:(cur.toList.take (xs.length*6))[i*6+j]? = some u:=by rw[ht,flatX_get hi hj,hu]
  rw[List.getElem?_take,if_pos (by omega)] at h5
  simpa using h5
 exact⟨key 0 (by decide) _ rfl,key 1 (by decide) _ rfl,key 2 (by decide) _ rfl,key 3 (by decide) _ rfl,key 4 (by decide) _ rfl,key 5 (by decide) _ rfl⟩
theorem wpList_append_exs {w:World} {ops:Array Oper} {rest:List Oper} {o:Oper} {a:Act} {Q:Exit→Act→World→Prop} (hgd:o.guard=none) (s x:Operand)
  (ho:o.op=.call { callee:=.builtin .append,args:=#[s,x],argTypes:=#[69,69] })
  (base:Nat) (v:Value) (zs:List Ex) (hs:a.eval s=v) (hown:w.ownsRow base 71 6 v zs.length (zs.flatMap Ex.cells)) (hbase:base≤w.heap.size)
  (ad:Addr) (B c:Nat) (ys:List Ex) (hx:a.eval x=.slice (some ad) ys.length c)
  (hrow:RowX w B (some ad) ys) (hlen:zs.length+ys.length≤9000000)
  (h:∀ v' w',w'.ownsRow base 71 6 v' (zs++ys).length ((zs++ys).flatMap Ex.cells)→Below base w w'→wpList Tryz.prog ops Q rest (a.put o.dst v') w') :
  wpList Tryz.prog ops Q (o::rest) a w:=by
 obtain⟨i0,hi,hz0,hz1,hz2⟩:=info_parts infoExp
 refine wpList_append_own w hgd s x 69 ho base 71 i0 _ 6 72 Tryz.underlying69 hi hz0 hz1 hz2 rfl (by decide) v zs.length (zs.flatMap Ex.cells) hs hown
  ad ys.length c (ys.flatMap Ex.cells) hx (flatX_len ys) ?_ ?_ (by unfold maxLen;omega) (by omega) hbase ?_
 ·intro j u hj
  have hjl:j<ys.length*6:=by have:=(List.getElem?_eq_some_iff.1 hj).1;rwa [flatX_len] at this
  obtain⟨k,r,hr,rfl⟩:∃ k r,r<6∧j=k*6+r:=⟨j/6,j % 6,Nat.mod_lt _ (by decide),by omega⟩
  have hk:k<ys.length:=by omega
  obtain⟨b',o',e',_,h0,h1,h2,h3,h4,h5⟩:=hrow k ys[k] (List.getElem?_eq_getElem hk)
  cases e'
  rw[flatX_get (List.getElem?_eq_getElem hk) hr] at hj
  rw[Addr.add_lit]
  match r,hr,hj with
  | 0,_,hj=>cases hj;exact h0
  | 1,_,hj=>cases hj;exact h1
  | 2,_,hj=>cases hj;exact h2
  | 3,_,hj=>cases hj;exact h3
  | 4,_,hj=>cases hj;exact h4
  | 5,_,hj=>cases hj;exact h5
  | r+6,hr,_=>omega
 ·intro u hu
  obtain⟨y,_,hu⟩:=List.mem_flatMap.1 hu
  simp only[Ex.cells,List.mem_cons,List.not_mem_nil,or_false] at hu
  rcases hu with rfl | rfl | rfl | rfl | rfl | rfl <;> rfl
 intro v' w' h1 h2 _
 have hb:Below base w w':=(Below.refl base w).grown h2 hbase (fun k hk=>(hown.lt k hk).1)
 refine h v' w' ?_ hb
 rw[List.flatMap_append,List.length_append]
 exact h1
theorem clonex_any (a:Option Addr) (c B:Nat) (l:List Ex) (w:World) (h:RowX w B a l) (hl:l.length≤1100000) :
  Calls Tryz.prog 159 #[.slice a l.length c] w fun e w'=>∃ a' c',e=.returned (.slice a' l.length c')∧l.length≤c'∧c'≤maxLen∧Kp w w'∧(l=[]∨∃ g,a'=some ⟨g,0,none⟩∧w.heap.size≤g∧RowC w' g l):=by
 have hn:=nil_exp
 have hrow:=h.kp ((Kp.refl w).alloc (.cells #[] 71))
 cases a with
 | some ad =>
  clear h
  go_enter Tryz.func159,Tryz.ntmps159
  go_wp2_with (at_builtin;refine wpList_append_exs rfl _ _ rfl w.heap.size _ [] rfl (World.ownsRow_made w #[] 0 (Nat.le_refl _) (Nat.zero_le _) rfl) (by simp) ad B c l rfl hrow (by simp;omega) ?_;intro v' w5 hown5 hb5;rw[List.nil_append] at hown5;obtain⟨a',c',rfl,hc1,hc2,hr⟩:=rowC_of hown5 rfl)
  go_ret
  exact⟨a',c',rfl,hc1,hc2,((Kp.refl w).alloc _).below.trans hb5,hr⟩
 | none =>
 have hys:l=[]:=by
  cases l with
  | nil=>rfl
  | cons x t=>obtain⟨b,o,e,_⟩:=h 0 x rfl;cases e
 subst hys
 clear h hrow
 go_enter Tryz.func159,Tryz.ntmps159
 go_wp2_with fail
 go_ret
 exact⟨none,0,rfl,Nat.le_refl _,by unfold maxLen;omega,.refl _,.inl (by first | rfl | trivial)⟩
theorem cellset_ne {w:World} {g i:Nat} {p:Addr} {v:Value} (h:(⟨g,i,none⟩:Addr)≠p):(w.setCell ⟨g,i,none⟩ v).cell? p=w.cell? p:=by
 rw[World.cell?_setCell_other];exact h
theorem cellset_eq {w:World} {g i:Nat} {v u:Value} (h:w.cell? ⟨g,i,none⟩=some u):(w.setCell ⟨g,i,none⟩ v).cell? ⟨g,i,none⟩=some v:=by
 apply World.cell?_setCell_same;exact h
def Stored6 (g o:Nat) (x:Ex) (w W:World):Prop:=(W.cell? ⟨g,o,none⟩=some (.int .i64 x.kind)∧W.cell? ⟨g,o+1,none⟩=some (.int .i64 x.rn)∧W.cell? ⟨g,o+2,none⟩=some (.int .i64 x.rd)∧W.cell? ⟨g,o+3,none⟩=some (.string x.name)∧W.cell? ⟨g,o+4,none⟩=some (.int .i64 x.pw)∧W.cell? ⟨g,o+5,none⟩=some (.slice x.a x.l.length x.c))∧(∀ p:Addr,p.block≠g∨p.off<o∨o+6≤p.off→W.cell? p=w.cell? p)∧(∀ p,W.frozen? p=w.frozen? p)∧W.heap.size=w.heap.size∧∀ a:World,Kp a w→a.heap.size≤g→Kp a W
theorem stored6X {w:World} {g o:Nat} {y:Ex} (x:Ex) (q:w.cell? ⟨g,o,none⟩=some (.int .i64 y.kind)∧w.cell? ⟨g,o+1,none⟩=some (.int .i64 y.rn)∧w.cell? ⟨g,o+2,none⟩=some (.int .i64 y.rd)∧w.cell? ⟨g,o+3,none⟩=some (.string y.name)∧w.cell? ⟨g,o+4,none⟩=some (.int .i64 y.pw)∧w.cell? ⟨g,o+5,none⟩=some (.slice y.a y.l.length y.c)) :
  Stored6 g o x w ((((((w.setCell ⟨g,o,none⟩ (.int .i64 x.kind)).setCell ⟨g,o+1,none⟩ (.int .i64 x.rn)).setCell ⟨g,o+2,none⟩ (.int .i64 x.rd)).setCell ⟨g,o+3,none⟩ (.string x.name)).setCell ⟨g,o+4,none⟩ (.int .i64 x.pw)).setCell ⟨g,o+5,none⟩ (.slice x.a x.l.length x.c)):=by
 obtain⟨q0,q1,q2,q3,q4,q5⟩:=q
 have ne (i j:Nat) (h:i≠j):(⟨g,i,none⟩:Addr)≠⟨g,j,none⟩:=fun e=>h (by injection e)
 refine⟨⟨?_,?_,?_,?_,?_,?_⟩,fun p hp=>?_,fun p=>by simp,by simp,fun a k hg=>(((((k.set hg _).set hg _).set hg _).set hg _).set hg _).set hg _⟩
 ·rw[cellset_ne (ne _ _ (by omega)),cellset_ne (ne _ _ (by omega)),cellset_ne (ne _ _ (by omega)),cellset_ne (ne _ _ (by omega)),cellset_ne (ne _ _ (by omega))]
  exact cellset_eq q0
 ·rw[cellset_ne (ne _ _ (by omega)),cellset_ne (ne _ _ (by omega)),cellset_ne (ne _ _ (by omega)),cellset_ne (ne _ _ (by omega))]
  exact cellset_eq (by rw[cellset_ne (ne _ _ (by omega))];exact q1)
 ·rw[cellset_ne (ne _ _ (by omega)),cellset_ne (ne _ _ (by omega)),cellset_ne (ne _ _ (by omega))]
  exact cellset_eq (by rw[cellset_ne (ne _ _ (by omega)),cellset_ne (ne _ _ (by omega))];exact q2)
 ·rw[cellset_ne (ne _ _ (by omega)),cellset_ne (ne _ _ (by omega))]
  exact cellset_eq (by rw[cellset_ne (ne _ _ (by omega)),cellset_ne (ne _ _ (by omega)),cellset_ne (ne _ _ (by omega))];exact q3)
 ·rw[cellset_ne (ne _ _ (by omega))]
  exact cellset_eq (by rw[cellset_ne (ne _ _ (by omega)),cellset_ne (ne _ _ (by omega)),cellset_ne (ne _ _ (by omega)),cellset_ne (ne _ _ (by omega))];exact q4)
 ·exact cellset_eq (by rw[cellset_ne (ne _ _ (by omega)),cellset_ne (ne _ _ (by omega)),cellset_ne (ne _ _ (by omega)),cellset_ne (ne _ _ (by omega)),cellset_ne (ne _ _ (by omega))];exact q5)
 have hne (i:Nat) (hi:i<6):(⟨g,o+i,none⟩:Addr)≠p:=fun e=>by
  rw[← e] at hp
  simp only at hp
  omega
 rw[cellset_ne (hne 5 (by omega)),cellset_ne (hne 4 (by omega)),cellset_ne (hne 3 (by omega)),cellset_ne (hne 2 (by omega)),cellset_ne (hne 1 (by omega))]
 exact cellset_ne (hne 0 (by omega))
theorem RowC.stored {w W:World} {g k:Nat} {xs:List Ex} {x y:Ex} (h:RowC w g xs) (hk:xs[k]? = some y) (hs:Stored6 g (k*6) x w W):RowC W g (xs.set k x) :=
 h.set hk hs.1 (fun p hp _=>hs.2.1 p hp) hs.2.2.1 hs.2.2.2.1
end
section
open Go.RowKit Go.Sort
theorem new6 (u:World) (x:Ex) (s:Nat) (h:u.heap.size=s):(u.alloc (.cells #[.int .i64 x.kind,.int .i64 x.rn,.int .i64 x.rd,.string x.name,.int .i64 x.pw,.slice x.a x.l.length x.c] 71)).cell? ⟨s,0,none⟩=some (.int .i64 x.kind)∧(u.alloc (.cells #[.int .i64 x.kind,.int .i64 x.rn,.int .i64 x.rd,.string x.name,.int .i64 x.pw,.slice x.a x.l.length x.c] 71)).cell? ⟨s,1,none⟩=some (.int .i64 x.rn)∧(u.alloc (.cells #[.int .i64 x.kind,.int .i64 x.rn,.int .i64 x.rd,.string x.name,.int .i64 x.pw,.slice x.a x.l.length x.c] 71)).cell? ⟨s,2,none⟩=some (.int .i64 x.rd)∧(u.alloc (.cells #[.int .i64 x.kind,.int .i64 x.rn,.int .i64 x.rd,.string x.name,.int .i64 x.pw,.slice x.a x.l.length x.c] 71)).cell? ⟨s,3,none⟩=some (.string x.name)∧(u.alloc (.cells #[.int .i64 x.kind,.int .i64 x.rn,.int .i64 x.rd,.string x.name,.int .i64 x.pw,.slice x.a x.l.length x.c] 71)).cell? ⟨s,4,none⟩=some (.int .i64 x.pw)∧(u.alloc (.cells #[.int .i64 x.kind,.int .i64 x.rn,.int .i64 x.rd,.string x.name,.int .i64 x.pw,.slice x.a x.l.length x.c] 71)).cell? ⟨s,5,none⟩=some (.slice x.a x.l.length x.c):=by subst h;simp
theorem newF (u:World) (v:Array Value) (t:TypeId) (s i:Nat) (h:u.heap.size=s):(u.alloc (.cells v t)).frozen? ⟨s,i,none⟩=false:=by subst h;simp
def Ex.zero:Ex:=.mk 0 0 0 ⟨#[]⟩ 0 none 0 []
def BoxX (w:World) (g:Nat) (x:Ex):Prop:=(w.cell? ⟨g,0,none⟩=some (.int .i64 x.kind)∧w.cell? ⟨g,1,none⟩=some (.int .i64 x.rn)∧w.cell? ⟨g,2,none⟩=some (.int .i64 x.rd)∧w.cell? ⟨g,3,none⟩=some (.string x.name)∧w.cell? ⟨g,4,none⟩=some (.int .i64 x.pw)∧w.cell? ⟨g,5,none⟩=some (.slice x.a x.l.length x.c))∧(∀ i,w.frozen? ⟨g,i,none⟩=false)∧g<w.heap.size
theorem BoxX.kp {w w':World} {g:Nat} {x:Ex} (h:BoxX w g x) (k:Kp w w'):BoxX w' g x :=
 ⟨keepE6 k h.1,fun i=>(frozen_kpT k h.2.2).trans (h.2.1 i),Nat.lt_of_lt_of_le h.2.2 k.size⟩
theorem BoxX.new (u:World) (x:Ex) (s:Nat) (h:u.heap.size=s):BoxX (u.alloc (.cells #[.int .i64 x.kind,.int .i64 x.rn,.int .i64 x.rd,.string x.name,.int .i64 x.pw,.slice x.a x.l.length x.c] 71)) s x :=
 ⟨new6 u x s h,fun i=>newF u _ _ s i h,by subst h;simp⟩
theorem BoxX.other {w W:World} {g:Nat} {x:Ex} (h:BoxX w g x) (hc:∀ p:Addr,p.block=g→W.cell? p=w.cell? p) (hf:∀ p,W.frozen? p=w.frozen? p) (hz:W.heap.size=w.heap.size):BoxX W g x :=
 ⟨⟨(hc _ rfl).trans h.1.1,(hc _ rfl).trans h.1.2.1,(hc _ rfl).trans h.1.2.2.1,(hc _ rfl).trans h.1.2.2.2.1,(hc _ rfl).trans h.1.2.2.2.2.1,(hc _ rfl).trans h.1.2.2.2.2.2⟩,fun i=>(hf _).trans (h.2.1 i),by rw[hz];exact h.2.2⟩
theorem stored60 {w W:World} {g:Nat} {y:Ex} (x:Ex) (h:BoxX w g y)
  (hW:((((((w.setCell ⟨g,0,none⟩ (.int .i64 x.kind)).setCell ⟨g,1,none⟩ (.int .i64 x.rn)).setCell ⟨g,2,none⟩ (.int .i64 x.rd)).setCell ⟨g,3,none⟩ (.string x.name)).setCell ⟨g,4,none⟩ (.int .i64 x.pw)).setCell ⟨g,5,none⟩ (.slice x.a x.l.length x.c))=W) :
  Stored6 g 0 x w W:=by
 subst hW
 exact stored6X (o:=0) x (y:=y) h.1
theorem BoxX.stored {w W:World} {g:Nat} {x y:Ex} (h:BoxX w g y) (hs:Stored6 g 0 x w W):BoxX W g x:=by
 obtain⟨⟨q0,q1,q2,q3,q4,q5⟩,_,h2,h3,_⟩:=hs
 exact⟨⟨q0,q1,q2,q3,q4,q5⟩,fun i=>(h2 _).trans (h.2.1 i),by rw[h3];exact h.2.2⟩
theorem RowC.fr6 {w:World} {g k:Nat} {xs:List Ex} (h:RowC w g xs) (hk:k<xs.length):w.frozen? ⟨g,k*6,none⟩=false∧w.frozen? ⟨g,k*6+1,none⟩=false∧w.frozen? ⟨g,k*6+2,none⟩=false∧w.frozen? ⟨g,k*6+3,none⟩=false∧w.frozen? ⟨g,k*6+4,none⟩=false∧w.frozen? ⟨g,k*6+5,none⟩=false :=
 ⟨h.2.1 _ (by omega),h.2.1 _ (by omega),h.2.1 _ (by omega),h.2.1 _ (by omega),h.2.1 _ (by omega),h.2.1 _ (by omega)⟩
theorem ownL_mem {w:World} {x:Ex}:∀ {l:List Ex} {lo hi:Nat},Ex.ownL w l lo hi→x∈l→∃ lo' hi',lo≤lo'∧hi'≤hi∧x.own w lo' hi'
 | y::t,lo,hi,h,hx=>by
  obtain⟨m,h1,h2⟩:=Ex.ownL_cons.1 h
  have h3:=Ex.own_le h1
  have h4:=Ex.ownL_le h2
  rcases List.mem_cons.1 hx with rfl | hx
  ·exact⟨lo,m,Nat.le_refl _,h4,h1⟩
  ·obtain⟨lo',hi',a,b,c⟩:=ownL_mem h2 hx
   exact⟨lo',hi',by omega,b,c⟩
theorem set_done {done l:List Ex} {k:Nat} {x e':Ex} (hd:done.length=k) (hx:l[k]? = some x):(done++l.drop k).set k e'=(done++[e'])++l.drop (k+1):=by
 obtain⟨hk,hx⟩:=List.getElem?_eq_some_iff.1 hx
 rw[List.set_append_right _ _ (by omega),hd,Nat.sub_self,List.drop_eq_getElem_cons hk,List.set_cons_zero,List.append_assoc]
 rfl
theorem get_done {done l:List Ex} {k:Nat} (hd:done.length=k):(done++l.drop k)[k]? = l[k]?:=by
 rw[List.getElem?_append_right (by omega),hd,Nat.sub_self,List.getElem?_drop,Nat.add_zero]
def CopyS (W wr:World) (a':Option Addr) (l:List Ex) (f:Ex→Ex) (k:Nat) (done:List Ex):Prop :=
 (k≤l.length∧done.length=k∧done.map Ex.er=(l.take k).map f)∧(∀ x∈done,x.at wr wr.heap.size)∧Kp W wr∧(l=[]∨∃ g,a'=some ⟨g,0,none⟩∧W.heap.size≤g∧RowC wr g (done++l.drop k)∧Ex.ownL wr done (g+1) wr.heap.size)
theorem CopyS.start {W w2:World} {a':Option Addr} {l:List Ex} {f:Ex→Ex} (k:Kp W w2) (h:l=[]∨∃ g,a'=some ⟨g,0,none⟩∧W.heap.size≤g∧RowC w2 g l):CopyS W w2 a' l f 0 []:=by
 refine⟨⟨by omega,rfl,rfl⟩,fun x hx=>(by cases hx),k,?_⟩
 rcases h with h | ⟨g,h1,h2,h3⟩
 ·exact .inl h
 exact .inr ⟨g,h1,h2,h3,Ex.ownL_nil.2 h3.2.2⟩
theorem CopyS.step {W wr w1 w3 W4:World} {a':Option Addr} {l:List Ex} {f:Ex→Ex} {k g:Nat} {done:List Ex} {x e':Ex} (h:CopyS W wr a' l f k done) (hx:l[k]? = some x) (ha:a'=some ⟨g,0,none⟩)
  (k1:Kp wr w1) (k3:Kp w1 w3) (he:e'.er=f x) (hm:e'.made w1 w3) (hs:Stored6 g (k*6) e' w3 W4):CopyS W W4 a' l f (k+1) (done++[e']):=by
 obtain⟨⟨h1,h2,h3⟩,h4,h5,h6⟩:=h
 have hk:=(List.getElem?_eq_some_iff.1 hx).1
 have kw:=k1.trans k3
 rcases h6 with h6 | ⟨g',e,hg,hr,ho⟩
 ·rw[h6] at hx;simp at hx
 rw[ha] at e
 cases e
 have hz:W4.heap.size=w3.heap.size:=hs.2.2.2.1
 have hgl:g+1≤wr.heap.size:=Ex.ownL_le ho
 have ho3:Ex.ownL w3 done (g+1) wr.heap.size:=Ex.ownL_kp ho fun b i _ hb=>frozen_kpT kw hb
 have hcell:∀ b i v,g+1≤b→w3.cell? ⟨b,i,none⟩=some v→W4.cell? ⟨b,i,none⟩=some v:=fun b i v hb hc=>by
  rw[hs.2.1 ⟨b,i,none⟩ (.inl (by show b≠g;omega))];exact hc
 refine⟨⟨by omega,by simp[h2],?_⟩,fun y hy=>?_,hs.2.2.2.2 W (h5.trans kw) hg,.inr ⟨g,ha,hg,?_,?_⟩⟩
 ·rw[List.map_append,h3,List.map_cons,List.map_nil,he,List.take_add_one,hx,List.map_append];rfl
 ·rcases List.mem_append.1 hy with hy | hy
  ·obtain⟨lo,hi,q1,q2,q3⟩:=ownL_mem ho3 hy
   exact Ex.at_own' (by rw[hz];exact Nat.le_refl _) y lo hi q3 (fun b i v hb _ hc=>hcell b i v (by omega) hc) (Ex.at_up (Ex.at_kp (h4 y hy) kw) kw.size)
  rcases List.mem_singleton.1 hy with rfl
  exact Ex.at_own' (by rw[hz];exact Nat.le_refl _) y _ _ hm.2 (fun b i v hb _ hc=>hcell b i v (by have:=k1.size;omega) hc) hm.1
 ·have hr3:RowC w3 g (done++l.drop k):=hr.kp kw
  have:=RowC.stored hr3 ((get_done h2).trans hx) hs
  rw[set_done h2 hx] at this
  exact this
 refine Ex.ownL_snoc (m:=wr.heap.size) (Ex.ownL_kp ho3 fun b i _ _=>hs.2.2.1 _) ?_
 rw[hz]
 exact Ex.own_same _ _ _ (fun b i _ _=>hs.2.2.1 _) (Ex.own_down hm.2 k1.size)
theorem CopyS.end {W wr W4:World} {a':Option Addr} {l:List Ex} {f:Ex→Ex} {done:List Ex} {k r d p:Int} {s:ByteArray} {c' lo:Nat} (h:CopyS W wr a' l f l.length done) (hlo:lo≤W.heap.size)
  (hc:∀ b i v,W.heap.size≤b→wr.cell? ⟨b,i,none⟩=some v→W4.cell? ⟨b,i,none⟩=some v) (hf:∀ p,W4.frozen? p=wr.frozen? p) (hz:W4.heap.size=wr.heap.size)
  (hlc:l.length≤c') (hcm:c'≤maxLen) (hs:s.size≤maxLen) (hl:l.length≤1048576) :
  (Ex.mk k r d s p a' c' done).at W4 W4.heap.size∧(Ex.mk k r d s p a' c' done).own W4 lo W4.heap.size∧done.map Ex.er=l.map f:=by
 obtain⟨⟨h1,h2,h3⟩,h4,h5,h6⟩:=h
 rw[List.take_length] at h3
 have hn:done.length=l.length:=h2
 have hsz:=h5.size
 rcases h6 with h6 | ⟨g,e,hg,hr,ho⟩
 ·have hd:done=[]:=by rw[h6] at hn;exact List.length_eq_zero_iff.1 hn
  subst hd
  refine⟨Ex.at_iff.2 ⟨⟨Nat.zero_le _,hcm,hs,Nat.zero_le _⟩,fun i x hx=>by simp[Ex.l] at hx,fun x hx=>by simp[Ex.l] at hx⟩,Ex.own_iff.2 ⟨by omega,.inl rfl⟩,h3⟩
 subst e
 rw[List.drop_length,List.append_nil] at hr
 refine⟨Ex.at_iff.2 ⟨⟨?_,hcm,hs,?_⟩,fun i x hx=>?_,fun x hx=>?_⟩,Ex.own_iff.2 ⟨by omega,.inr ⟨g,rfl,by omega,fun i hi=>(hf _).trans (hr.2.1 i hi),Ex.ownL_kp (by rw[hz];exact ho) fun b i _ _=>hf _⟩⟩,h3⟩
 ·show done.length≤c';omega
 ·show done.length≤1048576;omega
 ·obtain⟨q0,q1,q2,q3,q4,q5⟩:=hr.1 i x hx
  have e:0+i*6=i*6:=by omega
  refine⟨g,0,rfl,by rw[hz];exact hr.2.2,?_⟩
  rw[e]
  exact⟨hc _ _ _ hg q0,hc _ _ _ hg q1,hc _ _ _ hg q2,hc _ _ _ hg q3,hc _ _ _ hg q4,hc _ _ _ hg q5⟩
 obtain⟨lo',hi',q1,q2,q3⟩:=ownL_mem ho hx
 exact Ex.at_own' (by rw[hz];exact Nat.le_refl _) x _ _ q3 (fun b i v hb _ hcc=>hc b i v (by omega) hcc) (h4 x hx)
def CloneAt (e:Ex):Prop:=∀ (B:Nat) (w:World),e.at w B→B≤w.heap.size→Calls Tryz.prog 158 #[.agg #[.int .i64 e.kind,.int .i64 e.rn,.int .i64 e.rd,.string e.name,.int .i64 e.pw,.slice e.a e.l.length e.c]] w fun r w'=>∃ e':Ex,r=.returned (.agg #[.int .i64 e'.kind,.int .i64 e'.rn,.int .i64 e'.rd,.string e'.name,.int .i64 e'.pw,.slice e'.a e'.l.length e'.c])∧e'.er=e.er∧Kp w w'∧e'.made w w'
end
section
open Go.RowKit Go.Sort
theorem clone_anyT:∀ e:Ex,CloneAt e:=by
 refine Ex.ind fun e ih B w hat hB=>?_
 have k1:Kp w ((w.alloc (.cells #[.int .i64 e.kind,.int .i64 e.rn,.int .i64 e.rd,.string e.name,.int .i64 e.pw,.slice e.a e.l.length e.c] 71)).alloc (.cells #[.int .i64 0,.int .i64 0,.int .i64 0,.string ⟨#[]⟩,.int .i64 0,.slice none 0 0] 71)):=((Kp.refl w).alloc _).alloc _
 have hB1:BoxX ((w.alloc (.cells #[.int .i64 e.kind,.int .i64 e.rn,.int .i64 e.rd,.string e.name,.int .i64 e.pw,.slice e.a e.l.length e.c] 71)).alloc (.cells #[.int .i64 0,.int .i64 0,.int .i64 0,.string ⟨#[]⟩,.int .i64 0,.slice none 0 0] 71)) w.heap.size e:=(BoxX.new w e _ rfl).kp ((Kp.refl _).alloc _)
 have hB2:BoxX ((w.alloc (.cells #[.int .i64 e.kind,.int .i64 e.rn,.int .i64 e.rd,.string e.name,.int .i64 e.pw,.slice e.a e.l.length e.c] 71)).alloc (.cells #[.int .i64 0,.int .i64 0,.int .i64 0,.string ⟨#[]⟩,.int .i64 0,.slice none 0 0] 71)) (w.heap.size+1) Ex.zero:=BoxX.new _ Ex.zero _ (by simp)
 have hz0:((w.alloc (.cells #[.int .i64 e.kind,.int .i64 e.rn,.int .i64 e.rd,.string e.name,.int .i64 e.pw,.slice e.a e.l.length e.c] 71)).alloc (.cells #[.int .i64 0,.int .i64 0,.int .i64 0,.string ⟨#[]⟩,.int .i64 0,.slice none 0 0] 71)).heap.size=w.heap.size+2:=by simp
 obtain⟨⟨hlc,hcm,hnm,hl⟩,hrow,hch⟩:=Ex.at_iff.1 hat
 go_enter Tryz.func158,Tryz.ntmps158
 go_upto_region 1 with fail
 generalize World.alloc _ _=W at *
 have HC:=hid (clonex_any e.a e.c B e.l W (hrow.kp k1) (by omega))
 have HI:=hid fun x hx=>ih x hx
 have HA:=hid fun x hx=>Ex.at_kp (hch x hx) k1
 have K1:=hid k1
 have HZ:=hid hz0
 have HB2:=hid hB2
 have HB1:=hid hB1
 obtain⟨⟨q0,q1,q2,q3,q4,q5⟩,qf,_⟩:=hB1
 clear hrow hch ih k1 hat hB2 hz0 qf
 go_upto_region 2 with (go_at_call 159;go_fit HC.out;rintro r W2 ⟨a',c',rfl,hc1,hc2,k2,hd⟩)
 have hS:=CopyS.start (f:=Ex.er) k2 (hd.imp id fun ⟨g,h1,h2,h3⟩=>⟨g,h1,h2,h3⟩)
 clear k2 hd q0 q1 q2 q3 q4 q5 HC
 go_wp2
 go_loopw [10] (fun x wr=>∃ (k:Nat) (done:List Ex),x=.int .i64 (k:Int)∧CopyS W wr a' e.l Ex.er k done) (fun x _=>e.l.length-(intOf x).toNat)
 case atStart=>exact⟨0,[],rfl,hS⟩
 case round =>
 obtain⟨k,done,rfl,hs⟩:=hrel
 clear hS
 have hk:=hs.1.1
 by_cases hlt:k<e.l.length
 ·obtain⟨x,hx⟩:∃ x,e.l[k]? = some x:=⟨_,List.getElem?_eq_getElem hlt⟩
  have hxm:=List.mem_of_getElem? hx
  obtain⟨g,rfl,hg,hr⟩:∃ g,a'=some ⟨g,0,none⟩∧W.heap.size≤g∧RowC wr g (done++e.l.drop k):=by
   rcases hs.2.2.2 with h | ⟨g,h1,h2,h3,_⟩
   ·rw[h] at hlt;exact absurd hlt (Nat.not_lt_zero _)
   ·exact⟨g,h1,h2,h3⟩
  obtain⟨h0,h1,h2,h3,h4,h5⟩:=hr.1 k x ((get_done hs.1.2.1).trans hx)
  have HX:=hid (HI.out x hxm B wr (Ex.at_kp (HA.out x hxm) hs.2.2.1) (by have:=hs.2.2.1.size;have:=HZ.out;omega))
  have Hs:=hid hs
  have Hx:=hid hx
  have Hr:=hid hr
  clear hs hx hxm hr
  go_wp2_with (go_at_call 158;go_fit HX.out;rintro r w3 ⟨e',rfl,he,k3,hm⟩;obtain⟨f0,f1,f2,f3,f4,f5⟩:=(Hr.out.kp k3).fr6 (k:=k) (by have:=Hs.out.1.2.1;simp;omega);obtain⟨t0,t1,t2,t3,t4,t5⟩:=(Hr.out.kp k3).1 k x ((get_done Hs.out.1.2.1).trans Hx.out))
  generalize hW4:((((((w3.setCell _ _).setCell _ _).setCell _ _).setCell _ _).setCell _ _).setCell _ _)=W4
  have hst:Stored6 g (k*6) e' w3 W4:=by
   subst hW4
   exact stored6X e' ((Hr.out.kp k3).1 k x ((get_done Hs.out.1.2.1).trans Hx.out))
  clear hW4
  go_roundw
  case measure=>simp[intOf];omega
  case rel=>exact⟨k+1,done++[e'],by go_num,Hs.out.step Hx.out rfl (.refl _) k3 he hm hst⟩
 obtain rfl:k=e.l.length:=by omega
 obtain⟨⟨q0,q1,q2,q3,q4,q5⟩,qf,_⟩:=HB1.out.kp hs.2.2.1
 obtain⟨⟨z0,z1,z2,z3,z4,z5⟩,zf,_⟩:=HB2.out.kp hs.2.2.1
 have f5:=qf 5
 have g0:=zf 0
 have g1:=zf 1
 have g2:=zf 2
 have g3:=zf 3
 have g4:=zf 4
 have g5:=zf 5
 have Hs:=hid hs
 clear hs qf zf
 go_wp2
 generalize hW4:(((((((wr.setCell _ _).setCell _ _).setCell _ _).setCell _ _).setCell _ _).setCell _ _).setCell _ _)=W4
 have hn:=Hs.out.1.2.1
 have kw:=K1.out.trans Hs.out.2.2.1
 have hz:=HZ.out
 rw[← hn] at hW4
 have hb2:BoxX (wr.setCell ⟨w.heap.size,5,none⟩ (.slice a' done.length c')) (w.heap.size+1) Ex.zero:=(HB2.out.kp Hs.out.2.2.1).other (fun p hp=>cellset_ne (fun e=>by rw[← e] at hp;simp only at hp;omega)) (fun p=>by simp) (by simp)
 have hst:Stored6 (w.heap.size+1) 0 (.mk e.kind e.rn e.rd e.name e.pw a' c' done) (wr.setCell ⟨w.heap.size,5,none⟩ (.slice a' done.length c')) W4:=stored60 (.mk e.kind e.rn e.rd e.name e.pw a' c' done) hb2 hW4
 obtain⟨r1,r2,r3⟩:=Hs.out.end (W4:=W4) (k:=e.kind) (r:=e.rn) (d:=e.rd) (p:=e.pw) (s:=e.name) (c':=c') (lo:=w.heap.size) (by omega)
  (fun b i v hb hc=>by
   rw[hst.2.1 ⟨b,i,none⟩ (.inl (by show b≠w.heap.size+1;omega)),cellset_ne (fun e=>by injection e with e1;omega)];exact hc)
  (fun p=>(hst.2.2.1 p).trans (by simp)) (hst.2.2.2.1.trans (by simp)) hc1 hc2 hnm hl
 obtain⟨⟨s0,s1,s2,s3,s4,s5⟩,_⟩:=hb2.stored hst
 refine bodyPost_ret (v:=.agg #[.int .i64 e.kind,.int .i64 e.rn,.int .i64 e.rd,.string e.name,.int .i64 e.pw,.slice a' done.length c']) (by simp[results,Tryz.results158,go_sem,s0,s1,s2,s3,s4,s5,Ex.kind,Ex.rn,Ex.rd,Ex.name,Ex.pw,Ex.a,Ex.c,Ex.l]) rfl ?_
 refine⟨.mk e.kind e.rn e.rd e.name e.pw a' c' done,rfl,?_,hst.2.2.2.2 w (kw.set (Nat.le_refl _) _) (by omega),r1,r2⟩
 rw[Ex.er_iff]
 exact⟨⟨rfl,rfl,rfl,rfl,rfl⟩,r3⟩
end
section
open Go.RowKit Go.Sort Go.Maps
def heldR (v:Value):Option (DataW Value×List MemPlace):=some (.held v,[])
structure Turn (b:Nat) (w w':World):Prop where
 kp:∀ a:World,Kp a w→a.heap.size≤b→Kp a w'
 cell:∀ p:Addr,p.block≠b→w'.cell? p=w.cell? p
 frozen:∀ p:Addr,w'.frozen? p=w.frozen? p
 size:w'.heap.size=w.heap.size
theorem turn_of {w w':World} {b:Nat} (h:w.mapTurned w' b):Turn b w w' where
 kp:=fun a k hb=>Below.grown k h.grown k.size (fun j e=>by cases e;exact hb)
 cell:=fun p hp=>by
  obtain⟨es,clock,es',clock',hb,rfl⟩:=h
  have:=ChangeMaps.heap_setBlock_other hb (.map es' clock') hp
  unfold World.cell?
  rw[this]
 frozen:=fun p=>h.frozen p
 size:=by
  obtain⟨es,clock,es',clock',hb,rfl⟩:=h
  simp[ChangeMaps.setBlock]
end
section
open Go.RowKit Go.Sort
end
section
open Go.RowKit Go.Sort
end
section
open Go.RowKit Go.Sort
def SoX (P:Program) (g:FuncId) (cap:Array Value) (l:List Ex) (J R:Nat→World→Prop):Prop :=
 Enters P g∧∀ (k:Nat) (x:Ex),l[k]? = some x→∀ W,J k W→Calls P g (#[.agg #[.int .i64 x.kind,.int .i64 x.rn,.int .i64 x.rd,.string x.name,.int .i64 x.pw,.slice x.a x.l.length x.c]]++cap) W fun e W'=>(e=.returned (.bool true)∧J (k+1) W')∨(e=.returned (.bool false)∧R k W')
theorem every1_any (x:Ex) (g:FuncId) (cap:Array Value) (sb:Nat) (w:World) (Q:Ending→World→Prop) (hb:w.cell? ⟨sb,0,none⟩=some (.func (.func g) #[] cap)) (hE:Enters Tryz.prog g)
  (h:∀ W,Kp w W→Calls Tryz.prog g (#[.agg #[.int .i64 x.kind,.int .i64 x.rn,.int .i64 x.rd,.string x.name,.int .i64 x.pw,.slice x.a x.l.length x.c]]++cap) W fun e W'=>(e=.returned (.bool true)∧Q (.returned (.bool false)) W')∨(e=.returned (.bool false)∧Q (.returned (.bool true)) W')) :
  Calls Tryz.prog 259 #[.agg #[.int .i64 x.kind,.int .i64 x.rn,.int .i64 x.rd,.string x.name,.int .i64 x.pw,.slice x.a x.l.length x.c],.pointer (some ⟨sb,0,none⟩)] w Q:=by
 have k1:Kp w (w.alloc (.cells #[.int .i64 x.kind,.int .i64 x.rn,.int .i64 x.rd,.string x.name,.int .i64 x.pw,.slice x.a x.l.length x.c] 71)):=(Kp.refl w).alloc _
 have hS:((w.alloc (.cells #[.int .i64 x.kind,.int .i64 x.rn,.int .i64 x.rd,.string x.name,.int .i64 x.pw,.slice x.a x.l.length x.c] 71)).cell? ⟨w.heap.size,0,none⟩=some (.int .i64 x.kind)∧(w.alloc (.cells #[.int .i64 x.kind,.int .i64 x.rn,.int .i64 x.rd,.string x.name,.int .i64 x.pw,.slice x.a x.l.length x.c] 71)).cell? ⟨w.heap.size,1,none⟩=some (.int .i64 x.rn)∧(w.alloc (.cells #[.int .i64 x.kind,.int .i64 x.rn,.int .i64 x.rd,.string x.name,.int .i64 x.pw,.slice x.a x.l.length x.c] 71)).cell? ⟨w.heap.size,2,none⟩=some (.int .i64 x.rd)∧(w.alloc (.cells #[.int .i64 x.kind,.int .i64 x.rn,.int .i64 x.rd,.string x.name,.int .i64 x.pw,.slice x.a x.l.length x.c] 71)).cell? ⟨w.heap.size,3,none⟩=some (.string x.name)∧(w.alloc (.cells #[.int .i64 x.kind,.int .i64 x.rn,.int .i64 x.rd,.string x.name,.int .i64 x.pw,.slice x.a x.l.length x.c] 71)).cell? ⟨w.heap.size,4,none⟩=some (.int .i64 x.pw)∧(w.alloc (.cells #[.int .i64 x.kind,.int .i64 x.rn,.int .i64 x.rd,.string x.name,.int .i64 x.pw,.slice x.a x.l.length x.c] 71)).cell? ⟨w.heap.size,5,none⟩=some (.slice x.a x.l.length x.c)):=by simp
 have hgo:∀ args w,(callFunc g args).run Tryz.prog w=.ok (.enter g args) w:=hE
 go_enter Tryz.func259,Tryz.ntmps259
 go_upto_region 1 with fail
 generalize w.alloc _=W at *
 have hb1:=k1.cell hb
 have HX:=hid (h W k1)
 clear h hb k1
 obtain⟨q0,q1,q2,q3,q4,q5⟩:=hS
 go_wp2_with (refine HX.out.mono ?_;rintro e w2 (⟨rfl,hq⟩ | ⟨rfl,hq⟩))
 ·exact hq
 exact hq
theorem every_any (a:Option Addr) (l:List Ex) (c:Nat) (g:FuncId) (cap:Array Value) (w:World) (Q:Ending→World→Prop) (hm:l.length≤1100000)
  (h:∀ W sb,Kp w W→w.heap.size≤sb→W.heap[sb]? = some (.cells #[.func (.func g) #[] cap] 76 (0,0))→∃ (B:Nat) (J R:Nat→World→Prop),J 0 W ∧
   (∀ k W,J k W→RowX W B a l∧W.cell? ⟨sb,0,none⟩=some (.func (.func g) #[] cap))∧(∀ k W W',J k W→Kp W W'→J k W')∧SoX Tryz.prog g cap l J R ∧
   (∀ W,J l.length W→Q (.returned (.bool true)) W)∧∀ k W,R k W→Q (.returned (.bool false)) W) :
  Calls Tryz.prog 227 #[.slice a l.length c,.func (.func g) #[] cap] w Q:=by
 have H:=hid (h (w.alloc (.cells #[.func (.func g) #[] cap] 76)) w.heap.size ((Kp.refl w).alloc _) (Nat.le_refl _) (heap_alloc_new _ _))
 clear h
 go_enter Tryz.func227,Tryz.ntmps227
 go_upto_region 1 with fail
 generalize w.alloc _=W at *
 obtain⟨B,J,R,h0,hrow,hkp,hso,hT,hF⟩:=H.out
 have HC:=hid (containsX a l c B 259 #[.pointer (some ⟨w.heap.size,0,none⟩)] W J R hm (fun k W h=>(hrow k W h).1) h0
  ⟨fun _ _=>by kernel_rfl,fun k x hx W hW=>every1_any x g cap w.heap.size W _ (hrow k W hW).2 hso.1 fun W' k'=>(hso.2 k x hx W' (hkp k W W' hW k')).mono fun e W2 h=>h.elim
   (fun ⟨e1,h1⟩=>.inl ⟨e1,.inr ⟨rfl,h1⟩⟩) (fun ⟨e1,h1⟩=>.inr ⟨e1,.inl ⟨rfl,h1⟩⟩)⟩)
 have HT:=hid hT
 have HF:=hid hF
 clear H h0 hrow hkp hso hT hF
 go_wp2_with (go_at_call 91;go_fit HC.out;rintro r w2 (⟨rfl,k,hk,hr⟩ | ⟨rfl,hj⟩))
 ·exact HF.out _ _ hr
 exact HT.out _ hj
end
section
open Go.RowKit Go.Sort Go.Shelf
def CellsAt (W:World) (k:Nat):Prop:=∃ vs t fr,W.heap[k]? = some (.cells vs t fr)
theorem cellsAt_of {W:World} {b i:Nat} {v:Value} (h:W.cell? ⟨b,i,none⟩=some v):CellsAt W b:=by
 unfold World.cell? at h
 cases hb:W.heap[b]? with
 | none=>simp[hb] at h
 | some o =>
 cases o with
 | cells vs t fr=>exact⟨vs,t,fr,hb⟩
 | _=>simp[hb] at h
def CellKp (W W':World):Prop:=W.heap.size≤W'.heap.size∧∀ k,CellsAt W k→W'.heap[k]? = W.heap[k]?
structure Turf where
 X:World→Nat→Prop
 G:World→Prop
 lt:∀ W k,G W→X W k→k<W.heap.size
 kp':∀ W W',G W→CellKp W W'→G W'∧∀ k,X W' k→X W k
theorem CellsAt.lt {W:World} {k:Nat} (h:CellsAt W k):k<W.heap.size:=by
 obtain⟨_,_,_,h⟩:=h
 exact (Array.getElem?_eq_some_iff.1 h).1
theorem Kp.cells {W W':World} (k:Kp W W'):CellKp W W':=⟨k.size,fun j hj=>k.block j hj.lt⟩
theorem Turf.kp (T:Turf) (W W':World) (h:T.G W) (k:Kp W W'):T.G W'∧∀ j,T.X W' j→T.X W j:=T.kp' W W' h k.cells
structure Safe (T:Turf) (M:Nat→Prop) (W:World):Prop where
 g:T.G W
 cells:∀ k,M k→CellsAt W k
 off:∀ k,M k→¬ T.X W k
def Grown (T:Turf) (M:Nat→Prop) (W W':World):Prop:=Safe T M W'∧∀ k,M k→W'.heap[k]? = W.heap[k]?
def KpT (T:Turf) (W W':World):Prop:=∀ M,Safe T M W→Grown T M W W'
theorem Grown.refl {T:Turf} {M:Nat→Prop} {W:World} (h:Safe T M W):Grown T M W W:=⟨h,fun _ _=>rfl⟩
theorem Grown.trans {T:Turf} {M:Nat→Prop} {A B C:World} (h:Grown T M A B) (k:Grown T M B C):Grown T M A C:=⟨k.1,fun j hj=>(k.2 j hj).trans (h.2 j hj)⟩
theorem Safe.mono {T:Turf} {M M':Nat→Prop} {W:World} (h:Safe T M' W) (hm:∀ k,M k→M' k):Safe T M W:=⟨h.g,fun k hk=>h.cells k (hm k hk),fun k hk=>h.off k (hm k hk)⟩
theorem Grown.mono {T:Turf} {M M':Nat→Prop} {W W':World} (h:Grown T M' W W') (hm:∀ k,M k→M' k):Grown T M W W':=⟨h.1.mono hm,fun k hk=>h.2 k (hm k hk)⟩
theorem KpT.trans {T:Turf} {A B C:World} (h:KpT T A B) (k:KpT T B C):KpT T A C:=fun M hM=>(h M hM).trans (k M (h M hM).1)
theorem CellsAt.same {W W':World} {k:Nat} (h:CellsAt W k) (e:W'.heap[k]? = W.heap[k]?):CellsAt W' k:=by
 obtain⟨a,b,c,h⟩:=h
 exact⟨a,b,c,e.trans h⟩
theorem Safe.kp {T:Turf} {M:Nat→Prop} {W W':World} (h:Safe T M W) (k:Kp W W'):Grown T M W W':=by
 have e:∀ j,M j→W'.heap[j]? = W.heap[j]?:=fun j hj=>k.block j (h.cells j hj).lt
 exact⟨⟨(T.kp W W' h.g k).1,fun j hj=>(h.cells j hj).same (e j hj),fun j hj hx=>h.off j hj ((T.kp W W' h.g k).2 j hx)⟩,e⟩
theorem Safe.cellKp {T:Turf} {M:Nat→Prop} {W W':World} (h:Safe T M W) (k:CellKp W W'):Grown T M W W':=by
 have e:∀ j,M j→W'.heap[j]? = W.heap[j]?:=fun j hj=>k.2 j (h.cells j hj)
 exact⟨⟨(T.kp' W W' h.g k).1,fun j hj=>(h.cells j hj).same (e j hj),fun j hj hx=>h.off j hj ((T.kp' W W' h.g k).2 j hx)⟩,e⟩
theorem kpT_put {T:Turf} (W:World) (l:Nat) (o o':Obj) (hl:W.heap[l]? = some o) (ho:o.isCells=false):KpT T W (W.putObj l o'):=fun _ h =>
 h.cellKp ⟨by simp,fun k hk=>World.putObj_heap_other (fun e=>by
  subst e
  obtain⟨vs,t,fr,hc⟩:=hk
  rw[hl] at hc
  cases hc
  cases ho)⟩
theorem kpT_of {T:Turf} {W W':World} (_hs:W.heap.size≤W'.heap.size) (hc:∀ k,CellsAt W k→¬ T.X W k→W'.heap[k]? = W.heap[k]?) (hG:T.G W→T.G W') (hX:T.G W→∀ k,T.X W' k→T.X W k∨W.heap.size≤k):KpT T W W':=fun M h=>by
 have e:∀ j,M j→W'.heap[j]? = W.heap[j]?:=fun j hj=>hc j (h.cells j hj) (h.off j hj)
 refine⟨⟨hG h.g,fun j hj=>(h.cells j hj).same (e j hj),fun j hj hx=>?_⟩,e⟩
 rcases hX h.g j hx with h1 | h1
 ·exact h.off j hj h1
 ·have:=(h.cells j hj).lt;omega
theorem Kp.kpT {T:Turf} {W W':World} (k:Kp W W'):KpT T W W':=fun _ h=>h.kp k
theorem Safe.add {T:Turf} {M:Nat→Prop} {W W':World} (h:Safe T M W) (k:Kp W W') (N:Nat→Prop) (hN:∀ j,N j→W.heap.size≤j∧CellsAt W' j):Safe T (fun j=>M j∨N j) W':=by
 have h1:=(h.kp k).1
 refine⟨h1.g,fun j hj=>hj.elim (h1.cells j) fun hn=>(hN j hn).2,fun j hj=>hj.elim (h1.off j) fun hn hx=>?_⟩
 have:=T.lt W j h.g ((T.kp W W' h.g k).2 j hx)
 have:=(hN j hn).1
 omega
mutual
def Ex.inM (M:Nat→Prop):Ex→Prop | .mk _ _ _ _ _ a _ l=>(l=[]∨∃ b,a=some ⟨b,0,none⟩∧M b)∧Ex.inML M l
def Ex.inML (M:Nat→Prop):List Ex→Prop | []=>True | x::t=>x.inM M∧Ex.inML M t
end
theorem Ex.inML_iff {M:Nat→Prop} {l:List Ex}:Ex.inML M l↔∀ x∈l,x.inM M:=by
 induction l with
 | nil=>rw[Ex.inML];simp
 | cons x t ih =>
  rw[Ex.inML,ih]
  exact⟨fun h y hy=>(List.mem_cons.1 hy).elim (fun e=>e▸h.1) (h.2 y),fun h=>⟨h x (.head _),fun y hy=>h y (.tail _ hy)⟩⟩
theorem Ex.inM_iff {M:Nat→Prop} {e:Ex}:e.inM M↔(e.l=[]∨∃ b,e.a=some ⟨b,0,none⟩∧M b)∧∀ x∈e.l,x.inM M:=by
 cases e;rw[Ex.inM,Ex.inML_iff];exact Iff.rfl
theorem Ex.inM_mono {M M':Nat→Prop} (hm:∀ k,M k→M' k):∀ e:Ex,e.inM M→e.inM M':=by
 refine Ex.ind fun e ih h=>?_
 obtain⟨h1,h2⟩:=Ex.inM_iff.1 h
 exact Ex.inM_iff.2 ⟨h1.imp id fun ⟨b,e1,hb⟩=>⟨b,e1,hm b hb⟩,fun x hx=>ih x hx (h2 x hx)⟩
theorem cell_same {W W':World} {b:Nat} (h:W'.heap[b]? = W.heap[b]?) (i:Nat):W'.cell? ⟨b,i,none⟩=W.cell? ⟨b,i,none⟩:=by
 unfold World.cell?
 simp only[h]
theorem rowX_same {W W':World} {B:Nat} {l:List Ex} {a:Option Addr} (h:RowX W B a l) (ha:l=[]∨∃ b,a=some ⟨b,0,none⟩∧W'.heap[b]? = W.heap[b]?):RowX W' B a l:=by
 intro i x hx
 rcases ha with e | ⟨b,e,hb⟩
 ·rw[e] at hx;simp at hx
 obtain⟨b',o,e1,h0,c0,c1,c2,c3,c4,c5⟩:=h i x hx
 rw[e] at e1
 cases e1
 exact⟨b,0,e,h0,(cell_same hb _).trans c0,(cell_same hb _).trans c1,(cell_same hb _).trans c2,(cell_same hb _).trans c3,(cell_same hb _).trans c4,(cell_same hb _).trans c5⟩
theorem Ex.at_inM {M:Nat→Prop} {W W':World} {B:Nat} (hs:∀ k,M k→W'.heap[k]? = W.heap[k]?):∀ e:Ex,e.inM M→e.at W B→e.at W' B:=by
 refine Ex.ind fun e ih h hat=>?_
 obtain⟨h1,h2⟩:=Ex.inM_iff.1 h
 obtain⟨a1,a2,a3⟩:=Ex.at_iff.1 hat
 exact Ex.at_iff.2 ⟨a1,rowX_same a2 (h1.imp id fun ⟨b,e1,hb⟩=>⟨b,e1,hs b hb⟩),fun x hx=>ih x hx (h2 x hx) (a3 x hx)⟩
theorem inM_own {w:World} {B:Nat}:∀ (e:Ex) (lo hi:Nat),e.own w lo hi→e.at w B→e.inM (fun k=>lo≤k∧CellsAt w k):=by
 refine Ex.ind fun e ih lo hi ho hat=>?_
 obtain⟨_,ho2⟩:=Ex.own_iff.1 ho
 obtain⟨a1,a2,a3⟩:=Ex.at_iff.1 hat
 rcases ho2 with he | ⟨b,ha,hb,_,hL⟩
 ·exact Ex.inM_iff.2 ⟨.inl he,fun x hx=>by rw[he] at hx;cases hx⟩
 refine Ex.inM_iff.2 ⟨?_,fun x hx=>?_⟩
 ·cases hl:e.l with
  | nil=>exact .inl rfl
  | cons x t =>
  obtain⟨b',o,e1,_,c0,_⟩:=a2 0 x (by rw[hl];rfl)
  rw[ha] at e1
  cases e1
  exact .inr ⟨b,ha,hb,cellsAt_of c0⟩
 obtain⟨lo',hi',q1,q2,q3⟩:=ownL_mem hL hx
 exact Ex.inM_mono (fun k hk=>⟨by omega,hk.2⟩) x (ih x hx lo' hi' q3 (a3 x hx))
theorem grown_none {W W':World} (k:Kp W W'):W.grownBy W' none:=⟨k.os,k.tape,k.output,k.size,fun j hj _=>k.block j hj⟩
theorem abides_kp {β:Type} {B:Nat} {J:β→World→Prop} (h:AbidesFrom B J) {s:β} {W W':World} (hj:J s W) (k:Kp W W'):J s W':=h s W W' none hj (grown_none k) (fun r e=>by cases e)
end
end Go.Proofs.YteidgoldnllabaaGreatDoor
