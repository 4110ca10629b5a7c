/-
  Walks: ref16.number.
-/
import Derived.Test.YteidgoldnllabaaGreatDoorMRchN
import Derived.Test.YteidgoldnllabaaGreatDoorMEqoN
set_option maxHeartbeats 16000000
set_option maxRecDepth 20000
namespace Go.Proofs.YteidgoldnllabaaGreatDoor
open Go.RowKit Go.Sort
theorem app_vg {α:Type} {cells:α→List Value} {k:Nat} (hk:∀ x,(cells x).length=k) (h0:0<k) (h1:∀ x,∀ u∈cells x,u.oneCell'=true) {w:World} (t T ty:TypeId) (i0:TypeInfo) (z:Value) (bytes:Nat) (ht:Tryz.prog.underlying t=some (.slice T)) (hi:Tryz.prog.info? T=some i0) (hz:i0.zero=some z) (hsz:i0.size=k) (hby:i0.bytes=bytes) (hzs:z.cells.size=k)
  (wb:World) (v:Value) (zs:List α) (hown:OwnV cells k T wb w v zs) (hn:NnV v) (B:Nat) (a:Option Addr) (c:Nat) (ys:List α) (hrow:RowV cells k w B a ys) (hlen:zs.length+ys.length≤9000000) (hbl:(zs.length+ys.length)*bytes≤140737488355328) :
  ∃ v' w',(Builtin.append_ #[t,t] ty #[v,.slice a ys.length c]).run Tryz.prog w=.ok v' w'∧OwnV cells k T wb w' v' (zs++ys)∧NnV v'∧∀ (g:Nat) (vs:List Value),BoxV w g vs→v.ownBlock≠some g→BoxV w' g vs:=by
 obtain⟨hkk,hown1⟩:=hown
 have main:∀ (ad:Addr),(∀ (i:Nat) (y:α),ys[i]? = some y→∀ (j:Nat) (u:Value),(cells y)[j]? = some u→w.cell? (ad.add (i*k+j))=some u)→∃ v' w',(Builtin.append_ #[t,t] ty #[v,.slice (some ad) ys.length c]).run Tryz.prog w=.ok v' w'∧OwnV cells k T wb w' v' (zs++ys)∧NnV v'∧∀ (g:Nat) (vs:List Value),BoxV w g vs→v.ownBlock≠some g→BoxV w' g vs:=by
  intro ad hr
  obtain⟨v',w',g1,g2,g3,g4,g5⟩:=run_append_own_at (P:=Tryz.prog) w wb.heap.size t ty T i0 z k bytes ht hi hz hsz hby hzs h0 v zs.length (zs.flatMap cells) hown1 ad ys.length c (ys.flatMap cells) (by rw[flatV_len cells k hk]) (by
   intro j u hj
   obtain⟨i,r,y,hy,_,hr2,rfl⟩:=flatV_of cells k hk h0 ys j u hj
   exact hr i y hy r u hr2) (by
   intro u hu
   obtain⟨y,_,hy⟩:=List.mem_flatMap.1 hu
   exact h1 y u hy) (by unfold maxLen;omega) (by omega) hkk.size
  have hb:Below wb.heap.size w w':=(Below.refl wb.heap.size w).grown g3 hkk.size (fun k hk=>(hown1.lt k hk).1)
  have hO:OwnV cells k T wb w' v' (zs++ys):=⟨Below.trans hkk hb,by rw[List.flatMap_append,List.length_append];exact g2⟩
  refine⟨v',w',g1,hO,?_,fun g vs hB hne=>hB.grown g3 hne⟩
  rcases hO.2.2 with ⟨e,_⟩ | ⟨g,cap,cur,e,_,_,hn2,_⟩
  ·obtain⟨ad2,n2,c2,e2,_⟩:=hn
   have:=(g4.1 e).1
   rw[e2] at this
   cases this
  ·exact⟨_,_,_,e,hn2⟩
 cases a with
 | none =>
  have h0:ys=[]:=by
   cases ys with
   | nil=>rfl
   | cons y t =>
    obtain⟨b,o,e,_⟩:=hrow 0 y rfl
    cases e
  subst h0
  obtain⟨ad2,n2,c2,rfl,hle⟩:=hn
  exact⟨_,_,run_append_voidV (P:=Tryz.prog) w t ty T i0 ht hi ad2 n2 c2 _ c rfl hle,⟨hkk,by rw[List.append_nil];exact hown1⟩,⟨_,_,_,rfl,hle⟩,fun g vs hB _=>hB⟩
 | some ad =>
 by_cases hy:ys=[]
 ·subst hy
  exact main ad fun i y h=>by simp at h
 obtain⟨y,t,rfl⟩:∃ y t,ys=y::t:=List.exists_cons_of_ne_nil hy
 obtain⟨b,o,e,_⟩:=hrow 0 y rfl
 cases e
 refine main _ fun i x hx j u hj=>?_
 obtain⟨b2,o2,e2,_,hc⟩:=hrow i x hx
 cases e2
 rw[addr_add,← Nat.add_assoc]
 exact hc j u hj
theorem rowV_box {α:Type} {cells:α→List Value} {k g:Nat} {w:World} {x:α} (h:BoxV w g (cells x)):RowV cells k w w.heap.size (some ⟨g,0,none⟩) [x]:=fun i y hy=>by
 match i,hy with
 | 0,hy =>
  cases hy
  exact⟨g,0,rfl,h.2.2,fun j u hj=>by simpa using h.1 j u hj⟩
 | i+1,hy=>simp at hy
theorem rowV_updB {α:Type} {cells:α→List Value} {k g:Nat} {w W:World} {B:Nat} {a:Option Addr} {zs:List α} (h:RowV cells k w B a zs) (hU:Upd g w W) (hB:B≤g):RowV cells k W B a zs:=fun i x hx=>by
 obtain⟨b,o,e,hb,hc⟩:=h i x hx
 exact⟨b,o,e,hb,fun j v hj=>(hU.2.2.2.1 ⟨b,_,none⟩ (show b≠g by omega)).trans (hc j v hj)⟩
theorem BoxV.upd {w W:World} {g g':Nat} {vs:List Value} (h:BoxV w g' vs) (hU:Upd g w W) (hn:g'≠g):BoxV W g' vs :=
 ⟨fun j v hj=>(hU.2.2.2.1 ⟨g',_,none⟩ hn).trans (h.1 j v hj),fun i=>(hU.1 _).trans (h.2.1 i),by rw[hU.2.2.2.2];exact h.2.2⟩
structure TapI {α:Type} (cells:α→List Value) (k:Nat) (W1 wr:World) (oa:Option Addr) (ops:List α) (oa':Option Addr) (zs:List α):Prop where
 row:RowV cells k wr wr.heap.size oa' zs
 fr:(oa'=oa∧zs=ops)∨∀ b o,oa'=some ⟨b,o,none⟩→W1.heap.size≤b
theorem TapI.upd {α:Type} {cells:α→List Value} {k:Nat} {w W1 wr W:World} {oa oa':Option Addr} {ops zs:List α} (h:TapI cells k W1 wr oa ops oa' zs) (h0:RowV cells k w w.heap.size oa ops) {g:Nat} (hU:Upd g wr W) (g0:w.heap.size≤g) (g1:g<W1.heap.size):TapI cells k W1 W oa ops oa' zs:=by
 refine⟨fun i x hx=>?_,h.fr⟩
 obtain⟨b,o,e,hb,hc⟩:=h.row i x hx
 have hbg:b≠g:=by
  rcases h.fr with ⟨e1,e2⟩ | h2
  ·subst e1 e2
   obtain⟨b2,o2,e3,hb2,_⟩:=h0 i x hx
   rw[e] at e3
   cases e3
   omega
  ·have:=h2 b o e
   omega
 exact⟨b,o,e,by rw[hU.2.2.2.2];exact hb,fun j v hj=>(hU.2.2.2.1 ⟨b,_,none⟩ hbg).trans (hc j v hj)⟩
theorem TapI.kp {α:Type} {cells:α→List Value} {k:Nat} {W1 wr W:World} {oa oa':Option Addr} {ops zs:List α} (h:TapI cells k W1 wr oa ops oa' zs) (q:Kp wr W):TapI cells k W1 W oa ops oa' zs :=
 ⟨(h.row.kp q).up q.size,h.fr⟩
theorem TapI.updA {α:Type} {cells:α→List Value} {k:Nat} {W1 w8 X W:World} {oa oa':Option Addr} {ops zs:List α} (h:TapI cells k W1 w8 oa ops oa' zs) (q:Kp w8 X) {g:Nat} (hU:Upd g X W) (hg:w8.heap.size≤g):TapI cells k W1 W oa ops oa' zs :=
 ⟨(rowV_updB (h.row.kp q) hU hg).up (by rw[hU.2.2.2.2];exact q.size),h.fr⟩
theorem TapI.low {α:Type} {cells:α→List Value} {k:Nat} {w W1 wr:World} {oa oa':Option Addr} {ops zs:List α} (h:TapI cells k W1 wr oa ops oa' zs) (hs:w.heap.size≤W1.heap.size):TapI cells k w wr oa ops oa' zs:=by
 refine⟨h.row,?_⟩
 rcases h.fr with h1 | h1
 ·exact .inl h1
 exact .inr fun b o e=>Nat.le_trans hs (h1 b o e)
theorem TapI.after {α:Type} {cells:α→List Value} {k:Nat} {W1 wr W2 W:World} {oa oa1 oa':Option Addr} {ops zs1 zs:List α} (h:TapI cells k W2 W oa1 zs1 oa' zs) (h1:TapI cells k W1 wr oa ops oa1 zs1) (hs:W1.heap.size≤W2.heap.size):TapI cells k W1 W oa ops oa' zs:=by
 refine⟨h.row,?_⟩
 rcases h.fr with ⟨rfl,rfl⟩ | h2
 ·exact h1.fr
 exact .inr fun b o e=>Nat.le_trans hs (h2 b o e)
theorem tapL_step0 {nm:List ByteArray} {ops:List Opn} {l:List Ex} {x:Ex} (h:l[0]? = some x):tapL nm ops (l.take 1)=((tapN nm (tapL nm ops (l.take 0)).1 x).1,(tapN nm (tapL nm ops (l.take 0)).1 x).2,(tapL nm ops (l.take 0)).2.2):=by
 match l,h with
 | y::t,h =>
  cases h
  rw[List.take_zero,tapL_nil,show (x::t).take 1=[x] by simp,tapL_one]
theorem tapL_step1 {nm:List ByteArray} {ops:List Opn} {l:List Ex} {x:Ex} (h:l[1]? = some x):tapL nm ops (l.take 2)=((tapN nm (tapL nm ops (l.take 1)).1 x).1,(tapL nm ops (l.take 1)).2.1,(tapN nm (tapL nm ops (l.take 1)).1 x).2):=by
 match l,h with
 | y::z::t,h =>
  cases h
  rw[show (y::x::t).take 1=[y] by simp,show (y::x::t).take 2=[y,x] by simp,tapL_one,tapL_two]
theorem tapL_room {nm:List ByteArray} {ops:List Opn} {l:List Ex} {x:Ex} {k:Nat} (hl:l.length≤2) (h:l[k]? = some x):(tapL nm ops (l.take k)).1.length+x.size≤ops.length+Ex.sizeL l:=by
 match l,k,h with
 | y::t,0,h =>
  cases h
  rw[List.take_zero,tapL_nil,Ex.sizeL_cons]
  show ops.length+_≤_
  omega
 | y::z::t,1,h =>
  cases h
  rw[show (y::x::t).take 1=[y] by simp,tapL_one,Ex.sizeL_cons,Ex.sizeL_cons]
  have:=(tapN_len nm y ops).1
  show (tapN nm ops y).1.length+_≤_
  omega
 | y::z::t,k+2,h =>
  have:=(List.getElem?_eq_some_iff.1 h).1
  omega
theorem tapL_len (nm:List ByteArray) (ops:List Opn) {l:List Ex} (hl:l.length≤2):(tapL nm ops l).1.length≤ops.length+Ex.sizeL l:=by
 match l,hl with
 | [],_=>rw[tapL_nil];show ops.length≤_;omega
 | [y],_=>rw[tapL_one,Ex.sizeL_cons];have:=(tapN_len nm y ops).1;show (tapN nm ops y).1.length≤_;omega
 | [y,z],_ =>
  rw[tapL_two,Ex.sizeL_cons,Ex.sizeL_cons]
  have:=(tapN_len nm y ops).1
  have:=(tapN_len nm z (tapN nm ops y).1).1
  show (tapN nm (tapN nm ops y).1 z).1.length≤_
  omega
theorem findO_at {o:Opn}:∀ {l:List Opn} {k:Nat},l[k]? = some o→(∀ i,i<k→l[i]?≠some o)→findO o l=some k
 | x::t,0,h,_=>by cases h;unfold findO;rw[if_pos rfl]
 | x::t,k+1,h,hz=>by
  have hx:¬ x=o:=fun e=>hz 0 (by omega) (by rw[e];rfl)
  have ih:=findO_at (l:=t) (k:=k) (by simpa using h) (fun i hi=>by simpa using hz (i+1) (by omega))
  unfold findO
  rw[if_neg hx,ih]
  rfl
theorem findO_no {o:Opn}:∀ {l:List Opn},o ∉ l→findO o l=none
 | [],_=>rfl
 | x::t,h=>by
  unfold findO
  rw[if_neg (fun e=>h (by rw[e];exact List.mem_cons_self)),findO_no (fun hh=>h (List.mem_cons_of_mem _ hh))]
  rfl
theorem two_elems {e:Ex} (h:nodeB e=true) (h2:e.kind≠2):e.l.length≤2:=by
 rcases nodeB_parts h h2 with ⟨_,_,_,hl⟩ | ⟨_,hl⟩
 ·rw[hl];decide
 rcases hl with ⟨_,_,h⟩ | ⟨_,_,h⟩ | ⟨_,_,h⟩ <;> omega
def NumbO (w:World) (nm:List ByteArray) (oa:Option Addr) (ops:List Opn) (ua:Option Addr) (m uc:Nat) (T:List Opn×Int) (r:Ending) (w':World):Prop :=
 ∃ oa' oc',r=.returned (.tuple #[.agg #[.int .i64 (nm.length:Int),.slice oa' T.1.length oc',.slice ua m uc],.int .i64 T.2])∧TapI Opn.cells 6 w w' oa ops oa' T.1∧Kp w w'
section
variable (nm:List ByteArray) (na:Option Addr) (nc:Nat) (ua:Option Addr) (m uc:Nat) (B:Nat)
theorem r16num_any (hnl:nm.length≤1000):∀ (e:Ex) (w:World) (oa:Option Addr) (oc:Nat) (ops:List Opn),e.allB=true→e.at w B→RowS w na nm→RowV Opn.cells 6 w w.heap.size oa ops→ops.length+e.size≤90000 →
  Calls Tryz.prog 153 #[.agg #[.int .i64 (nm.length:Int),.slice oa ops.length oc,.slice ua m uc],.agg #[.int .i64 e.kind,.int .i64 e.rn,.int .i64 e.rd,.string e.name,.int .i64 e.pw,.slice e.a e.l.length e.c],.slice na nm.length nc] w (NumbO w nm oa ops ua m uc (tapN nm ops e)):=by
 refine Ex.ind fun e ih w oa oc ops hall hat hnm hrow hsz=>?_
 have hs:e.size=1+Ex.sizeL e.l:=by cases e;rw[Ex.size];rfl
 rw[Ex.allB_eq,Bool.and_eq_true] at hall
 have k1:Kp w (((w.alloc (.cells #[.int .i64 (nm.length:Int),.slice oa ops.length oc,.slice ua m uc] 57)).alloc (.cells #[.int .i64 e.kind,.int .i64 e.rn,.int .i64 e.rd,.string e.name,.int .i64 e.pw,.slice e.a e.l.length e.c] 71)).alloc (.cells #[.int .i64 0,.slice none 0 0,.slice none 0 0] 57)):=(((Kp.refl w).alloc _).alloc _).alloc _
 have hb3:BoxV (((w.alloc (.cells #[.int .i64 (nm.length:Int),.slice oa ops.length oc,.slice ua m uc] 57)).alloc (.cells #[.int .i64 e.kind,.int .i64 e.rn,.int .i64 e.rd,.string e.name,.int .i64 e.pw,.slice e.a e.l.length e.c] 71)).alloc (.cells #[.int .i64 0,.slice none 0 0,.slice none 0 0] 57)) w.heap.size [.int .i64 (nm.length:Int),.slice oa ops.length oc,.slice ua m uc]:=(BoxV.new w [.int .i64 (nm.length:Int),.slice oa ops.length oc,.slice ua m uc] _ _ rfl).kp (((Kp.refl _).alloc _).alloc _)
 have hb4:BoxV (((w.alloc (.cells #[.int .i64 (nm.length:Int),.slice oa ops.length oc,.slice ua m uc] 57)).alloc (.cells #[.int .i64 e.kind,.int .i64 e.rn,.int .i64 e.rd,.string e.name,.int .i64 e.pw,.slice e.a e.l.length e.c] 71)).alloc (.cells #[.int .i64 0,.slice none 0 0,.slice none 0 0] 57)) (w.heap.size+1) e.cells:=(BoxV.new _ e.cells _ _ (by simp)).kp ((Kp.refl _).alloc _)
 have hb6:BoxV (((w.alloc (.cells #[.int .i64 (nm.length:Int),.slice oa ops.length oc,.slice ua m uc] 57)).alloc (.cells #[.int .i64 e.kind,.int .i64 e.rn,.int .i64 e.rd,.string e.name,.int .i64 e.pw,.slice e.a e.l.length e.c] 71)).alloc (.cells #[.int .i64 0,.slice none 0 0,.slice none 0 0] 57)) (w.heap.size+1+1) [.int .i64 0,.slice none 0 0,.slice none 0 0]:=BoxV.new _ [_,_,_] _ _ (by simp)
 go_enter Tryz.func153,Tryz.ntmps153
 go_upto_region 1 with fail
 have hsz0:(((w.alloc (.cells #[.int .i64 (nm.length:Int),.slice oa ops.length oc,.slice ua m uc] 57)).alloc (.cells #[.int .i64 e.kind,.int .i64 e.rn,.int .i64 e.rd,.string e.name,.int .i64 e.pw,.slice e.a e.l.length e.c] 71)).alloc (.cells #[.int .i64 0,.slice none 0 0,.slice none 0 0] 57)).heap.size=w.heap.size+1+1+1:=by simp only[World.size_alloc]
 generalize World.alloc _ _=W at *
 have HSz:=Lib.hid hsz0
 clear hsz0
 have K1:=Lib.hid k1
 have HB3:=Lib.hid hb3
 have HB4:=Lib.hid hb4
 have HB6:=Lib.hid hb6
 have HRw:=Lib.hid hrow
 have HNm:=Lib.hid hnm
 have HAt:=Lib.hid hat
 have q0:=hb4.cell 0 rfl
 clear k1 hb3 hb4 hb6 hrow hnm hat
 by_cases hk:e.kind=2
 ·have hk2:(e.kind==2)=true:=by rw[hk];rfl
  have HP:=Lib.hid (show tapN nm ops e=(ops,placeF e.name nm) by rw[tapN_mk,if_pos hk])
  clear hk ih
  go_upto_region 2 with fail
  have kd:=(Kp.refl W).drew
  have hSd:W.drew.cell? ⟨w.heap.size,0,none⟩=some (.int .i64 (nm.length:Int))∧W.drew.cell? ⟨w.heap.size,1,none⟩=some (.slice oa ops.length oc)∧W.drew.cell? ⟨w.heap.size,2,none⟩=some (.slice ua m uc)∧W.drew.cell? ⟨w.heap.size+1,3,none⟩=some (.string e.name):=⟨(HB3.out.kp kd).cell 0 rfl,(HB3.out.kp kd).cell 1 rfl,(HB3.out.kp kd).cell 2 rfl,(HB4.out.kp kd).cell 3 rfl⟩
  have HPl:=Lib.hid fun W' (k:Kp w W')=>place_any na nc nm e.name W' (HNm.out.kp k) (by omega)
  have KD:=Lib.hid (K1.out.trans kd)
  have HR6:=Lib.hid (HB6.out.kp kd)
  have HSd:=Lib.hid hSd
  refine wp_region_held_drew (S:=fun w'=>w'.cell? ⟨w.heap.size,0,none⟩=some (.int .i64 (nm.length:Int))∧w'.cell? ⟨w.heap.size,1,none⟩=some (.slice oa ops.length oc)∧w'.cell? ⟨w.heap.size,2,none⟩=some (.slice ua m uc)∧w'.cell? ⟨w.heap.size+1,3,none⟩=some (.string e.name)) (by kernel_rfl) hSd (fun hHeld=>?_)
  clear hSd q0
  generalize W.drew=V at *
  refine tk 0 ?_;refine tk 1 ?_;refine tk 2 ?_;refine tk 3 ?_;(try simp only[aput])
  refine cm 4 (fun K hK=>?_)
  (go_simp;go_fit (HPl.out _ KD.out);rintro r w3 ⟨rfl,k3⟩)
  refine hK.out _ _ (keep4V k3 HSd.out) (fun hHeld=>?_)
  clear hK K
  have hR:=HR6.out.kp (k3)
  have r0:=hR.cell 0 rfl
  have r1:=hR.cell 1 rfl
  have r2:=hR.cell 2 rfl
  have f0:=hR.2.1 0
  have f1:=hR.2.1 1
  have f2:=hR.2.1 2
  have HRR:=Lib.hid hR
  clear hR
  refine cm 5 (fun K hK=>?_)
  go_simp
  generalize hW9:((World.setCell _ _ _).setCell _ _).setCell _ _=W9
  obtain⟨hF,hKw,hU⟩:=box3_set HRR.out (KD.out.trans k3) (show w.heap.size≤w.heap.size+1+1 by omega) nofun nofun nofun _ _ _ hW9
  have hne (b j:Nat) (hb:b≠w.heap.size+1+1):W9.cell? ⟨b,j,none⟩=_:=hU.2.2.2.1 ⟨b,j,none⟩ hb
  clear hW9 r0 r1 r2 f0 f1 f2
  refine hK.out _ _ ⟨(hne _ 0 (by omega)).trans (k3.cell HSd.out.1),(hne _ 1 (by omega)).trans (k3.cell HSd.out.2.1),(hne _ 2 (by omega)).trans (k3.cell HSd.out.2.2.1),(hne _ 3 (by omega)).trans (k3.cell HSd.out.2.2.2)⟩ (fun hHeld=>?_)
  clear hK K
  refine tk 6 ?_;(try simp only[aput])
  refine wpAnyH_done (by kernel_rfl) ?_ _
  go_wp2
  have s0:=hF.cell 0 rfl
  have s1:=hF.cell 1 rfl
  have s2:=hF.cell 2 rfl
  refine bodyPost_ret (v:=.tuple #[.agg #[.int .i64 (nm.length:Int),.slice oa ops.length oc,.slice ua m uc],.int .i64 (placeF e.name nm)]) (by simp[results,Tryz.results153,go_sem,s0,s1,s2]) rfl ?_
  rw[HP.out]
  exact⟨oa,oc,rfl,⟨(HRw.out.kp hKw).up hKw.size,.inl ⟨rfl,rfl⟩⟩,hKw⟩
 have hk2:(e.kind==2)=false:=beq_eq_false_iff_ne.2 hk
 have HTw:=Lib.hid (two_elems hall.1 hk)
 have HAll:=Lib.hid (allL_mem hall.2)
 have HP:=Lib.hid (show tapN nm ops e=putF nm.length (tapL nm ops e.l).1 ⟨e.kind,(tapL nm ops e.l).2.1,(tapL nm ops e.l).2.2,e.pw,e.rn,e.rd⟩ by rw[tapN_mk,if_neg hk])
 have q1:=HB4.out.cell 1 rfl
 have q2:=HB4.out.cell 2 rfl
 have q4:=HB4.out.cell 4 rfl
 have hsw:W.heap.size=w.heap.size+1+1+1:=HSz.out
 have HW:=Lib.hid hsw
 have ka:Kp W (W.alloc (.cells #[.int .i64 e.kind,.int .i64 0,.int .i64 0,.int .i64 e.pw,.int .i64 e.rn,.int .i64 e.rd] 120)):=(Kp.refl W).alloc _
 have bo:BoxV (W.alloc (.cells #[.int .i64 e.kind,.int .i64 0,.int .i64 0,.int .i64 e.pw,.int .i64 e.rn,.int .i64 e.rd] 120)) W.heap.size [.int .i64 e.kind,.int .i64 0,.int .i64 0,.int .i64 e.pw,.int .i64 e.rn,.int .i64 e.rd]:=BoxV.new W [_,_,_,_,_,_] _ _ rfl
 clear hk hsw
 go_upto_region 5 with fail
 obtain⟨W1,hW1⟩:∃ X:World,X=W.alloc (.cells #[.int .i64 e.kind,.int .i64 0,.int .i64 0,.int .i64 e.pw,.int .i64 e.rn,.int .i64 e.rd] 120):=⟨_,rfl⟩
 have HWs:=Lib.hid (show W1.heap.size=w.heap.size+1+1+1+1 by rw[hW1,World.size_alloc,HW.out])
 rw[← hW1] at ka bo ⊢
 clear hW1
 have KA:=Lib.hid (K1.out.trans ka)
 have HB3a:=Lib.hid (HB3.out.kp ka)
 have HB4a:=Lib.hid (HB4.out.kp ka)
 have HB6a:=Lib.hid (HB6.out.kp ka)
 have HBOa:=Lib.hid (show BoxV W1 (w.heap.size+1+1+1) _ from HW.out▸bo)
 rw[HW.out]
 have HT1:=Lib.hid (show TapI Opn.cells 6 W1 W1 oa ops oa ops from ⟨(HRw.out.kp KA.out).up KA.out.size,.inl ⟨rfl,rfl⟩⟩)
 clear q0 q1 q2 q4 ka bo HB3 HB4 HB6
 go_loopw [9] (fun z wr=>∃ (k:Nat) (oa1:Option Addr) (oc1:Nat),k≤e.l.length∧z=.int .i64 k∧Kp w wr∧BoxV wr w.heap.size [.int .i64 (nm.length:Int),.slice oa1 (tapL nm ops (e.l.take k)).1.length oc1,.slice ua m uc]∧BoxV wr (w.heap.size+1) e.cells∧BoxV wr (w.heap.size+1+1) [.int .i64 0,.slice none 0 0,.slice none 0 0]∧BoxV wr (w.heap.size+1+1+1) [.int .i64 e.kind,.int .i64 (tapL nm ops (e.l.take k)).2.1,.int .i64 (tapL nm ops (e.l.take k)).2.2,.int .i64 e.pw,.int .i64 e.rn,.int .i64 e.rd]∧TapI Opn.cells 6 W1 wr oa ops oa1 (tapL nm ops (e.l.take k)).1∧W1.heap.size≤wr.heap.size) (fun z _=>e.l.length-(intOf z).toNat)
 case atStart =>
  refine⟨0,oa,oc,by omega,rfl,KA.out,?_,HB4a.out,HB6a.out,?_,?_,Nat.le_refl _⟩ <;> rw[List.take_zero,tapL_nil]
  ·exact HB3a.out
  ·exact HBOa.out
  exact HT1.out
 case round =>
 obtain⟨k,oa1,oc1,hkl,rfl,hKr,h3,h4,h6,hO,hT,hWr⟩:=hrel
 have HKr:=Lib.hid hKr
 have H3:=Lib.hid h3
 have H4:=Lib.hid h4
 have H6:=Lib.hid h6
 have HO:=Lib.hid hO
 have HT:=Lib.hid hT
 have HWr:=Lib.hid hWr
 have q5:=h4.cell 5 rfl
 clear hKr h3 h4 h6 hO hT hWr
 by_cases hlt:k<e.l.length
 ·obtain⟨x,hx⟩:∃ x,e.l[k]? = some x:=⟨_,List.getElem?_eq_getElem hlt⟩
  have hxm:=List.mem_of_getElem? hx
  obtain⟨_,hrowx,hats⟩:=Ex.at_iff.1 HAt.out
  obtain⟨b,o,ha,_,j0,j1,j2,j3,j4,j5⟩:=hrowx.kp HKr.out k x hx
  have HRoom:=Lib.hid (tapL_room (nm:=nm) (ops:=ops) HTw.out hx)
  have HS0:=Lib.hid fun (h0:k=0)=>tapL_step0 (nm:=nm) (ops:=ops) (show e.l[0]? = some x by rw[← h0];exact hx)
  have HS1:=Lib.hid fun (h1:k=1)=>tapL_step1 (nm:=nm) (ops:=ops) (show e.l[1]? = some x by rw[← h1];exact hx)
  have hk1:k=0∨k=1:=by have:=HTw.out;omega
  have HIh:=Lib.hid fun W' (k':Kp wr W') (oc':Nat)=>ih x hxm W' oa1 oc' (tapL nm ops (e.l.take k)).1 (HAll.out x hxm) (Ex.at_kp (hats x hxm) (HKr.out.trans k')) (HNm.out.kp (HKr.out.trans k')) ((HT.out.row.kp k').up k'.size) (by have:=HRoom.out;omega)
  generalize hTL:tapL nm ops (e.l.take k)=TL at *
  have HTL:=Lib.hid hTL
  clear hTL hx hrowx hats hxm
  go_upto_region 7 with fail
  rw[ha] at q5 ⊢
  have Ha:=Lib.hid ha
  clear ha
  go_cut [10,11] from 35 to 45 (fun t10 t11 wx=>∃ (g:Nat) (oa2:Option Addr) (oc2:Nat),t11=.int .i64 (tapN nm TL.1 x).2∧t10=.pointer (some ⟨g,0,none⟩)∧wr.heap.size≤g∧BoxV wx g [.int .i64 (nm.length:Int),.slice oa2 (tapN nm TL.1 x).1.length oc2,.slice ua m uc]∧TapI Opn.cells 6 W1 wx oa ops oa2 (tapN nm TL.1 x).1∧Kp wr wx)
  case first =>
   have kd:=(Kp.refl wr).drew
   have HSf:=Lib.hid (show ∀ w':World,Kp wr w'→(w'.cell? ⟨w.heap.size,0,none⟩=some (.int .i64 (nm.length:Int))∧w'.cell? ⟨w.heap.size,1,none⟩=some (.slice oa1 TL.1.length oc1)∧w'.cell? ⟨w.heap.size,2,none⟩=some (.slice ua m uc)∧w'.cell? ⟨w.heap.size+1,5,none⟩=some (.slice (some ⟨b,o,none⟩) e.l.length e.c)∧w'.cell? ⟨b,o+k*6,none⟩=some (.int .i64 x.kind)∧w'.cell? ⟨b,o+k*6+1,none⟩=some (.int .i64 x.rn)∧w'.cell? ⟨b,o+k*6+2,none⟩=some (.int .i64 x.rd)∧w'.cell? ⟨b,o+k*6+3,none⟩=some (.string x.name)∧w'.cell? ⟨b,o+k*6+4,none⟩=some (.int .i64 x.pw)∧w'.cell? ⟨b,o+k*6+5,none⟩=some (.slice x.a x.l.length x.c)) from fun w' k'=>⟨(H3.out.kp k').cell 0 rfl,(H3.out.kp k').cell 1 rfl,(H3.out.kp k').cell 2 rfl,by rw[← Ha.out];exact (H4.out.kp k').cell 5 rfl,k'.cell j0,k'.cell j1,k'.cell j2,k'.cell j3,k'.cell j4,k'.cell j5⟩)
   have hSd:=HSf.out _ kd
   clear q5 j0 j1 j2 j3 j4 j5
   refine wp_region_held_drew (S:=fun w'=>w'.cell? ⟨w.heap.size,0,none⟩=some (.int .i64 (nm.length:Int))∧w'.cell? ⟨w.heap.size,1,none⟩=some (.slice oa1 TL.1.length oc1)∧w'.cell? ⟨w.heap.size,2,none⟩=some (.slice ua m uc)∧w'.cell? ⟨w.heap.size+1,5,none⟩=some (.slice (some ⟨b,o,none⟩) e.l.length e.c)∧w'.cell? ⟨b,o+k*6,none⟩=some (.int .i64 x.kind)∧w'.cell? ⟨b,o+k*6+1,none⟩=some (.int .i64 x.rn)∧w'.cell? ⟨b,o+k*6+2,none⟩=some (.int .i64 x.rd)∧w'.cell? ⟨b,o+k*6+3,none⟩=some (.string x.name)∧w'.cell? ⟨b,o+k*6+4,none⟩=some (.int .i64 x.pw)∧w'.cell? ⟨b,o+k*6+5,none⟩=some (.slice x.a x.l.length x.c)) (by kernel_rfl) hSd (fun hHeld=>?_)
   clear hSd
   generalize wr.drew=V at *
   refine tk 0 ?_;refine tk 1 ?_;refine tk 2 ?_;refine tk 3 ?_;refine tk 4 ?_;refine tk 5 ?_;refine tk 6 ?_;(try simp only[aput])
   refine wpAnyH_ready (rs:=[7,11]) (by kernel_rfl) (by simp) ?_
   refine AllReadyH.cons rfl (fun K hK=>?_) (AllReadyH.cons rfl (fun K hK=>?_) AllReadyH.nil)
   ·(go_simp;go_fit (HIh.out _ kd oc1);rintro r w8 ⟨oa2,oc2,rfl,z1,k8⟩)
    have K8:=Lib.hid (kd.trans k8)
    refine hK.out _ _ (HSf.out _ K8.out) (fun hHeld=>?_)
    clear hK K
    refine tk 8 ?_;refine tk 9 ?_;refine tk 10 ?_;(try simp only[aput])
    have kz:Kp w8 (w8.alloc (.cells #[.int .i64 0,.slice none 0 0,.slice none 0 0] 57)):=(Kp.refl w8).alloc _
    have hz:BoxV (w8.alloc (.cells #[.int .i64 0,.slice none 0 0,.slice none 0 0] 57)) w8.heap.size [.int .i64 0,.slice none 0 0,.slice none 0 0]:=BoxV.new w8 [_,_,_] _ _ rfl
    refine cm 11 (fun K hK=>?_)
    go_simp
    generalize World.alloc w8 _=X8 at *
    refine hK.out _ _ (HSf.out _ (K8.out.trans kz)) (fun hHeld=>?_)
    clear hK K
    have HR8:=Lib.hid hz
    have kr:=Kp.refl X8
    have hR:=HR8.out.kp (kr)
    have r0:=hR.cell 0 rfl
    have r1:=hR.cell 1 rfl
    have r2:=hR.cell 2 rfl
    have f0:=hR.2.1 0
    have f1:=hR.2.1 1
    have f2:=hR.2.1 2
    have HRR:=Lib.hid hR
    clear hR
    refine cm 12 (fun K hK=>?_)
    go_simp
    generalize hW9:((World.setCell _ _ _).setCell _ _).setCell _ _=W9
    obtain⟨hF,hKw,hU⟩:=box3_set HRR.out (K8.out.trans kz) (show wr.heap.size≤w8.heap.size from K8.out.size) nofun nofun nofun _ _ _ hW9
    refine hK.out _ _ (HSf.out _ hKw) (fun hHeld=>?_)
    clear hK K
    refine tk 13 ?_;(try simp only[aput])
    refine wpAnyH_done (by kernel_rfl) ?_ _
    go_wp2_with fail
    go_meet
    case rel=>exact⟨w8.heap.size,oa2,oc2,rfl,rfl,K8.out.size,hF,TapI.updA (TapI.after z1 HT.out (Nat.le_trans HWr.out kd.size)) kz hU (Nat.le_refl _),hKw⟩
   have kz:Kp wr (V.alloc (.cells #[.int .i64 0,.slice none 0 0,.slice none 0 0] 57)):=kd.alloc _
   have hz:BoxV (V.alloc (.cells #[.int .i64 0,.slice none 0 0,.slice none 0 0] 57)) V.heap.size [.int .i64 0,.slice none 0 0,.slice none 0 0]:=BoxV.new V [_,_,_] _ _ rfl
   have hzs:V.heap.size<(V.alloc (.cells #[.int .i64 0,.slice none 0 0,.slice none 0 0] 57)).heap.size:=hz.2.2
   go_simp
   generalize World.alloc V _=X8 at *
   refine hK.out _ _ (HSf.out _ kz) (fun hHeld=>?_)
   clear hK K
   refine cm 7 (fun K hK=>?_)
   (go_simp;go_fit (HIh.out _ kz oc1);rintro r w8 ⟨oa2,oc2,rfl,z1,k8⟩)
   refine hK.out _ _ (HSf.out _ (kz.trans k8)) (fun hHeld=>?_)
   clear hK K
   refine tk 8 ?_;refine tk 9 ?_;refine tk 10 ?_;(try simp only[aput])
   have HR8:=Lib.hid hz
   have hR:=HR8.out.kp (k8)
   have r0:=hR.cell 0 rfl
   have r1:=hR.cell 1 rfl
   have r2:=hR.cell 2 rfl
   have f0:=hR.2.1 0
   have f1:=hR.2.1 1
   have f2:=hR.2.1 2
   have HRR:=Lib.hid hR
   clear hR
   refine cm 12 (fun K hK=>?_)
   go_simp
   generalize hW9:((World.setCell _ _ _).setCell _ _).setCell _ _=W9
   obtain⟨hF,hKw,hU⟩:=box3_set HRR.out (kz.trans k8) (show wr.heap.size≤V.heap.size from kd.size) nofun nofun nofun _ _ _ hW9
   refine hK.out _ _ (HSf.out _ hKw) (fun hHeld=>?_)
   clear hK K
   refine tk 13 ?_;(try simp only[aput])
   refine wpAnyH_done (by kernel_rfl) ?_ _
   go_wp2_with fail
   go_meet
   case rel=>exact⟨V.heap.size,oa2,oc2,rfl,rfl,kd.size,hF,TapI.after (TapI.upd z1 HT.out.row hU kd.size hzs) HT.out (Nat.le_trans HWr.out (Nat.le_trans kd.size (Nat.le_of_lt hzs))),hKw⟩
  case rest =>
  obtain⟨g,oa2,oc2,rfl,rfl,hg,hbg,hT2,hKx⟩:=hcut
  obtain⟨X,hX⟩:∃ X:World,X=wc:=⟨_,rfl⟩
  subst hX
  have KX:=Lib.hid (HKr.out.trans hKx)
  have X3:=Lib.hid (H3.out.kp hKx)
  have X4:=Lib.hid (H4.out.kp hKx)
  have X6:=Lib.hid (H6.out.kp hKx)
  have XO:=Lib.hid (HO.out.kp hKx)
  have XG:=Lib.hid hbg
  have HWx:=Lib.hid (Nat.le_trans HWr.out hKx.size)
  have HT2:=Lib.hid hT2
  have HG:=Lib.hid (show w.heap.size+1+1+1<g by have:=HWr.out;have:=HWs.out;omega)
  have HXg:=Lib.hid hg
  have g0:=hbg.cell 0 rfl
  have g1:=hbg.cell 1 rfl
  have g2:=hbg.cell 2 rfl
  clear hg hbg hT2 hKx q5 j0 j1 j2 j3 j4 j5 HIh
  have kX:=Kp.refl X
  have hR:=X3.out.kp (kX)
  have r0:=hR.cell 0 rfl
  have r1:=hR.cell 1 rfl
  have r2:=hR.cell 2 rfl
  have f0:=hR.2.1 0
  have f1:=hR.2.1 1
  have f2:=hR.2.1 2
  have HRR:=Lib.hid hR
  clear hR
  go_upto_region 9 with fail
  generalize hW9:((World.setCell _ _ _).setCell _ _).setCell _ _=Y
  obtain⟨hF,hKw,hU⟩:=box3_set HRR.out KX.out (Nat.le_refl _) nofun nofun nofun _ _ _ hW9
  have hT3:=HT2.out.upd HRw.out hU (Nat.le_refl _) (by have:=HWs.out;omega)
  have y4:=X4.out.upd hU (by omega)
  have y6:=X6.out.upd hU (by omega)
  have yO:=XO.out.upd hU (by omega)
  have hsY:Y.heap.size=X.heap.size:=hU.2.2.2.2
  clear hW9 hU r0 r1 r2 f0 f1 f2 g0 g1 g2 kX
  have c1:=yO.cell 1 rfl
  have c2:=yO.cell 2 rfl
  have d1:=yO.2.1 1
  have d2:=yO.2.1 2
  rcases hk1 with hk0 | hk0
  ·have hkb:((k:Int)==0)=true:=by rw[hk0];rfl
   have HS:=Lib.hid (HS0.out hk0)
   go_wp2
   generalize hW8:World.setCell Y _ _=Y8
   have hO8:BoxV Y8 (w.heap.size+1+1+1) [.int .i64 e.kind,.int .i64 (tapN nm TL.1 x).2,.int .i64 TL.2.2,.int .i64 e.pw,.int .i64 e.rn,.int .i64 e.rd]:=hW8▸yO.set (by simp) _
   have hU8:Upd (w.heap.size+1+1+1) Y Y8:=hW8▸(Upd.refl _ Y).step c1 nofun _
   rw[← Ha.out]
   go_roundw
   case measure=>simp only[intOf];omega
   case rel =>
   have e1:tapL nm ops (e.l.take (k+1))=((tapN nm TL.1 x).1,(tapN nm TL.1 x).2,TL.2.2):=by
    have:=HS.out
    have h0:tapL nm ops (e.l.take 0)=TL:=by rw[← hk0];exact HTL.out
    rw[h0] at this
    rw[hk0];exact this
   refine⟨k+1,oa2,oc2,by omega,by first | go_num | (rw[hk0];rfl),hU8.2.2.1 _ hKw (by omega),?_,y4.upd hU8 (by omega),y6.upd hU8 (by omega),?_,?_,by rw[hU8.2.2.2.2,hsY];exact HWx.out⟩ <;> rw[e1]
   ·exact hF.upd hU8 (by omega)
   ·exact hO8
   exact hT3.upd HRw.out hU8 (by omega) (by have:=HWs.out;omega)
  have hkb:((k:Int)==0)=false:=by rw[hk0];rfl
  have HS:=Lib.hid (HS1.out hk0)
  go_wp2
  generalize hW8:World.setCell Y _ _=Y8
  have hO8:BoxV Y8 (w.heap.size+1+1+1) [.int .i64 e.kind,.int .i64 TL.2.1,.int .i64 (tapN nm TL.1 x).2,.int .i64 e.pw,.int .i64 e.rn,.int .i64 e.rd]:=hW8▸yO.set (by simp) _
  have hU8:Upd (w.heap.size+1+1+1) Y Y8:=hW8▸(Upd.refl _ Y).step c2 nofun _
  rw[← Ha.out]
  go_roundw
  case measure=>simp only[intOf];omega
  case rel =>
  have e1:tapL nm ops (e.l.take (k+1))=((tapN nm TL.1 x).1,TL.2.1,(tapN nm TL.1 x).2):=by
   have:=HS.out
   have h0:tapL nm ops (e.l.take 1)=TL:=by rw[← hk0];exact HTL.out
   rw[h0] at this
   rw[hk0];exact this
  refine⟨k+1,oa2,oc2,by omega,by first | go_num | (rw[hk0];rfl),hU8.2.2.1 _ hKw (by omega),?_,y4.upd hU8 (by omega),y6.upd hU8 (by omega),?_,?_,by rw[hU8.2.2.2.2,hsY];exact HWx.out⟩ <;> rw[e1]
  ·exact hF.upd hU8 (by omega)
  ·exact hO8
  exact hT3.upd HRw.out hU8 (by omega) (by have:=HWs.out;omega)
 have hkl2:k=e.l.length:=by omega
 subst hkl2
 have HLn:=Lib.hid (tapL_len nm ops HTw.out)
 have e0:tapL nm ops (e.l.take e.l.length)=tapL nm ops e.l:=by rw[List.take_length]
 have X3:=Lib.hid (show BoxV wr w.heap.size [.int .i64 (nm.length:Int),.slice oa1 (tapL nm ops e.l).1.length oc1,.slice ua m uc] from e0▸H3.out)
 have XO:=Lib.hid (show BoxV wr (w.heap.size+1+1+1) [.int .i64 e.kind,.int .i64 (tapL nm ops e.l).2.1,.int .i64 (tapL nm ops e.l).2.2,.int .i64 e.pw,.int .i64 e.rn,.int .i64 e.rd] from e0▸HO.out)
 have XT:=Lib.hid (show TapI Opn.cells 6 W1 wr oa ops oa1 (tapL nm ops e.l).1 from e0▸HT.out)
 clear e0 H3 HO HT ih
 generalize hTL:tapL nm ops e.l=TL at *
 clear hTL
 have hN:TL.1.length≤90000:=by have:=HLn.out;omega
 obtain⟨X,hX⟩:∃ X:World,X=wr:=⟨_,rfl⟩
 subst hX
 go_upto_region 13 with fail
 go_loopw [12] (fun z wr=>∃ j:Nat,j≤TL.1.length∧z=.int .i64 j∧Kp X wr∧∀ i,i<j→TL.1[i]?≠some (⟨e.kind,TL.2.1,TL.2.2,e.pw,e.rn,e.rd⟩:Opn)) (fun z _=>TL.1.length-(intOf z).toNat)
 case atStart=>exact⟨0,by omega,rfl,.refl _,fun i h=>absurd h (Nat.not_lt_zero _)⟩
 case round =>
 obtain⟨j,hj,rfl,hkv,hz⟩:=hrel
 have HKv:=Lib.hid hkv
 have Hz:=Lib.hid hz
 have p1:=(X3.out.kp hkv).cell 1 rfl
 clear hz
 by_cases hlt:j<TL.1.length
 ·obtain⟨y,hy⟩:∃ y,TL.1[j]? = some y:=⟨_,List.getElem?_eq_getElem hlt⟩
  obtain⟨b,o,ha,_,j0⟩:=XT.out.row.kp hkv j y hy
  have Hy:=Lib.hid hy
  have o0:=(XO.out.kp hkv).cell 0 rfl
  have o1:=(XO.out.kp hkv).cell 1 rfl
  have o2:=(XO.out.kp hkv).cell 2 rfl
  have o3:=(XO.out.kp hkv).cell 3 rfl
  have o4:=(XO.out.kp hkv).cell 4 rfl
  have o5:=(XO.out.kp hkv).cell 5 rfl
  have Ha:=ha
  rw[Ha] at p1
  clear hkv ha hy
  by_cases hq:y=⟨e.kind,TL.2.1,TL.2.2,e.pw,e.rn,e.rd⟩
  ·rw[hq] at j0 Hy
   have s0:wr.cell? ⟨b,o+j*6,none⟩=some (.int .i64 e.kind):=j0 0 _ rfl
   have s1:=j0 1 _ rfl
   have s2:=j0 2 _ rfl
   have s3:=j0 3 _ rfl
   have s4:=j0 4 _ rfl
   have s5:=j0 5 _ rfl
   have HPf:=Lib.hid (show putF nm.length TL.1 ⟨e.kind,TL.2.1,TL.2.2,e.pw,e.rn,e.rd⟩=(TL.1,((nm.length+j:Nat):Int)) by unfold putF;rw[findO_at Hy.out Hz.out])
   clear j0 hq
   go_upto_region 15 with fail
   go_quiet (fail)
   go_upto_region 16 with fail
   have HKd:=Lib.hid (HKv.out.trans ((Kp.refl wr).drewN nq))
   generalize wr.drewN nq=Y at *
   clear s0 s1 s2 s3 s4 s5 o0 o1 o2 o3 o4 o5 p1
   have hwr:IntKind.i64.wrap ((nm.length:Int)+(j:Int))=(nm.length:Int)+(j:Int):=IntWalk.i64_in _ (by omega)
   have kd:=(Kp.refl Y).drew
   have HY3:=Lib.hid (X3.out.kp (HKd.out.trans kd))
   have HR6:=Lib.hid (H6.out.kp (HKd.out.trans kd))
   have KD:=Lib.hid (HKr.out.trans (HKd.out.trans kd))
   have HTd:=Lib.hid (XT.out.kp (HKd.out.trans kd))
   have hSd:Y.drew.cell? ⟨w.heap.size,0,none⟩=some (.int .i64 (nm.length:Int))∧Y.drew.cell? ⟨w.heap.size,1,none⟩=some (.slice oa1 TL.1.length oc1)∧Y.drew.cell? ⟨w.heap.size,2,none⟩=some (.slice ua m uc):=⟨HY3.out.cell 0 rfl,HY3.out.cell 1 rfl,HY3.out.cell 2 rfl⟩
   refine wp_region_held_drew (S:=fun w'=>w'.cell? ⟨w.heap.size,0,none⟩=some (.int .i64 (nm.length:Int))∧w'.cell? ⟨w.heap.size,1,none⟩=some (.slice oa1 TL.1.length oc1)∧w'.cell? ⟨w.heap.size,2,none⟩=some (.slice ua m uc)) (by kernel_rfl) hSd (fun hHeld=>?_)
   have HSd:=Lib.hid hSd
   clear hSd kd
   generalize Y.drew=V at *
   refine tk 0 ?_;refine tk 1 ?_;refine tk 2 ?_;refine tk 3 ?_;refine tk 4 ?_;(try simp only[aput])
   have k3:=Kp.refl V
   have hR:=HR6.out.kp (k3)
   have r0:=hR.cell 0 rfl
   have r1:=hR.cell 1 rfl
   have r2:=hR.cell 2 rfl
   have f0:=hR.2.1 0
   have f1:=hR.2.1 1
   have f2:=hR.2.1 2
   have HRR:=Lib.hid hR
   clear hR
   refine cm 5 (fun K hK=>?_)
   go_simp
   generalize hW9:((World.setCell _ _ _).setCell _ _).setCell _ _=W9
   obtain⟨hF,hKw,hU⟩:=box3_set HRR.out (KD.out) (show w.heap.size≤w.heap.size+1+1 by omega) nofun nofun nofun _ _ _ hW9
   have hne (b j:Nat) (hb:b≠w.heap.size+1+1):W9.cell? ⟨b,j,none⟩=_:=hU.2.2.2.1 ⟨b,j,none⟩ hb
   clear hW9 r0 r1 r2 f0 f1 f2
   refine hK.out _ _ ⟨(hne _ 0 (by omega)).trans HSd.out.1,(hne _ 1 (by omega)).trans HSd.out.2.1,(hne _ 2 (by omega)).trans HSd.out.2.2⟩ (fun hHeld=>?_)
   clear hK K
   refine tk 6 ?_;(try simp only[aput])
   refine wpAnyH_done (by kernel_rfl) ?_ _
   go_wp2
   have s0:=hF.cell 0 rfl
   have s1:=hF.cell 1 rfl
   have s2:=hF.cell 2 rfl
   refine bodyPost_ret (v:=.tuple #[.agg #[.int .i64 (nm.length:Int),.slice oa1 TL.1.length oc1,.slice ua m uc],.int .i64 ((nm.length:Int)+(j:Int))]) (by simp[results,Tryz.results153,go_sem,s0,s1,s2,Ha]) rfl ?_
   rw[HP.out,HPf.out]
   exact⟨oa1,oc1,by rw[Int.natCast_add],(HTd.out.upd HRw.out hU (by omega) (by have:=HWs.out;omega)).low (by have:=HWs.out;omega),hKw⟩
  have s0:wr.cell? ⟨b,o+j*6,none⟩=some (.int .i64 y.k):=j0 0 _ rfl
  have s1:=j0 1 _ rfl
  have s2:=j0 2 _ rfl
  have s3:=j0 3 _ rfl
  have s4:=j0 4 _ rfl
  have s5:=j0 5 _ rfl
  have Hq:=Lib.hid hq
  clear hq j0
  rcases opn_ne Hq.out with e1 | ⟨e1,e2 | ⟨e2,e3 | ⟨e3,e4 | ⟨e4,e5 | ⟨e5,e6⟩⟩⟩⟩⟩
  ·have f:(y.k==e.kind)=false:=beq_eq_false_iff_ne.2 e1
   clear e1
   go_upto_region 15 with fail
   go_quiet (fail)
   go_wp2
   go_roundw
   case measure=>simp only[intOf];omega
   case rel =>
   refine⟨j+1,by omega,by go_num,HKv.out.trans ((Kp.refl _).drewN _),fun i hi=>?_⟩
   by_cases h:i=j
   ·subst h;rw[Hy.out];intro h;cases h;exact Hq.out rfl
   exact Hz.out i (by omega)
  ·have E0:y.k=e.kind:=e1;rw[E0] at s0;have f:(y.a==TL.2.1)=false:=beq_eq_false_iff_ne.2 e2
   clear E0 e1 e2
   go_upto_region 15 with fail
   go_quiet (fail)
   go_wp2
   go_roundw
   case measure=>simp only[intOf];omega
   case rel =>
   refine⟨j+1,by omega,by go_num,HKv.out.trans ((Kp.refl _).drewN _),fun i hi=>?_⟩
   by_cases h:i=j
   ·subst h;rw[Hy.out];intro h;cases h;exact Hq.out rfl
   exact Hz.out i (by omega)
  ·have E0:y.k=e.kind:=e1;rw[E0] at s0;have E1:y.a=TL.2.1:=e2;rw[E1] at s1;have f:(y.b==TL.2.2)=false:=beq_eq_false_iff_ne.2 e3
   clear E0 E1 e1 e2 e3
   go_upto_region 15 with fail
   go_quiet (fail)
   go_wp2
   go_roundw
   case measure=>simp only[intOf];omega
   case rel =>
   refine⟨j+1,by omega,by go_num,HKv.out.trans ((Kp.refl _).drewN _),fun i hi=>?_⟩
   by_cases h:i=j
   ·subst h;rw[Hy.out];intro h;cases h;exact Hq.out rfl
   exact Hz.out i (by omega)
  ·have E0:y.k=e.kind:=e1;rw[E0] at s0;have E1:y.a=TL.2.1:=e2;rw[E1] at s1;have E2:y.b=TL.2.2:=e3;rw[E2] at s2;have f:(y.n==e.pw)=false:=beq_eq_false_iff_ne.2 e4
   clear E0 E1 E2 e1 e2 e3 e4
   go_upto_region 15 with fail
   go_quiet (fail)
   go_wp2
   go_roundw
   case measure=>simp only[intOf];omega
   case rel =>
   refine⟨j+1,by omega,by go_num,HKv.out.trans ((Kp.refl _).drewN _),fun i hi=>?_⟩
   by_cases h:i=j
   ·subst h;rw[Hy.out];intro h;cases h;exact Hq.out rfl
   exact Hz.out i (by omega)
  ·have E0:y.k=e.kind:=e1;rw[E0] at s0;have E1:y.a=TL.2.1:=e2;rw[E1] at s1;have E2:y.b=TL.2.2:=e3;rw[E2] at s2;have E3:y.n=e.pw:=e4;rw[E3] at s3;have f:(y.cn==e.rn)=false:=beq_eq_false_iff_ne.2 e5
   clear E0 E1 E2 E3 e1 e2 e3 e4 e5
   go_upto_region 15 with fail
   go_quiet (fail)
   go_wp2
   go_roundw
   case measure=>simp only[intOf];omega
   case rel =>
   refine⟨j+1,by omega,by go_num,HKv.out.trans ((Kp.refl _).drewN _),fun i hi=>?_⟩
   by_cases h:i=j
   ·subst h;rw[Hy.out];intro h;cases h;exact Hq.out rfl
   exact Hz.out i (by omega)
  have E0:y.k=e.kind:=e1;rw[E0] at s0;have E1:y.a=TL.2.1:=e2;rw[E1] at s1;have E2:y.b=TL.2.2:=e3;rw[E2] at s2;have E3:y.n=e.pw:=e4;rw[E3] at s3;have E4:y.cn=e.rn:=e5;rw[E4] at s4;have f:(y.cd==e.rd)=false:=beq_eq_false_iff_ne.2 e6
  clear E0 E1 E2 E3 E4 e1 e2 e3 e4 e5 e6
  go_upto_region 15 with fail
  go_quiet (fail)
  go_wp2
  go_roundw
  case measure=>simp only[intOf];omega
  case rel =>
  refine⟨j+1,by omega,by go_num,HKv.out.trans ((Kp.refl _).drewN _),fun i hi=>?_⟩
  by_cases h:i=j
  ·subst h;rw[Hy.out];intro h;cases h;exact Hq.out rfl
  exact Hz.out i (by omega)
 have HPf:=Lib.hid (show putF nm.length TL.1 ⟨e.kind,TL.2.1,TL.2.2,e.pw,e.rn,e.rd⟩=(TL.1++[⟨e.kind,TL.2.1,TL.2.2,e.pw,e.rn,e.rd⟩],((nm.length+TL.1.length:Nat):Int)) by
  unfold putF
  rw[findO_no fun hm=>?_]
  obtain⟨i,hi⟩:=List.getElem?_of_mem hm
  exact Hz.out i (by have:=(List.getElem?_eq_some_iff.1 hi).1;omega) hi)
 clear hkv
 go_upto_region 17 with fail
 clear p1
 have HKx:=Lib.hid (HKr.out.trans HKv.out)
 have Y3:=Lib.hid (X3.out.kp HKv.out)
 have YO:=Lib.hid (XO.out.kp HKv.out)
 have Y6:=Lib.hid (H6.out.kp HKv.out)
 have YT:=Lib.hid (XT.out.kp HKv.out)
 have HYs:=Lib.hid (Nat.le_trans HWr.out HKv.out.size)
 clear X3 XO XT H6 H4 Hz
 obtain⟨Y,hY⟩:∃ X:World,X=wr:=⟨_,rfl⟩
 subst hY
 have hYG:=HWs.out
 have hYs:=HYs.out
 go_cut [79] from 72 to 78 (fun t79 wx=>∃ (oa2:Option Addr) (oc2:Nat),t79=.pointer (some ⟨w.heap.size,1,none⟩)∧BoxV wx w.heap.size [.int .i64 (nm.length:Int),.slice oa2 (TL.1.length+1) oc2,.slice ua m uc]∧RowV Opn.cells 6 wx wx.heap.size oa2 (TL.1++[(⟨e.kind,TL.2.1,TL.2.2,e.pw,e.rn,e.rd⟩:Opn)])∧(∀ b o,oa2=some ⟨b,o,none⟩→Y.heap.size≤b)∧Kp w wx∧BoxV wx (w.heap.size+1+1) [.int .i64 0,.slice none 0 0,.slice none 0 0])
 case first =>
  have HSf:=Lib.hid (show ∀ w':World,Kp Y w'→(w'.cell? ⟨w.heap.size,1,none⟩=some (.slice oa1 TL.1.length oc1)∧w'.cell? ⟨w.heap.size+1+1+1,0,none⟩=some (.int .i64 e.kind)∧w'.cell? ⟨w.heap.size+1+1+1,1,none⟩=some (.int .i64 TL.2.1)∧w'.cell? ⟨w.heap.size+1+1+1,2,none⟩=some (.int .i64 TL.2.2)∧w'.cell? ⟨w.heap.size+1+1+1,3,none⟩=some (.int .i64 e.pw)∧w'.cell? ⟨w.heap.size+1+1+1,4,none⟩=some (.int .i64 e.rn)∧w'.cell? ⟨w.heap.size+1+1+1,5,none⟩=some (.int .i64 e.rd)) from fun w' k'=>⟨(Y3.out.kp k').cell 1 rfl,(YO.out.kp k').cell 0 rfl,(YO.out.kp k').cell 1 rfl,(YO.out.kp k').cell 2 rfl,(YO.out.kp k').cell 3 rfl,(YO.out.kp k').cell 4 rfl,(YO.out.kp k').cell 5 rfl⟩)
  have kd:=(Kp.refl Y).drew
  have hSd:=HSf.out _ kd
  obtain⟨i0,hi,hz0,hz1,hz2⟩:=info_parts infoOp
  refine wp_region_free (by kernel_rfl) (fun hHeld=>?_)
  refine wpAnyH_tail (z:=8) (f:=8) (fun w'=>w'.cell? ⟨w.heap.size,1,none⟩=some (.slice oa1 TL.1.length oc1)∧w'.cell? ⟨w.heap.size+1+1+1,0,none⟩=some (.int .i64 e.kind)∧w'.cell? ⟨w.heap.size+1+1+1,1,none⟩=some (.int .i64 TL.2.1)∧w'.cell? ⟨w.heap.size+1+1+1,2,none⟩=some (.int .i64 TL.2.2)∧w'.cell? ⟨w.heap.size+1+1+1,3,none⟩=some (.int .i64 e.pw)∧w'.cell? ⟨w.heap.size+1+1+1,4,none⟩=some (.int .i64 e.rn)∧w'.cell? ⟨w.heap.size+1+1+1,5,none⟩=some (.int .i64 e.rd)) (by kernel_rfl) (by kernel_rfl) rfl hSd (fun hHeld=>?_)
  clear hSd
  generalize Y.drew=V at *
  refine tk 1 ?_;refine tk 2 ?_;refine tk 4 ?_;(try simp only[aput])
  refine wpAnyH_ready (rs:=[0,5]) (by kernel_rfl) (by simp) ?_
  refine AllReadyH.cons rfl (fun K hK=>?_) (AllReadyH.cons rfl (fun K hK=>?_) AllReadyH.nil)
  ·go_simp
   have hO0:OwnV Opn.cells 6 120 Y (V.alloc (.cells #[] 120)) (.slice (some ⟨V.heap.size,0,none⟩) 0 0) []:=OwnV.empty _ kd
   have hN0:NnV (.slice (some ⟨V.heap.size,0,none⟩) 0 0):=⟨_,_,_,rfl,Nat.le_refl _⟩
   have k0:Kp V (V.alloc (.cells #[] 120)):=(Kp.refl V).alloc _
   have hV0:V.heap.size<(V.alloc (.cells #[] 120)).heap.size:=by rw[World.size_alloc];omega
   generalize World.alloc V (.cells #[] 120)=V0 at *
   refine hK.out _ _ (HSf.out _ hO0.1) (fun hHeld=>?_)
   clear hK K
   refine wpAnyH_ready (rs:=[3,5]) (by kernel_rfl) (by simp) ?_
   refine AllReadyH.cons rfl (fun K hK=>?_) (AllReadyH.cons rfl (fun K hK=>?_) AllReadyH.nil)
   ·obtain⟨d1,w6,hr6,hO6,hn6,hg6⟩:=app_vg op_len (by decide) op_one 54 120 54 i0 _ 48 Tryz.underlying54 hi hz0 hz1 hz2 rfl Y _ [] hO0 hN0 _ oa1 oc1 TL.1 (YT.out.row.kp hO0.1) (by simp only[List.length_nil];omega) (by simp only[List.length_nil];omega)
    refine step_append_run (by rfl) _ _ _ (by rfl) _ _ (by rfl) (by rfl) d1 w6 hr6 ?_
    refine hK.out _ _ (HSf.out _ hO6.1) (fun hHeld=>?_)
    clear hK K hr6
    refine cm 5 (fun K hK=>?_)
    go_simp
    have hl:BoxV (w6.alloc (.cells #[.int .i64 e.kind,.int .i64 TL.2.1,.int .i64 TL.2.2,.int .i64 e.pw,.int .i64 e.rn,.int .i64 e.rd] 120)) w6.heap.size (Opn.cells (⟨e.kind,TL.2.1,TL.2.2,e.pw,e.rn,e.rd⟩:Opn)):=BoxV.new w6 (Opn.cells (⟨e.kind,TL.2.1,TL.2.2,e.pw,e.rn,e.rd⟩:Opn)) _ _ rfl
    have k1:Kp Y (w6.alloc (.cells #[.int .i64 e.kind,.int .i64 TL.2.1,.int .i64 TL.2.2,.int .i64 e.pw,.int .i64 e.rn,.int .i64 e.rd] 120)):=hO6.1.alloc _
    have k2:Kp w6 (w6.alloc (.cells #[.int .i64 e.kind,.int .i64 TL.2.1,.int .i64 TL.2.2,.int .i64 e.pw,.int .i64 e.rn,.int .i64 e.rd] 120)):=(Kp.refl w6).alloc _
    generalize World.alloc w6 (.cells #[.int .i64 e.kind,.int .i64 TL.2.1,.int .i64 TL.2.2,.int .i64 e.pw,.int .i64 e.rn,.int .i64 e.rd] 120)=V1 at *
    refine hK.out _ _ (HSf.out _ k1) (fun hHeld=>?_)
    clear hK K
    refine cm 6 (fun K hK=>?_)
    obtain⟨d2,w7,hr7,hO7,hn7,_⟩:=app_vg op_len (by decide) op_one 54 120 54 i0 _ 48 Tryz.underlying54 hi hz0 hz1 hz2 rfl Y _ ([]++TL.1) (hO6.kp k2) hn6 _ (some ⟨w6.heap.size,0,none⟩) 1 [(⟨e.kind,TL.2.1,TL.2.2,e.pw,e.rn,e.rd⟩:Opn)] (rowV_box hl) (by simp only[List.nil_append,List.length_cons,List.length_nil];omega) (by simp only[List.nil_append,List.length_cons,List.length_nil];omega)
    obtain⟨oa2,oc2,rfl,hc2,hr2⟩:=OwnV.row op_len op_one hO7
    have hlo2:∀ b o,oa2=some ⟨b,o,none⟩→Y.heap.size≤b:=fun b o e=>hO7.lo b (by subst e;simp[Value.ownBlock])
    have hln:(([]++TL.1)++[(⟨e.kind,TL.2.1,TL.2.2,e.pw,e.rn,e.rd⟩:Opn)]).length=TL.1.length+1:=by simp
    rw[hln] at hr7
    rw[List.nil_append] at hr2
    refine step_append_run (by rfl) _ _ _ (by rfl) _ _ (by rfl) (by rfl) _ w7 hr7 ?_
    refine hK.out _ _ (HSf.out _ hO7.1) (fun hHeld=>?_)
    clear hK K hr7
    refine tk 7 ?_;(try simp only[aput])
    refine wpAnyH_done (by kernel_rfl) ?_ _
    refine tailQ_held (k:=1) (by kernel_rfl) (fun hHeld=>?_)
    have hF3:=Y3.out.kp hO7.1
    have l1:=hF3.cell 1 rfl
    have lf:=hF3.2.1 1
    refine cm 8 (fun K hK=>?_)
    go_simp
    refine hK.out _ _ trivial (fun hHeld=>?_)
    clear hK K
    refine wpAnyH_done (by kernel_rfl) ?_ _
    generalize hW8:World.setCell w7 _ _=W8
    have hU8:Upd w.heap.size w7 W8:=hW8▸(Upd.refl _ w7).step l1 nofun _
    have hF8:BoxV W8 w.heap.size [.int .i64 (nm.length:Int),.slice oa2 (TL.1.length+1) oc2,.slice ua m uc]:=hW8▸hF3.set (by simp) _
    clear hW8 l1 lf
    go_wp2_with fail
    go_meet
    case rel=>exact⟨oa2,oc2,rfl,hF8,(rowV_upd hr2 hU8 (fun b o e=>by have:=hlo2 b o e;omega)).up (by rw[hU8.2.2.2.2];exact Nat.le_refl _),hlo2,hU8.2.2.1 _ (HKx.out.trans hO7.1) (Nat.le_refl _),(Y6.out.kp hO7.1).upd hU8 (by omega)⟩
   go_simp
   have hl:BoxV (V0.alloc (.cells #[.int .i64 e.kind,.int .i64 TL.2.1,.int .i64 TL.2.2,.int .i64 e.pw,.int .i64 e.rn,.int .i64 e.rd] 120)) V0.heap.size (Opn.cells (⟨e.kind,TL.2.1,TL.2.2,e.pw,e.rn,e.rd⟩:Opn)):=BoxV.new V0 (Opn.cells (⟨e.kind,TL.2.1,TL.2.2,e.pw,e.rn,e.rd⟩:Opn)) _ _ rfl
   have k1:Kp Y (V0.alloc (.cells #[.int .i64 e.kind,.int .i64 TL.2.1,.int .i64 TL.2.2,.int .i64 e.pw,.int .i64 e.rn,.int .i64 e.rd] 120)):=hO0.1.alloc _
   have k2:Kp V0 (V0.alloc (.cells #[.int .i64 e.kind,.int .i64 TL.2.1,.int .i64 TL.2.2,.int .i64 e.pw,.int .i64 e.rn,.int .i64 e.rd] 120)):=(Kp.refl V0).alloc _
   generalize World.alloc V0 (.cells #[.int .i64 e.kind,.int .i64 TL.2.1,.int .i64 TL.2.2,.int .i64 e.pw,.int .i64 e.rn,.int .i64 e.rd] 120)=V1 at *
   refine hK.out _ _ (HSf.out _ k1) (fun hHeld=>?_)
   clear hK K
   refine cm 3 (fun K hK=>?_)
   obtain⟨d1,w6,hr6,hO6,hn6,hg6⟩:=app_vg op_len (by decide) op_one 54 120 54 i0 _ 48 Tryz.underlying54 hi hz0 hz1 hz2 rfl Y _ [] (hO0.kp k2) hN0 _ oa1 oc1 TL.1 (YT.out.row.kp k1) (by simp only[List.length_nil];omega) (by simp only[List.length_nil];omega)
   refine step_append_run (by rfl) _ _ _ (by rfl) _ _ (by rfl) (by rfl) d1 w6 hr6 ?_
   refine hK.out _ _ (HSf.out _ hO6.1) (fun hHeld=>?_)
   clear hK K hr6
   have hl2:=hg6 _ _ hl (by have:=k0.size;have:=hV0;simp[Value.ownBlock];omega)
   refine cm 6 (fun K hK=>?_)
   obtain⟨d2,w7,hr7,hO7,hn7,_⟩:=app_vg op_len (by decide) op_one 54 120 54 i0 _ 48 Tryz.underlying54 hi hz0 hz1 hz2 rfl Y _ ([]++TL.1) hO6 hn6 _ (some ⟨V0.heap.size,0,none⟩) 1 [(⟨e.kind,TL.2.1,TL.2.2,e.pw,e.rn,e.rd⟩:Opn)] (rowV_box hl2) (by simp only[List.nil_append,List.length_cons,List.length_nil];omega) (by simp only[List.nil_append,List.length_cons,List.length_nil];omega)
   obtain⟨oa2,oc2,rfl,hc2,hr2⟩:=OwnV.row op_len op_one hO7
   have hlo2:∀ b o,oa2=some ⟨b,o,none⟩→Y.heap.size≤b:=fun b o e=>hO7.lo b (by subst e;simp[Value.ownBlock])
   have hln:(([]++TL.1)++[(⟨e.kind,TL.2.1,TL.2.2,e.pw,e.rn,e.rd⟩:Opn)]).length=TL.1.length+1:=by simp
   rw[hln] at hr7
   rw[List.nil_append] at hr2
   refine step_append_run (by rfl) _ _ _ (by rfl) _ _ (by rfl) (by rfl) _ w7 hr7 ?_
   refine hK.out _ _ (HSf.out _ hO7.1) (fun hHeld=>?_)
   clear hK K hr7
   refine tk 7 ?_;(try simp only[aput])
   refine wpAnyH_done (by kernel_rfl) ?_ _
   refine tailQ_held (k:=1) (by kernel_rfl) (fun hHeld=>?_)
   have hF3:=Y3.out.kp hO7.1
   have l1:=hF3.cell 1 rfl
   have lf:=hF3.2.1 1
   refine cm 8 (fun K hK=>?_)
   go_simp
   refine hK.out _ _ trivial (fun hHeld=>?_)
   clear hK K
   refine wpAnyH_done (by kernel_rfl) ?_ _
   generalize hW8:World.setCell w7 _ _=W8
   have hU8:Upd w.heap.size w7 W8:=hW8▸(Upd.refl _ w7).step l1 nofun _
   have hF8:BoxV W8 w.heap.size [.int .i64 (nm.length:Int),.slice oa2 (TL.1.length+1) oc2,.slice ua m uc]:=hW8▸hF3.set (by simp) _
   clear hW8 l1 lf
   go_wp2_with fail
   go_meet
   case rel=>exact⟨oa2,oc2,rfl,hF8,(rowV_upd hr2 hU8 (fun b o e=>by have:=hlo2 b o e;omega)).up (by rw[hU8.2.2.2.2];exact Nat.le_refl _),hlo2,hU8.2.2.1 _ (HKx.out.trans hO7.1) (Nat.le_refl _),(Y6.out.kp hO7.1).upd hU8 (by omega)⟩
  go_simp
  have hl:BoxV (V.alloc (.cells #[.int .i64 e.kind,.int .i64 TL.2.1,.int .i64 TL.2.2,.int .i64 e.pw,.int .i64 e.rn,.int .i64 e.rd] 120)) V.heap.size (Opn.cells (⟨e.kind,TL.2.1,TL.2.2,e.pw,e.rn,e.rd⟩:Opn)):=BoxV.new V (Opn.cells (⟨e.kind,TL.2.1,TL.2.2,e.pw,e.rn,e.rd⟩:Opn)) _ _ rfl
  have k1:Kp Y (V.alloc (.cells #[.int .i64 e.kind,.int .i64 TL.2.1,.int .i64 TL.2.2,.int .i64 e.pw,.int .i64 e.rn,.int .i64 e.rd] 120)):=kd.alloc _
  have k2:Kp V (V.alloc (.cells #[.int .i64 e.kind,.int .i64 TL.2.1,.int .i64 TL.2.2,.int .i64 e.pw,.int .i64 e.rn,.int .i64 e.rd] 120)):=(Kp.refl V).alloc _
  generalize World.alloc V (.cells #[.int .i64 e.kind,.int .i64 TL.2.1,.int .i64 TL.2.2,.int .i64 e.pw,.int .i64 e.rn,.int .i64 e.rd] 120)=V1 at *
  refine hK.out _ _ (HSf.out _ k1) (fun hHeld=>?_)
  clear hK K
  refine cm 0 (fun K hK=>?_)
  go_simp
  have hO0:OwnV Opn.cells 6 120 Y (V1.alloc (.cells #[] 120)) (.slice (some ⟨V1.heap.size,0,none⟩) 0 0) []:=OwnV.empty _ k1
  have hN0:NnV (.slice (some ⟨V1.heap.size,0,none⟩) 0 0):=⟨_,_,_,rfl,Nat.le_refl _⟩
  have k0:Kp V1 (V1.alloc (.cells #[] 120)):=(Kp.refl V1).alloc _
  generalize World.alloc V1 (.cells #[] 120)=V0 at *
  refine hK.out _ _ (HSf.out _ hO0.1) (fun hHeld=>?_)
  clear hK K
  refine cm 3 (fun K hK=>?_)
  obtain⟨d1,w6,hr6,hO6,hn6,hg6⟩:=app_vg op_len (by decide) op_one 54 120 54 i0 _ 48 Tryz.underlying54 hi hz0 hz1 hz2 rfl Y _ [] hO0 hN0 _ oa1 oc1 TL.1 (YT.out.row.kp hO0.1) (by simp only[List.length_nil];omega) (by simp only[List.length_nil];omega)
  refine step_append_run (by rfl) _ _ _ (by rfl) _ _ (by rfl) (by rfl) d1 w6 hr6 ?_
  refine hK.out _ _ (HSf.out _ hO6.1) (fun hHeld=>?_)
  clear hK K hr6
  have hl2:=hg6 _ _ (hl.kp k0) (by have:=hl.2.2;simp[Value.ownBlock];omega)
  refine cm 6 (fun K hK=>?_)
  obtain⟨d2,w7,hr7,hO7,hn7,_⟩:=app_vg op_len (by decide) op_one 54 120 54 i0 _ 48 Tryz.underlying54 hi hz0 hz1 hz2 rfl Y _ ([]++TL.1) hO6 hn6 _ (some ⟨V.heap.size,0,none⟩) 1 [(⟨e.kind,TL.2.1,TL.2.2,e.pw,e.rn,e.rd⟩:Opn)] (rowV_box hl2) (by simp only[List.nil_append,List.length_cons,List.length_nil];omega) (by simp only[List.nil_append,List.length_cons,List.length_nil];omega)
  obtain⟨oa2,oc2,rfl,hc2,hr2⟩:=OwnV.row op_len op_one hO7
  have hlo2:∀ b o,oa2=some ⟨b,o,none⟩→Y.heap.size≤b:=fun b o e=>hO7.lo b (by subst e;simp[Value.ownBlock])
  have hln:(([]++TL.1)++[(⟨e.kind,TL.2.1,TL.2.2,e.pw,e.rn,e.rd⟩:Opn)]).length=TL.1.length+1:=by simp
  rw[hln] at hr7
  rw[List.nil_append] at hr2
  refine step_append_run (by rfl) _ _ _ (by rfl) _ _ (by rfl) (by rfl) _ w7 hr7 ?_
  refine hK.out _ _ (HSf.out _ hO7.1) (fun hHeld=>?_)
  clear hK K hr7
  refine tk 7 ?_;(try simp only[aput])
  refine wpAnyH_done (by kernel_rfl) ?_ _
  refine tailQ_held (k:=1) (by kernel_rfl) (fun hHeld=>?_)
  have hF3:=Y3.out.kp hO7.1
  have l1:=hF3.cell 1 rfl
  have lf:=hF3.2.1 1
  refine cm 8 (fun K hK=>?_)
  go_simp
  refine hK.out _ _ trivial (fun hHeld=>?_)
  clear hK K
  refine wpAnyH_done (by kernel_rfl) ?_ _
  generalize hW8:World.setCell w7 _ _=W8
  have hU8:Upd w.heap.size w7 W8:=hW8▸(Upd.refl _ w7).step l1 nofun _
  have hF8:BoxV W8 w.heap.size [.int .i64 (nm.length:Int),.slice oa2 (TL.1.length+1) oc2,.slice ua m uc]:=hW8▸hF3.set (by simp) _
  clear hW8 l1 lf
  go_wp2_with fail
  go_meet
  case rel=>exact⟨oa2,oc2,rfl,hF8,(rowV_upd hr2 hU8 (fun b o e=>by have:=hlo2 b o e;omega)).up (by rw[hU8.2.2.2.2];exact Nat.le_refl _),hlo2,hU8.2.2.1 _ (HKx.out.trans hO7.1) (Nat.le_refl _),(Y6.out.kp hO7.1).upd hU8 (by omega)⟩
 case rest =>
 obtain⟨oa2,oc2,rfl,h3,hr2,hlo2,hKz,h6⟩:=hcut
 obtain⟨Z,hZ⟩:∃ X:World,X=wc:=⟨_,rfl⟩
 subst hZ
 have HR2:=Lib.hid hr2
 have HLo2:=Lib.hid hlo2
 have HOl:=Lib.hid (show (TL.1++[(⟨e.kind,TL.2.1,TL.2.2,e.pw,e.rn,e.rd⟩:Opn)]).length=TL.1.length+1 by simp)
 clear hr2 hlo2 Y3 YO Y6 YT
 obtain⟨N1,hN1⟩:∃ N1,N1=TL.1.length+1:=⟨_,rfl⟩
 rw[← hN1] at h3 HOl
 have hw1:IntKind.i64.wrap ((nm.length:Int)+(N1:Int))=(nm.length:Int)+(N1:Int):=IntWalk.i64_in _ (by omega)
 have hw2:IntKind.i64.wrap ((nm.length:Int)+(N1:Int)-1)=(nm.length:Int)+(N1:Int)-1:=IntWalk.i64_in _ (by omega)
 have HN1:=Lib.hid hN1
 clear hN1
 go_upto_region 18 with fail
 have kd:=(Kp.refl Z).drew
 have HY3:=Lib.hid (h3.kp kd)
 have HR6:=Lib.hid (h6.kp kd)
 have KD:=Lib.hid (hKz.trans kd)
 have HTd:=Lib.hid ((HR2.out.kp kd).up kd.size)
 have hSd:Z.drew.cell? ⟨w.heap.size,0,none⟩=some (.int .i64 (nm.length:Int))∧Z.drew.cell? ⟨w.heap.size,1,none⟩=some (.slice oa2 N1 oc2)∧Z.drew.cell? ⟨w.heap.size,2,none⟩=some (.slice ua m uc):=⟨HY3.out.cell 0 rfl,HY3.out.cell 1 rfl,HY3.out.cell 2 rfl⟩
 refine wp_region_held_drew (S:=fun w'=>w'.cell? ⟨w.heap.size,0,none⟩=some (.int .i64 (nm.length:Int))∧w'.cell? ⟨w.heap.size,1,none⟩=some (.slice oa2 N1 oc2)∧w'.cell? ⟨w.heap.size,2,none⟩=some (.slice ua m uc)) (by kernel_rfl) hSd (fun hHeld=>?_)
 have HSd:=Lib.hid hSd
 clear hSd kd h3 h6 hKz
 generalize Z.drew=V at *
 refine tk 0 ?_;refine tk 1 ?_;refine tk 2 ?_;refine tk 3 ?_;refine tk 4 ?_;refine tk 5 ?_;refine tk 6 ?_;refine tk 7 ?_;(try simp only[aput])
 have k3:=Kp.refl V
 have hR:=HR6.out.kp (k3)
 have r0:=hR.cell 0 rfl
 have r1:=hR.cell 1 rfl
 have r2:=hR.cell 2 rfl
 have f0:=hR.2.1 0
 have f1:=hR.2.1 1
 have f2:=hR.2.1 2
 have HRR:=Lib.hid hR
 clear hR
 refine cm 8 (fun K hK=>?_)
 go_simp
 generalize hW9:((World.setCell _ _ _).setCell _ _).setCell _ _=W9
 obtain⟨hF,hKw,hU⟩:=box3_set HRR.out (KD.out) (show w.heap.size≤w.heap.size+1+1 by omega) nofun nofun nofun _ _ _ hW9
 have hne (b j:Nat) (hb:b≠w.heap.size+1+1):W9.cell? ⟨b,j,none⟩=_:=hU.2.2.2.1 ⟨b,j,none⟩ hb
 clear hW9 r0 r1 r2 f0 f1 f2
 refine hK.out _ _ ⟨(hne _ 0 (by omega)).trans HSd.out.1,(hne _ 1 (by omega)).trans HSd.out.2.1,(hne _ 2 (by omega)).trans HSd.out.2.2⟩ (fun hHeld=>?_)
 clear hK K
 refine tk 9 ?_;(try simp only[aput])
 refine wpAnyH_done (by kernel_rfl) ?_ _
 go_wp2
 have s0:=hF.cell 0 rfl
 have s1:=hF.cell 1 rfl
 have s2:=hF.cell 2 rfl
 refine bodyPost_ret (v:=.tuple #[.agg #[.int .i64 (nm.length:Int),.slice oa2 N1 oc2,.slice ua m uc],.int .i64 ((nm.length:Int)+(N1:Int)-1)]) (by simp[results,Tryz.results153,go_sem,s0,s1,s2]) rfl ?_
 rw[HP.out,HPf.out]
 refine⟨oa2,oc2,?_,⟨(rowV_upd HTd.out hU (fun b o e=>by have:=HLo2.out b o e;omega)).up (by rw[hU.2.2.2.2];exact Nat.le_refl _),.inr (fun b o e=>by have:=HLo2.out b o e;omega)⟩,hKw⟩
 show _=Ending.returned (.tuple #[.agg #[_,.slice _ (List.length _) _,_],.int .i64 ((nm.length+TL.1.length:Nat):Int)])
 rw[HOl.out,show (nm.length:Int)+(N1:Int)-1=((nm.length+TL.1.length:Nat):Int) by have:=HN1.out;omega]
end
end Go.Proofs.YteidgoldnllabaaGreatDoor
