/-
  Walks: ref13.count, Valid, Size.
-/
import Derived.Test.YteidgoldnllabaaGreatDoorTRNcN
import Derived.Test.YteidgoldnllabaaGreatDoorTAwkT
import Derived.Test.YteidgoldnllabaaGreatDoorTNum
import Derived.Lib.BitFns
import Derived.Lib.TrailingZeros
import Derived.Test.YteidgoldnllabaaGreatDoorCards
import Derived.Test.YteidgoldnllabaaGreatDoorTie
import Derived.WideKeyArgs
import Derived.WalkKit
import Derived.Below
import Derived.ChangeSame
import Derived.Deep.DeepHandedRow
import Derived.Lib.LaidTab
import Derived.Test.YteidgoldnllabaaGreatDoorTWalN
import Derived.WalkLawsBesides
import Derived.Deep.RegionHeld3
set_option maxHeartbeats 4000000
set_option maxRecDepth 100000
namespace Go.Proofs.YteidgoldnllabaaGreatDoor
open Go.RowKit
open Lib (hid)
section
open Go.RowKit Go.Sort
theorem rctL_le {lv M:Nat}:∀ (l:List Ex) (n:Nat),(∀ x∈l,x.rct lv≤M)→n≤200+M→Ex.rctL l lv n≤200+M
 | [],n,_,hn=>by rw[Ex.rctL_nil];exact hn
 | x::t,n,h,hn=>by
  rw[Ex.rctL_cons]
  split
  ·exact rctL_le t _ (fun y hy=>h y (.tail _ hy)) (by have:=h x (.head _);omega)
  ·exact hn
theorem rct_le:∀ (e:Ex) (lv:Nat),e.rct lv≤1048576+200*lv:=by
 refine Ex.ind fun e ih lv=>?_
 cases lv with
 | zero=>rw[Ex.rct_zero];omega
 | succ lv =>
 rw[Ex.rct_succ]
 split
 ·omega
 have:=rctL_le (lv:=lv) (M:=1048576+200*lv) e.l 1 (fun x hx=>ih x hx lv) (by omega)
 omega
def RCountAt (e:Ex):Prop:=∀ (lv B:Nat) (w:World),e.at w B→lv≤20→Calls Tryz.prog 151 #[.agg #[.int .i64 e.kind,.int .i64 e.rn,.int .i64 e.rd,.string e.name,.int .i64 e.pw,.slice e.a e.l.length e.c],.int .i64 (lv:Int)] w fun r w'=>r=.returned (.int .i64 (e.rct lv:Int))∧Kp w w'
theorem rcount_any:∀ e:Ex,RCountAt e:=by
 refine Ex.ind fun e ih lv B w hat hlv=>?_
 have k1:Kp w (w.alloc (.cells #[.int .i64 e.kind,.int .i64 e.rn,.int .i64 e.rd,.string e.name,.int .i64 e.pw,.slice e.a e.l.length e.c] 71)):=(Kp.refl w).alloc _
 have hS:((w.alloc (.cells #[.int .i64 e.kind,.int .i64 e.rn,.int .i64 e.rd,.string e.name,.int .i64 e.pw,.slice e.a e.l.length e.c] 71)).cell? ⟨w.heap.size,0,none⟩=some (.int .i64 e.kind)∧(w.alloc (.cells #[.int .i64 e.kind,.int .i64 e.rn,.int .i64 e.rd,.string e.name,.int .i64 e.pw,.slice e.a e.l.length e.c] 71)).cell? ⟨w.heap.size,1,none⟩=some (.int .i64 e.rn)∧(w.alloc (.cells #[.int .i64 e.kind,.int .i64 e.rn,.int .i64 e.rd,.string e.name,.int .i64 e.pw,.slice e.a e.l.length e.c] 71)).cell? ⟨w.heap.size,2,none⟩=some (.int .i64 e.rd)∧(w.alloc (.cells #[.int .i64 e.kind,.int .i64 e.rn,.int .i64 e.rd,.string e.name,.int .i64 e.pw,.slice e.a e.l.length e.c] 71)).cell? ⟨w.heap.size,3,none⟩=some (.string e.name)∧(w.alloc (.cells #[.int .i64 e.kind,.int .i64 e.rn,.int .i64 e.rd,.string e.name,.int .i64 e.pw,.slice e.a e.l.length e.c] 71)).cell? ⟨w.heap.size,4,none⟩=some (.int .i64 e.pw)∧(w.alloc (.cells #[.int .i64 e.kind,.int .i64 e.rn,.int .i64 e.rd,.string e.name,.int .i64 e.pw,.slice e.a e.l.length e.c] 71)).cell? ⟨w.heap.size,5,none⟩=some (.slice e.a e.l.length e.c)):=by simp
 obtain⟨⟨hlc,hcm,hnm,hl⟩,hrow,hch⟩:=Ex.at_iff.1 hat
 cases lv with
 | zero =>
  have HD:=hid e.rct_zero
  show Calls Tryz.prog 151 #[.agg #[.int .i64 e.kind,.int .i64 e.rn,.int .i64 e.rd,.string e.name,.int .i64 e.pw,.slice e.a e.l.length e.c],.int .i64 0] w _
  go_enter Tryz.func151,Tryz.ntmps151
  go_upto_region 1 with fail
  generalize w.alloc _=W at *
  clear hrow hch ih hat hS
  go_wp2
  go_ret
  exact⟨ret_int (by rw[HD.out];rfl),k1⟩
 | succ lv =>
 have HD:=hid (e.rct_succ lv)
 have hb:=hid (rct_le e (lv+1))
 rw[Int.natCast_succ]
 have z0:(((lv:Int)+1)==0)=false:=beq_eq_false_iff_ne.2 (by omega)
 go_enter Tryz.func151,Tryz.ntmps151
 go_upto_region 1 with fail
 generalize w.alloc _=W at *
 have HN:=hid (rnode_any e W (by omega) hnm)
 obtain⟨s0,s1,s2,s3,s4,s5⟩:=hS
 cases hv:nodeB e with
 | false =>
  rw[hv] at HN
  have Hv:=hid hv
  clear hrow hch ih hat hv
  have K1:=hid k1
  clear k1
  go_wp2_with (go_at_call 196;go_fit HN.out;rintro r w2 ⟨rfl,k2⟩)
  go_ret
  exact⟨ret_int (by rw[HD.out,if_pos Hv.out];rfl),K1.out.trans k2⟩
 | true =>
 rw[hv] at HN
 have Hv:=hid hv
 have HR:=hid (hrow.kp k1)
 have HC:=hid fun x hx=>Ex.at_kp (hch x hx) k1
 have HI:=hid ih
 have K1:=hid k1
 clear hrow hch ih k1 hat hv
 go_wp2_with (go_at_call 196;go_fit HN.out;rintro r w2 ⟨rfl,k2⟩)
 have K2:=hid k2
 go_loopw [5,6] (fun x y wr=>∃ k n:Nat,k≤e.l.length∧x=.int .i64 (n:Int)∧y=.int .i64 (k:Int)∧n≤1048576+200*(lv+1)∧Ex.rctL (e.l.drop k) lv n=Ex.rctL e.l lv 1∧Kp W wr) (fun _ y _=>e.l.length-(intOf y).toNat)
 case atStart=>exact⟨0,1,by omega,rfl,rfl,by omega,by simp,K2.out⟩
 case round =>
 obtain⟨k,n,hk,rfl,rfl,hn,hm,hkp⟩:=hrel
 have Hm:=hid hm;clear hm k2
 have z5:=hkp.cell s5
 by_cases hlt:k<e.l.length
 rotate_left
 ·obtain rfl:k=e.l.length:=by omega
  have hf:=Hm.out
  rw[List.drop_length,Ex.rctL_nil] at hf
  have Hf:=hid hf
  clear hf
  go_wp2
  go_ret
  exact⟨ret_int (by rw[HD.out,if_neg (by rw[Hv.out];decide),← Hf.out]),K1.out.trans hkp⟩
 obtain⟨x,hx⟩:∃ x,e.l[k]? = some x:=⟨_,List.getElem?_eq_getElem hlt⟩
 have Hd:=hid (show e.l.drop k=x::e.l.drop (k+1) from (List.drop_eq_getElem_cons hlt).trans (by rw[(List.getElem?_eq_some_iff.1 hx).2]))
 have hxm:=List.mem_of_getElem? hx
 obtain⟨b,o,ha,hb2,h0,h1,h2,h3,h4,h5⟩:=(HR.out.kp hkp) k x hx
 have HX:=hid fun W' h=>HI.out x hxm lv B W' (Ex.at_kp (HC.out x hxm) (hkp.trans h)) (by omega)
 have Hkp:=hid hkp
 have Hbx:=rct_le x lv
 clear hx hxm hkp
 rw[ha] at z5
 by_cases hn2:n≤200
 rotate_left
 ·have hn3:¬ (n:Int)≤200:=by omega
  have hf:=Hm.out
  rw[Hd.out,Ex.rctL_cons,if_neg hn2] at hf
  have Hf:=hid hf
  clear hf
  rw[ha]
  go_wp2
  go_ret
  exact⟨ret_int (by rw[HD.out,if_neg (by rw[Hv.out];decide),← Hf.out]),K1.out.trans Hkp.out⟩
 have hn3:(n:Int)≤200:=by omega
 rw[ha]
 have HX2:=hid (HX.out _ (Kp.refl wr))
 go_wp2_with (go_at_call 151;go_fit HX2.out;rintro r w2 ⟨rfl,k2⟩)
 go_wp2
 go_roundw
 case measure=>simp[intOf];omega
 case rel =>
 refine⟨k+1,n+x.rct lv,by omega,by go_num,by go_num,by omega,?_,Hkp.out.trans k2⟩
 have:=Hm.out
 rw[Hd.out,Ex.rctL_cons,if_pos hn2] at this
 exact this
theorem rvalid13_any (e:Ex) (B:Nat) (w:World) (hat:e.at w B):Calls Tryz.prog 98 #[.agg #[.int .i64 e.kind,.int .i64 e.rn,.int .i64 e.rd,.string e.name,.int .i64 e.pw,.slice e.a e.l.length e.c]] w fun r w'=>r=.returned (.bool e.ok)∧Kp w w':=by
 have k1:Kp w (w.alloc (.cells #[.int .i64 e.kind,.int .i64 e.rn,.int .i64 e.rd,.string e.name,.int .i64 e.pw,.slice e.a e.l.length e.c] 71)):=(Kp.refl w).alloc _
 have hS:((w.alloc (.cells #[.int .i64 e.kind,.int .i64 e.rn,.int .i64 e.rd,.string e.name,.int .i64 e.pw,.slice e.a e.l.length e.c] 71)).cell? ⟨w.heap.size,0,none⟩=some (.int .i64 e.kind)∧(w.alloc (.cells #[.int .i64 e.kind,.int .i64 e.rn,.int .i64 e.rd,.string e.name,.int .i64 e.pw,.slice e.a e.l.length e.c] 71)).cell? ⟨w.heap.size,1,none⟩=some (.int .i64 e.rn)∧(w.alloc (.cells #[.int .i64 e.kind,.int .i64 e.rn,.int .i64 e.rd,.string e.name,.int .i64 e.pw,.slice e.a e.l.length e.c] 71)).cell? ⟨w.heap.size,2,none⟩=some (.int .i64 e.rd)∧(w.alloc (.cells #[.int .i64 e.kind,.int .i64 e.rn,.int .i64 e.rd,.string e.name,.int .i64 e.pw,.slice e.a e.l.length e.c] 71)).cell? ⟨w.heap.size,3,none⟩=some (.string e.name)∧(w.alloc (.cells #[.int .i64 e.kind,.int .i64 e.rn,.int .i64 e.rd,.string e.name,.int .i64 e.pw,.slice e.a e.l.length e.c] 71)).cell? ⟨w.heap.size,4,none⟩=some (.int .i64 e.pw)∧(w.alloc (.cells #[.int .i64 e.kind,.int .i64 e.rn,.int .i64 e.rd,.string e.name,.int .i64 e.pw,.slice e.a e.l.length e.c] 71)).cell? ⟨w.heap.size,5,none⟩=some (.slice e.a e.l.length e.c)):=by simp
 have hok:=hid (rct_ok e)
 go_enter Tryz.func98,Tryz.ntmps98
 go_upto_region 1 with fail
 generalize w.alloc _=W at *
 have HC:=hid (rcount_any e 20 B W (Ex.at_kp hat k1) (by omega))
 have K1:=hid k1
 clear k1 hat
 obtain⟨s0,s1,s2,s3,s4,s5⟩:=hS
 go_wp2_with (go_at_call 151;go_fit HC.out;rintro r w2 ⟨rfl,k2⟩)
 go_ret
 exact⟨ret_bool (by rw[← hok.out];apply decide_eq_decide.2;omega),K1.out.trans k2⟩
end
structure De where
 name:ByteArray
 ln:Int
 ld:Int
 hn:Int
 hd:Int
structure Qe where
 name:ByteArray
 e:Ex
structure Ed where
 g:Ex
 dir:Int
 tx:ByteArray
 a:Option Addr
 c:Nat
 rs:List Qe
structure Mo where
 name:ByteArray
 fa:Option Addr
 fc:Nat
 fs:List Qe
 ea:Option Addr
 ec:Nat
 es:List Ed
structure Pr where
 sa:Option Addr
 sc:Nat
 ss:List De
 pa:Option Addr
 pc:Nat
 ps:List De
 ma:Option Addr
 mc:Nat
 ms:List Mo
 tn:Int
 td:Int
def De.cells (x:De):List Value:=[.string x.name,.int .i64 x.ln,.int .i64 x.ld,.int .i64 x.hn,.int .i64 x.hd]
def Qe.cells (x:Qe):List Value:=[.string x.name,.int .i64 x.e.kind,.int .i64 x.e.rn,.int .i64 x.e.rd,.string x.e.name,.int .i64 x.e.pw,.slice x.e.a x.e.l.length x.e.c]
def Ed.cells (x:Ed):List Value:=[.int .i64 x.g.kind,.int .i64 x.g.rn,.int .i64 x.g.rd,.string x.g.name,.int .i64 x.g.pw,.slice x.g.a x.g.l.length x.g.c,.int .i64 x.dir,.string x.tx,.slice x.a x.rs.length x.c]
def Mo.cells (x:Mo):List Value:=[.string x.name,.slice x.fa x.fs.length x.fc,.slice x.ea x.es.length x.ec]
def Pr.cells (x:Pr):List Value:=[.slice x.sa x.ss.length x.sc,.slice x.pa x.ps.length x.pc,.slice x.ma x.ms.length x.mc,.int .i64 x.tn,.int .i64 x.td]
def declB (d:De):Bool:=nameB d.name&&(ratB d.ln d.ld&&ratB d.hn d.hd)
def eqnB (q:Qe):Bool:=nameB q.name&&q.e.ok
def edgeB (x:Ed):Bool:=x.g.ok&&((decide (x.dir=1)||decide (x.dir=2))&&(nameB x.tx&&(decide (x.rs.length≤4)&&x.rs.all eqnB)))
def modeB (m:Mo):Bool:=nameB m.name&&(decide (m.fs.length≤4)&&(decide (m.es.length≤4)&&(m.fs.all eqnB&&m.es.all edgeB)))
def probB (p:Pr):Bool:=(decide (1≤p.ss.length∧p.ss.length≤4)&&(decide (p.ps.length≤4)&&decide (1≤p.ms.length∧p.ms.length≤8)))&&(p.ss.all declB&&(p.ps.all declB&&(p.ms.all modeB&&ratB p.tn p.td)))
def CellsV (w:World) (b o:Nat) (vs:List Value):Prop:=∀ (j:Nat) (v:Value),vs[j]? = some v→w.cell? ⟨b,o+j,none⟩=some v
def RowV {α:Type} (cells:α→List Value) (k:Nat) (w:World) (B:Nat) (a:Option Addr) (zs:List α):Prop:=∀ (i:Nat) (x:α),zs[i]? = some x→∃ b o,a=some ⟨b,o,none⟩∧b<B∧CellsV w b (o+i*k) (cells x)
theorem CellsV.kp {w w':World} {b o:Nat} {vs:List Value} (h:CellsV w b o vs) (k:Kp w w'):CellsV w' b o vs:=fun j v hj=>k.cell (h j v hj)
theorem RowV.kp {α:Type} {cells:α→List Value} {n:Nat} {w w':World} {B:Nat} {a:Option Addr} {zs:List α} (h:RowV cells n w B a zs) (k:Kp w w'):RowV cells n w' B a zs:=fun i x hx=>by
 obtain⟨b,o,e,hb,hc⟩:=h i x hx
 exact⟨b,o,e,hb,hc.kp k⟩
theorem CellsV.new (w:World) (vs:List Value) (t:TypeId) (g:Nat) (h:w.heap.size=g):CellsV (w.alloc (.cells vs.toArray t)) g 0 vs:=fun j v hj=>by
 subst h
 have h1:vs.toArray[j]? = some v:=by simpa using hj
 simp[hj]
theorem RowV.up {α:Type} {cells:α→List Value} {n:Nat} {w:World} {B B':Nat} {a:Option Addr} {zs:List α} (h:RowV cells n w B a zs) (hB:B≤B'):RowV cells n w B' a zs:=fun i x hx=>by
 obtain⟨b,o,e,hb,hc⟩:=h i x hx
 exact⟨b,o,e,by omega,hc⟩
def De.at (d:De) (_w:World) (_B:Nat):Prop:=d.name.size≤maxLen
def Qe.at (q:Qe) (w:World) (B:Nat):Prop:=q.name.size≤maxLen∧q.e.at w B
def Ed.at (x:Ed) (w:World) (B:Nat):Prop:=(x.g.at w B∧x.tx.size≤maxLen∧x.rs.length≤1048576)∧RowV Qe.cells 7 w B x.a x.rs∧∀ q∈x.rs,q.at w B
def Mo.at (m:Mo) (w:World) (B:Nat):Prop:=(m.name.size≤maxLen∧m.fs.length≤1048576∧m.es.length≤1048576)∧(RowV Qe.cells 7 w B m.fa m.fs∧∀ q∈m.fs,q.at w B)∧RowV Ed.cells 9 w B m.ea m.es∧∀ x∈m.es,x.at w B
def Pr.at (p:Pr) (w:World) (B:Nat):Prop:=(p.ss.length≤1048576∧p.ps.length≤1048576∧p.ms.length≤1048576)∧(RowV De.cells 5 w B p.sa p.ss∧∀ d∈p.ss,d.at w B)∧(RowV De.cells 5 w B p.pa p.ps∧∀ d∈p.ps,d.at w B)∧RowV Mo.cells 3 w B p.ma p.ms∧∀ m∈p.ms,m.at w B
theorem Qe.at_kp {q:Qe} {w w':World} {B:Nat} (h:q.at w B) (k:Kp w w'):q.at w' B:=⟨h.1,Ex.at_kp h.2 k⟩
theorem Ed.at_kp {x:Ed} {w w':World} {B:Nat} (h:x.at w B) (k:Kp w w'):x.at w' B:=⟨⟨Ex.at_kp h.1.1 k,h.1.2⟩,h.2.1.kp k,fun q hq=>Qe.at_kp (h.2.2 q hq) k⟩
theorem Mo.at_kp {m:Mo} {w w':World} {B:Nat} (h:m.at w B) (k:Kp w w'):m.at w' B:=⟨h.1,⟨h.2.1.1.kp k,fun q hq=>Qe.at_kp (h.2.1.2 q hq) k⟩,h.2.2.1.kp k,fun x hx=>Ed.at_kp (h.2.2.2 x hx) k⟩
theorem Pr.at_kp {p:Pr} {w w':World} {B:Nat} (h:p.at w B) (k:Kp w w'):p.at w' B:=⟨h.1,⟨h.2.1.1.kp k,h.2.1.2⟩,⟨h.2.2.1.1.kp k,h.2.2.1.2⟩,h.2.2.2.1.kp k,fun x hx=>Mo.at_kp (h.2.2.2.2 x hx) k⟩
section
open Go.ChangeShapes Go.WideShapes Go.ChangeAt Go.RowKit Go.Deep
theorem cut_at {α:Type} (cs:List α) (a b:Nat):cs.drop a=(cs.drop a).take b++cs.drop (a+b):=by
 rw[← List.drop_drop,List.take_append_drop]
theorem list4V {α:Type} {l:List α} (h:l.length=4):∃ a b c d,l=[a,b,c,d]:=by
 match l,h with
 | [a,b,c,d],_=>exact⟨a,b,c,d,rfl⟩
theorem list3V {α:Type} {l:List α} (h:l.length=3):∃ a b c,l=[a,b,c]:=by
 match l,h with
 | [a,b,c],_=>exact⟨a,b,c,rfl⟩
theorem choose_gen {α:Type} (d:α) {n:Nat} {p:Nat→α→Prop} (h:∀ i,i<n→∃ y,p i y):∃ f:Nat→α,∀ i,i<n→p i (f i):=by
 refine⟨fun i=>if hi:i<n then Classical.choose (h i hi) else d,fun i hi=>?_⟩
 dsimp only
 rw[dif_pos hi]
 exact Classical.choose_spec (h i hi)
theorem cellsRange:Tryz.prog.cellsOf 66=4:=by kernel_rfl
theorem cellsDecl:Tryz.prog.cellsOf 68=5:=by kernel_rfl
theorem cellsEqu:Tryz.prog.cellsOf 73=7:=by kernel_rfl
theorem cellsRst:Tryz.prog.cellsOf 107=7:=by kernel_rfl
theorem cellsEdge:Tryz.prog.cellsOf 103=9:=by kernel_rfl
theorem cellsMode:Tryz.prog.cellsOf 41=3:=by kernel_rfl
theorem cellsProb:Tryz.prog.cellsOf 27=5:=by kernel_rfl
theorem cellsSD:Tryz.prog.cellsOf 22=1:=by kernel_rfl
theorem cellsSQ:Tryz.prog.cellsOf 38=1:=by kernel_rfl
theorem cellsSR:Tryz.prog.cellsOf 101=1:=by kernel_rfl
theorem cellsSX:Tryz.prog.cellsOf 39=1:=by kernel_rfl
theorem cellsSM:Tryz.prog.cellsOf 23=1:=by kernel_rfl
section
variable {H:Type} {enc:TypeId×Value→H} {w:World} {base:Nat} {spare:Nat→Bool} {held:Bool}
theorem open_rat {fuel:Nat} {cs:List Value} {x:DataW H×List MemPlace} (h:DataW.trod enc Tryz.prog w base spare held fuel 25 cs=some x):∃ r d:Int,cs=[.int .i64 r,.int .i64 d]:=by
 obtain⟨zs,n2,_,_,hlen,hzz,hg⟩:=DataW.trod_struct Tryz.underlying25 h
 replace hlen:=hlen.trans cellsR
 obtain⟨c1,c2,rfl⟩:=list2 hlen
 obtain⟨z0,z1,rfl⟩:=list2 hzz
 have g0:DataW.trod enc Tryz.prog w base spare held n2 3 (([c1,c2].drop 0).take (Tryz.prog.cellsOf 3))=some z0:=hg 0 _ rfl
 have g1:DataW.trod enc Tryz.prog w base spare held n2 3 (([c1,c2].drop 1).take (Tryz.prog.cellsOf 3))=some z1:=hg 1 _ rfl
 rw[cellsI] at g0 g1
 have g0:DataW.trod enc Tryz.prog w base spare held n2 3 [c1]=some z0:=g0
 have g1:DataW.trod enc Tryz.prog w base spare held n2 3 [c2]=some z1:=g1
 obtain⟨r,e1,_,_⟩:=DataW.trod_int Tryz.underlying3 g0
 obtain⟨d,e2,_,_⟩:=DataW.trod_int Tryz.underlying3 g1
 exact⟨r,d,by rw[(List.cons.inj e1).1,(List.cons.inj e2).1]⟩
theorem open_rng {fuel:Nat} {cs:List Value} {x:DataW H×List MemPlace} (h:DataW.trod enc Tryz.prog w base spare held fuel 66 cs=some x):∃ a b c d:Int,cs=[.int .i64 a,.int .i64 b,.int .i64 c,.int .i64 d]:=by
 obtain⟨zs,n2,_,_,hlen,hzz,hg⟩:=DataW.trod_struct Tryz.underlying66 h
 replace hlen:=hlen.trans cellsRange
 obtain⟨z0,z1,rfl⟩:=list2 hzz
 have g0:DataW.trod enc Tryz.prog w base spare held n2 25 ((cs.drop 0).take (Tryz.prog.cellsOf 25))=some z0:=hg 0 _ rfl
 have g1:DataW.trod enc Tryz.prog w base spare held n2 25 ((cs.drop 2).take (Tryz.prog.cellsOf 25))=some z1:=hg 1 _ rfl
 rw[cellsR] at g0 g1
 obtain⟨a,b,e1⟩:=open_rat g0
 obtain⟨c,d,e2⟩:=open_rat g1
 refine⟨a,b,c,d,?_⟩
 have h0:cs=cs.drop 0:=rfl
 rw[h0,cut_at cs 0 2,e1,cut_at cs (0+2) 2,e2,List.drop_of_length_le (by omega)]
 rfl
theorem open_dec {fuel:Nat} {cs:List Value} {x:DataW H×List MemPlace} (h:DataW.trod enc Tryz.prog w base spare held fuel 68 cs=some x):∃ d:De,cs=d.cells∧d.at w w.heap.size:=by
 obtain⟨zs,n2,_,_,hlen,hzz,hg⟩:=DataW.trod_struct Tryz.underlying68 h
 replace hlen:=hlen.trans cellsDecl
 obtain⟨z0,z1,rfl⟩:=list2 hzz
 have g0:DataW.trod enc Tryz.prog w base spare held n2 9 ((cs.drop 0).take (Tryz.prog.cellsOf 9))=some z0:=hg 0 _ rfl
 have g1:DataW.trod enc Tryz.prog w base spare held n2 66 ((cs.drop 1).take (Tryz.prog.cellsOf 66))=some z1:=hg 1 _ rfl
 rw[cellsSt] at g0
 rw[cellsRange] at g1
 obtain⟨s,e1,_,hs⟩:=DataW.trod_string Tryz.underlying9 g0
 obtain⟨a,b,c,d,e2⟩:=open_rng g1
 refine⟨⟨s,a,b,c,d⟩,?_,hs⟩
 have h0:cs=cs.drop 0:=rfl
 rw[h0,cut_at cs 0 1,e1,cut_at cs (0+1) 4,e2,List.drop_of_length_le (by omega)]
 rfl
theorem open_eqn {fuel:Nat} {cs:List Value} {x:DataW H×List MemPlace} (h:DataW.trod enc Tryz.prog w base spare held fuel 73 cs=some x) (hb:Rows.uptoBulk x.1≤1048576):∃ q:Qe,cs=q.cells∧q.at w w.heap.size:=by
 obtain⟨zs,n2,_,hx,hlen,hzz,hg⟩:=DataW.trod_struct Tryz.underlying73 h
 replace hlen:=hlen.trans cellsEqu
 obtain⟨z0,z1,rfl⟩:=list2 hzz
 have g0:DataW.trod enc Tryz.prog w base spare held n2 9 ((cs.drop 0).take (Tryz.prog.cellsOf 9))=some z0:=hg 0 _ rfl
 have g1:DataW.trod enc Tryz.prog w base spare held n2 71 ((cs.drop 1).take (Tryz.prog.cellsOf 71))=some z1:=hg 1 _ rfl
 rw[cellsSt] at g0
 rw[cellsE] at g1
 obtain⟨s,e1,_,hs⟩:=DataW.trod_string Tryz.underlying9 g0
 obtain⟨e,e2,he⟩:=open_ex n2 n2 _ _ (Nat.le_refl _) g1 (Nat.le_trans (by rw[hx];exact bulk_agg (by simp)) hb)
 refine⟨⟨s,e⟩,?_,hs,he⟩
 have h0:cs=cs.drop 0:=rfl
 rw[h0,cut_at cs 0 1,e1,cut_at cs (0+1) 6,e2,List.drop_of_length_le (by omega)]
 rfl
theorem open_rst {fuel:Nat} {cs:List Value} {x:DataW H×List MemPlace} (h:DataW.trod enc Tryz.prog w base spare held fuel 107 cs=some x) (hb:Rows.uptoBulk x.1≤1048576):∃ q:Qe,cs=q.cells∧q.at w w.heap.size:=by
 obtain⟨zs,n2,_,hx,hlen,hzz,hg⟩:=DataW.trod_struct Tryz.underlying107 h
 replace hlen:=hlen.trans cellsRst
 obtain⟨z0,z1,rfl⟩:=list2 hzz
 have g0:DataW.trod enc Tryz.prog w base spare held n2 9 ((cs.drop 0).take (Tryz.prog.cellsOf 9))=some z0:=hg 0 _ rfl
 have g1:DataW.trod enc Tryz.prog w base spare held n2 71 ((cs.drop 1).take (Tryz.prog.cellsOf 71))=some z1:=hg 1 _ rfl
 rw[cellsSt] at g0
 rw[cellsE] at g1
 obtain⟨s,e1,_,hs⟩:=DataW.trod_string Tryz.underlying9 g0
 obtain⟨e,e2,he⟩:=open_ex n2 n2 _ _ (Nat.le_refl _) g1 (Nat.le_trans (by rw[hx];exact bulk_agg (by simp)) hb)
 refine⟨⟨s,e⟩,?_,hs,he⟩
 have h0:cs=cs.drop 0:=rfl
 rw[h0,cut_at cs 0 1,e1,cut_at cs (0+1) 6,e2,List.drop_of_length_le (by omega)]
 rfl
theorem open_rowV {α:Type} (d:α) (cells:α→List Value) (k:Nat) (hk:0<k) (tS tE:TypeId) (hu:Tryz.prog.underlying tS=some (.slice tE)) (hce:Tryz.prog.cellsOf tE=k) (hlen:∀ x,(cells x).length=k) (at':α→Prop)
  (helem:∀ (fuel:Nat) (cs:List Value) (x:DataW H×List MemPlace),DataW.trod enc Tryz.prog w base spare held fuel tE cs=some x→Rows.uptoBulk x.1≤1048576→∃ y,cs=cells y∧at' y)
  {fuel:Nat} {cs:List Value} {x:DataW H×List MemPlace} (h:DataW.trod enc Tryz.prog w base spare held fuel tS cs=some x) (hb:Rows.uptoBulk x.1≤1048576) :
  ∃ (a:Option Addr) (zs:List α) (c:Nat),cs=[.slice a zs.length c]∧RowV cells k w w.heap.size a zs∧zs.length≤1048576∧∀ z∈zs,at' z:=by
 rcases DataW.trod_slice hu h with ⟨rfl,_⟩ | ⟨a,len,cap,elems,rest,n3,_,rfl,hx4,_,hl,hm,hel,hi,_⟩
 ·exact⟨none,[],0,rfl,fun i x hx=>by simp at hx,by simp,fun z hz=>by simp at hz⟩
 have hll:len≤1048576:=by
  refine Nat.le_trans ?_ hb
  rw[hx4]
  refine Nat.le_trans ?_ (bulk_slice _ _)
  rw[List.length_map,hel]
  exact Nat.le_refl _
 obtain⟨f,hf'⟩:=choose_gen d (n:=len) (p:=fun i y=>w.cells? base (a.add (i*k)) k=some (cells y)∧at' y) (fun i hil=>by
  have h5:=hi i hil
  rw[hce,List.getElem?_eq_getElem (by omega)] at h5
  cases hc:w.cells? base (a.add (i*k)) k with
  | none=>rw[hc] at h5;cases h5
  | some cs' =>
   rw[hc] at h5
   have h6:DataW.trod enc Tryz.prog w base spare held n3 tE cs'=some (elems[i]'(by omega)):=h5
   obtain⟨y,e,hr⟩:=helem n3 cs' _ h6 (by
    refine Nat.le_trans ?_ hb
    rw[hx4]
    exact bulk_elem (List.mem_map.2 ⟨_,List.getElem_mem _,rfl⟩))
   exact⟨y,by rw[e],hr⟩)
 have hfl:((List.range len).map f).length=len:=by simp
 refine⟨some a,(List.range len).map f,cap,by rw[hfl],fun i x hx=>?_,by rw[hfl];exact hll,fun z hz=>?_⟩
 ·have hil:i<len:=by have:=(List.getElem?_eq_some_iff.1 hx).1;rwa [hfl] at this
  rw[List.getElem?_map,List.getElem?_range hil] at hx
  cases hx
  obtain⟨h1,h2⟩:=hf' i hil
  obtain⟨_,_,hat⟩:=World.cells?_some h1
  have h0':=hf' 0 (by omega)
  have hspot:∃ b o,a=⟨b,o,none⟩:=by
   obtain⟨_,_,hat0⟩:=World.cells?_some h0'.1
   have:=hat0 0 (by omega)
   rw[Nat.zero_mul,add_add] at this
   cases hz:(cells (f 0))[0]? with
   | none=>have:=List.getElem?_eq_none_iff.1 hz;rw[hlen] at this;omega
   | some u=>rw[hz] at this;exact cell_spot this
  obtain⟨b,o,rfl⟩:=hspot
  have key (j:Nat) (u:Value) (hu:(cells (f i))[j]? = some u):w.cell? ⟨b,o+i*k+j,none⟩=some u:=by
   have hj:j<k:=by have:=(List.getElem?_eq_some_iff.1 hu).1;rwa [hlen] at this
   have:=hat j hj
   rw[add_add,Addr.add_lit,hu,← Nat.add_assoc] at this
   exact this
  refine⟨b,o,rfl,?_,fun j u hu=>key j u hu⟩
  cases hz:(cells (f i))[0]? with
  | some u=>exact cell_ltT (key 0 u hz)
  | none=>have:=List.getElem?_eq_none_iff.1 hz;rw[hlen] at this;omega
 obtain⟨i,hi',rfl⟩:=List.mem_map.1 hz
 exact (hf' i (List.mem_range.1 hi')).2
def dDe:De:=⟨ByteArray.empty,0,0,0,0⟩
def dQe:Qe:=⟨ByteArray.empty,.mk 0 0 0 ByteArray.empty 0 none 0 []⟩
def dEd:Ed:=⟨.mk 0 0 0 ByteArray.empty 0 none 0 [],0,ByteArray.empty,none,0,[]⟩
def dMo:Mo:=⟨ByteArray.empty,none,0,[],none,0,[]⟩
theorem open_edg {fuel:Nat} {cs:List Value} {x:DataW H×List MemPlace} (h:DataW.trod enc Tryz.prog w base spare held fuel 103 cs=some x) (hb:Rows.uptoBulk x.1≤1048576):∃ q:Ed,cs=q.cells∧q.at w w.heap.size:=by
 obtain⟨zs,n2,_,hx,hlen,hzz,hg⟩:=DataW.trod_struct Tryz.underlying103 h
 replace hlen:=hlen.trans cellsEdge
 obtain⟨z0,z1,z2,z3,rfl⟩:=list4V hzz
 have g0:DataW.trod enc Tryz.prog w base spare held n2 71 ((cs.drop 0).take (Tryz.prog.cellsOf 71))=some z0:=hg 0 _ rfl
 have g1:DataW.trod enc Tryz.prog w base spare held n2 3 ((cs.drop 6).take (Tryz.prog.cellsOf 3))=some z1:=hg 1 _ rfl
 have g2:DataW.trod enc Tryz.prog w base spare held n2 9 ((cs.drop 7).take (Tryz.prog.cellsOf 9))=some z2:=hg 2 _ rfl
 have g3:DataW.trod enc Tryz.prog w base spare held n2 101 ((cs.drop 8).take (Tryz.prog.cellsOf 101))=some z3:=hg 3 _ rfl
 rw[cellsE] at g0
 rw[cellsI] at g1
 rw[cellsSt] at g2
 rw[cellsSR] at g3
 obtain⟨e,e0,he⟩:=open_ex n2 n2 _ _ (Nat.le_refl _) g0 (Nat.le_trans (by rw[hx];exact bulk_agg (by simp)) hb)
 obtain⟨d,e1,_,_⟩:=DataW.trod_int Tryz.underlying3 g1
 obtain⟨s,e2,_,hs⟩:=DataW.trod_string Tryz.underlying9 g2
 obtain⟨a,rs,c,e3,hr,hrl,hra⟩:=open_rowV dQe Qe.cells 7 (by decide) _ _ Tryz.underlying101 cellsRst (fun _=>rfl) (fun q=>q.at w w.heap.size) (fun f cs x h hb=>open_rst h hb) g3 (Nat.le_trans (by rw[hx];exact bulk_agg (by simp)) hb)
 refine⟨⟨e,d,s,a,c,rs⟩,?_,⟨he,hs,hrl⟩,hr,hra⟩
 have h0:cs=cs.drop 0:=rfl
 rw[h0,cut_at cs 0 6,e0,cut_at cs (0+6) 1,e1,cut_at cs (0+6+1) 1,e2,cut_at cs (0+6+1+1) 1,e3,List.drop_of_length_le (by omega)]
 rfl
theorem open_mod {fuel:Nat} {cs:List Value} {x:DataW H×List MemPlace} (h:DataW.trod enc Tryz.prog w base spare held fuel 41 cs=some x) (hb:Rows.uptoBulk x.1≤1048576):∃ q:Mo,cs=q.cells∧q.at w w.heap.size:=by
 obtain⟨zs,n2,_,hx,hlen,hzz,hg⟩:=DataW.trod_struct Tryz.underlying41 h
 replace hlen:=hlen.trans cellsMode
 obtain⟨z0,z1,z2,rfl⟩:=list3V hzz
 have g0:DataW.trod enc Tryz.prog w base spare held n2 9 ((cs.drop 0).take (Tryz.prog.cellsOf 9))=some z0:=hg 0 _ rfl
 have g1:DataW.trod enc Tryz.prog w base spare held n2 38 ((cs.drop 1).take (Tryz.prog.cellsOf 38))=some z1:=hg 1 _ rfl
 have g2:DataW.trod enc Tryz.prog w base spare held n2 39 ((cs.drop 2).take (Tryz.prog.cellsOf 39))=some z2:=hg 2 _ rfl
 rw[cellsSt] at g0
 rw[cellsSQ] at g1
 rw[cellsSX] at g2
 obtain⟨s,e0,_,hs⟩:=DataW.trod_string Tryz.underlying9 g0
 obtain⟨a1,l1,c1,e1,hr1,hl1,ha1⟩:=open_rowV dQe Qe.cells 7 (by decide) _ _ Tryz.underlying38 cellsEqu (fun _=>rfl) (fun q=>q.at w w.heap.size) (fun f cs x h hb=>open_eqn h hb) g1 (Nat.le_trans (by rw[hx];exact bulk_agg (by simp)) hb)
 obtain⟨a2,l2,c2,e2,hr2,hl2,ha2⟩:=open_rowV dEd Ed.cells 9 (by decide) _ _ Tryz.underlying39 cellsEdge (fun _=>rfl) (fun q=>q.at w w.heap.size) (fun f cs x h hb=>open_edg h hb) g2 (Nat.le_trans (by rw[hx];exact bulk_agg (by simp)) hb)
 refine⟨⟨s,a1,c1,l1,a2,c2,l2⟩,?_,⟨hs,hl1,hl2⟩,⟨hr1,ha1⟩,hr2,ha2⟩
 have h0:cs=cs.drop 0:=rfl
 rw[h0,cut_at cs 0 1,e0,cut_at cs (0+1) 1,e1,cut_at cs (0+1+1) 1,e2,List.drop_of_length_le (by omega)]
 rfl
theorem open_pr {fuel:Nat} {cs:List Value} {x:DataW H×List MemPlace} (h:DataW.trod enc Tryz.prog w base spare held fuel 27 cs=some x) (hb:Rows.uptoBulk x.1≤1048576):∃ q:Pr,cs=q.cells∧q.at w w.heap.size:=by
 obtain⟨zs,n2,_,hx,hlen,hzz,hg⟩:=DataW.trod_struct Tryz.underlying27 h
 replace hlen:=hlen.trans cellsProb
 obtain⟨z0,z1,z2,z3,rfl⟩:=list4V hzz
 have g0:DataW.trod enc Tryz.prog w base spare held n2 22 ((cs.drop 0).take (Tryz.prog.cellsOf 22))=some z0:=hg 0 _ rfl
 have g1:DataW.trod enc Tryz.prog w base spare held n2 22 ((cs.drop 1).take (Tryz.prog.cellsOf 22))=some z1:=hg 1 _ rfl
 have g2:DataW.trod enc Tryz.prog w base spare held n2 23 ((cs.drop 2).take (Tryz.prog.cellsOf 23))=some z2:=hg 2 _ rfl
 have g3:DataW.trod enc Tryz.prog w base spare held n2 25 ((cs.drop 3).take (Tryz.prog.cellsOf 25))=some z3:=hg 3 _ rfl
 rw[cellsSD] at g0 g1
 rw[cellsSM] at g2
 rw[cellsR] at g3
 obtain⟨a1,l1,c1,e1,hr1,hl1,ha1⟩:=open_rowV dDe De.cells 5 (by decide) _ _ Tryz.underlying22 cellsDecl (fun _=>rfl) (fun q=>q.at w w.heap.size) (fun f cs x h hb=>open_dec h) g0 (Nat.le_trans (by rw[hx];exact bulk_agg (by simp)) hb)
 obtain⟨a2,l2,c2,e2,hr2,hl2,ha2⟩:=open_rowV dDe De.cells 5 (by decide) _ _ Tryz.underlying22 cellsDecl (fun _=>rfl) (fun q=>q.at w w.heap.size) (fun f cs x h hb=>open_dec h) g1 (Nat.le_trans (by rw[hx];exact bulk_agg (by simp)) hb)
 obtain⟨a3,l3,c3,e3,hr3,hl3,ha3⟩:=open_rowV dMo Mo.cells 3 (by decide) _ _ Tryz.underlying23 cellsMode (fun _=>rfl) (fun q=>q.at w w.heap.size) (fun f cs x h hb=>open_mod h hb) g2 (Nat.le_trans (by rw[hx];exact bulk_agg (by simp)) hb)
 obtain⟨r,d,e4⟩:=open_rat g3
 refine⟨⟨a1,c1,l1,a2,c2,l2,a3,c3,l3,r,d⟩,?_,⟨hl1,hl2,hl3⟩,⟨hr1,ha1⟩,⟨hr2,ha2⟩,hr3,ha3⟩
 have h0:cs=cs.drop 0:=rfl
 rw[h0,cut_at cs 0 1,e1,cut_at cs (0+1) 1,e2,cut_at cs (0+1+1) 1,e3,cut_at cs (0+1+1+1) 2,e4,List.drop_of_length_le (by omega)]
 rfl
end
end
section
def tz (n:Nat):Nat:=if n=0 then 0 else if n % 2=1 then 0 else tz (n/2)+1
termination_by n
decreasing_by omega
theorem tz_odd {n:Nat} (h:n % 2=1):tz n=0:=by rw[tz];split <;> simp_all
theorem tz_even {n:Nat} (h0:n≠0) (h:n % 2=0):tz n=tz (n/2)+1:=by rw[tz];rw[if_neg h0,if_neg (by omega)]
def oddp (n:Nat):Nat:=n/2 ^ tz n
theorem tz_spec (n:Nat) (h:n≠0):∃ m,m % 2=1∧n=m*2 ^ tz n:=by
 induction n using Nat.strongRecOn with
 | _ n ih =>
  by_cases h1:n % 2=1
  ·exact⟨n,h1,by rw[tz_odd h1];simp⟩
  ·obtain⟨m,hm,e⟩:=ih (n/2) (by omega) (by omega)
   refine⟨m,hm,?_⟩
   rw[tz_even h (by omega),Nat.pow_succ,← Nat.mul_assoc,← e];omega
theorem oddp_spec {n:Nat} (h:n≠0):oddp n % 2=1∧n=oddp n*2 ^ tz n:=by
 obtain⟨m,hm,e⟩:=tz_spec n h
 have:oddp n=m:=by
  unfold oddp
  conv=>lhs;lhs;rw[e]
  exact Nat.mul_div_cancel _ (Nat.pow_pos (by decide))
 rw[this];exact⟨hm,e⟩
theorem odd_pow_unique {m m' a b:Nat} (hm:m % 2=1) (hm':m' % 2=1) (h:m*2 ^ a=m'*2 ^ b):m=m'∧a=b:=by
 induction a generalizing b with
 | zero =>
  cases b with
  | zero=>simpa using h
  | succ b =>
   exfalso
   rw[Nat.pow_succ,← Nat.mul_assoc] at h
   simp at h;omega
 | succ a ih =>
  cases b with
  | zero =>
   exfalso
   rw[Nat.pow_succ,← Nat.mul_assoc] at h
   simp at h;omega
  | succ b =>
   rw[Nat.pow_succ,Nat.pow_succ,← Nat.mul_assoc,← Nat.mul_assoc] at h
   have:=ih (b:=b) (by omega)
   exact⟨this.1,by omega⟩
theorem tz_mul_pow {m:Nat} (hm:m % 2=1) (k:Nat):tz (m*2 ^ k)=k:=by
 have hne:m*2 ^ k≠0:=Nat.mul_ne_zero (by omega) (Nat.ne_of_gt (Nat.pow_pos (by decide)))
 obtain⟨h1,h2⟩:=oddp_spec hne
 exact (odd_pow_unique hm h1 h2).2.symm
theorem oddp_mul_pow {m:Nat} (hm:m % 2=1) (k:Nat):oddp (m*2 ^ k)=m:=by
 have hne:m*2 ^ k≠0:=Nat.mul_ne_zero (by omega) (Nat.ne_of_gt (Nat.pow_pos (by decide)))
 obtain⟨h1,h2⟩:=oddp_spec hne
 exact (odd_pow_unique hm h1 h2).1.symm
theorem oddp_ne_zero {n:Nat} (h:n≠0):oddp n≠0:=by have:=(oddp_spec h).1;omega
theorem bits_oddp {n:Nat} (h:n≠0):bits n=bits (oddp n)+tz n:=by
 conv=>lhs;rw[(oddp_spec h).2]
 exact bits_mul_pow (oddp_ne_zero h)
theorem tz_shift {n:Nat} (h:n≠0) (k:Nat):tz (n*2 ^ k)=tz n+k:=by
 have h1:=oddp_spec h
 conv=>lhs;rw[h1.2,Nat.mul_assoc,← Nat.pow_add]
 exact tz_mul_pow h1.1 _
structure Dy where
 neg:Bool
 m:Nat
 e:Int
deriving DecidableEq
def Dy.zero:Dy:=⟨false,0,0⟩
def Dy.ok (d:Dy):Prop :=
 (d.m=0∧d.neg=false∧d.e=0)∨(d.m % 2=1∧bits d.m≤4096∧-16384≤d.e∧d.e≤16384∧bits d.m+d.e≤16384)
instance (d:Dy):Decidable d.ok:=by unfold Dy.ok;exact inferInstance
def sg (neg:Bool) (n:Nat):Int:=if neg then -(n:Int) else n
def Dy.iv (d:Dy):Int:=sg d.neg (d.m*2 ^ (d.e+16384).toNat)
theorem Dy.ok_zero:Dy.zero.ok:=.inl ⟨rfl,rfl,rfl⟩
theorem sg_zero (s:Bool):sg s 0=0:=by unfold sg;cases s <;> rfl
theorem sg_eq_zero {s:Bool} {n:Nat}:sg s n=0↔n=0:=by unfold sg;cases s <;> simp
theorem Dy.iv_zero:Dy.zero.iv=0:=by
 unfold Dy.iv Dy.zero;simp only[Nat.zero_mul,sg_zero]
theorem Dy.iv_eq_zero {d:Dy}:d.iv=0↔d.m=0:=by
 unfold Dy.iv;rw[sg_eq_zero]
 constructor
 ·intro h
  rcases Nat.mul_eq_zero.1 h with h | h
  ·exact h
  exact absurd h (Nat.ne_of_gt (Nat.pow_pos (by decide)))
 intro h;rw[h];simp
theorem Dy.eq_zero {d:Dy} (h:d.ok) (h0:d.m=0):d=Dy.zero:=by
 rcases h with ⟨h1,h2,h3⟩ | ⟨h1,_⟩
 ·cases d;simp_all [Dy.zero]
 omega
def canon (neg:Bool) (n:Nat) (e:Int):Dy:=if n=0 then .zero else ⟨neg,oddp n,e+tz n⟩
theorem canon_zero (neg:Bool) (e:Int):canon neg 0 e=.zero:=rfl
theorem canon_iv (neg:Bool) (n:Nat) (e:Int) (h:-16384≤e):(canon neg n e).iv=sg neg (n*2 ^ (e+16384).toNat):=by
 unfold canon
 split
 ·next h0=>subst h0;rw[Dy.iv_zero];simp[sg_zero]
 next h0 =>
 unfold Dy.iv
 simp only[]
 congr 1
 conv=>rhs;rw[(oddp_spec h0).2]
 rw[Nat.mul_assoc,← Nat.pow_add]
 congr 2;omega
def inr (d:Dy):Prop:=d.m=0∨(bits d.m≤4096∧-16384≤d.e∧d.e≤16384∧bits d.m+d.e≤16384)
instance (d:Dy):Decidable (inr d):=by unfold inr;exact inferInstance
theorem canon_ok_iff (neg:Bool) (n:Nat) (e:Int):(canon neg n e).ok↔inr (canon neg n e):=by
 unfold canon
 split
 ·exact⟨fun _=>.inl rfl,fun _=>Dy.ok_zero⟩
 next h0 =>
 have h1:=oddp_spec h0
 unfold Dy.ok inr
 simp only[]
 constructor
 ·rintro (⟨h,_⟩ | ⟨_,h⟩)
  ·exact absurd h (oddp_ne_zero h0)
  exact .inr h
 rintro (h | h)
 ·exact absurd h (oddp_ne_zero h0)
 exact .inr ⟨h1.1,h⟩
end
theorem bits_half {x:Nat} (h:x≠0):bits x=1+bits (x/2):=by
 apply bits_unique
 ·have:=lt_two_pow_bits (x/2)
  rw[Nat.pow_add];omega
 right
 by_cases h2:x/2=0
 ·rw[h2];simp[bits_zero];omega
 have:=two_pow_le_of_bits h2
 have h3:=bits_pos h2
 rw[show 1+bits (x/2)-1=(bits (x/2)-1)+1 from by omega,Nat.pow_succ];omega
theorem bitLenAux_eq:∀ (f x:Nat),x<2 ^ f→Lib.bitLenAux f x=bits x
 | 0,x,h=>by
  have:x=0:=by simpa using h
  subst this;rfl
 | f+1,x,h=>by
  unfold Lib.bitLenAux
  by_cases h0:x=0
  ·subst h0;rfl
  ·rw[if_neg h0,bits_half h0,bitLenAux_eq f (x/2) (by rw[Nat.pow_succ] at h;omega)]
theorem bitLen_eq {x:Nat} (h:x<4294967296):Lib.bitLen x=bits x :=
 bitLenAux_eq 64 x (Nat.lt_of_lt_of_le (show x<2 ^ 32 from h) (Nat.pow_le_pow_right (by decide) (by decide)))
theorem tab_at (b:Int) (h0:0≤b) (h1:b≤255) (h:b.toNat<Lib.len8tab.size):((Lib.len8tab[b.toNat]).toNat:Int)=(Lib.bitLen b.toNat:Int):=by
 rw[← Lib.len8_of b h0 h1]
 unfold Lib.len8
 rw[ByteArray.getElem?_lt' _ _ h,Option.getD_some]
theorem len_wrap (n k:Int) (h0:0≤n) (h1:n≤8) (k0:0≤k) (k1:k≤24):wrap64 (k+wrap64 n)=k+n:=by
 rw[IntWalk.wrap64_in n ⟨by omega,by omega⟩,IntWalk.wrap64_in (k+n) ⟨by omega,by omega⟩]
theorem len_wrap0 (n:Int) (h0:0≤n) (h1:n≤8):wrap64 (wrap64 n)=n:=by
 rw[IntWalk.wrap64_in n ⟨by omega,by omega⟩,IntWalk.wrap64_in n ⟨by omega,by omega⟩]
theorem len32_raw (x:Int) (w:World) (h0:0≤x) (h1:x≤4294967295) :
  Calls Tryz.prog 238 #[.int .u32 x] w fun e w'=>e=.returned (.int .i64 (Lib.bitLen x.toNat))∧w'=w:=by
 have hsz:(Lib.len8tab.size:Int)=256:=by rw[Lib.len8tab_size];rfl
 go_enter Tryz.func238,Tryz.ntmps238
 go_wp2
 all_goals (go_ret;refine⟨congrArg Ending.returned (congrArg (Value.int IntKind.i64) ?_),rfl⟩)
 ·have l:=Lib.bitLen_le8' (x/65536/256) (by omega) (by omega)
  refine (len_wrap _ 24 (Int.natCast_nonneg _) (by rw[tab_at _ (by omega) (by omega)];omega) (by omega) (by omega)).trans ?_
  rw[tab_at _ (by omega) (by omega)]
  have e:(x/65536/256).toNat=x.toNat/16777216:=by omega
  have s:=Lib.bitLen_shift24 x.toNat (by omega) (by omega)
  rw[e] at l ⊢
  omega
 ·have l:=Lib.bitLen_le8' (x/65536) (by omega) (by omega)
  refine (len_wrap _ 16 (Int.natCast_nonneg _) (by rw[tab_at _ (by omega) (by omega)];omega) (by omega) (by omega)).trans ?_
  rw[tab_at _ (by omega) (by omega)]
  have e:(x/65536).toNat=x.toNat/65536:=by omega
  have s:=Lib.bitLen_shift16 x.toNat (by omega) (by omega)
  rw[e] at l ⊢
  omega
 ·have l:=Lib.bitLen_le8' (x/256) (by omega) (by omega)
  refine (len_wrap _ 8 (Int.natCast_nonneg _) (by rw[tab_at _ (by omega) (by omega)];omega) (by omega) (by omega)).trans ?_
  rw[tab_at _ (by omega) (by omega)]
  have e:(x/256).toNat=x.toNat/256:=by omega
  have s:=Lib.bitLen_shift8 x.toNat (by omega) (by omega)
  rw[e] at l ⊢
  omega
 have l:=Lib.bitLen_le8' x (by omega) (by omega)
 refine (len_wrap0 _ (Int.natCast_nonneg _) (by rw[tab_at _ (by omega) (by omega)];omega)).trans ?_
 rw[tab_at _ (by omega) (by omega)]
theorem len32_any (x:Nat) (w:World) (h:x<4294967296) :
  Calls Tryz.prog 238 #[.int .u32 x] w fun e w'=>e=.returned (.int .i64 (bits x))∧w=w':=by
 have:=len32_raw x w (by omega) (by omega)
 rw[Int.toNat_natCast,bitLen_eq h] at this
 exact this.mono fun e w' ⟨h1,h2⟩=>⟨h1,h2.symm⟩
theorem lz32_any (x:Nat) (w:World) (h:x<4294967296) :
  Calls Tryz.prog 298 #[.int .u32 x] w fun e w'=>e=.returned (.int .i64 (32-bits x:Nat))∧w=w':=by
 have hb:bits x≤32:=bits_le.2 h
 go_enter Tryz.func298,Tryz.ntmps298
 go_wp2_with (refine (len32_any _ _ h).mono ?_;rintro e w2 ⟨rfl,rfl⟩)
 go_ret
 exact⟨ret_int (by omega),rfl⟩
def Tab (w:World):Prop:=∀ j,j<32→w.cell? ⟨1,j,none⟩=some (.int .u8 (Lib.deBruijn32tab.getD j 0))
theorem Tab.kp {w w':World} (h:Tab w) (k:Kp w w'):Tab w':=fun j hj=>k.cell (h j hj)
theorem ctzFrom_tz:∀ (f x:Nat),x≠0→x<2 ^ f→Lib.ctzFrom f x=tz x
 | 0, x, h0, h => by have : x = 0 := by simpa using h
                     exact absurd this h0
 | f+1,x,h0,h=>by
   unfold Lib.ctzFrom
   by_cases h1:x % 2=1
   · rw[if_pos h1,tz_odd h1]
   · rw[if_neg h1,tz_even h0 (by omega),ctzFrom_tz f (x/2) (by omega) (by rw[Nat.pow_succ] at h;omega),Nat.add_comm]
theorem ctz_tz {x:Nat} (h0:x≠0) (h:x<4294967296):Lib.ctz 32 x=tz x:=by
 unfold Lib.ctz;rw[if_neg h0];exact ctzFrom_tz 32 x h0 h
theorem tz32_key (x a:Nat) (hx:x<4294967296) (hx0:x≠0) (hlow:x &&& (4294967296-x)=a) :
  Go.bits BinOp.and IntKind.u32 (x:Int) (-(x:Int) % 4294967296)*125613361 % 4294967296/134217728=((a*125613361 % 4294967296/134217728:Nat):Int):=by
 have e1:-(x:Int) % 4294967296=((4294967296-x:Nat):Int):=by omega
 rw[e1,u32_and_nat x _ hx (by omega),hlow]
 omega
theorem tz32_core (x k idx:Nat) (w:World) (hx0:((x:Int)==0)=false)
  (key:Go.bits BinOp.and IntKind.u32 (x:Int) (-(x:Int) % 4294967296)*125613361 % 4294967296/134217728=(idx:Int))
  (hi:idx<32) (hk:k<32) (hcell:w.cell? ⟨1,idx,none⟩=some (.int .u8 k)) :
  Calls Tryz.prog 295 #[.int .u32 x] w fun e w'=>e=.returned (.int .i64 k)∧w=w':=by
 go_enter Tryz.func295,Tryz.ntmps295
 go_wp2_with (simp only[key])
 go_ret
 exact⟨rfl,rfl⟩
theorem tz32_any (x:Nat) (w:World) (hx0:x≠0) (hx:x<4294967296) (hT:Tab w) :
  Calls Tryz.prog 295 #[.int .u32 x] w fun e w'=>e=.returned (.int .i64 (tz x))∧w=w':=by
 obtain⟨hlow,hk⟩:=Lib.lowest_bit 32 x hx0 hx
 obtain⟨hi,htab⟩:=Lib.deBruijn32_at _ hk
 have hcell:=hT _ hi
 rw[htab] at hcell
 have:=tz32_core x _ _ w (by simp;omega) (tz32_key x _ hx hx0 hlow) hi hk hcell
 rwa [ctz_tz hx0 hx] at this
section
open Go.ChangeShapes Go.WideShapes Go.ChangeAt Go.RowKit
theorem gTab : Tryz.prog.globalNamed "math/bits.deBruijn32tab" = some 1 := by kernel_rfl
theorem gTabType:(Tryz.prog.globals[1]?).map (·.type)=some 304:=by kernel_rfl
theorem cellsTab:Tryz.prog.cellsOf 304=32:=by kernel_rfl
theorem cellsByte:Tryz.prog.cellsOf 5=1:=by kernel_rfl
def tabInts:List Int:=[0,1,28,2,29,14,24,3,30,22,20,15,25,17,4,8,31,27,13,23,21,19,16,7,26,12,18,6,11,5,10,9]
theorem tab_of_laid {W : World} (h : laidMetH Tryz.prog [("math/bits.deBruijn32tab", Rows.laid_math_bits_deBruijn32tab)] W) : Tab W := by
 have T : Lib.TabIs Tryz.prog W "math/bits.deBruijn32tab" .u8 tabInts :=
  Lib.tabIs_of_head (rest:=[]) gTab gTabType Tryz.underlying304 Tryz.underlying5 cellsByte cellsTab h
 intro j hj
 have hc:=T.cell gTab j hj
 rw[hc]
 have e:∀ j:Fin 32,tabInts.getD j.1 0=((Lib.deBruijn32tab.getD j.1 0:Nat):Int):=by decide
 exact congrArg some (congrArg (Value.int IntKind.u8) (e ⟨j,hj⟩))
noncomputable def laidWorld (os:Os):World :=
 { World.holding Tryz.prog os ⟨#[],#[],[]⟩ with heap:=(World.holding Tryz.prog os ⟨#[],#[],[]⟩).heap.modify 1 fun
   | .cells _ t frozen=>.cells (tabInts.map fun z=>Value.int .u8 z).toArray t frozen
   | o=>o }
theorem pe_laid:laidOutB Tryz.pinned.checked.prog=true:=by kernel_rfl
theorem pe_maps:mapsRowed Tryz.pinned.checked.prog=true:=by kernel_rfl
theorem pe_heard:Tryz.pinned.checked.prog.stopsHeard=true:=by kernel_rfl
theorem pe_enter:Tryz.pinned.checked.prog.mayEnter=true:=by kernel_rfl
end
section
open Go.RowKit Go.Sort Go.Shelf
def inS (ss:List ByteArray) (x:ByteArray):Bool:=ss.any fun y=>decide (y=x)
theorem inS_iff {ss:List ByteArray} {x:ByteArray}:inS ss x=true↔x∈ss:=by
 unfold inS
 rw[List.any_eq_true]
 exact⟨fun ⟨y,hy,e⟩=>of_decide_eq_true e▸hy,fun h=>⟨x,h,decide_eq_true rfl⟩⟩
theorem conS_any (a:Option Addr) (c:Nat) (ss:List ByteArray) (x:ByteArray) (w:World) (h:RowS w a ss) (hl:ss.length≤1100000) :
  Calls Tryz.prog 97 #[.slice a ss.length c,.string x] w fun e w'=>e=.returned (.bool (inS ss x))∧w'=w:=by
 by_cases h0:ss=[]
 ·subst h0
  refine (Any.slices_Contains_string_empty lays110 a c x w).mono fun e w' hh=>?_
  obtain⟨e1,e2⟩:=hh
  exact⟨e1,e2⟩
 obtain⟨b,o,rfl,hc⟩:=rowS_cells h h0
 refine (Any.slices_Contains_string lays110 b o ss.length c ss x w (Nat.le_refl _) (by omega) hc).mono fun e w' hh=>?_
 obtain⟨e1,e2⟩:=hh
 rw[List.take_length] at e1
 refine⟨e1.trans (ret_bool ?_),e2⟩
 rw[Bool.eq_iff_iff,inS_iff]
 exact Lib.containsS_iff ss x
theorem namO_le (e:Ex):(namO e).length≤200:=by
 have h:=namO_sort e
 have h1:((namO e).map (·.data.toList)).length≤(nmL (flatE e)).length:=by
  rw[← h]
  refine Nat.le_trans (Lib.compact_length_le _) ?_
  rw[(sortB_perm _).length_eq]
  exact Nat.le_refl _
 rw[List.length_map] at h1
 have:=nmL_le (flatE e)
 have:=flatE_le e
 omega
def placeF (s:ByteArray):List ByteArray→Int
 | []=>-1
 | x::r=>if x=s then 0 else if placeF s r<0 then -1 else placeF s r+1
theorem placeF_no {s:ByteArray}:∀ {l:List ByteArray},s ∉ l→placeF s l=-1
 | [],_=>rfl
 | x::r,h=>by
  unfold placeF
  rw[if_neg (fun e=>h (by rw[e];exact List.mem_cons_self)),placeF_no (fun hh=>h (List.mem_cons_of_mem _ hh)),if_pos (by decide)]
theorem placeF_at {s:ByteArray}:∀ {l:List ByteArray} {k:Nat},l[k]? = some s→(∀ i,i<k→l[i]?≠some s)→placeF s l=k
 | [],k,h,_=>by simp at h
 | x::r,0,h,_=>by
  simp only[List.getElem?_cons_zero,Option.some.injEq] at h
  unfold placeF
  rw[if_pos h];rfl
 | x::r,k+1,h,hz=>by
  have h0:x≠s:=fun e=>hz 0 (by omega) (by rw[List.getElem?_cons_zero,e])
  have ih:=placeF_at (l:=r) (k:=k) (by simpa using h) (fun i hi=>by simpa using hz (i+1) (by omega))
  unfold placeF
  rw[if_neg h0,ih,if_neg (by omega)]
  omega
theorem placeF_in {s:ByteArray} {l:List ByteArray} (h:s∈l):∃ k:Nat,k<l.length∧placeF s l=k∧l[k]? = some s∧∀ i,i<k→l[i]?≠some s:=by
 induction l with
 | nil=>cases h
 | cons x r ih =>
  by_cases hx:x=s
  ·exact⟨0,by simp,by unfold placeF;rw[if_pos hx];rfl,by simp[hx],fun i hi=>absurd hi (Nat.not_lt_zero _)⟩
  ·rcases List.mem_cons.1 h with h | h
   ·exact absurd h.symm hx
   obtain⟨k,h1,h2,h3,h4⟩:=ih h
   refine⟨k+1,by simp;omega,by unfold placeF;rw[if_neg hx,h2,if_neg (by omega)];omega,by simpa using h3,fun i hi=>?_⟩
   match i with
   | 0=>simpa using hx
   | i+1=>simpa using h4 i (by omega)
theorem placeF_neg {s:ByteArray} {l:List ByteArray}:placeF s l<0↔s ∉ l:=by
 constructor
 ·intro h hm
  obtain⟨k,_,h2,_⟩:=placeF_in hm
  omega
 intro h
 rw[placeF_no h];decide
theorem placeF_lt (s:ByteArray) (l:List ByteArray):placeF s l<l.length:=by
 by_cases h:s∈l
 ·obtain⟨k,h1,h2,_⟩:=placeF_in h
  omega
 rw[placeF_no h];omega
theorem indexS_any (a:Option Addr) (c:Nat) (ss:List ByteArray) (s:ByteArray) (w:World) (hrow:RowS w a ss) (hm:ss.length≤1100000) :
  Calls Tryz.prog 42 #[.slice a ss.length c,.string s] w fun e w'=>e=.returned (.int .i64 (placeF s ss))∧Kp w w':=by
 have HR:=hid hrow
 clear hrow
 go_enter Tryz.func42,Tryz.ntmps42
 go_wp2
 go_loopw [8] (fun x wr=>∃ k:Nat,k≤ss.length∧x=.int .i64 k∧(∀ i,i<k→ss[i]?≠some s)∧Kp w wr) (fun x _=>ss.length-(intOf x).toNat)
 case atStart=>exact⟨0,by omega,rfl,fun i h=>absurd h (Nat.not_lt_zero _),.refl _⟩
 case round =>
 obtain⟨k,hk,rfl,hz,hkp⟩:=hrel
 have Hz:=hid hz
 have Hk:=hid hkp
 clear hz
 by_cases hlt:k<ss.length
 rotate_left
 ·have Ha:=hid (show placeF s ss=-1 from placeF_no fun hs=>by
   obtain⟨i,hi⟩:=List.getElem?_of_mem hs
   exact Hz.out i (by have:=(List.getElem?_eq_some_iff.1 hi).1;omega) hi)
  clear hkp
  go_wp2
  go_ret
  exact⟨by rw[Ha.out];rfl,Hk.out⟩
 obtain⟨t,ht⟩:∃ t,ss[k]? = some t:=⟨_,List.getElem?_eq_getElem hlt⟩
 obtain⟨b,o,rfl,h0⟩:=HR.out.kp hkp k t ht
 have Hs:=hid ht
 clear ht hkp
 by_cases hq:t=s
 ·subst hq
  have Ha:=hid (placeF_at Hs.out Hz.out)
  go_wp2
  go_ret
  exact⟨by rw[Ha.out];rfl,Hk.out⟩
 have hq3:(s.toList==t.toList)=false:=strNe fun e=>hq e.symm
 go_wp2
 go_roundw
 case measure=>simp only[intOf];omega
 case rel =>
 refine⟨k+1,by omega,by go_num,fun i hi=>?_,Hk.out⟩
 by_cases h:i=k
 ·subst h;rw[Hs.out];intro e;cases e;exact hq rfl
 exact Hz.out i (by omega)
end
section
abbrev isIn (s:ByteArray) (l:List ByteArray):Bool:=inS l s
abbrev Flt:=Option (Int×ByteArray)
def needF (ok:Bool) (c:Int) (s:ByteArray):Flt:=if ok=true then none else some (c,s)
def orF (a b:Flt):Flt:=match a with | some x=>some x | none=>b
theorem orF_none (b:Flt):orF none b=b:=rfl
theorem orF_assoc (a b c:Flt):orF (orF a b) c=orF a (orF b c):=by cases a <;> rfl
def onceF:List ByteArray→List ByteArray→Flt
 | _,[]=>none
 | have_,s::r=>orF (needF (!isIn s have_) 8 s) (onceF (have_++[s]) r)
def unknF (all:List ByteArray):List ByteArray→Flt
 | []=>none
 | s::r=>orF (needF (isIn s all) 7 s) (unknF all r)
def knownF (all:List ByteArray) (e:Ex):Flt:=unknF all (namO e)
def givenF (st all:List ByteArray) (q:Qe) (before:List ByteArray):Flt:=orF (needF (isIn q.name st) 7 q.name) (orF (needF (!isIn q.name before) 8 q.name) (knownF all q.e))
def flowF (st all:List ByteArray):List ByteArray→List Qe→Flt
 | _,[]=>none
 | before,q::r=>orF (givenF st all q before) (flowF st all (before++[q.name]) r)
def missF (hv:List ByteArray):List ByteArray→Flt
 | []=>none
 | s::r=>orF (needF (isIn s hv) 3 s) (missF hv r)
def edgeF (st all mds:List ByteArray) (x:Ed):Flt:=orF (needF (isIn x.tx mds) 7 x.tx) (orF (knownF all x.g) (flowF st all [] x.rs))
def edgesF (st all mds:List ByteArray):List Ed→Flt
 | []=>none
 | x::r=>orF (edgeF st all mds x) (edgesF st all mds r)
def modeF (st all mds:List ByteArray) (m:Mo):Flt:=orF (flowF st all [] m.fs) (orF (missF (m.fs.map Qe.name) st) (edgesF st all mds m.es))
def modesF (st all mds:List ByteArray):List Mo→Flt
 | []=>none
 | m::r=>orF (modeF st all mds m) (modesF st all mds r)
def ratC (an ad bn bd:Int):Int:=if ratB an ad=true∧ratB bn bd=true then (if an*bd<bn*ad then -1 else if bn*ad<an*bd then 1 else 0) else 0
def rngF:List De→Flt
 | []=>none
 | d::r=>orF (needF (decide (ratC d.ln d.ld d.hn d.hd≤0)) 2 d.name) (rngF r)
def stN (p:Pr):List ByteArray:=p.ss.map De.name
def allN (p:Pr):List ByteArray:=p.ss.map De.name++p.ps.map De.name
def mdN (p:Pr):List ByteArray:=p.ms.map Mo.name
def checkF (p:Pr):Flt:=orF (needF (probB p) 1 ByteArray.empty) (orF (onceF [] (allN p)) (orF (onceF [] (mdN p)) (orF (rngF (p.ss++p.ps)) (orF (needF (decide (0<p.tn)) 2 ByteArray.empty) (modesF (stN p) (allN p) (mdN p) p.ms)))))
structure Opn where
 k:Int
 a:Int
 b:Int
 n:Int
 cn:Int
 cd:Int
deriving DecidableEq
def findO (o:Opn):List Opn→Option Nat
 | []=>none
 | x::r=>if x=o then some 0 else (findO o r).map (·+1)
def putF (ins:Nat) (ops:List Opn) (o:Opn):List Opn×Int:=match findO o ops with
 | some k=>(ops,(ins+k:Nat))
 | none=>(ops++[o],(ins+ops.length:Nat))
mutual
def tapN (nm:List ByteArray) (ops:List Opn):Ex→List Opn×Int
 | .mk k r d s p _ _ l=>if k=2 then (ops,placeF s nm) else
  putF nm.length (tapL nm ops l).1 ⟨k,(tapL nm ops l).2.1,(tapL nm ops l).2.2,p,r,d⟩
def tapL (nm:List ByteArray) (ops:List Opn):List Ex→List Opn×Int×Int
 | []=>(ops,0,0)
 | x::t=>((tapM nm (tapN nm ops x).1 t).1,(tapN nm ops x).2,(tapM nm (tapN nm ops x).1 t).2)
def tapM (nm:List ByteArray) (ops:List Opn):List Ex→List Opn×Int
 | []=>(ops,0)
 | x::_=>(tapN nm ops x)
end
def tapeF (nm:List ByteArray):List Opn→List Ex→List Opn×List Int
 | ops,[]=>(ops,[])
 | ops,e::r=>((tapeF nm (tapN nm ops e).1 r).1,(tapN nm ops e).2::(tapeF nm (tapN nm ops e).1 r).2)
end
section
open Go.RowKit Go.Sort
abbrev fltV (c:Int) (s:ByteArray):Value:=.iface 131 (.agg #[.int .i64 c,.string s])
def EndF (f:Flt) (r:Ending):Prop:=match f with
 | none=>r=.returned (.tuple #[])
 | some x=>r=.panicked [{ v:=fltV x.1 x.2,recovered:=false }]
theorem need_yes (c:Int) (s:ByteArray) (w:World):Calls Tryz.prog 61 #[.bool true,.int .i64 c,.string s] w fun r w'=>r=.returned (.tuple #[])∧w'=w:=by
 go_enter Tryz.func61,Tryz.ntmps61
 go_wp2
 go_end0
 exact⟨rfl,rfl⟩
theorem need_no (c:Int) (s:ByteArray) (w:World):Calls Tryz.prog 61 #[.bool false,.int .i64 c,.string s] w fun r w'=>r=.panicked [{ v:=fltV c s,recovered:=false }]∧w'=w:=by
 go_enter Tryz.func61,Tryz.ntmps61
 go_wp2
 exact⟨rfl,rfl,rfl⟩
theorem rowS_take {w:World} {a:Option Addr} {ss:List ByteArray} (h:RowS w a ss) (k:Nat):RowS w a (ss.take k):=fun i s hs=>by
 rw[List.getElem?_take] at hs
 split at hs
 ·exact h i s hs
 ·cases hs
theorem onceF_step {ss:List ByteArray} {k:Nat} {s:ByteArray} (hs:ss[k]? = some s):onceF (ss.take k) (ss.drop k)=orF (needF (!isIn s (ss.take k)) 8 s) (onceF (ss.take (k+1)) (ss.drop (k+1))):=by
 have hd:ss.drop k=s::ss.drop (k+1):=by
  obtain⟨h,e⟩:=List.getElem?_eq_some_iff.1 hs
  rw[← e];exact List.drop_eq_getElem_cons h
 have ht:ss.take (k+1)=ss.take k++[s]:=by rw[List.take_add_one,hs];rfl
 rw[hd,ht];rfl
theorem once_any (a:Option Addr) (ss:List ByteArray) (c:Nat) (w:World) (hm:ss.length≤1100000) (hrow:RowS w a ss) (hcap:ss.length≤c):Calls Tryz.prog 64 #[.slice a ss.length c] w fun r w'=>EndF (onceF [] ss) r∧Kp w w':=by
 have HR:=hid hrow
 clear hrow
 go_enter Tryz.func64,Tryz.ntmps64
 go_wp2
 go_loopw [6] (fun x wr=>∃ k:Nat,k≤ss.length∧x=.int .i64 k∧onceF [] ss=onceF (ss.take k) (ss.drop k)∧Kp w wr) (fun x _=>ss.length-(intOf x).toNat)
 case atStart=>exact⟨0,by omega,rfl,rfl,.refl _⟩
 case round =>
 obtain⟨k,hk,rfl,hz,hkp⟩:=hrel
 by_cases hlt:k<ss.length
 rotate_left
 ·have hd:ss.drop k=[]:=List.drop_eq_nil_of_le (by omega)
  rw[hd] at hz
  have Hz:=hid hz
  have Hk:=hid hkp
  clear hz hkp hd
  go_wp2
  go_end0
  exact⟨by rw[Hz.out];exact rfl,Hk.out⟩
 obtain⟨s,hs⟩:∃ s,ss[k]? = some s:=⟨_,List.getElem?_eq_getElem hlt⟩
 obtain⟨b,o,rfl,h0⟩:=HR.out.kp hkp k s hs
 rw[onceF_step hs] at hz
 have Hk:=hid hkp
 have hlk:(ss.take k).length=k:=by rw[List.length_take];omega
 have HC:=hid fun W' (e:W'=wr) (c':Nat)=>conS_any (some ⟨b,o,none⟩) c' (ss.take k) s W' (e▸rowS_take (HR.out.kp hkp) k) (by omega)
 rw[hlk] at HC
 clear hkp hs hlk
 cases hq:inS (ss.take k) s with
 | true =>
  have hz2:onceF [] ss=some (8,s):=by rw[hz];unfold isIn;rw[hq];rfl
  rw[hq] at HC
  have Hz:=hid hz2
  clear hz hz2 hq
  go_wp2_with (first | (go_at_call 97;go_fit (HC.out _ rfl _);rintro r w1 ⟨rfl,rfl⟩) | (go_at_call 61;go_fit (need_no _ _ _);rintro r w2 ⟨rfl,rfl⟩) | fail)
  exact⟨rfl,by rw[Hz.out];exact rfl,Hk.out⟩
 | false =>
 have hz2:onceF [] ss=onceF (ss.take (k+1)) (ss.drop (k+1)):=by rw[hz];unfold isIn;rw[hq];rfl
 rw[hq] at HC
 have Hz:=hid hz2
 clear hz hz2 hq
 go_wp2_with (first | (go_at_call 97;go_fit (HC.out _ rfl _);rintro r w1 ⟨rfl,rfl⟩) | (go_at_call 61;go_fit (need_yes _ _ _);rintro r w2 ⟨rfl,rfl⟩) | fail)
 go_roundw
 case measure=>simp only[intOf];omega
 case rel=>exact⟨k+1,by omega,by go_num,Hz.out,Hk.out⟩
structure Lk where
 sa:Option Addr
 sc:Nat
 st:List ByteArray
 na:Option Addr
 nc:Nat
 all:List ByteArray
 ma:Option Addr
 mc:Nat
 md:List ByteArray
def Lk.cells (x:Lk):List Value:=[.slice x.sa x.st.length x.sc,.slice x.na x.all.length x.nc,.slice x.ma x.md.length x.mc]
def Lk.at (x:Lk) (w:World) (lb:Nat):Prop:=CellsV w lb 0 x.cells∧(RowS w x.sa x.st∧RowS w x.na x.all∧RowS w x.ma x.md)∧x.st.length≤1100000∧x.all.length≤1100000∧x.md.length≤1100000
theorem Lk.at_kp {x:Lk} {w w':World} {lb:Nat} (h:x.at w lb) (k:Kp w w'):x.at w' lb:=⟨h.1.kp k,⟨h.2.1.1.kp k,h.2.1.2.1.kp k,h.2.1.2.2.kp k⟩,h.2.2⟩
theorem unkF_step {all ss:List ByteArray} {k:Nat} {s:ByteArray} (hs:ss[k]? = some s):unknF all (ss.drop k)=orF (needF (isIn s all) 7 s) (unknF all (ss.drop (k+1))):=by
 have hd:ss.drop k=s::ss.drop (k+1):=by
  obtain⟨h,e⟩:=List.getElem?_eq_some_iff.1 hs
  rw[← e];exact List.drop_eq_getElem_cons h
 rw[hd];rfl
theorem lknown_any (x':Lk) (lb:Nat) (e:Ex) (B:Nat) (w:World) (hx:x'.at w lb) (hat:e.at w B) (hB:B≤w.heap.size) :
  Calls Tryz.prog 130 #[.pointer (some ⟨lb,0,none⟩),.agg #[.int .i64 e.kind,.int .i64 e.rn,.int .i64 e.rd,.string e.name,.int .i64 e.pw,.slice e.a e.l.length e.c]] w fun r w'=>EndF (knownF x'.all e) r∧Kp w w':=by
 have k1:Kp w (w.alloc (.cells #[.int .i64 e.kind,.int .i64 e.rn,.int .i64 e.rd,.string e.name,.int .i64 e.pw,.slice e.a e.l.length e.c] 71)):=(Kp.refl w).alloc _
 have hB1:BoxX (w.alloc (.cells #[.int .i64 e.kind,.int .i64 e.rn,.int .i64 e.rd,.string e.name,.int .i64 e.pw,.slice e.a e.l.length e.c] 71)) w.heap.size e:=BoxX.new w e _ rfl
 go_enter Tryz.func130,Tryz.ntmps130
 go_upto_region 1 with fail
 generalize w.alloc _=W at *
 have HX:=hid hx
 obtain⟨⟨q0,q1,q2,q3,q4,q5⟩,_⟩:=hB1
 have HN:=hid (tnames_any e B W (Ex.at_kp hat k1) (Nat.le_trans hB k1.size))
 clear hat hx
 go_wp2_with (go_at_call 95;go_fit HN.out;rintro r w2 ⟨v,rfl,hv,k2⟩;obtain⟨va,vc,rfl,hrow⟩:=rowS_own hv)
 clear q0 q1 q2 q3 q4 q5
 have KC:=hid (k1.trans k2)
 have hle:=namO_le e
 have hal:=HX.out.2.2.2.1
 have HN2:=hid hrow
 clear hrow hv k1 HN
 go_loopw [9] (fun x wr=>∃ k:Nat,k≤(namO e).length∧x=.int .i64 k∧knownF x'.all e=unknF x'.all ((namO e).drop k)∧Kp w wr∧Kp w2 wr) (fun x _=>(namO e).length-(intOf x).toNat)
 case atStart=>exact⟨0,by omega,rfl,rfl,KC.out,.refl _⟩
 case round =>
 obtain⟨k,hk,rfl,hz,hkp,hkp2⟩:=hrel
 have Hk:=hid hkp
 have Hk2:=hid hkp2
 by_cases hlt:k<(namO e).length
 rotate_left
 ·have hd:(namO e).drop k=[]:=List.drop_eq_nil_of_le (by omega)
  rw[hd] at hz
  have Hz:=hid hz
  clear hz hkp hkp2 hd
  go_wp2
  go_end0
  exact⟨by rw[Hz.out];exact rfl,Hk.out⟩
 obtain⟨s,hs⟩:∃ s,(namO e)[k]? = some s:=⟨_,List.getElem?_eq_getElem hlt⟩
 obtain⟨b,o,rfl,h0⟩:=HN2.out.kp hkp2 k s hs
 rw[unkF_step hs] at hz
 have hc1:wr.cell? ⟨lb,1,none⟩=some (.slice x'.na x'.all.length x'.nc):=(Lk.at_kp HX.out hkp).1 1 _ rfl
 have HC:=hid fun W' (h:W'=wr)=>conS_any x'.na x'.nc x'.all s W' (h▸(Lk.at_kp HX.out hkp).2.1.2.1) hal
 clear hkp hkp2 hs
 cases hq:inS x'.all s with
 | false =>
  have hz2:knownF x'.all e=some (7,s):=by rw[hz];unfold isIn;rw[hq];rfl
  rw[hq] at HC
  have Hz:=hid hz2
  clear hz hz2 hq
  go_wp2_with (first | (go_at_call 97;go_fit (HC.out _ rfl);rintro r w1 ⟨rfl,rfl⟩) | (go_at_call 61;go_fit (need_no _ _ _);rintro r w2 ⟨rfl,rfl⟩) | fail)
  exact⟨rfl,by rw[Hz.out];exact rfl,Hk.out⟩
 | true =>
 have hz2:knownF x'.all e=unknF x'.all ((namO e).drop (k+1)):=by rw[hz];unfold isIn;rw[hq];rfl
 rw[hq] at HC
 have Hz:=hid hz2
 clear hz hz2 hq
 go_wp2_with (first | (go_at_call 97;go_fit (HC.out _ rfl);rintro r w1 ⟨rfl,rfl⟩) | (go_at_call 61;go_fit (need_yes _ _ _);rintro r w2 ⟨rfl,rfl⟩) | fail)
 go_roundw
 case measure=>simp only[intOf];omega
 case rel=>exact⟨k+1,by omega,by go_num,Hz.out,Hk.out,Hk2.out⟩
theorem givenF_no1 {st all:List ByteArray} {q:Qe} {bf:List ByteArray} (h:inS st q.name=false):givenF st all q bf=some (7,q.name):=by unfold givenF isIn;rw[h];rfl
theorem givenF_no2 {st all:List ByteArray} {q:Qe} {bf:List ByteArray} (h:inS st q.name=true) (h2:inS bf q.name=true):givenF st all q bf=some (8,q.name):=by unfold givenF isIn;rw[h,h2];rfl
theorem givenF_yes {st all:List ByteArray} {q:Qe} {bf:List ByteArray} (h:inS st q.name=true) (h2:inS bf q.name=false):givenF st all q bf=knownF all q.e:=by unfold givenF isIn;rw[h,h2];rfl
theorem given_any (x:Lk) (lb:Nat) (q:Qe) (ba:Option Addr) (bc:Nat) (bf:List ByteArray) (B:Nat) (w:World) (hx:x.at w lb) (hat:q.e.at w B) (hB:B≤w.heap.size) (hb:RowS w ba bf) (hbl:bf.length≤1100000) :
  Calls Tryz.prog 129 #[.pointer (some ⟨lb,0,none⟩),.string q.name,.agg #[.int .i64 q.e.kind,.int .i64 q.e.rn,.int .i64 q.e.rd,.string q.e.name,.int .i64 q.e.pw,.slice q.e.a q.e.l.length q.e.c],.slice ba bf.length bc] w fun r w'=>EndF (givenF x.st x.all q bf) r∧Kp w w':=by
 have k1:Kp w (w.alloc (.cells #[.int .i64 q.e.kind,.int .i64 q.e.rn,.int .i64 q.e.rd,.string q.e.name,.int .i64 q.e.pw,.slice q.e.a q.e.l.length q.e.c] 71)):=(Kp.refl w).alloc _
 have hB1:BoxX (w.alloc (.cells #[.int .i64 q.e.kind,.int .i64 q.e.rn,.int .i64 q.e.rd,.string q.e.name,.int .i64 q.e.pw,.slice q.e.a q.e.l.length q.e.c] 71)) w.heap.size q.e:=BoxX.new w q.e _ rfl
 go_enter Tryz.func129,Tryz.ntmps129
 go_upto_region 1 with fail
 generalize w.alloc _=W at *
 have HX:=hid (Lk.at_kp hx k1)
 obtain⟨⟨q0,q1,q2,q3,q4,q5⟩,_⟩:=hB1
 have hc0:W.cell? ⟨lb,0,none⟩=some (.slice x.sa x.st.length x.sc):=HX.out.1 0 _ rfl
 have HC:=hid (conS_any x.sa x.sc x.st q.name W HX.out.2.1.1 HX.out.2.2.1)
 have HC2:=hid (conS_any ba bc bf q.name W (hb.kp k1) hbl)
 have HK:=hid (lknown_any x lb q.e B W HX.out (Ex.at_kp hat k1) (Nat.le_trans hB k1.size))
 have K1:=hid k1
 clear hx hat hb k1
 cases h1:inS x.st q.name with
 | false =>
  rw[h1] at HC
  have Hz:=hid (givenF_no1 (all:=x.all) (bf:=bf) h1)
  clear h1
  go_wp2_with (first | (go_at_call 97;go_fit HC.out;rintro r w1 ⟨rfl,rfl⟩) | (go_at_call 61;go_fit (need_no _ _ _);rintro r w2 ⟨rfl,rfl⟩) | fail)
  exact⟨rfl,by rw[Hz.out];exact rfl,K1.out⟩
 | true =>
 rw[h1] at HC
 cases h2:inS bf q.name with
 | true =>
  rw[h2] at HC2
  have Hz:=hid (givenF_no2 (all:=x.all) h1 h2)
  clear h1 h2
  go_wp2_with (first | (go_at_call 97;go_fit HC.out;rintro r w1 ⟨rfl,rfl⟩) | (go_at_call 97;go_fit HC2.out;rintro r w1 ⟨rfl,rfl⟩) | (go_at_call 61;go_fit (need_no _ _ _);rintro r w2 ⟨rfl,rfl⟩) | (go_at_call 61;go_fit (need_yes _ _ _);rintro r w2 ⟨rfl,rfl⟩) | fail)
  exact⟨rfl,by rw[Hz.out];exact rfl,K1.out⟩
 | false =>
 rw[h2] at HC2
 have Hz:=hid (givenF_yes (all:=x.all) h1 h2)
 clear h1 h2
 cases hf:knownF x.all q.e with
 | some f =>
  rw[hf] at HK Hz
  clear hf
  go_wp2_with (first | (go_at_call 97;go_fit HC.out;rintro r w1 ⟨rfl,rfl⟩) | (go_at_call 97;go_fit HC2.out;rintro r w1 ⟨rfl,rfl⟩) | (go_at_call 61;go_fit (need_yes _ _ _);rintro r w2 ⟨rfl,rfl⟩) | (go_at_call 130;go_fit HK.out;rintro r w3 ⟨hr,k3⟩;obtain rfl:r=.panicked [{ v:=fltV f.1 f.2,recovered:=false }]:=hr) | fail)
  exact⟨rfl,by rw[Hz.out];exact rfl,K1.out.trans k3⟩
 | none =>
 rw[hf] at HK Hz
 clear hf
 go_wp2_with (first | (go_at_call 97;go_fit HC.out;rintro r w1 ⟨rfl,rfl⟩) | (go_at_call 97;go_fit HC2.out;rintro r w1 ⟨rfl,rfl⟩) | (go_at_call 61;go_fit (need_yes _ _ _);rintro r w2 ⟨rfl,rfl⟩) | (go_at_call 130;go_fit HK.out;rintro r w3 ⟨hr,k3⟩;obtain rfl:r=.returned (.tuple #[]):=hr) | fail)
 go_end0
 exact⟨by rw[Hz.out];exact rfl,K1.out.trans k3⟩
end
section
section
variable {P:Program} {ops:Array Oper} {Q:Exit→Act→World→Prop} {md:Region.Mode} {S:World→Prop}
def Down (md:Region.Mode) (ops:Array Oper) (listed:Array Bool):Prop :=
 ∀ j o,ops[j]? = some o→listed.getD j true=true→∀ e∈o.after,Region.binds md e=true→listed.getD e.on false=true
theorem getD_sz {listed:Array Bool} {i:Nat} (h:i<listed.size) (c d:Bool):listed.getD i c=listed.getD i d:=by
 simp[h]
end
end
end Go.Proofs.YteidgoldnllabaaGreatDoor
