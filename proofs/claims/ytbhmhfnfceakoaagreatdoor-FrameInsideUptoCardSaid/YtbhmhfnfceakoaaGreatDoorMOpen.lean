/-
  Arguments opened: limbs, numbers, intervals, slices of these; how long they are, by the bulk of what is read; a call that leaves all that was there.
-/
import Derived.Test.YtbhmhfnfceakoaaGreatDoorRows
import Derived.Test.YtbhmhfnfceakoaaGreatDoorMSig
import Derived.Deep.Slices
import Derived.ChangeArms
import Derived.OpenShut
import Derived.OpenVars
import Derived.ProofKit
import Derived.Test.YtbhmhfnfceakoaaGreatDoorCards
import Derived.Test.YtbhmhfnfceakoaaGreatDoorTie
import Derived.Test.YtbhmhfnfceakoaaGreatDoorMNum
import Derived.WideKeyArgs
import Derived.WalkKit
import Derived.Below
import Derived.ChangeSame
import Derived.Deep.DeepHandedRow
import Derived.Lib.LaidTab
import Derived.Test.YtbhmhfnfceakoaaGreatDoorMCmp
namespace Go.Proofs.YtbhmhfnfceakoaaGreatDoor
open Go.RowKit
open Lib (hid)
section
open Go.ChangeShapes Go.WideShapes Go.RowKit Go.Deep
section
variable {H:Type}
theorem bulk_one (d:DataW H):1≤Rows.uptoBulk d:=by
 cases d with
 | nil=>simp[Rows.uptoBulk]
 | ptr d=>simp[Rows.uptoBulk]
 | slice elems spare=>simp[Rows.uptoBulk]
 | agg parts=>simp[Rows.uptoBulk]
 | iface t d=>simp[Rows.uptoBulk]
 | map entries=>simp[Rows.uptoBulk]
 | held h=>simp[Rows.uptoBulk]
 | lit l=>cases l <;> simp[Rows.uptoBulk]
theorem bulk_part {d:DataW H} {l:List (DataW H)} (h:d∈l):Rows.uptoBulk d≤Rows.uptoBulkAll l:=by
 induction l with
 | nil=>cases h
 | cons x r ih =>
  simp only[Rows.uptoBulkAll]
  cases List.mem_cons.1 h with
  | inl e=>subst e;omega
  | inr e=>have:=ih e;omega
theorem bulk_len (l:List (DataW H)):l.length≤Rows.uptoBulkAll l:=by
 induction l with
 | nil=>simp[Rows.uptoBulkAll]
 | cons x r ih=>have:=bulk_one x;simp only[Rows.uptoBulkAll,List.length_cons];omega
theorem bulk_slice (elems spare:List (DataW H)):elems.length≤Rows.uptoBulk (.slice elems spare):=by
 have h1:=bulk_len elems
 simp only[Rows.uptoBulk]
 omega
theorem bulk_elem {elems spare:List (DataW H)} {d:DataW H} (h:d∈elems):Rows.uptoBulk d≤Rows.uptoBulk (.slice elems spare):=by
 have:=bulk_part h
 simp only[Rows.uptoBulk]
 omega
theorem bulk_agg {parts:List (DataW H)} {d:DataW H} (h:d∈parts):Rows.uptoBulk d≤Rows.uptoBulk (.agg parts):=by
 have:=bulk_part h
 simp only[Rows.uptoBulk]
 omega
end
section
variable {H:Type} {enc:TypeId×Value→H} {w:World} {base:Nat} {spare:Nat→Bool} {held:Bool}
theorem cell_spot {a:Addr} {v:Value} (h:w.cell? (a.add 0)=some v):∃ b o,a=⟨b,o,none⟩:=by
 obtain⟨b,o,spot⟩:=a
 have hspot:spot=none:=by simpa [Addr.add] using World.cell?_spot h
 subst hspot
 exact⟨b,o,rfl⟩
theorem wf_u32_bd {n:Int} (h:(Lit.int .u32 n).wf=true):0≤n∧n≤4294967295:=by
 have:=bounds_u32 h
 omega
theorem wf_i64_bd {n:Int} (h:(Lit.int .i64 n).wf=true):I64 n:=by
 have:=bounds_i64 h
 exact⟨by omega,by omega⟩
theorem cells32:Tryz.prog.cellsOf 109=1:=by kernel_rfl
theorem cellsBool:Tryz.prog.cellsOf 4=1:=by kernel_rfl
theorem cellsInt:Tryz.prog.cellsOf 3=1:=by kernel_rfl
theorem cellsLimbs:Tryz.prog.cellsOf 36=1:=by kernel_rfl
theorem cellsDyd:Tryz.prog.cellsOf 38=3:=by kernel_rfl
theorem cellsIvl:Tryz.prog.cellsOf 44=7:=by kernel_rfl
theorem open_limbs {fuel:Nat} {cs:List Value} {x:DataW H×List MemPlace} (h:DataW.trod enc Tryz.prog w base spare held fuel 36 cs=some x) :
  ∃ (a:Option Addr) (xs:List Nat) (c:Nat),cs=[.slice a xs.length c]∧Rd w a xs∧xs.length≤c∧c≤maxLen∧xs.length≤Rows.uptoBulk x.1:=by
 rcases open_ints Tryz.underlying36 Tryz.underlying109 cells32 h with ⟨hcs,hx⟩ | ⟨a,len,cap,zs,hcs,_,hl,hm,hz,hx,hcell,hwz⟩
 ·exact⟨none,[],0,hcs,.nil _ _,Nat.le_refl _,by unfold maxLen;omega,Nat.zero_le _⟩
 have hle:len≤zs.length:=by rw[hz];split <;> omega
 have hlen:((zs.take len).map Int.toNat).length=len:=by simp;omega
 refine⟨some a,(zs.take len).map Int.toNat,cap,by rw[hlen];exact hcs,⟨?_,?_⟩,by omega,hm,?_⟩
 ·intro y hy
  obtain⟨z,hz',rfl⟩:=List.mem_map.1 hy
  have:=wf_u32_bd (hwz z (List.mem_of_mem_take hz'))
  omega
 ·by_cases h0:len=0
  ·exact .inl (by rw[h0];simp)
  obtain⟨b,o,rfl⟩:=cell_spot (hcell 0 (by omega))
  refine .inr ⟨b,o,rfl,fun i hi=>?_⟩
  rw[hlen] at hi
  have hc:=hcell i (by omega)
  rw[Addr.add_lit] at hc
  have hw:=wf_u32_bd (hwz (zs[i]'(by omega)) (List.getElem_mem _))
  have e:nth ((zs.take len).map Int.toNat) i=(zs[i]'(by omega)).toNat:=by
   rw[nth_eq (by rw[hlen];exact hi)]
   simp
  have e2:zs.getD i 0=zs[i]'(by omega):=by simp[List.getD,List.getElem?_eq_getElem (show i<zs.length by omega)]
  rw[hc,e,e2,Int.toNat_of_nonneg hw.1]
 rw[hx]
 show _≤Rows.uptoBulk (DataW.slice _ _)
 refine Nat.le_trans ?_ (bulk_slice _ _)
 simp[lits]
theorem list3 {α:Type} {l:List α} (h:l.length=3):∃ a b c,l=[a,b,c]:=by
 match l,h with
 | [a,b,c],_=>exact⟨a,b,c,rfl⟩
theorem open_dyd {fuel:Nat} {cs:List Value} {x:DataW H×List MemPlace} (h:DataW.trod enc Tryz.prog w base spare held fuel 38 cs=some x) (hb:Rows.uptoBulk x.1≤1048576) :
  ∃ y:RD,cs=[.bool y.neg,.slice y.a y.xs.length y.c,.int .i64 y.e]∧y.rd w:=by
 obtain⟨xs,n,_,hx,hlen,hxl,hf⟩:=DataW.trod_struct Tryz.underlying38 h
 replace hlen:=hlen.trans cellsDyd
 obtain⟨c0,c1,c2,rfl⟩:=list3 hlen
 obtain⟨y0,y1,y2,rfl⟩:=list3 hxl
 have h0:DataW.trod enc Tryz.prog w base spare held n 4 (([c0,c1,c2].drop 0).take (Tryz.prog.cellsOf 4))=some y0:=hf 0 _ rfl
 have h1:DataW.trod enc Tryz.prog w base spare held n 36 (([c0,c1,c2].drop 1).take (Tryz.prog.cellsOf 36))=some y1:=hf 1 _ rfl
 have h2:DataW.trod enc Tryz.prog w base spare held n 3 (([c0,c1,c2].drop 2).take (Tryz.prog.cellsOf 3))=some y2:=hf 2 _ rfl
 rw[cellsBool] at h0
 rw[cellsLimbs] at h1
 rw[cellsInt] at h2
 have h0:DataW.trod enc Tryz.prog w base spare held n 4 [c0]=some y0:=h0
 have h1:DataW.trod enc Tryz.prog w base spare held n 36 [c1]=some y1:=h1
 have h2:DataW.trod enc Tryz.prog w base spare held n 3 [c2]=some y2:=h2
 obtain⟨s,e0,_⟩:=DataW.trod_bool Tryz.underlying4 h0
 obtain⟨a,zs,c,e1,hr,hc,hm,hbz⟩:=open_limbs h1
 obtain⟨e,e2,_,hw⟩:=DataW.trod_int Tryz.underlying3 h2
 simp only[List.cons.injEq,and_true] at e0 e1 e2
 subst e0 e1 e2
 have hy1:y1.1∈[y0,y1,y2].map (·.1):=by simp
 have hle:Rows.uptoBulk y1.1≤Rows.uptoBulk x.1:=by rw[hx];exact bulk_agg hy1
 exact⟨⟨s,a,zs,c,e⟩,rfl,hr,hc,hm,by show zs.length≤_;omega,wf_i64_bd hw⟩
theorem list7 {α:Type} {l:List α} (h:l.length=7):∃ a b c d e f g,l=[a,b,c,d,e,f,g]:=by
 match l,h with
 | [a,b,c,d,e,f,g],_=>exact⟨a,b,c,d,e,f,g,rfl⟩
theorem open_ivl {fuel:Nat} {cs:List Value} {x:DataW H×List MemPlace} (h:DataW.trod enc Tryz.prog w base spare held fuel 44 cs=some x) (hb:Rows.uptoBulk x.1≤1048576) :
  ∃ y:RI,cs=[.bool y.lo.neg,.slice y.lo.a y.lo.xs.length y.lo.c,.int .i64 y.lo.e,.bool y.hi.neg,.slice y.hi.a y.hi.xs.length y.hi.c,.int .i64 y.hi.e,.bool y.all]∧y.rd w:=by
 obtain⟨xs,n,_,hx,hlen,hxl,hf⟩:=DataW.trod_struct Tryz.underlying44 h
 replace hlen:=hlen.trans cellsIvl
 obtain⟨c0,c1,c2,c3,c4,c5,c6,rfl⟩:=list7 hlen
 obtain⟨y0,y1,y2,rfl⟩:=list3 hxl
 have h0:DataW.trod enc Tryz.prog w base spare held n 38 (([c0,c1,c2,c3,c4,c5,c6].drop 0).take (Tryz.prog.cellsOf 38))=some y0:=hf 0 _ rfl
 have h1:DataW.trod enc Tryz.prog w base spare held n 38 (([c0,c1,c2,c3,c4,c5,c6].drop 3).take (Tryz.prog.cellsOf 38))=some y1:=hf 1 _ rfl
 have h2:DataW.trod enc Tryz.prog w base spare held n 4 (([c0,c1,c2,c3,c4,c5,c6].drop 6).take (Tryz.prog.cellsOf 4))=some y2:=hf 2 _ rfl
 rw[cellsDyd] at h0 h1
 rw[cellsBool] at h2
 have hle0:Rows.uptoBulk y0.1≤Rows.uptoBulk x.1:=by rw[hx];exact bulk_agg (by simp)
 have hle1:Rows.uptoBulk y1.1≤Rows.uptoBulk x.1:=by rw[hx];exact bulk_agg (by simp)
 have h0:DataW.trod enc Tryz.prog w base spare held n 38 [c0,c1,c2]=some y0:=h0
 have h1:DataW.trod enc Tryz.prog w base spare held n 38 [c3,c4,c5]=some y1:=h1
 have h2:DataW.trod enc Tryz.prog w base spare held n 4 [c6]=some y2:=h2
 obtain⟨lo,e0,r0⟩:=open_dyd h0 (by omega)
 obtain⟨hi,e1,r1⟩:=open_dyd h1 (by omega)
 obtain⟨s,e2,_⟩:=DataW.trod_bool Tryz.underlying4 h2
 simp only[List.cons.injEq,and_true] at e0 e1 e2
 obtain⟨rfl,rfl,rfl⟩:=e0
 obtain⟨rfl,rfl,rfl⟩:=e1
 subst e2
 exact⟨⟨lo,hi,s⟩,rfl,r0,r1⟩
instance:Inhabited RD:=⟨⟨false,none,[],0,0⟩⟩
instance:Inhabited RI:=⟨⟨default,default,false⟩⟩
theorem open_rowI {fuel:Nat} {cs:List Value} {x:DataW H×List MemPlace} (h:DataW.trod enc Tryz.prog w base spare held fuel 24 cs=some x) (hb:Rows.uptoBulk x.1≤1048576) :
  ∃ (a:Option Addr) (zs:List RI) (c:Nat),cs=[.slice a zs.length c]∧RowI w a zs∧zs.length≤1048576:=by
 rcases open_slice Tryz.underlying24 h with ⟨hcs,hx⟩ | ⟨a,len,cap,m,n,D,Pl,hcs,_,hl,hm,hmm,hx,hi⟩
 ·exact⟨none,[],0,hcs,fun i x hx=>by simp at hx,Nat.zero_le _⟩
 have hle:len≤m:=by rw[hmm];split <;> omega
 have hbl:∀ i,i<len→Rows.uptoBulk (D i)≤1048576:=fun i hil=>by
  refine Nat.le_trans ?_ hb
  rw[hx]
  exact bulk_elem (List.mem_map.2 ⟨i,List.mem_range.2 hil,rfl⟩)
 have hll:len≤1048576:=by
  refine Nat.le_trans ?_ hb
  rw[hx]
  refine Nat.le_trans ?_ (bulk_slice _ _)
  simp
 obtain⟨f,hf⟩:=choose_lt (α:=RI) (n:=len) (p:=fun i y=>w.cells? base (a.add (i*7)) 7=some [.bool y.lo.neg,.slice y.lo.a y.lo.xs.length y.lo.c,.int .i64 y.lo.e,.bool y.hi.neg,.slice y.hi.a y.hi.xs.length y.hi.c,.int .i64 y.hi.e,.bool y.all]∧y.rd w) (fun i hil=>by
  obtain⟨cs',h1,h2⟩:=hi i (by omega)
  rw[cellsIvl] at h1
  obtain⟨y,e,hr⟩:=open_ivl h2 (hbl i hil)
  exact⟨y,by rw[h1,e],hr⟩)
 have hfl:((List.range len).map f).length=len:=by simp
 refine⟨some a,(List.range len).map f,cap,by rw[hfl];exact hcs,fun i x hx=>?_,by omega⟩
 have hil:i<len:=by have:=(List.getElem?_eq_some_iff.1 hx).1;rwa [hfl] at this
 rw[List.getElem?_map,List.getElem?_range hil] at hx
 cases hx
 obtain⟨h1,h2⟩:=hf i hil
 obtain⟨_,_,hat⟩:=World.cells?_some h1
 have h0:=hf 0 (by omega)
 have hspot:∃ b o,a=⟨b,o,none⟩:=by
  obtain⟨_,_,hat0⟩:=World.cells?_some h0.1
  have:=hat0 0 (by decide)
  rw[Nat.zero_mul,add_add] at this
  exact cell_spot this
 obtain⟨b,o,rfl⟩:=hspot
 have key (j:Nat) (hj:j<7) (u:Value) (hu:([.bool (f i).lo.neg,.slice (f i).lo.a (f i).lo.xs.length (f i).lo.c,.int .i64 (f i).lo.e,.bool (f i).hi.neg,.slice (f i).hi.a (f i).hi.xs.length (f i).hi.c,.int .i64 (f i).hi.e,.bool (f i).all]:List Value)[j]? = some u):w.cell? ⟨b,o+i*7+j,none⟩=some u:=by
  have:=hat j hj
  rw[add_add,Addr.add_lit,hu,← Nat.add_assoc] at this
  exact this
 exact⟨b,o,rfl,h2,key 0 (by decide) _ rfl,key 1 (by decide) _ rfl,key 2 (by decide) _ rfl,key 3 (by decide) _ rfl,key 4 (by decide) _ rfl,key 5 (by decide) _ rfl,key 6 (by decide) _ rfl⟩
theorem open_rowD {fuel:Nat} {cs:List Value} {x:DataW H×List MemPlace} (h:DataW.trod enc Tryz.prog w base spare held fuel 22 cs=some x) (hb:Rows.uptoBulk x.1≤1048576) :
  ∃ (a:Option Addr) (zs:List RD) (c:Nat),cs=[.slice a zs.length c]∧RowD w a zs∧zs.length≤1048576:=by
 rcases open_slice Tryz.underlying22 h with ⟨hcs,hx⟩ | ⟨a,len,cap,m,n,D,Pl,hcs,_,hl,hm,hmm,hx,hi⟩
 ·exact⟨none,[],0,hcs,fun i x hx=>by simp at hx,Nat.zero_le _⟩
 have hle:len≤m:=by rw[hmm];split <;> omega
 have hbl:∀ i,i<len→Rows.uptoBulk (D i)≤1048576:=fun i hil=>by
  refine Nat.le_trans ?_ hb
  rw[hx]
  exact bulk_elem (List.mem_map.2 ⟨i,List.mem_range.2 hil,rfl⟩)
 have hll:len≤1048576:=by
  refine Nat.le_trans ?_ hb
  rw[hx]
  refine Nat.le_trans ?_ (bulk_slice _ _)
  simp
 obtain⟨f,hf⟩:=choose_lt (α:=RD) (n:=len) (p:=fun i y=>w.cells? base (a.add (i*3)) 3=some [.bool y.neg,.slice y.a y.xs.length y.c,.int .i64 y.e]∧y.rd w) (fun i hil=>by
  obtain⟨cs',h1,h2⟩:=hi i (by omega)
  rw[cellsDyd] at h1
  obtain⟨y,e,hr⟩:=open_dyd h2 (hbl i hil)
  exact⟨y,by rw[h1,e],hr⟩)
 have hfl:((List.range len).map f).length=len:=by simp
 refine⟨some a,(List.range len).map f,cap,by rw[hfl];exact hcs,fun i x hx=>?_,by omega⟩
 have hil:i<len:=by have:=(List.getElem?_eq_some_iff.1 hx).1;rwa [hfl] at this
 rw[List.getElem?_map,List.getElem?_range hil] at hx
 cases hx
 obtain⟨h1,h2⟩:=hf i hil
 obtain⟨_,_,hat⟩:=World.cells?_some h1
 have h0:=hf 0 (by omega)
 have hspot:∃ b o,a=⟨b,o,none⟩:=by
  obtain⟨_,_,hat0⟩:=World.cells?_some h0.1
  have:=hat0 0 (by decide)
  rw[Nat.zero_mul,add_add] at this
  exact cell_spot this
 obtain⟨b,o,rfl⟩:=hspot
 have key (j:Nat) (hj:j<3) (u:Value) (hu:([.bool (f i).neg,.slice (f i).a (f i).xs.length (f i).c,.int .i64 (f i).e]:List Value)[j]? = some u):w.cell? ⟨b,o+i*3+j,none⟩=some u:=by
  have:=hat j hj
  rw[add_add,Addr.add_lit,hu,← Nat.add_assoc] at this
  exact this
 exact⟨b,o,rfl,h2,key 0 (by decide) _ rfl,key 1 (by decide) _ rfl,key 2 (by decide) _ rfl⟩
end
end
section
open Go.ChangeShapes Go.WideShapes Go.ChangeAt Go.RowKit
theorem ownKnobs:ownKnob Tryz.prog.godebug=none:=by kernel_rfl
theorem laidOutSeat:laidOutB Tryz.prog=true:=by kernel_rfl
theorem gTab : Tryz.prog.globalNamed "math/bits.deBruijn32tab" = some 0 := by kernel_rfl
theorem gTabType:(Tryz.prog.globals[0]?).map (·.type)=some 166:=by kernel_rfl
theorem cellsTab:Tryz.prog.cellsOf 166=32:=by kernel_rfl
theorem cellsByte:Tryz.prog.cellsOf 5=1:=by kernel_rfl
def tabInts:List Int:=[0,1,28,2,29,14,24,3,30,22,20,15,25,17,4,8,31,27,13,23,21,19,16,7,26,12,18,6,11,5,10,9]
theorem tab_of_laid {W : World} (h : laidMetH Tryz.prog [("math/bits.deBruijn32tab", Rows.laid_math_bits_deBruijn32tab)] W) : Tab W := by
 have T : Lib.TabIs Tryz.prog W "math/bits.deBruijn32tab" .u8 tabInts :=
  Lib.tabIs_of_head (rest:=[]) gTab gTabType Tryz.underlying166 Tryz.underlying5 cellsByte cellsTab h
 intro j hj
 have hc:=T.cell gTab j hj
 rw[hc]
 have e:∀ j:Fin 32,tabInts.getD j.1 0=((Lib.deBruijn32tab.getD j.1 0:Nat):Int):=by decide
 exact congrArg some (congrArg (Value.int IntKind.u8) (e ⟨j,hj⟩))
noncomputable def laidWorld (os:Os):World :=
 { World.holding Tryz.prog os ⟨#[],#[],[]⟩ with heap:=(World.holding Tryz.prog os ⟨#[],#[],[]⟩).heap.modify 0 fun
   | .cells _ t frozen=>.cells (tabInts.map fun z=>Value.int .u8 z).toArray t frozen
   | o=>o }
section
variable {H:Type} {enc:TypeId×Value→H} {P:Program}
theorem post_of_below {f:Func} {s:ChangeSpec} {apart fresh handsOn again:Bool} {W W':World} {args:Array Value} {v:Value} {ds gs:List (DataW H)} {before pa pv:List MemPlace}
  (hW:DataW.Whole enc P f.params.toList s.vars apart W args.toList ds gs before)
  (hres:∀ (b:Nat) (sp:Nat→Bool) (hd:Bool),DataW.TrodAll enc P W' b sp hd f.resultTypes.toList (v.resultList f.resultTypes.size) (s.fn H (ds++gs)).results [])
  (hargs:∀ sp:Nat→Bool,(∀ p∈before,sp p.block=true)→DataW.TrodAll enc P W' 0 sp true f.params.toList args.toList (s.fn H (ds++gs)).args pa)
  (hvars:∀ sp:Nat→Bool,(∀ p∈before,sp p.block=true)→DataW.TrodVars enc P W' sp s.vars (s.fn H (ds++gs)).vars pv)
  (hps:before=pa++pv) (hb:Below W.heap.size W W')
  (hok:∀ (j:Nat) (t:TypeId) (r:Value),f.resultTypes[j]? = some t→(v.resultList f.resultTypes.size)[j]? = some r→Value.okWide P W' .any 0 t r) :
  s.post enc P f apart fresh handsOn again W args v W':=by
 have hlt:∀ p∈before,p.block<W.heap.size:=fun p hp=>hW.lt p hp
 have hold:∀ p∈before,(fun b=>decide (b<W.heap.size)) p.block=true:=fun p hp=>by simpa using hlt p hp
 refine⟨ds,gs,before,[],pa,pv,hW,hres _ _ _,hargs _ hold,hvars _ hold,World.keptBut_mono (fun p hp=>⟨hp,?_⟩) (hb.frame (·∈before)),fun _=>?_⟩
 ·rw[hps,List.mem_append] at hp
  exact Or.inr hp
 obtain⟨_,_,_,_,_,hz,hn⟩:=hW
 refine⟨hok,_,_,([]++pa)++pv,⟨[]++pa,pv,trodAll_append (hargs _ (fun _ _=>rfl)) (hres _ _ _),hvars _ (fun _ _=>rfl),rfl,?_,?_⟩,?_⟩
 ·intro b off hp
  have hin:MemPlace.cell b off∈before:=by rw[hps];simpa using hp
  rw[hb.frozen (hlt _ hin)]
  exact hz b off hin
 ·intro ha
  have:=hn ha
  rw[hps] at this
  simpa using this
 intro p hp _
 rw[hps]
 simpa using hp
end
theorem bulk_bound {H:Type} {l:List (DataW H)} {d:DataW H} (hk:Rows.uptoSmall H l=true) (h:d∈l):Rows.uptoBulk d≤1048576 :=
 Nat.le_trans (bulk_part h) (of_decide_eq_true hk)
end
def RowN (w:World) (a:Option Addr) (m:List (List RD)):Prop :=
 ∀ i r,m[i]? = some r→∃ b o ra rc,a=some ⟨b,o,none⟩∧w.cell? ⟨b,o+i,none⟩=some (.slice ra r.length rc)∧RowD w ra r∧r.length≤1100000
theorem RowN.kp {w w':World} {a:Option Addr} {m:List (List RD)} (h:RowN w a m) (k:Kp w w'):RowN w' a m:=by
 intro i r hi
 obtain⟨b,o,ra,rc,h1,h2,h3,h4⟩:=h i r hi
 exact⟨b,o,ra,rc,h1,k.cell h2,h3.kp k,h4⟩
def firstN (p:List RD→Bool) (zs:List (List RD)):Int:=match zs.findIdx? p with | some i=>(i:Int) | none=>-1
theorem firstN_some {p:List RD→Bool} {zs:List (List RD)} {k:Nat} {x:List RD} (hk:zs[k]? = some x) (hp:p x=true) (h:∀ i y,zs[i]? = some y→i<k→p y=false):firstN p zs=k:=by
 unfold firstN
 have:zs.findIdx? p=some k:=by
  rw[List.findIdx?_eq_some_iff_getElem]
  obtain⟨h1,h2⟩:=List.getElem?_eq_some_iff.1 hk
  refine⟨h1,by rw[h2];exact hp,fun j hj=>?_⟩
  rw[h j _ (List.getElem?_eq_getElem (by omega)) hj];decide
 rw[this]
theorem firstN_none {p:List RD→Bool} {zs:List (List RD)} (h:∀ (i:Nat) (y:List RD),zs[i]? = some y→p y=false):firstN p zs=-1:=by
 unfold firstN
 have:zs.findIdx? p=none:=by
  rw[List.findIdx?_eq_none_iff]
  intro y hy
  obtain⟨i,hi⟩:=List.getElem?_of_mem hy
  exact h i y hi
 rw[this]
theorem firstN_any (p:List RD→Bool) (zs:List (List RD)):decide (0≤firstN p zs)=zs.any p:=by
 unfold firstN
 cases h:zs.findIdx? p with
 | none =>
  have hm:=List.findIdx?_eq_none_iff.1 h
  have:zs.any p=false:=by rw[List.any_eq_false];intro y hy;rw[hm y hy];decide
  rw[this];decide
 | some i =>
 have hm:=List.findIdx?_eq_some_iff_getElem.1 h
 obtain⟨h1,h2,_⟩:=hm
 have:zs.any p=true:=List.any_eq_true.2 ⟨_,List.getElem_mem h1,h2⟩
 rw[this];simp
def AnsN (P:Program) (g:FuncId) (cap:Array Value) (w:World) (zs:List (List RD)) (p:List RD→Bool):Prop :=
 Enters P g∧∀ x,x∈zs→∀ a c w1,Kp w w1→RowD w1 a x∧x.length≤1100000→Calls P g (#[.slice a x.length c]++cap) w1 fun e w2=>e=.returned (.bool (p x))∧Kp w1 w2
set_option maxHeartbeats 4000000 in
theorem idxN (a:Option Addr) (zs:List (List RD)) (c:Nat) (g:FuncId) (cap:Array Value) (w:World) (p:List RD→Bool) (hm:zs.length≤1100000) (h:RowN w a zs) (hp:AnsN Tryz.prog g cap w zs p) :
  Calls Tryz.prog 157 #[.slice a zs.length c,.func (.func g) #[] cap] w fun e w'=>e=.returned (.int .i64 (firstN p zs))∧Kp w w':=by
 go_enter Tryz.func157,Tryz.ntmps157
 go_wp2
 go_loopw [8] (fun x wr=>∃ k:Nat,k≤zs.length∧x=.int .i64 k∧(∀ i y,zs[i]? = some y→i<k→p y=false)∧Kp w wr) (fun x _=>zs.length-(intOf x).toNat)
 case atStart=>exact⟨0,by omega,rfl,fun i y _ h1=>by omega,.refl _⟩
 case round =>
 obtain⟨k,hk,rfl,hz,hkp⟩:=hrel
 have Hz:=hid hz;clear hz
 by_cases hlt:k<zs.length
 rotate_left
 ·have Hthis:=hid (firstN_none (p:=p) (zs:=zs) (fun i y hy=>Hz.out i y hy (by have:=(List.getElem?_eq_some_iff.1 hy).1;omega)))
  go_wp2
  go_ret
  exact⟨ret_int Hthis.out.symm,hkp⟩
 obtain⟨b,o,ra,rc,rfl,hcell,hrow⟩:=(h.kp hkp) k (zs[k]) (List.getElem?_eq_getElem hlt)
 have Hg:=hid (List.getElem?_eq_getElem hlt)
 have hgo:∀ args w,(callFunc g args).run Tryz.prog w=.ok (.enter g args) w:=hp.1
 have hcall:=hp.2 _ (List.getElem_mem hlt) ra rc wr hkp hrow
 clear hp h hrow
 generalize zs[k]=x at *
 cases hq:p x with
 | true =>
  rw[hq] at hcall
  have Hc:=hid hcall
  have Hq:=hid (firstN_some Hg.out hq Hz.out)
  clear hcall hq
  go_wp2_with (refine Hc.out.mono ?_;rintro e w2 ⟨rfl,hk2⟩)
  go_ret
  exact⟨ret_int Hq.out.symm,hkp.trans hk2⟩
 | false =>
 rw[hq] at hcall
 have Hc:=hid hcall
 have Hq:=hid hq
 clear hcall hq
 go_wp2_with (refine Hc.out.mono ?_;rintro e w2 ⟨rfl,hk2⟩)
 go_roundw
 case measure=>simp[intOf];omega
 case rel =>
 refine⟨k+1,by omega,by go_num,fun i y hy hi=>?_,hkp.trans hk2⟩
 by_cases h:i=k
 ·subst h;rw[Hg.out] at hy;cases hy;exact Hq.out
 exact Hz.out i y hy (by omega)
set_option maxHeartbeats 400000 in
theorem containsN (a:Option Addr) (zs:List (List RD)) (c:Nat) (g:FuncId) (cap:Array Value) (w:World) (p:List RD→Bool) (hm:zs.length≤1100000) (h:RowN w a zs) (hp:AnsN Tryz.prog g cap w zs p) :
  Calls Tryz.prog 85 #[.slice a zs.length c,.func (.func g) #[] cap] w fun e w'=>e=.returned (.bool (zs.any p))∧Kp w w':=by
 have Hc:=hid (idxN a zs c g cap w p hm h hp)
 have Ha:=hid (firstN_any p zs)
 clear hp h
 go_enter Tryz.func85,Tryz.ntmps85
 go_wp2_with (refine Hc.out.mono ?_;rintro e w2 ⟨rfl,hk2⟩)
 go_ret
 exact⟨by rw[← Ha.out];rfl,hk2⟩
section
open Go.ChangeShapes Go.WideShapes Go.RowKit Go.Deep
section
variable {H:Type} {enc:TypeId×Value→H} {w:World} {base:Nat} {spare:Nat→Bool} {held:Bool}
theorem cellsRowD:Tryz.prog.cellsOf 22=1:=by kernel_rfl
theorem open_rowN {fuel:Nat} {cs:List Value} {x:DataW H×List MemPlace} (h:DataW.trod enc Tryz.prog w base spare held fuel 23 cs=some x) (hb:Rows.uptoBulk x.1≤1048576) :
  ∃ (a:Option Addr) (zs:List (List RD)) (c:Nat),cs=[.slice a zs.length c]∧RowN w a zs∧zs.length≤1048576:=by
 rcases open_slice Tryz.underlying23 h with ⟨hcs,hx⟩ | ⟨a,len,cap,m,n,D,Pl,hcs,_,hl,hm,hmm,hx,hi⟩
 ·exact⟨none,[],0,hcs,fun i x hx=>by simp at hx,Nat.zero_le _⟩
 have hle:len≤m:=by rw[hmm];split <;> omega
 have hbl:∀ i,i<len→Rows.uptoBulk (D i)≤1048576:=fun i hil=>by
  refine Nat.le_trans ?_ hb
  rw[hx]
  exact bulk_elem (List.mem_map.2 ⟨i,List.mem_range.2 hil,rfl⟩)
 have hll:len≤1048576:=by
  refine Nat.le_trans ?_ hb
  rw[hx]
  refine Nat.le_trans ?_ (bulk_slice _ _)
  simp
 obtain⟨f,hf⟩:=choose_lt (α:=Option Addr×List RD×Nat) (n:=len) (p:=fun i y=>w.cells? base (a.add (i*1)) 1=some [.slice y.1 y.2.1.length y.2.2]∧RowD w y.1 y.2.1∧y.2.1.length≤1048576) (fun i hil=>by
  obtain⟨cs',h1,h2⟩:=hi i (by omega)
  rw[cellsRowD] at h1
  obtain⟨ra,r,rc,e,hr,hrl⟩:=open_rowD h2 (hbl i hil)
  exact⟨(ra,r,rc),by rw[h1,e],hr,hrl⟩)
 have hfl:((List.range len).map fun i=>(f i).2.1).length=len:=by simp
 refine⟨some a,(List.range len).map fun i=>(f i).2.1,cap,by rw[hfl];exact hcs,fun i x hx=>?_,by omega⟩
 have hil:i<len:=by have:=(List.getElem?_eq_some_iff.1 hx).1;rwa [hfl] at this
 rw[List.getElem?_map,List.getElem?_range hil] at hx
 cases hx
 obtain⟨h1,h2,h3⟩:=hf i hil
 obtain⟨_,_,hat⟩:=World.cells?_some h1
 have h0:=hf 0 (by omega)
 have hspot:∃ b o,a=⟨b,o,none⟩:=by
  obtain⟨_,_,hat0⟩:=World.cells?_some h0.1
  have:=hat0 0 (by decide)
  rw[Nat.zero_mul,add_add] at this
  exact cell_spot this
 obtain⟨b,o,rfl⟩:=hspot
 have key:w.cell? ⟨b,o+i,none⟩=some (.slice (f i).1 (f i).2.1.length (f i).2.2):=by
  have:=hat 0 (by decide)
  rw[add_add,Addr.add_lit,Nat.mul_one,Nat.add_zero] at this
  exact this
 exact⟨b,o,(f i).1,(f i).2.2,rfl,key,h2,Nat.le_trans h3 (by decide)⟩
end
end
def firstI (p:RI→Bool) (zs:List RI):Int:=match zs.findIdx? p with | some i=>(i:Int) | none=>-1
theorem firstI_some {p:RI→Bool} {zs:List RI} {k:Nat} {x:RI} (hk:zs[k]? = some x) (hp:p x=true) (h:∀ i y,zs[i]? = some y→i<k→p y=false):firstI p zs=k:=by
 unfold firstI
 have:zs.findIdx? p=some k:=by
  rw[List.findIdx?_eq_some_iff_getElem]
  obtain⟨h1,h2⟩:=List.getElem?_eq_some_iff.1 hk
  refine⟨h1,by rw[h2];exact hp,fun j hj=>?_⟩
  rw[h j _ (List.getElem?_eq_getElem (by omega)) hj];decide
 rw[this]
theorem firstI_none {p:RI→Bool} {zs:List RI} (h:∀ (i:Nat) (y:RI),zs[i]? = some y→p y=false):firstI p zs=-1:=by
 unfold firstI
 have:zs.findIdx? p=none:=by
  rw[List.findIdx?_eq_none_iff]
  intro y hy
  obtain⟨i,hi⟩:=List.getElem?_of_mem hy
  exact h i y hi
 rw[this]
theorem firstI_any (p:RI→Bool) (zs:List RI):decide (0≤firstI p zs)=zs.any p:=by
 unfold firstI
 cases h:zs.findIdx? p with
 | none =>
  have hm:=List.findIdx?_eq_none_iff.1 h
  have:zs.any p=false:=by rw[List.any_eq_false];intro y hy;rw[hm y hy];decide
  rw[this];decide
 | some i =>
 have hm:=List.findIdx?_eq_some_iff_getElem.1 h
 obtain⟨h1,h2,_⟩:=hm
 have:zs.any p=true:=List.any_eq_true.2 ⟨_,List.getElem_mem h1,h2⟩
 rw[this];simp
def AnsI (P:Program) (g:FuncId) (cap:Array Value) (w:World) (zs:List RI) (p:RI→Bool):Prop :=
 Enters P g∧∀ x,x∈zs→∀ w1,Kp w w1→Calls P g (#[.agg #[.bool x.lo.neg,.slice x.lo.a x.lo.xs.length x.lo.c,.int .i64 x.lo.e,.bool x.hi.neg,.slice x.hi.a x.hi.xs.length x.hi.c,.int .i64 x.hi.e,.bool x.all]]++cap) w1 fun e w2=>e=.returned (.bool (p x))∧Kp w1 w2
set_option maxHeartbeats 4000000 in
theorem idxI (a:Option Addr) (zs:List RI) (c:Nat) (g:FuncId) (cap:Array Value) (w:World) (p:RI→Bool) (hm:zs.length≤1100000) (h:RowI w a zs) (hp:AnsI Tryz.prog g cap w zs p) :
  Calls Tryz.prog 70 #[.slice a zs.length c,.func (.func g) #[] cap] w fun e w'=>e=.returned (.int .i64 (firstI p zs))∧Kp w w':=by
 go_enter Tryz.func70,Tryz.ntmps70
 go_wp2
 go_loopw [8] (fun x wr=>∃ k:Nat,k≤zs.length∧x=.int .i64 k∧(∀ i y,zs[i]? = some y→i<k→p y=false)∧Kp w wr) (fun x _=>zs.length-(intOf x).toNat)
 case atStart=>exact⟨0,by omega,rfl,fun i y _ h1=>by omega,.refl _⟩
 case round =>
 obtain⟨k,hk,rfl,hz,hkp⟩:=hrel
 have Hz:=hid hz;clear hz
 by_cases hlt:k<zs.length
 rotate_left
 ·have Hthis:=hid (firstI_none (p:=p) (zs:=zs) (fun i y hy=>Hz.out i y hy (by have:=(List.getElem?_eq_some_iff.1 hy).1;omega)))
  go_wp2
  go_ret
  exact⟨ret_int Hthis.out.symm,hkp⟩
 obtain⟨b,o,rfl,hr,h0,h1,h2,h3,h4,h5,h6⟩:=(h.kp hkp) k (zs[k]) (List.getElem?_eq_getElem hlt)
 have Hg:=hid (List.getElem?_eq_getElem hlt)
 have hgo:∀ args w,(callFunc g args).run Tryz.prog w=.ok (.enter g args) w:=hp.1
 have hcall:=hp.2 _ (List.getElem_mem hlt) wr hkp
 clear hp h
 generalize zs[k]=x at *
 cases hq:p x with
 | true =>
  rw[hq] at hcall
  have Hc:=hid hcall
  have Hq:=hid (firstI_some Hg.out hq Hz.out)
  clear hcall hq
  go_wp2_with (refine Hc.out.mono ?_;rintro e w2 ⟨rfl,hk2⟩)
  go_ret
  exact⟨ret_int Hq.out.symm,hkp.trans hk2⟩
 | false =>
 rw[hq] at hcall
 have Hc:=hid hcall
 have Hq:=hid hq
 clear hcall hq
 go_wp2_with (refine Hc.out.mono ?_;rintro e w2 ⟨rfl,hk2⟩)
 go_roundw
 case measure=>simp[intOf];omega
 case rel =>
 refine⟨k+1,by omega,by go_num,fun i y hy hi=>?_,hkp.trans hk2⟩
 by_cases h:i=k
 ·subst h;rw[Hg.out] at hy;cases hy;exact Hq.out
 exact Hz.out i y hy (by omega)
set_option maxHeartbeats 400000 in
theorem containsI (a:Option Addr) (zs:List RI) (c:Nat) (g:FuncId) (cap:Array Value) (w:World) (p:RI→Bool) (hm:zs.length≤1100000) (h:RowI w a zs) (hp:AnsI Tryz.prog g cap w zs p) :
  Calls Tryz.prog 18 #[.slice a zs.length c,.func (.func g) #[] cap] w fun e w'=>e=.returned (.bool (zs.any p))∧Kp w w':=by
 have Hc:=hid (idxI a zs c g cap w p hm h hp)
 have Ha:=hid (firstI_any p zs)
 clear hp h
 go_enter Tryz.func18,Tryz.ntmps18
 go_wp2_with (refine Hc.out.mono ?_;rintro e w2 ⟨rfl,hk2⟩)
 go_ret
 exact⟨by rw[← Ha.out];rfl,hk2⟩
def RowM (w:World) (a:Option Addr) (m:List (List RI)):Prop :=
 ∀ i r,m[i]? = some r→∃ b o ra rc,a=some ⟨b,o,none⟩∧w.cell? ⟨b,o+i,none⟩=some (.slice ra r.length rc)∧RowI w ra r∧r.length≤1100000
theorem RowM.kp {w w':World} {a:Option Addr} {m:List (List RI)} (h:RowM w a m) (k:Kp w w'):RowM w' a m:=by
 intro i r hi
 obtain⟨b,o,ra,rc,h1,h2,h3,h4⟩:=h i r hi
 exact⟨b,o,ra,rc,h1,k.cell h2,h3.kp k,h4⟩
def firstR (p:List RI→Bool) (zs:List (List RI)):Int:=match zs.findIdx? p with | some i=>(i:Int) | none=>-1
theorem firstR_some {p:List RI→Bool} {zs:List (List RI)} {k:Nat} {x:List RI} (hk:zs[k]? = some x) (hp:p x=true) (h:∀ i y,zs[i]? = some y→i<k→p y=false):firstR p zs=k:=by
 unfold firstR
 have:zs.findIdx? p=some k:=by
  rw[List.findIdx?_eq_some_iff_getElem]
  obtain⟨h1,h2⟩:=List.getElem?_eq_some_iff.1 hk
  refine⟨h1,by rw[h2];exact hp,fun j hj=>?_⟩
  rw[h j _ (List.getElem?_eq_getElem (by omega)) hj];decide
 rw[this]
theorem firstR_none {p:List RI→Bool} {zs:List (List RI)} (h:∀ (i:Nat) (y:List RI),zs[i]? = some y→p y=false):firstR p zs=-1:=by
 unfold firstR
 have:zs.findIdx? p=none:=by
  rw[List.findIdx?_eq_none_iff]
  intro y hy
  obtain⟨i,hi⟩:=List.getElem?_of_mem hy
  exact h i y hi
 rw[this]
theorem firstR_any (p:List RI→Bool) (zs:List (List RI)):decide (0≤firstR p zs)=zs.any p:=by
 unfold firstR
 cases h:zs.findIdx? p with
 | none =>
  have hm:=List.findIdx?_eq_none_iff.1 h
  have:zs.any p=false:=by rw[List.any_eq_false];intro y hy;rw[hm y hy];decide
  rw[this];decide
 | some i =>
 have hm:=List.findIdx?_eq_some_iff_getElem.1 h
 obtain⟨h1,h2,_⟩:=hm
 have:zs.any p=true:=List.any_eq_true.2 ⟨_,List.getElem_mem h1,h2⟩
 rw[this];simp
def AnsR (P:Program) (g:FuncId) (cap:Array Value) (w:World) (zs:List (List RI)) (p:List RI→Bool):Prop :=
 Enters P g∧∀ x,x∈zs→∀ a c w1,Kp w w1→RowI w1 a x∧x.length≤1100000→Calls P g (#[.slice a x.length c]++cap) w1 fun e w2=>e=.returned (.bool (p x))∧Kp w1 w2
set_option maxHeartbeats 4000000 in
theorem idxR (a:Option Addr) (zs:List (List RI)) (c:Nat) (g:FuncId) (cap:Array Value) (w:World) (p:List RI→Bool) (hm:zs.length≤1100000) (h:RowM w a zs) (hp:AnsR Tryz.prog g cap w zs p) :
  Calls Tryz.prog 72 #[.slice a zs.length c,.func (.func g) #[] cap] w fun e w'=>e=.returned (.int .i64 (firstR p zs))∧Kp w w':=by
 go_enter Tryz.func72,Tryz.ntmps72
 go_wp2
 go_loopw [8] (fun x wr=>∃ k:Nat,k≤zs.length∧x=.int .i64 k∧(∀ i y,zs[i]? = some y→i<k→p y=false)∧Kp w wr) (fun x _=>zs.length-(intOf x).toNat)
 case atStart=>exact⟨0,by omega,rfl,fun i y _ h1=>by omega,.refl _⟩
 case round =>
 obtain⟨k,hk,rfl,hz,hkp⟩:=hrel
 have Hz:=hid hz;clear hz
 by_cases hlt:k<zs.length
 rotate_left
 ·have Hthis:=hid (firstR_none (p:=p) (zs:=zs) (fun i y hy=>Hz.out i y hy (by have:=(List.getElem?_eq_some_iff.1 hy).1;omega)))
  go_wp2
  go_ret
  exact⟨ret_int Hthis.out.symm,hkp⟩
 obtain⟨b,o,ra,rc,rfl,hcell,hrow⟩:=(h.kp hkp) k (zs[k]) (List.getElem?_eq_getElem hlt)
 have Hg:=hid (List.getElem?_eq_getElem hlt)
 have hgo:∀ args w,(callFunc g args).run Tryz.prog w=.ok (.enter g args) w:=hp.1
 have hcall:=hp.2 _ (List.getElem_mem hlt) ra rc wr hkp hrow
 clear hp h hrow
 generalize zs[k]=x at *
 cases hq:p x with
 | true =>
  rw[hq] at hcall
  have Hc:=hid hcall
  have Hq:=hid (firstR_some Hg.out hq Hz.out)
  clear hcall hq
  go_wp2_with (refine Hc.out.mono ?_;rintro e w2 ⟨rfl,hk2⟩)
  go_ret
  exact⟨ret_int Hq.out.symm,hkp.trans hk2⟩
 | false =>
 rw[hq] at hcall
 have Hc:=hid hcall
 have Hq:=hid hq
 clear hcall hq
 go_wp2_with (refine Hc.out.mono ?_;rintro e w2 ⟨rfl,hk2⟩)
 go_roundw
 case measure=>simp[intOf];omega
 case rel =>
 refine⟨k+1,by omega,by go_num,fun i y hy hi=>?_,hkp.trans hk2⟩
 by_cases h:i=k
 ·subst h;rw[Hg.out] at hy;cases hy;exact Hq.out
 exact Hz.out i y hy (by omega)
set_option maxHeartbeats 400000 in
theorem containsR (a:Option Addr) (zs:List (List RI)) (c:Nat) (g:FuncId) (cap:Array Value) (w:World) (p:List RI→Bool) (hm:zs.length≤1100000) (h:RowM w a zs) (hp:AnsR Tryz.prog g cap w zs p) :
  Calls Tryz.prog 23 #[.slice a zs.length c,.func (.func g) #[] cap] w fun e w'=>e=.returned (.bool (zs.any p))∧Kp w w':=by
 have Hc:=hid (idxR a zs c g cap w p hm h hp)
 have Ha:=hid (firstR_any p zs)
 clear hp h
 go_enter Tryz.func23,Tryz.ntmps23
 go_wp2_with (refine Hc.out.mono ?_;rintro e w2 ⟨rfl,hk2⟩)
 go_ret
 exact⟨by rw[← Ha.out];rfl,hk2⟩
section
open Go.ChangeShapes Go.WideShapes Go.RowKit Go.Deep
section
variable {H:Type} {enc:TypeId×Value→H} {w:World} {base:Nat} {spare:Nat→Bool} {held:Bool}
end
end
def DyE (w:World) (d:Dy) (f:Int) (e:Ending) (w':World):Prop :=
 ∃ a c,e=.returned (.tuple #[.agg #[.bool d.neg,.slice a (limbs d.m).length c,.int .i64 d.e],.int .i64 f])∧Rd w' a (limbs d.m)∧(limbs d.m).length≤c∧c≤maxLen∧Kp w w'
theorem dyE_zero {w w':World} {f:Int} {e:Ending} (he:e=.returned (.tuple #[.agg #[.bool false,.slice none 0 0,.int .i64 0],.int .i64 f])) (hk:Kp w w'):DyE w .zero f e w':=by
 subst he
 refine⟨none,0,?_,?_,?_,by unfold maxLen;omega,hk⟩
 ·show _=Ending.returned (.tuple #[.agg #[.bool false,.slice none (limbs 0).length 0,.int .i64 0],.int .i64 f])
  rw[limbs_zero];rfl
 ·show Rd w' none (limbs 0)
  rw[limbs_zero];exact .nil _ _
 show (limbs 0).length≤0
 rw[limbs_zero];exact Nat.le_refl _
def chk (d:Dy):Dy×Int:=if inrB d.m d.e then (d,0) else (.zero,9)
set_option maxHeartbeats 2000000 in
theorem checked_any (d:Dy) (a:Option Addr) (c:Nat) (w:World) (h:Rd w a (limbs d.m)) (hc:(limbs d.m).length≤c) (hm:c≤maxLen) (hl:(limbs d.m).length≤1100000) (he:I64 d.e) :
  Calls Tryz.prog 60 #[.agg #[.bool d.neg,.slice a (limbs d.m).length c,.int .i64 d.e]] w (DyE w (chk d).1 (chk d).2):=by
 have hr:=inRange_any d.neg a (limbs d.m) c d.e ((w.alloc (.cells #[.bool d.neg,.slice a (limbs d.m).length c,.int .i64 d.e] 38)).alloc (.cells #[.bool false,.slice none 0 0,.int .i64 0] 38)) (h.kp (((Kp.refl w).alloc _).alloc _)) hc hm hl he
 rw[val_limbs] at hr
 have Hr:=hid hr
 clear hr
 cases hi:inrB d.m d.e with
 | false =>
  rw[hi] at Hr
  have Hd:=hid (show chk d=(.zero,9) by unfold chk;rw[hi];rfl)
  clear hi
  go_enter Tryz.func60,Tryz.ntmps60
  go_wp2_with fail
  refine Hr.out.mono ?_
  rintro e w1 ⟨rfl,hk⟩
  obtain⟨q0,q1,q2,f0,f1,f2⟩:=(Box3.new2 w (.bool false) (.slice none 0 0) (.int .i64 0) 38 (.cells #[.bool d.neg,.slice a (limbs d.m).length c,.int .i64 d.e] 38)).kp hk
  have hk2:=(((Kp.refl w).alloc _).alloc _).trans hk
  go_wp2_with fail
  have hst:=stored q0 q1 q2 nofun nofun nofun (.bool false) (.slice none 0 0) (.int .i64 0)
  generalize (((w1.setCell _ _).setCell _ _).setCell _ _)=W at hst ⊢
  obtain⟨s0,s1,s2,_,s4,s5,_,_⟩:=hst
  refine bodyPost_ret (v:=.tuple #[.agg #[.bool false,.slice none 0 0,.int .i64 0],.int .i64 9]) (by simp[results,Tryz.results60,go_sem,s0,s1,s2]) rfl ?_
  rw[Hd.out]
  exact dyE_zero rfl (s5 _ hk2 (by omega))
 | true =>
 rw[hi] at Hr
 have Hd:=hid (show chk d=(d,0) by unfold chk;rw[hi];rfl)
 clear hi
 go_enter Tryz.func60,Tryz.ntmps60
 go_wp2_with fail
 refine Hr.out.mono ?_
 rintro e w1 ⟨rfl,hk⟩
 obtain⟨c0,c1,c2,_⟩:=(Box3.new1 w (.bool d.neg) (.slice a (limbs d.m).length c) (.int .i64 d.e) 38 (.cells #[.bool false,.slice none 0 0,.int .i64 0] 38)).kp hk
 obtain⟨q0,q1,q2,f0,f1,f2⟩:=(Box3.new2 w (.bool false) (.slice none 0 0) (.int .i64 0) 38 (.cells #[.bool d.neg,.slice a (limbs d.m).length c,.int .i64 d.e] 38)).kp hk
 have hk2:=(((Kp.refl w).alloc _).alloc _).trans hk
 go_wp2_with fail
 have hst:=stored q0 q1 q2 nofun nofun nofun (.bool d.neg) (.slice a (limbs d.m).length c) (.int .i64 d.e)
 generalize (((w1.setCell _ _).setCell _ _).setCell _ _)=W at hst ⊢
 obtain⟨s0,s1,s2,_,s4,s5,_,_⟩:=hst
 refine bodyPost_ret (v:=.tuple #[.agg #[.bool d.neg,.slice a (limbs d.m).length c,.int .i64 d.e],.int .i64 0]) (by simp[results,Tryz.results60,go_sem,s0,s1,s2]) rfl ?_
 rw[Hd.out]
 exact⟨a,c,rfl,s4 _ _ (h.kp hk2),hc,hm,s5 _ hk2 (by omega)⟩
theorem canon_len (s:Bool) (n:Nat) (e:Int):(limbs (canon s n e).m).length≤(limbs n).length:=by
 unfold canon
 split
 ·show (limbs 0).length≤_;rw[limbs_zero];exact Nat.zero_le _
 exact limbs_length_mono (Nat.div_le_self _ _)
theorem canon_e (s:Bool) {n:Nat} {e:Int} (h0:-1000000000≤e) (h1:e≤1000000000) (hb:(limbs n).length≤256):-1000000000≤(canon s n e).e∧(canon s n e).e≤1000010000:=by
 unfold canon
 split
 ·exact⟨by decide,by decide⟩
 next h =>
 have e1:=bits_oddp h
 obtain⟨k,hk⟩:∃ k:Nat,k=256:=⟨_,rfl⟩
 rw[← hk] at hb
 have e2:bits n≤32*k:=bits_le.2 (by rw[← pow32];exact limbs_length_le.1 hb)
 simp only[]
 omega
set_option maxHeartbeats 2000000 in
theorem Make_any (s:Bool) (a:Option Addr) (xs:List Nat) (c:Nat) (ex:Int) (w:World) (h:Rd w a xs) (hc:xs.length≤c) (hm:c≤maxLen) (hl:xs.length≤256) (he0:-32768≤ex) (he1:ex≤32768) (hT:Tab w) :
  Calls Tryz.prog 241 #[.bool s,.slice a xs.length c,.int .i64 ex] w (DyE w (chk (canon s (val xs) ex)).1 (chk (canon s (val xs) ex)).2):=by
 have hE:=exponent_any ex (w.alloc (.cells #[.bool false,.slice none 0 0,.int .i64 0] 38)) ⟨by omega,by omega⟩
 rw[show expB ex=true from decide_eq_true ⟨he0,he1⟩] at hE
 have HE:=hid hE
 have hll:=limbs_len_le h.lt32
 have hlen:=canon_len s (val xs) ex
 have hee:=canon_e s (show -1000000000≤ex by omega) (show ex≤1000000000 by omega) (show (limbs (val xs)).length≤256 by omega)
 clear hE
 go_enter Tryz.func241,Tryz.ntmps241
 go_wp2_with fail
 refine HE.out.mono ?_
 rintro e w1 ⟨rfl,rfl⟩
 go_wp2_with fail
 refine (canonical_any s a xs c ex _ (h.kp ((Kp.refl w).alloc _)) hc hm hl (by omega) (by omega) (hT.kp ((Kp.refl w).alloc _))).mono ?_
 rintro e w2 ⟨a2,c2,rfl,h2,h3,h4,h5⟩
 generalize canon s (val xs) ex=D at *
 go_wp2_with fail
 refine (checked_any D a2 c2 _ h2 h3 h4 (by omega) ⟨by omega,by omega⟩).mono ?_
 rintro e w3 ⟨a3,c3,rfl,h6,h7,h8,h9⟩
 generalize (chk D).1=F at *
 generalize (chk D).2=f at *
 have hk:=h5.trans h9
 obtain⟨q0,q1,q2,f0,f1,f2⟩:=(Box3.new w (.bool false) (.slice none 0 0) (.int .i64 0) 38).kp hk
 have hk2:=((Kp.refl w).alloc _).trans hk
 go_wp2_with fail
 have hst:=stored q0 q1 q2 nofun nofun nofun (.bool F.neg) (.slice a3 (limbs F.m).length c3) (.int .i64 F.e)
 generalize (((w3.setCell _ _).setCell _ _).setCell _ _)=W at hst ⊢
 obtain⟨s0,s1,s2,_,s4,s5,_,_⟩:=hst
 refine bodyPost_ret (v:=.tuple #[.agg #[.bool F.neg,.slice a3 (limbs F.m).length c3,.int .i64 F.e],.int .i64 f]) (by simp[results,Tryz.results241,go_sem,s0,s1,s2]) rfl ?_
 exact⟨a3,c3,rfl,s4 _ _ h6,h7,h8,s5 _ hk2 (by omega)⟩
def preB (p:Int):Bool:=decide (8≤p∧p≤512)
theorem preB_iff {p:Int}:preB p=true↔8≤p∧p≤512:=by unfold preB;simp
theorem precise_any (p:Int) (w:World) :
  Calls Tryz.prog 227 #[.int .i64 p] w fun e w'=>e=.returned (.bool (preB p))∧w=w':=by
 by_cases h1:8≤p
 rotate_left
 ·have H:=hid (show preB p=false from decide_eq_false (by omega))
  go_enter Tryz.func227,Tryz.ntmps227
  go_wp2_with fail
  go_ret
  exact⟨ret_bool (by first | exact H.out.symm | (rw[H.out];simp;omega)),rfl⟩
 by_cases h2:p≤512
 ·have H:=hid (show preB p=true from decide_eq_true ⟨h1,h2⟩)
  go_enter Tryz.func227,Tryz.ntmps227
  go_wp2_with fail
  go_ret
  exact⟨ret_bool (by first | exact H.out.symm | (rw[H.out];simp;omega)),rfl⟩
 have H:=hid (show preB p=false from decide_eq_false (by omega))
 go_enter Tryz.func227,Tryz.ntmps227
 go_wp2_with fail
 go_ret
 exact⟨ret_bool (by first | exact H.out.symm | (rw[H.out];simp;omega)),rfl⟩
def NatOut (w:World) (v:Nat) (e:Ending) (w':World):Prop :=
 ∃ a c,e=.returned (.slice a (limbs v).length c)∧(limbs v).length≤c∧c≤maxLen∧Rd w' a (limbs v)∧Kp w w'
theorem roshl_any (a:Option Addr) (xs:List Nat) (c:Nat) (n:Int) (w:World) (hx:Rd w a xs) (hxl:xs.length≤256) (hxc:xs.length≤c) (hc:c≤maxLen) (h0:0≤n) (hn:n≤65536) (hv:(limbs (val xs*2 ^ n.toNat)).length≤256) :
  Calls Tryz.prog 233 #[.slice a xs.length c,.int .i64 n] w (NatOut w (val xs*2 ^ n.toNat)):=by
 have H:=hid (Shl_any a xs c n w hx hxl hxc hc h0 hn hv)
 clear hv
 generalize val xs*2 ^ n.toNat=V at *
 go_enter Tryz.func233,Tryz.ntmps233
 go_wp2_with fail
 refine H.out.mono ?_
 rintro e w2 ⟨a2,c2,rfl,h3,h4,h5,h6⟩
 go_wp2_with fail
 go_ret
 exact⟨a2,c2,rfl,h3,h4,h5,h6⟩
def ShrOut (w:World) (v:Nat) (lost:Bool) (e:Ending) (w':World):Prop :=
 ∃ a c,e=.returned (.tuple #[.slice a (limbs v).length c,.bool lost])∧(limbs v).length≤c∧c≤maxLen∧Rd w' a (limbs v)∧Kp w w'
theorem shr_low {V n b:Nat} (hb:bits V=b) (h:b<n):V/2 ^ n=V/2 ^ b∧(decide (V % 2 ^ n=0))=decide (V % 2 ^ b=0):=by
 have h1:V<2 ^ b:=hb▸lt_two_pow_bits V
 have h2:V<2 ^ n:=Nat.lt_of_lt_of_le h1 (Nat.pow_le_pow_right (by decide) (by omega))
 rw[Nat.div_eq_of_lt h1,Nat.div_eq_of_lt h2,Nat.mod_eq_of_lt h1,Nat.mod_eq_of_lt h2]
 exact⟨rfl,rfl⟩
theorem cmp_lost {V m:Nat}:(cmpN (V/2 ^ m*2 ^ m) V != 0)=!decide (V % 2 ^ m=0):=by
 have h:=Nat.div_add_mod V (2 ^ m)
 rw[Nat.mul_comm] at h
 by_cases h0:V % 2 ^ m=0
 ·rw[cmpN_eq (by omega)];simp[h0]
 rw[cmpN_lt (by omega)];simp[h0]
set_option maxHeartbeats 2000000 in
theorem roshr_any (a:Option Addr) (xs:List Nat) (c n:Nat) (w:World) (hx:Rd w a xs) (hxl:xs.length≤256) (hxc:xs.length≤c) (hc:c≤maxLen) (hn:n≤9000000) :
  Calls Tryz.prog 238 #[.slice a xs.length c,.int .i64 n] w (ShrOut w (val xs/2 ^ n) (!decide (val xs % 2 ^ n=0))):=by
 have hb:=bits_val_le hx.lt32
 have hll:=limbs_len_le hx.lt32
 obtain⟨m,hm,hm2⟩:∃ m:Nat,m=(if bits (val xs)<n then bits (val xs) else n)∧m≤bits (val xs):=⟨_,rfl,by split <;> omega⟩
 have e1:val xs/2 ^ n=val xs/2 ^ m∧(decide (val xs % 2 ^ n=0))=decide (val xs % 2 ^ m=0):=by
  rw[hm];split
  ·next h=>exact shr_low rfl h
  ·exact⟨rfl,rfl⟩
 rw[e1.1,e1.2,← cmp_lost]
 clear e1
 have hB:=hid (bits_any a xs c w hx hxc hc (by omega))
 have hS:=hid (Shr_any a xs c m w hx hxl hxc hc (by omega) (by omega))
 rw[Int.toNat_natCast] at hS
 have hle:=Nat.div_le_self (val xs) (2 ^ m)
 have hle2:=Nat.div_mul_le_self (val xs) (2 ^ m)
 have hq:(limbs (val xs/2 ^ m)).length≤256:=Nat.le_trans (limbs_length_mono hle) (by omega)
 have hq2:(limbs (val (limbs (val xs/2 ^ m))*2 ^ ((m:Int)).toNat)).length≤256:=by
  rw[val_limbs,Int.toNat_natCast];exact Nat.le_trans (limbs_length_mono hle2) (by omega)
 have Hq2:=hid hq2
 have hmb:(m:Int)≤65536:=by omega
 clear hq2 hle hle2 hll
 by_cases hlt:bits (val xs)<n
 rotate_left
 ·have hme:m=n:=by rw[hm,if_neg hlt]
  clear hm
  subst hme
  go_enter Tryz.func238,Tryz.ntmps238
  go_wp2_with fail
  refine hB.out.mono ?_
  rintro e w1 ⟨rfl,rfl⟩
  go_wp2_with fail
  refine hS.out.mono ?_
  rintro e w2 ⟨a2,c2,rfl,h3,h4,h5,h6⟩
  go_wp2_with fail
  refine (roshl_any a2 _ c2 _ _ h5 hq h3 h4 (by omega) hmb Hq2.out).mono ?_
  rintro e w3 ⟨a3,c3,rfl,k3,k4,k5,k6⟩
  rw[val_limbs,Int.toNat_natCast] at k3 k5 ⊢
  go_wp2_with fail
  refine (cmp_any a3 a _ xs c3 c _ k5 (hx.kp (h6.trans k6)) k3 hxc k4 hc).mono ?_
  rintro e w4 ⟨rfl,k7⟩
  rw[val_limbs]
  go_wp2_with fail
  go_ret2
  exact⟨a2,c2,rfl,h3,h4,(h5.kp k6).kp k7,(h6.trans k6).trans k7⟩
 have hme:m=bits (val xs):=by rw[hm,if_pos hlt]
 clear hm
 subst hme
 go_enter Tryz.func238,Tryz.ntmps238
 go_wp2_with fail
 refine hB.out.mono ?_
 rintro e w1 ⟨rfl,rfl⟩
 go_wp2_with fail
 refine hB.out.mono ?_
 rintro e w1 ⟨rfl,rfl⟩
 go_wp2_with fail
 refine hS.out.mono ?_
 rintro e w2 ⟨a2,c2,rfl,h3,h4,h5,h6⟩
 go_wp2_with fail
 refine (roshl_any a2 _ c2 _ _ h5 hq h3 h4 (by omega) hmb Hq2.out).mono ?_
 rintro e w3 ⟨a3,c3,rfl,k3,k4,k5,k6⟩
 rw[val_limbs,Int.toNat_natCast] at k3 k5 ⊢
 go_wp2_with fail
 refine (cmp_any a3 a _ xs c3 c _ k5 (hx.kp (h6.trans k6)) k3 hxc k4 hc).mono ?_
 rintro e w4 ⟨rfl,k7⟩
 rw[val_limbs]
 go_wp2_with fail
 go_ret2
 exact⟨a2,c2,rfl,h3,h4,(h5.kp k6).kp k7,(h6.trans k6).trans k7⟩
def rdOf (d:Dy) (a:Option Addr) (c:Nat):RD:=⟨d.neg,a,limbs d.m,c,d.e⟩
theorem rdOf_dy (d:Dy) (a:Option Addr) (c:Nat):(rdOf d a c).dy=d:=by unfold rdOf RD.dy;rw[val_limbs]
theorem rdOf_vl {d:Dy} (h:d.ok) (a:Option Addr) (c:Nat):(rdOf d a c).vl=true:=ok_vld h
theorem rdOf_rd {w:World} {d:Dy} {a:Option Addr} {c:Nat} (hd:d.ok) (h:Rd w a (limbs d.m)) (hc:(limbs d.m).length≤c) (hm:c≤maxLen):(rdOf d a c).rd w:=⟨h,hc,hm,by have:=ok_len hd;show (limbs d.m).length≤1100000;omega,ok_I64 hd⟩
theorem rdOf_ok {w:World} {d:Dy} {a:Option Addr} {c:Nat} (hd:d.ok) (h:Rd w a (limbs d.m)) (hc:(limbs d.m).length≤c) (hm:c≤maxLen):(rdOf d a c).ok w:=⟨rdOf_rd hd h hc hm,rdOf_vl hd a c⟩
theorem rdok_dy {w:World} {x:RD} (h:x.ok w):x.dy.ok:=(vld_ok h.1.1.lt32 h.2).1
theorem rdok_limbs {w:World} {x:RD} (h:x.ok w):limbs x.dy.m=x.xs:=RD.limbs h.1 h.2
theorem rdok_len {w:World} {x:RD} (h:x.ok w):x.xs.length≤128:=by have:=ok_len (rdok_dy h);rwa [rdok_limbs h] at this
theorem rdok_e {w:World} {x:RD} (h:x.ok w):-16384≤x.e∧x.e≤16384:=ok_e (rdok_dy h)
theorem RD.ok.drew {w:World} {x:RD} (h:x.ok w):x.ok w.drew:=h.kp (Kp.refl w).drew
theorem rdok_zero {w:World} {x:RD} (h:x.ok w):x.xs.length=0↔x.dy.m=0:=by
 rw[← rdok_limbs h,List.length_eq_zero_iff,limbs_eq_nil]
def NumOut (w:World) (d:Dy) (e:Ending) (w':World):Prop:=∃ y:RD,e=.returned (.agg #[.bool y.neg,.slice y.a y.xs.length y.c,.int .i64 y.e])∧y.rd w'∧y.dy=d∧(d.ok→y.vl=true)∧Kp w w'
def NumE (w:World) (d:Dy) (f:Int) (e:Ending) (w':World):Prop:=∃ y:RD,e=.returned (.tuple #[.agg #[.bool y.neg,.slice y.a y.xs.length y.c,.int .i64 y.e],.int .i64 f])∧y.rd w'∧y.dy=d∧(d.ok→y.vl=true)∧Kp w w'
theorem DyE.num {w w':World} {d:Dy} {f:Int} {e:Ending} (h:DyE w d f e w') (hl:(limbs d.m).length≤1100000) (he:I64 d.e):NumE w d f e w':=by
 obtain⟨a,c,h1,h2,h3,h4,h5⟩:=h
 exact⟨rdOf d a c,h1,⟨h2,h3,h4,hl,he⟩,rdOf_dy d a c,fun hd=>rdOf_vl hd a c,h5⟩
def rdZero:RD:=⟨false,none,[],0,0⟩
theorem rdZero_rd (w:World):rdZero.rd w:=⟨Rd.nil _ _,Nat.le_refl _,by show 0≤maxLen;exact Nat.zero_le _,by unfold rdZero;simp,⟨by unfold rdZero;simp,by unfold rdZero;simp⟩⟩
theorem rdZero_vl:rdZero.vl=true:=by
 have:=rdOf_vl Dy.ok_zero none 0
 unfold rdOf at this
 rw[show Dy.zero.m=0 from rfl,limbs_zero] at this
 exact this
theorem numE_zero {w w':World} {f:Int} {e:Ending} (he:e=.returned (.tuple #[.agg #[.bool false,.slice none 0 0,.int .i64 0],.int .i64 f])) (hk:Kp w w'):NumE w .zero f e w' :=
 ⟨rdZero,he,rdZero_rd _,rfl,fun _=>rdZero_vl,hk⟩
theorem numOut_zero {w w':World} {e:Ending} (he:e=.returned (.agg #[.bool false,.slice none 0 0,.int .i64 0])) (hk:Kp w w'):NumOut w .zero e w' :=
 ⟨rdZero,he,rdZero_rd _,rfl,fun _=>rdZero_vl,hk⟩
theorem set3x {w:World} {g b:Nat} (n:b≠g) {v0 v1 v2 x0 x1 x2:Value} (h:w.cell? ⟨b,0,none⟩=some v0∧w.cell? ⟨b,1,none⟩=some v1∧w.cell? ⟨b,2,none⟩=some v2) :
  (((w.setCell ⟨g,0,none⟩ x0).setCell ⟨g,1,none⟩ x1).setCell ⟨g,2,none⟩ x2).cell? ⟨b,0,none⟩=some v0∧(((w.setCell ⟨g,0,none⟩ x0).setCell ⟨g,1,none⟩ x1).setCell ⟨g,2,none⟩ x2).cell? ⟨b,1,none⟩=some v1∧(((w.setCell ⟨g,0,none⟩ x0).setCell ⟨g,1,none⟩ x1).setCell ⟨g,2,none⟩ x2).cell? ⟨b,2,none⟩=some v2:=by
 have ne (i j:Nat):(⟨g,i,none⟩:Addr)≠⟨b,j,none⟩:=fun e=>n (by injection e with e1;exact e1.symm)
 have key (j:Nat):(((w.setCell ⟨g,0,none⟩ x0).setCell ⟨g,1,none⟩ x1).setCell ⟨g,2,none⟩ x2).cell? ⟨b,j,none⟩=w.cell? ⟨b,j,none⟩:=by
  rw[cell_set_ne (ne 2 j),cell_set_ne (ne 1 j),cell_set_ne (ne 0 j)]
 simp only[key]
 exact h
set_option maxHeartbeats 2000000 in
theorem Neg_ok (x:RD) (w:World) (h:x.ok w) :
  Calls Tryz.prog 67 #[.agg #[.bool x.neg,.slice x.a x.xs.length x.c,.int .i64 x.e]] w (NumOut w x.dy.opp):=by
 have hlen:=rdok_len h
 have he:=rdok_e h
 by_cases h0:x.xs.length=0
 ·have hz:((x.xs.length:Int)==0)=true:=beq_iff_eq.2 (by omega)
  have H:=hid (show x.dy.opp=.zero by unfold Dy.opp;rw[if_pos ((rdok_zero h).1 h0)])
  clear h0
  go_enter Tryz.func67,Tryz.ntmps67
  go_wp2_with fail
  generalize hW:((w.alloc _).alloc _)=W at *
  have hk:Kp w W:=hW▸((Kp.refl w).alloc _).alloc _
  have hS:W.cell? ⟨w.heap.size,0,none⟩=some (.bool x.neg)∧W.cell? ⟨w.heap.size,1,none⟩=some (.slice x.a x.xs.length x.c)∧W.cell? ⟨w.heap.size,2,none⟩=some (.int .i64 x.e):=by rw[← hW];simp
  have hB:Box3 W (w.heap.size+1) (.bool false) (.slice none 0 0) (.int .i64 0):=hW▸Box3.new2 _ _ _ _ _ _
  clear hW
  refine (Valid_rok x _ (h.kp hk)).mono ?_
  rintro e w1 ⟨rfl,hk1⟩
  have hS1:=keep3 hk1 hS
  obtain⟨q0,q1,q2,f0,f1,f2⟩:=hB.kp hk1
  have hk2:=hk.trans hk1
  clear hS hk hk1 hB
  go_wp2_with fail
  have hst:=stored q0 q1 q2 nofun nofun nofun (.bool false) (.slice none 0 0) (.int .i64 0)
  generalize (((w1.setCell _ _).setCell _ _).setCell _ _)=W2 at hst ⊢
  obtain⟨s0,s1,s2,_,s4,s5,_,_⟩:=hst
  refine bodyPost_ret (v:=.agg #[.bool false,.slice none 0 0,.int .i64 0]) (by simp[results,Tryz.results67,go_sem,s0,s1,s2]) rfl ?_
  rw[H.out]
  exact numOut_zero rfl (s5 _ hk2 (by omega))
 have hz:((x.xs.length:Int)==0)=false:=beq_eq_false_iff_ne.2 (by omega)
 have H:=hid (show x.dy.opp=⟨!x.neg,val x.xs,x.e⟩ by unfold Dy.opp;rw[if_neg (fun e=>h0 ((rdok_zero h).2 e))];rfl)
 have Hv:=hid (show (x.dy.opp.ok→vld (!x.neg) x.xs x.e=true) from fun hok=>by
  have:=ok_vld hok
  rwa [H.out,show limbs (Dy.m ⟨!x.neg,val x.xs,x.e⟩)=x.xs from rdok_limbs h] at this)
 clear h0
 go_enter Tryz.func67,Tryz.ntmps67
 go_wp2_with fail
 generalize hW:((w.alloc _).alloc _)=W at *
 have hk:Kp w W:=hW▸((Kp.refl w).alloc _).alloc _
 have hS:W.cell? ⟨w.heap.size,0,none⟩=some (.bool x.neg)∧W.cell? ⟨w.heap.size,1,none⟩=some (.slice x.a x.xs.length x.c)∧W.cell? ⟨w.heap.size,2,none⟩=some (.int .i64 x.e):=by rw[← hW];simp
 have hB:Box3 W (w.heap.size+1) (.bool false) (.slice none 0 0) (.int .i64 0):=hW▸Box3.new2 _ _ _ _ _ _
 clear hW
 refine (Valid_rok x _ (h.kp hk)).mono ?_
 rintro e w1 ⟨rfl,hk1⟩
 have hS1:=keep3 hk1 hS
 have hB1:=(hB.kp hk1).kp (Kp.refl w1).drew
 have hk2:=hk.trans hk1
 have hx:=(h.kp hk2).drew
 clear hS hk hk1 hB
 go_wp2_with fail
 have hS2:=keep3 (Kp.refl w1).drew hS1
 clear hS1
 go_region_held3 (fun w'=>w'.cell? ⟨w.heap.size,0,none⟩=some (.bool x.neg)∧w'.cell? ⟨w.heap.size,1,none⟩=some (.slice x.a x.xs.length x.c)∧w'.cell? ⟨w.heap.size,2,none⟩=some (.int .i64 x.e)) (first | with_reducible assumption | with_reducible exact keep3 (by assumption) (by assumption) | with_reducible exact set3x (by omega) (by assumption))
  (first
   | (go_at_call 134;refine (clone_any x.a x.xs x.c _ hx.1.1 (by omega)).mono ?_;rintro e w4 ⟨a4,c4,rfl,r4,l4,m4,hk4⟩;obtain⟨q0,q1,q2,f0,f1,f2⟩:=hB1.kp hk4))
 have hk5:=hk2.drew.trans hk4
 have hxs:=hx.1.1.lt32
 clear hS2 hB1 hx
 have hst:=stored q0 q1 q2 nofun nofun nofun (.bool !x.neg) (.slice a4 x.xs.length c4) (.int .i64 x.e)
 go_wp2_with fail
 generalize (((w4.setCell _ _).setCell _ _).setCell _ _)=W2 at hst ⊢
 obtain⟨s0,s1,s2,_,s4,s5,_,_⟩:=hst
 refine bodyPost_ret (v:=.agg #[.bool (RD.mk (!x.neg) a4 x.xs c4 x.e).neg,.slice (RD.mk (!x.neg) a4 x.xs c4 x.e).a (RD.mk (!x.neg) a4 x.xs c4 x.e).xs.length (RD.mk (!x.neg) a4 x.xs c4 x.e).c,.int .i64 (RD.mk (!x.neg) a4 x.xs c4 x.e).e]) (by simp[results,Tryz.results67,go_sem,s0,s1,s2]) rfl ?_
 exact⟨RD.mk (!x.neg) a4 x.xs c4 x.e,rfl,⟨s4 _ _ r4,l4,m4,by show x.xs.length≤1100000;omega,⟨by show _≤x.e;omega,by show x.e≤_;omega⟩⟩,H.out.symm,Hv.out,s5 _ hk5 (by omega)⟩
theorem chk_ok (d:Dy) (h:inrB d.m d.e=true→d.ok):(chk d).1.ok:=by
 unfold chk
 cases hi:inrB d.m d.e with
 | false=>exact Dy.ok_zero
 | true=>exact h hi
theorem chk_of_ok {d:Dy} (h:d.ok):chk d=(d,0):=by
 unfold chk
 rw[if_pos]
 unfold inrB
 rw[decide_eq_true_eq]
 rcases h with ⟨h1,_⟩ | ⟨h1,h2⟩
 ·left;rw[h1];exact bits_zero
 exact .inr h2
theorem chk_canon_ok (s:Bool) (n:Nat) (e:Int):(chk (canon s n e)).1.ok:=by
 refine chk_ok _ fun h=>(canon_ok_iff s n e).2 ?_
 unfold inrB at h
 rw[decide_eq_true_eq] at h
 unfold inr
 rcases h with h | h
 ·left
  have h2:=lt_two_pow_bits (canon s n e).m
  rw[h] at h2;omega
 exact .inr h
theorem of_any (x:RD) (w:World) :
  Calls Tryz.prog 237 #[.agg #[.bool x.neg,.slice x.a x.xs.length x.c,.int .i64 x.e]] w fun e w'=>e=.returned (.agg #[.slice x.a x.xs.length x.c,.int .i64 x.e,.bool false])∧Kp w w':=by
 go_enter Tryz.func237,Tryz.ntmps237
 go_wp2_with fail
 exact bodyPost_ret (v:=.agg #[.slice x.a x.xs.length x.c,.int .i64 x.e,.bool false]) (by simp[results,Tryz.results237,go_sem]) rfl ⟨rfl,((Kp.refl w).alloc _).alloc _⟩
theorem RowD.rd {w:World} {a:Option Addr} {zs:List RD} (h:RowD w a zs) {x:RD} (hx:x∈zs):x.rd w:=by
 obtain⟨i,hi⟩:=List.getElem?_of_mem hx
 obtain⟨_,_,_,hr,_⟩:=h i x hi
 exact hr
def fltB (p:Int) (ys:List RD):Int:=if ys.all RD.vl then (if preB p then 0 else 2) else 1
set_option maxHeartbeats 4000000 in
theorem fault_any (p:Int) (b:Option Addr) (ys:List RD) (d:Nat) (w:World) (h':RowD w b ys) (hl':ys.length≤1100000) :
  Calls Tryz.prog 201 #[.int .i64 p,.slice b ys.length d] w fun e w'=>e=.returned (.int .i64 (fltB p ys))∧Kp w w':=by
 have H:=hid (show fltB p ys=if ys.all RD.vl then (if preB p then 0 else 2) else 1 from rfl)
 go_enter Tryz.func201,Tryz.ntmps201
 go_wp2_with fail
 go_loopw [9] (fun x wr=>∃ k:Nat,k≤ys.length∧x=.int .i64 k∧Kp w wr∧∀ (i:Nat) (y:RD),ys[i]? = some y→i<k→y.vl=true) (fun x _=>ys.length-(intOf x).toNat)
 case atStart=>exact⟨0,by omega,rfl,Kp.refl _,fun _ _ _ h=>by omega⟩
 case round =>
 obtain⟨k,hk,rfl,hkp,hall⟩:=hrel
 have Hall:=hid hall
 clear hall
 by_cases hlt:k<ys.length
 rotate_left
 ·have Hv:=hid (show ys.all RD.vl=true from List.all_eq_true.2 fun y hy=>by
   obtain⟨i,hi⟩:=List.getElem?_of_mem hy
   exact Hall.out i y hi (by have:=(List.getElem?_eq_some_iff.1 hi).1;omega))
  rw[Hv.out] at H
  go_wp2_with fail
  refine (precise_any p _).mono ?_
  rintro e w1 ⟨rfl,rfl⟩
  cases hp:preB p with
  | false =>
   rw[hp] at H
   clear hp
   go_wp2_with fail
   go_ret
   exact⟨ret_int H.out.symm,hkp⟩
  | true =>
  rw[hp] at H
  clear hp
  go_wp2_with fail
  go_ret
  exact⟨ret_int H.out.symm,hkp⟩
 have hy:=(h'.kp hkp).rd (List.getElem_mem hlt)
 obtain⟨b2,o2,rfl,_,j0,j1,j2⟩:=(h'.kp hkp) k (ys[k]) (List.getElem?_eq_getElem hlt)
 have Hg:=hid (List.getElem?_eq_getElem hlt)
 generalize ys[k]=y at *
 have hi1:(0:Int)≤(k:Int):=by omega
 have hi2:(k:Int)<(ys.length:Int):=by omega
 clear h'
 go_wp2_with fail
 have hk3:=(Kp.refl wr).alloc (.cells #[.bool y.neg,.slice y.a y.xs.length y.c,.int .i64 y.e] 38)
 refine (Valid_raw y _ (hy.kp hk3)).mono ?_
 rintro e w4 ⟨rfl,hk4⟩
 have hk5:=hkp.trans (hk3.trans hk4)
 cases hv:y.vl with
 | false =>
  have Hno:=hid (show fltB p ys=1 by
   rw[H.out,if_neg]
   intro h
   have:=List.all_eq_true.1 h y (List.mem_of_getElem? Hg.out)
   rw[hv] at this;cases this)
  clear hv
  go_wp2_with fail
  go_ret
  exact⟨ret_int Hno.out.symm,hk5⟩
 | true =>
 have Hst:=hid (show ∀ (i:Nat) (y':RD),ys[i]? = some y'→i<k+1→y'.vl=true from fun i y' hy' hi=>by
  by_cases e:i=k
  ·subst e;rw[Hg.out] at hy';cases hy';exact hv
  ·exact Hall.out i y' hy' (by omega))
 clear hv
 go_wp2_with fail
 go_roundw
 case measure=>simp[intOf];omega
 case rel=>exact⟨k+1,by omega,by go_num,hk5,Hst.out⟩
end Go.Proofs.YtbhmhfnfceakoaaGreatDoor
