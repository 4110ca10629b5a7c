/-
  Walks: ref13.count, Valid, Size.
-/
import Derived.Test.YteidgoldnllabaaGreatDoorMRNcN
import Derived.Test.YteidgoldnllabaaGreatDoorMTreP
import Derived.Lib.SlicesCompact
import Derived.Test.YteidgoldnllabaaGreatDoorProg
import Derived.Shelf.Sort.Plain
import Derived.Shelf.Slices.In.SortNone
import Derived.Shelf.Slices.CompactS
import Derived.Shelf.Slices.Equal
import Derived.Shelf.Slices.Empties2
import Derived.Shelf.Slices.Turned
import Derived.Test.YteidgoldnllabaaGreatDoorMEvrN
import Derived.Sort.OwnSorted
import Derived.Lib.OwnBridge
import Derived.Lib.RowBridge
import Derived.RangeFuncBox
import Derived.Maps.OwnIn
import Derived.Maps.AppendAt
import Derived.WalkKit
import Derived.WalkLawsBesides
namespace Go.Proofs.YteidgoldnllabaaGreatDoor
open Go.RowKit
open Lib (hid)
section
open Go.RowKit Go.Sort
end
structure De where
 name:ByteArray
 ln:Int
 ld:Int
 hn:Int
 hd:Int
structure Qe where
 name:ByteArray
 e:Ex
structure Ed where
 g:Ex
 dir:Int
 tx:ByteArray
 a:Option Addr
 c:Nat
 rs:List Qe
structure Mo where
 name:ByteArray
 fa:Option Addr
 fc:Nat
 fs:List Qe
 ea:Option Addr
 ec:Nat
 es:List Ed
structure Pr where
 sa:Option Addr
 sc:Nat
 ss:List De
 pa:Option Addr
 pc:Nat
 ps:List De
 ma:Option Addr
 mc:Nat
 ms:List Mo
 tn:Int
 td:Int
def De.cells (x:De):List Value:=[.string x.name,.int .i64 x.ln,.int .i64 x.ld,.int .i64 x.hn,.int .i64 x.hd]
def Qe.cells (x:Qe):List Value:=[.string x.name,.int .i64 x.e.kind,.int .i64 x.e.rn,.int .i64 x.e.rd,.string x.e.name,.int .i64 x.e.pw,.slice x.e.a x.e.l.length x.e.c]
def Ed.cells (x:Ed):List Value:=[.int .i64 x.g.kind,.int .i64 x.g.rn,.int .i64 x.g.rd,.string x.g.name,.int .i64 x.g.pw,.slice x.g.a x.g.l.length x.g.c,.int .i64 x.dir,.string x.tx,.slice x.a x.rs.length x.c]
def Mo.cells (x:Mo):List Value:=[.string x.name,.slice x.fa x.fs.length x.fc,.slice x.ea x.es.length x.ec]
def Pr.cells (x:Pr):List Value:=[.slice x.sa x.ss.length x.sc,.slice x.pa x.ps.length x.pc,.slice x.ma x.ms.length x.mc,.int .i64 x.tn,.int .i64 x.td]
def declB (d:De):Bool:=nameB d.name&&(ratB d.ln d.ld&&ratB d.hn d.hd)
def eqnB (q:Qe):Bool:=nameB q.name&&q.e.ok
def edgeB (x:Ed):Bool:=x.g.ok&&((decide (x.dir=1)||decide (x.dir=2))&&(nameB x.tx&&(decide (x.rs.length≤4)&&x.rs.all eqnB)))
def modeB (m:Mo):Bool:=nameB m.name&&(decide (m.fs.length≤4)&&(decide (m.es.length≤4)&&(m.fs.all eqnB&&m.es.all edgeB)))
def probB (p:Pr):Bool:=(decide (1≤p.ss.length∧p.ss.length≤4)&&(decide (p.ps.length≤4)&&decide (1≤p.ms.length∧p.ms.length≤8)))&&(p.ss.all declB&&(p.ps.all declB&&(p.ms.all modeB&&ratB p.tn p.td)))
def CellsV (w:World) (b o:Nat) (vs:List Value):Prop:=∀ (j:Nat) (v:Value),vs[j]? = some v→w.cell? ⟨b,o+j,none⟩=some v
def RowV {α:Type} (cells:α→List Value) (k:Nat) (w:World) (B:Nat) (a:Option Addr) (zs:List α):Prop:=∀ (i:Nat) (x:α),zs[i]? = some x→∃ b o,a=some ⟨b,o,none⟩∧b<B∧CellsV w b (o+i*k) (cells x)
theorem CellsV.kp {w w':World} {b o:Nat} {vs:List Value} (h:CellsV w b o vs) (k:Kp w w'):CellsV w' b o vs:=fun j v hj=>k.cell (h j v hj)
theorem RowV.kp {α:Type} {cells:α→List Value} {n:Nat} {w w':World} {B:Nat} {a:Option Addr} {zs:List α} (h:RowV cells n w B a zs) (k:Kp w w'):RowV cells n w' B a zs:=fun i x hx=>by
 obtain⟨b,o,e,hb,hc⟩:=h i x hx
 exact⟨b,o,e,hb,hc.kp k⟩
theorem CellsV.new (w:World) (vs:List Value) (t:TypeId) (g:Nat) (h:w.heap.size=g):CellsV (w.alloc (.cells vs.toArray t)) g 0 vs:=fun j v hj=>by
 subst h
 have h1:vs.toArray[j]? = some v:=by simpa using hj
 simp[hj]
theorem RowV.up {α:Type} {cells:α→List Value} {n:Nat} {w:World} {B B':Nat} {a:Option Addr} {zs:List α} (h:RowV cells n w B a zs) (hB:B≤B'):RowV cells n w B' a zs:=fun i x hx=>by
 obtain⟨b,o,e,hb,hc⟩:=h i x hx
 exact⟨b,o,e,by omega,hc⟩
def De.at (d:De) (_w:World) (_B:Nat):Prop:=d.name.size≤maxLen
def Qe.at (q:Qe) (w:World) (B:Nat):Prop:=q.name.size≤maxLen∧q.e.at w B
def Ed.at (x:Ed) (w:World) (B:Nat):Prop:=(x.g.at w B∧x.tx.size≤maxLen∧x.rs.length≤1048576)∧RowV Qe.cells 7 w B x.a x.rs∧∀ q∈x.rs,q.at w B
def Mo.at (m:Mo) (w:World) (B:Nat):Prop:=(m.name.size≤maxLen∧m.fs.length≤1048576∧m.es.length≤1048576)∧(RowV Qe.cells 7 w B m.fa m.fs∧∀ q∈m.fs,q.at w B)∧RowV Ed.cells 9 w B m.ea m.es∧∀ x∈m.es,x.at w B
def Pr.at (p:Pr) (w:World) (B:Nat):Prop:=(p.ss.length≤1048576∧p.ps.length≤1048576∧p.ms.length≤1048576)∧(RowV De.cells 5 w B p.sa p.ss∧∀ d∈p.ss,d.at w B)∧(RowV De.cells 5 w B p.pa p.ps∧∀ d∈p.ps,d.at w B)∧RowV Mo.cells 3 w B p.ma p.ms∧∀ m∈p.ms,m.at w B
theorem De.at_kp {d:De} {w w':World} {B:Nat} (h:d.at w B) (_k:Kp w w'):d.at w' B:=h
theorem Qe.at_kp {q:Qe} {w w':World} {B:Nat} (h:q.at w B) (k:Kp w w'):q.at w' B:=⟨h.1,Ex.at_kp h.2 k⟩
theorem Ed.at_kp {x:Ed} {w w':World} {B:Nat} (h:x.at w B) (k:Kp w w'):x.at w' B:=⟨⟨Ex.at_kp h.1.1 k,h.1.2⟩,h.2.1.kp k,fun q hq=>Qe.at_kp (h.2.2 q hq) k⟩
theorem Mo.at_kp {m:Mo} {w w':World} {B:Nat} (h:m.at w B) (k:Kp w w'):m.at w' B:=⟨h.1,⟨h.2.1.1.kp k,fun q hq=>Qe.at_kp (h.2.1.2 q hq) k⟩,h.2.2.1.kp k,fun x hx=>Ed.at_kp (h.2.2.2 x hx) k⟩
theorem Pr.at_kp {p:Pr} {w w':World} {B:Nat} (h:p.at w B) (k:Kp w w'):p.at w' B:=⟨h.1,⟨h.2.1.1.kp k,h.2.1.2⟩,⟨h.2.2.1.1.kp k,h.2.2.1.2⟩,h.2.2.2.1.kp k,fun x hx=>Mo.at_kp (h.2.2.2.2 x hx) k⟩
section
theorem bl_lt:∀ x y:List UInt8,Op.bytesLess x y=true↔x<y
 | [],[]=>by unfold Op.bytesLess;simp
 | [],_::_=>by unfold Op.bytesLess;simp
 | _::_,[]=>by unfold Op.bytesLess;simp
 | a::x,b::y=>by
  unfold Op.bytesLess
  rw[Bool.or_eq_true,decide_eq_true_eq,Bool.and_eq_true,bl_lt x y,List.cons_lt_cons_iff,beq_iff_eq]
def leB (x y:List UInt8):Bool:=decide (x≤y)
theorem leB_iff (x y:List UInt8):leB x y=!Op.bytesLess y x:=by
 unfold leB
 rw[Bool.eq_iff_iff,decide_eq_true_eq,Bool.not_eq_true',← Bool.not_eq_true,bl_lt,List.not_lt]
theorem sortB_sorted (l:List (List UInt8)):(l.mergeSort leB).Pairwise fun x y=>leB x y=true:=by
 refine List.pairwise_mergeSort (fun a b c h1 h2=>?_) (fun a b=>?_) l
 ·rw[leB_iff,Bool.not_eq_true'] at h1 h2 ⊢
  cases h3:Op.bytesLess c a with
  | false=>rfl
  | true =>
  cases h4:Op.bytesLess a b with
  | false=>rw[bl_total _ _ h4 h1] at h3;rw[h3] at h2;cases h2
  | true=>rw[bl_trans _ _ _ h3 h4] at h2;cases h2
 rw[leB_iff,leB_iff]
 cases h1:Op.bytesLess b a with
 | false=>rfl
 | true =>
 cases h2:Op.bytesLess a b with
 | true=>have:=bl_trans _ _ _ h1 h2;rw[bl_irrefl] at this;cases this
 | false=>rfl
theorem sortB_perm (l:List (List UInt8)):(l.mergeSort leB).Perm l:=List.mergeSort_perm l leB
theorem compact_go {l:List (List UInt8)} (hs:l.Pairwise fun x y=>leB x y=true):∀ m,m≤l.length→(Lib.compactUpTo l.toArray m).Pairwise (fun x y=>Op.bytesLess x y=true)∧∀ y,y∈Lib.compactUpTo l.toArray m↔y∈l.take m
 | 0,_=>by simp[Lib.compactUpTo]
 | m+1,hm=>by
  obtain⟨h1,h2⟩:=compact_go hs m (by omega)
  have hg:∀ j,j<l.length→l.toArray[j]! = l[j]!:=fun j hj=>by simp[getElem!_pos,hj]
  have hget:∀ j (hj:j<l.length),l[j]! = l[j]:=fun j hj=>getElem!_pos l j hj
  have hle:∀ i j,i<j→(hj:j<l.length)→leB l[i]! l[j]! = true:=fun i j hij hj=>by
   rw[hget i (by omega),hget j hj]
   exact List.pairwise_iff_getElem.1 hs i j (by omega) hj hij
  rw[Lib.compactUpTo_succ]
  have htk:l.take (m+1)=l.take m++[l[m]!]:=by rw[List.take_add_one,List.getElem?_eq_getElem (by omega),hget m (by omega)];rfl
  by_cases hk:Lib.keeps l.toArray m=true
  ·rw[if_pos hk,hg m (by omega)]
   refine⟨List.pairwise_append.2 ⟨h1,by simp,fun a ha b hb=>?_⟩,fun y=>?_⟩
   ·rw[List.mem_singleton] at hb
    subst hb
    obtain⟨i,hi⟩:=List.getElem?_of_mem ((h2 a).1 ha)
    rw[List.getElem?_take] at hi
    split at hi
    ·next him =>
     have ha':a=l[i]!:=by rw[hget i (by omega)];rw[List.getElem?_eq_getElem (by omega)] at hi;injection hi with hi;exact hi.symm
     have hne:l[m]!≠l[m-1]!:=by
      unfold Lib.keeps at hk
      rw[decide_eq_true_eq,hg m (by omega),hg (m-1) (by omega)] at hk
      rcases hk with hk | hk
      ·omega
      ·exact hk
     cases hb:Op.bytesLess a l[m]! with
     | true=>rfl
     | false =>
      exfalso
      have e1:=hle i m him (by omega)
      rw[leB_iff,← ha',Bool.not_eq_true'] at e1
      have e2:a=l[m]!:=bl_total _ _ hb e1
      by_cases hmi:i=m-1
      ·subst hmi;exact hne (by rw[← e2,ha'])
      ·have e3:=hle i (m-1) (by omega) (by omega)
       have e4:=hle (m-1) m (by omega) (by omega)
       rw[leB_iff,Bool.not_eq_true'] at e3 e4
       rw[← ha',e2] at e3
       exact hne (bl_total _ _ e4 e3)
    ·cases hi
   ·rw[List.mem_append,h2 y,htk,List.mem_append]
  ·rw[if_neg hk,List.append_nil]
   refine⟨h1,fun y=>?_⟩
   rw[h2 y,htk,List.mem_append]
   constructor
   ·exact .inl
   ·rintro (h | h)
    ·exact h
    ·rw[List.mem_singleton] at h
     unfold Lib.keeps at hk
     rw[decide_eq_true_eq,hg m (by omega)] at hk
     have hm0:m≠0:=fun h0=>hk (.inl h0)
     rw[hg (m-1) (by omega)] at hk
     have he:l[m]! = l[m-1]!:=Decidable.byContradiction fun hn=>hk (.inr hn)
     rw[h,he,hget (m-1) (by omega)]
     exact List.mem_of_getElem? (i:=m-1) (by rw[List.getElem?_take,if_pos (by omega),List.getElem?_eq_getElem (by omega)])
theorem sort_names (vs:List ByteArray):∃ rs:List ByteArray,Lib.compact ((vs.map (·.data.toList)).mergeSort leB)=rs.map (·.data.toList)∧rs=namesL vs:=by
 generalize hl:(vs.map (·.data.toList)).mergeSort leB=l
 have hs:l.Pairwise fun x y=>leB x y=true:=by rw[← hl];exact sortB_sorted _
 have hp:l.Perm (vs.map (·.data.toList)):=by rw[← hl];exact sortB_perm _
 obtain⟨h1,h2⟩:=compact_go hs l.length (Nat.le_refl _)
 rw[List.take_length] at h2
 refine⟨(Lib.compact l).map fun x=>⟨x.toArray⟩,?_,?_⟩
 ·rw[List.map_map]
  conv=>lhs;rw[← List.map_id (Lib.compact l)]
  exact List.map_congr_left fun x _=>by simp
 have hasc:∀ t:List (List UInt8),t.Pairwise (fun x y=>Op.bytesLess x y=true)→Asc (t.map fun x=>(⟨x.toArray⟩:ByteArray)):=by
  intro t
  induction t with
  | nil=>intro _;trivial
  | cons x t ih =>
   intro h
   rw[List.pairwise_cons] at h
   refine⟨fun y hy=>?_,ih h.2⟩
   obtain⟨z,hz,rfl⟩:=List.mem_map.1 hy
   unfold blt
   rw[ByteArray.toList_eq,ByteArray.toList_eq]
   exact h.1 z hz
 refine asc_uniq (hasc _ h1) (namesL_asc vs) fun y=>?_
 rw[namesL_mem]
 constructor
 ·intro hy
  obtain⟨x,hx,rfl⟩:=List.mem_map.1 hy
  obtain⟨v,hv,e⟩:=List.mem_map.1 (hp.mem_iff.1 ((h2 x).1 hx))
  rw[← e]
  exact hv
 intro hy
 exact List.mem_map.2 ⟨y.data.toList,(h2 _).2 (hp.mem_iff.2 (List.mem_map.2 ⟨y,hy,rfl⟩)),rfl⟩
end
section
open Go.RowKit Go.Shelf Go.Sort
def lays190_ren:Go.Shelf.Ren:=⟨fun | 190=>149 | 125=>195 | 258=>194 | 128=>238 | 129=>239 | 302=>229 | 303=>230 | 304=>231 | 305=>232 | 306=>233 | 307=>234 | 308=>235 | 309=>236 | 310=>237 | 333=>260 | 329=>261 | 330=>262 | 334=>263 | 335=>264 | 336=>265 | 344=>289 | n=>n,fun | 31=>46 | 9=>9 | 3=>3 | 46=>232 | 0=>0 | 51=>213 | 53=>151 | 4=>4 | 183=>254 | 182=>253 | 131=>246 | 5=>5 | 218=>274 | 222=>79 | 228=>289 | 229=>244 | n=>n,fun | n=>n⟩
theorem lays190:Go.Proofs.Lays.n190 Tryz.prog lays190_ren:={
 mixed:=by kernel_rfl
 f125:=Tryz.func195.trans (congrArg some (by kernel_rfl))
 f128:=Tryz.func238.trans (congrArg some (by kernel_rfl))
 f129:=Tryz.func239.trans (congrArg some (by kernel_rfl))
 f190:=Tryz.func149.trans (congrArg some (by kernel_rfl))
 f258:=Tryz.func194.trans (congrArg some (by kernel_rfl))
 f302:=Tryz.func229.trans (congrArg some (by kernel_rfl))
 f303:=Tryz.func230.trans (congrArg some (by kernel_rfl))
 f304:=Tryz.func231.trans (congrArg some (by kernel_rfl))
 f305:=Tryz.func232.trans (congrArg some (by kernel_rfl))
 f306:=Tryz.func233.trans (congrArg some (by kernel_rfl))
 f307:=Tryz.func234.trans (congrArg some (by kernel_rfl))
 f308:=Tryz.func235.trans (congrArg some (by kernel_rfl))
 f309:=Tryz.func236.trans (congrArg some (by kernel_rfl))
 f310:=Tryz.func237.trans (congrArg some (by kernel_rfl))
 f329:=Tryz.func261.trans (congrArg some (by kernel_rfl))
 f330:=Tryz.func262.trans (congrArg some (by kernel_rfl))
 f333:=Tryz.func260.trans (congrArg some (by kernel_rfl))
 f334:=Tryz.func263.trans (congrArg some (by kernel_rfl))
 f335:=Tryz.func264.trans (congrArg some (by kernel_rfl))
 f336:=Tryz.func265.trans (congrArg some (by kernel_rfl))
 f344:=Tryz.func289.trans (congrArg some (by kernel_rfl))
 t0:=Tryz.underlying0
 a0:=Tryz.isAgg0
 z0:=Tryz.sizeOf0
 v0:=Tryz.zeroValue0
 t3:=Tryz.underlying3
 a3:=Tryz.isAgg3
 z3:=Tryz.sizeOf3
 v3:=Tryz.zeroValue3
 t4:=Tryz.underlying4
 a4:=Tryz.isAgg4
 z4:=Tryz.sizeOf4
 v4:=Tryz.zeroValue4
 t5:=Tryz.underlying5
 a5:=Tryz.isAgg5
 z5:=Tryz.sizeOf5
 v5:=Tryz.zeroValue5
 t9:=Tryz.underlying9
 a9:=Tryz.isAgg9
 z9:=Tryz.sizeOf9
 v9:=Tryz.zeroValue9
 t31:=Tryz.underlying46
 a31:=Tryz.isAgg46
 z31:=Tryz.sizeOf46
 v31:=Tryz.zeroValue46
 t46:=Tryz.underlying232
 a46:=Tryz.isAgg232
 z46:=Tryz.sizeOf232
 v46:=Tryz.zeroValue232
 t51:=Tryz.underlying213
 a51:=Tryz.isAgg213
 z51:=Tryz.sizeOf213
 v51:=Tryz.zeroValue213
 t53:=Tryz.underlying151
 a53:=Tryz.isAgg151
 z53:=Tryz.sizeOf151
 v53:=Tryz.zeroValue151
 t131:=Tryz.underlying246
 a131:=Tryz.isAgg246
 z131:=Tryz.sizeOf246
 v131:=Tryz.zeroValue246
 t182:=Tryz.underlying253
 a182:=Tryz.isAgg253
 z182:=Tryz.sizeOf253
 v182:=Tryz.zeroValue253
 t183:=Tryz.underlying254
 a183:=Tryz.isAgg254
 z183:=Tryz.sizeOf254
 v183:=Tryz.zeroValue254
 t218:=Tryz.underlying274
 a218:=Tryz.isAgg274
 z218:=Tryz.sizeOf274
 v218:=Tryz.zeroValue274
 t222:=Tryz.underlying79
 a222:=Tryz.isAgg79
 z222:=Tryz.sizeOf79
 v222:=Tryz.zeroValue79
 t228:=Tryz.underlying289
 a228:=Tryz.isAgg289
 z228:=Tryz.sizeOf289
 v228:=Tryz.zeroValue289
 t229:=Tryz.underlying244
 a229:=Tryz.isAgg244
 z229:=Tryz.sizeOf244
 v229:=Tryz.zeroValue244 }
def lays194_ren:Go.Shelf.Ren:=⟨fun | 194=>150 | n=>n,fun | 31=>46 | 9=>9 | 3=>3 | 4=>4 | 0=>0 | n=>n,fun | n=>n⟩
theorem lays194:Go.Proofs.Lays.n194 Tryz.prog lays194_ren:={
 mixed:=by kernel_rfl
 f194:=Tryz.func150.trans (congrArg some (by kernel_rfl))
 t0:=Tryz.underlying0
 a0:=Tryz.isAgg0
 z0:=Tryz.sizeOf0
 v0:=Tryz.zeroValue0
 t3:=Tryz.underlying3
 a3:=Tryz.isAgg3
 z3:=Tryz.sizeOf3
 v3:=Tryz.zeroValue3
 t4:=Tryz.underlying4
 a4:=Tryz.isAgg4
 z4:=Tryz.sizeOf4
 v4:=Tryz.zeroValue4
 t9:=Tryz.underlying9
 a9:=Tryz.isAgg9
 z9:=Tryz.sizeOf9
 v9:=Tryz.zeroValue9
 t31:=Tryz.underlying46
 a31:=Tryz.isAgg46
 z31:=Tryz.sizeOf46
 v31:=Tryz.zeroValue46 }
def lays110_ren:Go.Shelf.Ren:=⟨fun | 110=>97 | 109=>42 | n=>n,fun | 31=>46 | 9=>9 | 4=>4 | 3=>3 | 0=>0 | n=>n,fun | n=>n⟩
theorem lays110:Go.Proofs.Lays.n110 Tryz.prog lays110_ren:={
 mixed:=by kernel_rfl
 f109:=Tryz.func42.trans (congrArg some (by kernel_rfl))
 f110:=Tryz.func97.trans (congrArg some (by kernel_rfl))
 t0:=Tryz.underlying0
 a0:=Tryz.isAgg0
 z0:=Tryz.sizeOf0
 v0:=Tryz.zeroValue0
 t3:=Tryz.underlying3
 a3:=Tryz.isAgg3
 z3:=Tryz.sizeOf3
 v3:=Tryz.zeroValue3
 t4:=Tryz.underlying4
 a4:=Tryz.isAgg4
 z4:=Tryz.sizeOf4
 v4:=Tryz.zeroValue4
 t9:=Tryz.underlying9
 a9:=Tryz.isAgg9
 z9:=Tryz.sizeOf9
 v9:=Tryz.zeroValue9
 t31:=Tryz.underlying46
 a31:=Tryz.isAgg46
 z31:=Tryz.sizeOf46
 v31:=Tryz.zeroValue46 }
end
section
open Go.RowKit Go.Sort
theorem varE_at {w:World} {B:Nat} {s:ByteArray} (h:s.size≤maxLen):(varE s).at w B :=
 Ex.at_iff.2 ⟨⟨Nat.zero_le _,Nat.zero_le _,h,Nat.zero_le _⟩,fun i x hx=>by simp[varE,Ex.l] at hx,fun x hx=>by simp[varE,Ex.l] at hx⟩
end
section
open Go.RowKit Go.Shelf Go.Sort
def OwnS (w:World) (base:Nat) (v:Value) (ss:List (List UInt8)):Prop:=w.ownsRow base 9 1 v ss.length (ss.map encStr)
theorem sortS_any (base:Nat) (v:Value) (ss:List (List UInt8)) (w:World) (h:OwnS w base v ss) (hl:ss.length≤1100000) :
  Calls Tryz.prog 149 #[v] w fun e w'=>e=.returned (.tuple #[])∧w.grownBy w' v.ownBlock∧OwnS w' base v (ss.mergeSort leB):=by
 by_cases hv:v=.slice none 0 0
 ·subst hv
  have h0:ss=[]:=by
   rcases h.2 with ⟨_,h0⟩ | ⟨g,cap,cur,e,_⟩
   ·exact List.length_eq_zero_iff.1 h0
   ·cases e
  subst h0
  refine (Any.slices_Sort_string_none lays190 none 0 w).mono fun e w' hh=>?_
  obtain⟨e1,e2⟩:=hh
  subst e2
  exact⟨e1,⟨rfl,rfl,rfl,Nat.le_refl _,fun _ _ _=>rfl⟩,by rw[List.mergeSort_nil];exact h⟩
 rcases h.2 with ⟨e,_⟩ | ⟨g,cap,cur,rfl,hb,hg,hn,hc,hs,ht⟩
 ·exact absurd e hv
 rw[Nat.mul_one] at ht
 have hH:Holds encStr w g 0 ss.toArray:=holds_of_block hg ht
 refine (Any.slices_Sort_string lays190 g 0 cap ss w hH (Array.getElem?_eq_some_iff.1 hg).1 (by omega)).mono fun e w' hh=>?_
 obtain⟨e1,n,os,e2⟩:=hh
 subst e2
 refine⟨e1,grownBy_sorted _,?_⟩
 have hlen:(ss.mergeSort leB).length=ss.length:=(sortB_perm ss).length_eq
 unfold OwnS
 rw[hlen]
 exact ownsRow_sorted hlen hb hg hn hc hs
theorem compS_any (base:Nat) (v:Value) (ss:List (List UInt8)) (w:World) (h:OwnS w base v ss) (hl:ss.length≤1100000) :
  Calls Tryz.prog 150 #[v] w fun e w'=>∃ v',e=.returned v'∧w.grownBy w' v.ownBlock∧OwnS w' base v' (Lib.compact ss):=by
 by_cases hv:v=.slice none 0 0
 ·subst hv
  have h0:ss=[]:=by
   rcases h.2 with ⟨_,h0⟩ | ⟨g,cap,cur,e,_⟩
   ·exact List.length_eq_zero_iff.1 h0
   ·cases e
  subst h0
  refine (Any.slices_Compact_string_empty lays194 none 0 w).mono fun e w' hh=>?_
  obtain⟨e1,e2⟩:=hh
  subst e2
  exact⟨_,e1,⟨rfl,rfl,rfl,Nat.le_refl _,fun _ _ _=>rfl⟩,h⟩
 obtain⟨g,cap,rfl,hb,hlt,hn,hc,_,hH⟩:=Lib.holds_of_ownsRow h hv
 refine (Any.slices_Compact_string lays194 g 0 cap ss w hH (by omega) hn).mono fun e w' hh=>?_
 obtain⟨e1,q,e2⟩:=hh
 subst e2
 have hle:=Lib.compact_length_le ss
 refine⟨_,e1,?_,?_⟩
 ·have:=grownBy_sorted (w:=w) (g:=g) (n:=q) (os:=#[]) (Lib.compact ss++List.replicate (ss.length-(Lib.compact ss).length) []).toArray
  show w.grownBy _ (some g)
  simpa using this
 have:=Lib.ownsRow_putRow (q:=q) (k:=(Lib.compact ss).length) (ys:=Lib.compact ss++List.replicate (ss.length-(Lib.compact ss).length) []) h (by simp;omega) hle
 rw[List.take_left] at this
 exact this
end
section
open Go.RowKit Go.Sort Go.Shelf
attribute [local go_sem] Oper.semAt_some
def nmL (xs:List Ex):List (List UInt8):=(xs.filter fun x=>decide (x.kind=2)).map fun x=>x.name.data.toList
theorem nmL_snoc (pre:List Ex) (x:Ex):nmL (pre++[x])=nmL pre++(if x.kind=2 then [x.name.data.toList] else []):=by
 unfold nmL
 rw[List.filter_append,List.map_append]
 by_cases h:x.kind=2 <;> simp[h]
theorem nmL_er (xs:List Ex):nmL (xs.map Ex.er)=nmL xs:=by
 unfold nmL
 induction xs with
 | nil=>rfl
 | cons x t ih =>
  rw[List.map_cons,List.filter_cons,List.filter_cons,Ex.er_kind]
  split
  ·rw[List.map_cons,List.map_cons,Ex.er_name,ih]
  ·exact ih
theorem nmL_le (xs:List Ex):(nmL xs).length≤xs.length:=by unfold nmL;rw[List.length_map];exact List.length_filter_le _ _
def namO (e:Ex):List ByteArray:=namesL (((flatE e).filter fun x:Ex=>decide (x.kind=2)).map Ex.name)
theorem namO_sort (e:Ex):Lib.compact ((nmL (flatE e)).mergeSort leB)=(namO e).map (·.data.toList):=by
 obtain⟨rs,h1,h2⟩:=sort_names (((flatE e).filter fun x:Ex=>decide (x.kind=2)).map Ex.name)
 rw[List.map_map] at h1
 rw[h2] at h1
 exact h1
theorem infoStr:(Tryz.prog.info? 9).map (fun i=>(i.zero,i.size,i.bytes))=some (some (.string ⟨#[]⟩),1,16):=by kernel_rfl
def tSlice (B:Nat):Turf where
 X:=fun W k=>k=B∨∃ g n c,W.cell? ⟨B,0,none⟩=some (.slice (some g) n c)∧k=g.block
 G:=fun W=>CellsAt W B∧∀ g n c,W.cell? ⟨B,0,none⟩=some (.slice (some g) n c)→g.block<W.heap.size
 lt:=fun W k h hx=>by
  rcases hx with rfl | ⟨g,n,c,h1,rfl⟩
  ·exact h.1.lt
  ·exact h.2 g n c h1
 kp':=fun W W' h k=>by
  have e:=cell_same (k.2 B h.1) 0
  refine⟨⟨h.1.same (k.2 B h.1),fun g n c hc=>?_⟩,fun j hj=>?_⟩
  ·rw[e] at hc
   exact Nat.lt_of_lt_of_le (h.2 g n c hc) k.1
  ·rcases hj with rfl | ⟨g,n,c,h1,rfl⟩
   ·exact .inl rfl
   ·rw[e] at h1
    exact .inr ⟨g,n,c,h1,rfl⟩
theorem boxed_cellsAt {W:World} {B:Nat} {t:TypeId} {v:Value} (h:Boxed W B t v):CellsAt W B:=⟨_,_,_,h⟩
theorem tSlice_append {W w1:World} {B n0 k m:Nat} {t e:TypeId} {size:Nat} {v v':Value} {xs ys:List Value} {tmp:Obj} (hv:Boxed W B t v) (hrow:W.ownsRow n0 e size v k xs) (hown:w1.ownsRow n0 e size v' m ys)
  (hv2:Boxed (w1.setCell ⟨B,0,none⟩ v') B t v') (hg:(W.alloc tmp).grownBy w1 v.ownBlock) (hat:v'.ownBlock=v.ownBlock∨v'.ownBlock=some (W.alloc tmp).heap.size):KpT (tSlice B) W (w1.setCell ⟨B,0,none⟩ v'):=by
 have hsz:=hg.size
 simp only[World.size_alloc] at hsz hat
 have hblk:∀ g n c,v=.slice (some g) n c→v.ownBlock=some g.block:=fun g n c e=>by rw[e];rfl
 refine kpT_of (by simp;omega) (fun j hj hx=>?_) (fun h=>⟨boxed_cellsAt hv2,fun g n c hc=>?_⟩) (fun h j hj=>?_)
 ·have hjB:j≠B:=fun e=>hx (.inl e)
  rw[Below.heap_setCell _ _ _ _ hjB]
  have hne:some j≠v.ownBlock:=fun e=>hx (.inr (by
   rcases hrow.2 with ⟨rfl,_⟩ | ⟨g,cap,cur,rfl,_⟩
   ·cases e
   ·refine⟨_,_,_,hv.cell,?_⟩
    simp only[Value.ownBlock,Option.some.injEq] at e
    exact e))
  rw[hg.block j (by simp only[World.size_alloc];have:=hj.lt;omega) hne]
  exact Below.heap_alloc _ _ _ hj.lt
 ·rw[hv2.cell] at hc
  injection hc with hc
  subst hc
  rcases hown.2 with ⟨h0,_⟩ | ⟨g',cap,cur,e,_,hgb,_⟩
  ·cases h0
  injection e with e1
  injection e1 with e1
  subst e1
  simp only[World.size_setCell]
  exact (Array.getElem?_eq_some_iff.1 hgb).1
 rcases hj with rfl | ⟨g,n,c,hc,rfl⟩
 ·exact .inl (.inl rfl)
 rw[hv2.cell] at hc
 injection hc with hc
 rcases hat with h1 | h1
 ·rw[hc] at h1
  rcases hrow.2 with ⟨rfl,_⟩ | ⟨g',cap,cur,rfl,_⟩
  ·cases h1
  simp only[Value.ownBlock,Option.some.injEq] at h1
  exact .inl (.inr ⟨_,_,_,hv.cell,h1⟩)
 rw[hc] at h1
 simp only[Value.ownBlock,Option.some.injEq] at h1
 exact .inr (by omega)
end
section
open Go.RowKit Go.Sort Go.Shelf
attribute [local go_sem] Oper.semAt_some
set_option maxHeartbeats 4000000 in
set_option maxRecDepth 20000 in
theorem tnames_any (e:Ex) (B:Nat) (w:World) (hat:e.at w B) (hB:B≤w.heap.size):Calls Tryz.prog 95 #[.agg #[.int .i64 e.kind,.int .i64 e.rn,.int .i64 e.rd,.string e.name,.int .i64 e.pw,.slice e.a e.l.length e.c]] w fun r w'=>∃ v,r=.returned v∧OwnS w' w.heap.size v ((namO e).map (·.data.toList))∧Kp w w':=by
 have k1:Kp w ((w.alloc (.cells #[.int .i64 e.kind,.int .i64 e.rn,.int .i64 e.rd,.string e.name,.int .i64 e.pw,.slice e.a e.l.length e.c] 71)).alloc (.cells #[.slice none 0 0] 46)):=((Kp.refl w).alloc _).alloc _
 have hB1:BoxX ((w.alloc (.cells #[.int .i64 e.kind,.int .i64 e.rn,.int .i64 e.rd,.string e.name,.int .i64 e.pw,.slice e.a e.l.length e.c] 71)).alloc (.cells #[.slice none 0 0] 46)) w.heap.size e:=(BoxX.new w e _ rfl).kp ((Kp.refl _).alloc _)
 have hn:Boxed ((w.alloc (.cells #[.int .i64 e.kind,.int .i64 e.rn,.int .i64 e.rd,.string e.name,.int .i64 e.pw,.slice e.a e.l.length e.c] 71)).alloc (.cells #[.slice none 0 0] 46)) (w.heap.size+1) 46 (.slice none 0 0):=by
  have:=Boxed.new (w.alloc (.cells #[.int .i64 e.kind,.int .i64 e.rn,.int .i64 e.rd,.string e.name,.int .i64 e.pw,.slice e.a e.l.length e.c] 71)) 46 (.slice none 0 0)
  rwa [World.size_alloc] at this
 have k3:=(Kp.refl ((w.alloc (.cells #[.int .i64 e.kind,.int .i64 e.rn,.int .i64 e.rd,.string e.name,.int .i64 e.pw,.slice e.a e.l.length e.c] 71)).alloc (.cells #[.slice none 0 0] 46))).alloc (.cells #[.int .i64 e.kind,.int .i64 e.rn,.int .i64 e.rd,.string e.name,.int .i64 e.pw,.slice e.a e.l.length e.c] 71)
 obtain⟨i0,hi,hz0,hz1,hz2⟩:=info_parts infoStr
 refine (callsIn_wide (n:=3)).1 ?_
 refine callsIn_of_wp_marks Tryz.func95 rfl trivial ?_ rfl
 simp only[Tryz.ntmps95,List.size_toArray,List.length_cons,List.length_nil,Nat.reduceAdd,Nat.reduceSub,Array.replicate_succ,Array.replicate_zero,List.push_toArray,List.append_toArray,List.nil_append,List.cons_append]
 have HB:=hid hB1
 obtain⟨⟨q0,q1,q2,q3,q4,q5⟩,_⟩:=hB1
 gi_wp2_with (refine⟨trivial,?_⟩;gi_at_call 148;refine (callsIn_wide.2 (twalk_any e _)).mono ?_;rintro r w' ⟨rfl,rfl⟩)
 have k2:=k1.trans k3
 have hb2:BoxX (((w.alloc (.cells #[.int .i64 e.kind,.int .i64 e.rn,.int .i64 e.rd,.string e.name,.int .i64 e.pw,.slice e.a e.l.length e.c] 71)).alloc (.cells #[.slice none 0 0] 46)).alloc (.cells #[.int .i64 e.kind,.int .i64 e.rn,.int .i64 e.rd,.string e.name,.int .i64 e.pw,.slice e.a e.l.length e.c] 71)) (w.heap.size+1+1) e:=BoxX.new _ e _ (by simp)
 have hn2:=hn.alloc (.cells #[.int .i64 e.kind,.int .i64 e.rn,.int .i64 e.rd,.string e.name,.int .i64 e.pw,.slice e.a e.l.length e.c] 71)
 have hz:(((w.alloc (.cells #[.int .i64 e.kind,.int .i64 e.rn,.int .i64 e.rd,.string e.name,.int .i64 e.pw,.slice e.a e.l.length e.c] 71)).alloc (.cells #[.slice none 0 0] 46)).alloc (.cells #[.int .i64 e.kind,.int .i64 e.rn,.int .i64 e.rd,.string e.name,.int .i64 e.pw,.slice e.a e.l.length e.c] 71)).heap.size=w.heap.size+3:=by simp
 clear q0 q1 q2 q3 q4 q5 hn k1 HB k3
 generalize (((w.alloc (.cells #[.int .i64 e.kind,.int .i64 e.rn,.int .i64 e.rd,.string e.name,.int .i64 e.pw,.slice e.a e.l.length e.c] 71)).alloc (.cells #[.slice none 0 0] 46)).alloc (.cells #[.int .i64 e.kind,.int .i64 e.rn,.int .i64 e.rd,.string e.name,.int .i64 e.pw,.slice e.a e.l.length e.c] 71))=W0 at *
 refine wpIn_rangeFunc_ownH rfl (by omega) (gf:=192) (lb:=#[.pointer (some ⟨w.heap.size+1+1,0,none⟩)]) rfl trivial (enters_of Tryz.func192 (by kernel_rfl) rfl)
  (walkc_stops (3-1) e (w.heap.size+1+1) B W0 (tSlice (w.heap.size+1)) ⟨boxed_cellsAt hn2,fun g n c hc=>by rw[hn2.cell] at hc;cases hc⟩ (Ex.at_kp hat k2) (Nat.le_trans hB k2.size) hb2)
  KpT.trans (fun W l o o' _ hl ho _=>kpT_put W l o o' hl ho) (Below.refl _ _) (fun _=>rfl)
  (fun pre W=>(∃ v,Boxed W (w.heap.size+1) 46 v∧W.ownsRow w.heap.size 9 1 v (nmL pre).length ((nmL pre).map encStr)∧True)∧Below w.heap.size w W)
  (fun _ _ _=>False)
  (OwnFrom.and (Own.from (holdsRow_own w.heap.size (w.heap.size+1) 46 9 1 (fun pre=>(nmL pre).length) (fun pre=>(nmL pre).map encStr) (fun _ _=>True)) _) (ownFrom_below (Nat.le_refl _) (by omega)))
  (fun _ _ _ _ _ hs _ _=>hs)
  ⟨⟨_,hn2,World.ownsRow_nil _ _ _ _,trivial⟩,k2⟩
  (fun x a' W=>∃ Bx,w.heap.size+1<Bx∧BoxX W Bx x∧a'={ tmps:=#[.agg #[.int .i64 e.kind,.int .i64 e.rn,.int .i64 e.rd,.string e.name,.int .i64 e.pw,.slice e.a e.l.length e.c],.pointer (some ⟨w.heap.size,0,none⟩),.slice none 0 0,.pointer (some ⟨w.heap.size+1,0,none⟩),.pointer (some ⟨Bx,0,none⟩),.agg #[.int .i64 e.kind,.int .i64 e.rn,.int .i64 e.rd,.string e.name,.int .i64 e.pw,.slice e.a e.l.length e.c],.func (.func 192) #[] #[.pointer (some ⟨w.heap.size+1+1,0,none⟩)],.agg #[.int .i64 x.kind,.int .i64 x.rn,.int .i64 x.rd,.string x.name,.int .i64 x.pw,.slice x.a x.l.length x.c],undef,undef,undef,undef,undef,undef,undef,undef,undef,undef,undef,undef],defers:=[] })
  (fun x a' _ X Y row hs hg hr=>by obtain⟨Bx,h1,h2,h3⟩:=hs;exact⟨Bx,h1,boxX_kept h2 hg (fun r e=>(hr r e).2),h3⟩)
  ?assign ?body ?done ?stop
 case assign =>
  rintro l pre x W K ⟨⟨v,h1,h2,_⟩,hB1⟩ hK
  simp only[List.zip_toArray,List.zip_cons_cons,List.zip_nil_right,List.foldl_toArray',List.foldl_cons,List.foldl_nil]
  gi_wp2
  exact hK _ _ ((KeepsOthers.alloc _ _).from _) (Kp.kpT ((Kp.refl W).alloc _)) ⟨⟨v,h1.alloc _,h2.alloc _,trivial⟩,hB1.alloc hB1.size _⟩ ⟨W.heap.size,h1.lt,BoxX.new W x _ rfl,rfl⟩
 case body =>
  rintro l pre x a' W hl ⟨r,hr⟩ ⟨⟨v,h1,h2,_⟩,hB1⟩ ⟨Bx,hBx,⟨⟨x0,x1,x2,x3,x4,x5⟩,_⟩,rfl⟩ hlt
  have hsn:=nmL_snoc pre x
  have hc:=h1.cell
  have hle:=flatE_le e
  have hle2:=nmL_le pre
  by_cases hk:x.kind=2
  ·rw[if_pos hk] at hsn
   have hk2:(x.kind==2)=true:=by rw[hk];rfl
   clear hk
   gi_wp2_with (gi_at_builtin;refine wpListIn_append_own_at _ rfl _ _ 46 rfl w.heap.size 9 i0 (.string ⟨#[]⟩) 1 16 Tryz.underlying46 hi hz0 hz1 hz2 rfl (by decide) _ _ _ rfl (h2.alloc _) ⟨W.heap.size,0,none⟩ 1 1 [.string x.name] rfl rfl (cell_one_new _ _ _) (by simp[Value.oneCell']) (by unfold maxLen;omega) (by omega) (by have:=hB1.size;simp;omega) ?_;intro v' w1 hown' hgrow _ hat';obtain⟨g',cap',rfl⟩:=ownsRow_succ hown';obtain⟨hv1,hv2,hr2,hk2,hb2⟩:=h1.appended (by decide) h2 hB1.size (by omega) hown' hgrow;have hc1:=hv1.cell;have hf1:=hv1.frozen)
   refine⟨hk2.from _,tSlice_append h1 h2 hown' hv2 hgrow hat',⟨_,hv2,?_,trivial⟩,hB1.trans hb2⟩
   rw[hsn]
   simpa using hr2
  rw[if_neg hk,List.append_nil] at hsn
  have hk2:(x.kind==2)=false:=beq_eq_false_iff_ne.2 hk
  clear hk
  gi_wp2
  exact⟨KeepsFrom.refl _ _,(Kp.refl W).kpT,⟨v,h1,by rw[hsn];exact h2,trivial⟩,hB1⟩
 case stop =>
  rintro D c pre W _ _ h _
  exact h.elim
 case done =>
 rintro D xs W hD hxs ⟨⟨v,h1,h2,_⟩,hB1⟩ hK
 have hnm:nmL xs=nmL (flatE e):=by rw[← hxs,nmL_er]
 rw[hnm] at h2
 have hle:=nmL_le (flatE e)
 have hle2:=flatE_le e
 have hc:=h1.cell
 have HS:=hid (sortS_any w.heap.size v (nmL (flatE e)) W h2 (by omega))
 gi_wp2_with (refine⟨trivial,?_⟩;gi_at_call 149;refine (callsIn_wide.2 HS.out).mono ?_;rintro r w2 ⟨rfl,hg2,ho2⟩;have hv2:=h1.kept hg2 (h1.not_row (by decide) h2);have hc2:=hv2.cell)
 have ho3:=ho2
 have HC:=hid (compS_any w.heap.size v ((nmL (flatE e)).mergeSort leB) w2 ho3 (by rw[(sortB_perm _).length_eq];omega))
 have hlt2:w.heap.size≤w2.heap.size:=Nat.le_trans hB1.size hg2.size
 have hb2':=hB1.grown hg2 hB1.size (fun k hk=>(h2.lt k hk).1)
 have hKD:w2.heap[D]? = some (.deferred (some [])):=(hg2.block D (Array.getElem?_eq_some_iff.1 hK).1 (fun e1=>by
  rcases h2.2 with ⟨rfl,_⟩ | ⟨g,cap,cur,rfl,_,hgb,_⟩
  ·cases e1
  ·simp only[Value.ownBlock,Option.some.injEq] at e1
   subst e1
   rw[hK] at hgb
   cases hgb)).trans hK
 refine⟨trivial,?_⟩
 refine (callsIn_wide.2 HC.out).mono ?_
 rintro r w3 ⟨v3,rfl,hg3,ho4⟩
 rw[namO_sort] at ho4
 have hKD3:w3.heap[D]? = some (.deferred (some [])):=(hg3.block D (Array.getElem?_eq_some_iff.1 hKD).1 (fun e1=>by
  rcases ho3.2 with ⟨rfl,_⟩ | ⟨g,cap,cur,rfl,_,hgb,_⟩
  ·cases e1
  ·simp only[Value.ownBlock,Option.some.injEq] at e1
   subst e1
   rw[hKD] at hgb
   cases hgb)).trans hKD
 have hb3:=hb2'.grown hg3 hlt2 (fun k hk=>(ho3.lt k hk).1)
 gi_wp2
 refine⟨by simp,.inl ⟨_,_,rfl,run_takeDeferred hKD3,?_⟩⟩
 exact⟨_,results_tmp rfl _ _ _,v3,rfl,ownsRow_putObj ho4 _ hKD3 rfl,hb3.trans (belowK_b (w:=w) (Nat.le_refl _) w3 D _ _ (by omega) hKD3 rfl rfl)⟩
end
section
open Go.RowKit Go.Sort Go.Shelf
theorem rowS_cells {w:World} {a:Option Addr} {ss:List ByteArray} (h:RowS w a ss) (hn:ss≠[]):∃ b o,a=some ⟨b,o,none⟩∧∀ j,j<ss.length→w.cell? ⟨b,o+j,none⟩=some (.string (ss.getD j ByteArray.empty)):=by
 cases ss with
 | nil=>exact absurd rfl hn
 | cons s t =>
 obtain⟨b,o,e,_⟩:=h 0 s rfl
 refine⟨b,o,e,fun j hj=>?_⟩
 obtain⟨b',o',e',hc⟩:=h j _ (List.getElem?_eq_getElem hj)
 rw[e] at e'
 cases e'
 rw[hc,List.getD_eq_getElem?_getD,List.getElem?_eq_getElem hj]
 rfl
theorem rowS_own {w:World} {base:Nat} {v:Value} {ss:List ByteArray} (h:OwnS w base v (ss.map (·.data.toList))):∃ a c,v=.slice a ss.length c∧RowS w a ss:=by
 have hn:(ss.map (·.data.toList)).length=ss.length:=List.length_map _
 rcases h.2 with ⟨rfl,h3⟩ | ⟨g,cap,cur,rfl,hb,hg,hn2,hc,hs,ht⟩
 ·have h0:ss=[]:=List.length_eq_zero_iff.1 (by rw[← hn];exact h3)
  subst h0
  exact⟨none,0,rfl,fun i s hs=>by simp at hs⟩
 refine⟨_,cap,by rw[hn],fun i s hs=>⟨g,0,rfl,?_⟩⟩
 have hil:i<ss.length:=(List.getElem?_eq_some_iff.1 hs).1
 rw[Nat.zero_add,cell_of_row w g _ cur _ _ hg]
 have h5:(cur.toList.take ((ss.map (·.data.toList)).length*1))[i]? = some (.string s):=by
  rw[ht,Lib.map_encStr,List.getElem?_map,hs];rfl
 rw[List.getElem?_take,if_pos (by rw[hn];omega)] at h5
 simpa using h5
end
section
open Go.RowKit Go.Sort Go.Shelf
def inS (ss:List ByteArray) (x:ByteArray):Bool:=ss.any fun y=>decide (y=x)
theorem inS_iff {ss:List ByteArray} {x:ByteArray}:inS ss x=true↔x∈ss:=by
 unfold inS
 rw[List.any_eq_true]
 exact⟨fun ⟨y,hy,e⟩=>of_decide_eq_true e▸hy,fun h=>⟨x,h,decide_eq_true rfl⟩⟩
theorem conS_any (a:Option Addr) (c:Nat) (ss:List ByteArray) (x:ByteArray) (w:World) (h:RowS w a ss) (hl:ss.length≤1100000) :
  Calls Tryz.prog 97 #[.slice a ss.length c,.string x] w fun e w'=>e=.returned (.bool (inS ss x))∧w'=w:=by
 by_cases h0:ss=[]
 ·subst h0
  refine (Any.slices_Contains_string_empty lays110 a c x w).mono fun e w' hh=>?_
  obtain⟨e1,e2⟩:=hh
  exact⟨e1,e2⟩
 obtain⟨b,o,rfl,hc⟩:=rowS_cells h h0
 refine (Any.slices_Contains_string lays110 b o ss.length c ss x w (Nat.le_refl _) (by omega) hc).mono fun e w' hh=>?_
 obtain⟨e1,e2⟩:=hh
 rw[List.take_length] at e1
 refine⟨e1.trans (ret_bool ?_),e2⟩
 rw[Bool.eq_iff_iff,inS_iff]
 exact Lib.containsS_iff ss x
theorem namO_le (e:Ex):(namO e).length≤200:=by
 have h:=namO_sort e
 have h1:((namO e).map (·.data.toList)).length≤(nmL (flatE e)).length:=by
  rw[← h]
  refine Nat.le_trans (Lib.compact_length_le _) ?_
  rw[(sortB_perm _).length_eq]
  exact Nat.le_refl _
 rw[List.length_map] at h1
 have:=nmL_le (flatE e)
 have:=flatE_le e
 omega
def placeF (s:ByteArray):List ByteArray→Int
 | []=>-1
 | x::r=>if x=s then 0 else if placeF s r<0 then -1 else placeF s r+1
theorem placeF_no {s:ByteArray}:∀ {l:List ByteArray},s ∉ l→placeF s l=-1
 | [],_=>rfl
 | x::r,h=>by
  unfold placeF
  rw[if_neg (fun e=>h (by rw[e];exact List.mem_cons_self)),placeF_no (fun hh=>h (List.mem_cons_of_mem _ hh)),if_pos (by decide)]
theorem placeF_at {s:ByteArray}:∀ {l:List ByteArray} {k:Nat},l[k]? = some s→(∀ i,i<k→l[i]?≠some s)→placeF s l=k
 | [],k,h,_=>by simp at h
 | x::r,0,h,_=>by
  simp only[List.getElem?_cons_zero,Option.some.injEq] at h
  unfold placeF
  rw[if_pos h];rfl
 | x::r,k+1,h,hz=>by
  have h0:x≠s:=fun e=>hz 0 (by omega) (by rw[List.getElem?_cons_zero,e])
  have ih:=placeF_at (l:=r) (k:=k) (by simpa using h) (fun i hi=>by simpa using hz (i+1) (by omega))
  unfold placeF
  rw[if_neg h0,ih,if_neg (by omega)]
  omega
theorem placeF_in {s:ByteArray} {l:List ByteArray} (h:s∈l):∃ k:Nat,k<l.length∧placeF s l=k∧l[k]? = some s∧∀ i,i<k→l[i]?≠some s:=by
 induction l with
 | nil=>cases h
 | cons x r ih =>
  by_cases hx:x=s
  ·exact⟨0,by simp,by unfold placeF;rw[if_pos hx];rfl,by simp[hx],fun i hi=>absurd hi (Nat.not_lt_zero _)⟩
  ·rcases List.mem_cons.1 h with h | h
   ·exact absurd h.symm hx
   obtain⟨k,h1,h2,h3,h4⟩:=ih h
   refine⟨k+1,by simp;omega,by unfold placeF;rw[if_neg hx,h2,if_neg (by omega)];omega,by simpa using h3,fun i hi=>?_⟩
   match i with
   | 0=>simpa using hx
   | i+1=>simpa using h4 i (by omega)
theorem placeF_lt (s:ByteArray) (l:List ByteArray):placeF s l<l.length:=by
 by_cases h:s∈l
 ·obtain⟨k,h1,h2,_⟩:=placeF_in h
  omega
 rw[placeF_no h];omega
set_option maxHeartbeats 4000000 in
theorem indexS_any (a:Option Addr) (c:Nat) (ss:List ByteArray) (s:ByteArray) (w:World) (hrow:RowS w a ss) (hm:ss.length≤1100000) :
  Calls Tryz.prog 42 #[.slice a ss.length c,.string s] w fun e w'=>e=.returned (.int .i64 (placeF s ss))∧Kp w w':=by
 have HR:=hid hrow
 clear hrow
 go_enter Tryz.func42,Tryz.ntmps42
 go_wp2
 go_loopw [8] (fun x wr=>∃ k:Nat,k≤ss.length∧x=.int .i64 k∧(∀ i,i<k→ss[i]?≠some s)∧Kp w wr) (fun x _=>ss.length-(intOf x).toNat)
 case atStart=>exact⟨0,by omega,rfl,fun i h=>absurd h (Nat.not_lt_zero _),.refl _⟩
 case round =>
 obtain⟨k,hk,rfl,hz,hkp⟩:=hrel
 have Hz:=hid hz
 have Hk:=hid hkp
 clear hz
 by_cases hlt:k<ss.length
 rotate_left
 ·have Ha:=hid (show placeF s ss=-1 from placeF_no fun hs=>by
   obtain⟨i,hi⟩:=List.getElem?_of_mem hs
   exact Hz.out i (by have:=(List.getElem?_eq_some_iff.1 hi).1;omega) hi)
  clear hkp
  go_wp2
  go_ret
  exact⟨by rw[Ha.out];rfl,Hk.out⟩
 obtain⟨t,ht⟩:∃ t,ss[k]? = some t:=⟨_,List.getElem?_eq_getElem hlt⟩
 obtain⟨b,o,rfl,h0⟩:=HR.out.kp hkp k t ht
 have Hs:=hid ht
 clear ht hkp
 by_cases hq:t=s
 ·subst hq
  have Ha:=hid (placeF_at Hs.out Hz.out)
  go_wp2
  go_ret
  exact⟨by rw[Ha.out];rfl,Hk.out⟩
 have hq3:(s.toList==t.toList)=false:=strNe fun e=>hq e.symm
 go_wp2
 go_roundw
 case measure=>simp only[intOf];omega
 case rel =>
 refine⟨k+1,by omega,by go_num,fun i hi=>?_,Hk.out⟩
 by_cases h:i=k
 ·subst h;rw[Hs.out];intro e;cases e;exact hq rfl
 exact Hz.out i (by omega)
end
section
abbrev isIn (s:ByteArray) (l:List ByteArray):Bool:=inS l s
abbrev Flt:=Option (Int×ByteArray)
def needF (ok:Bool) (c:Int) (s:ByteArray):Flt:=if ok=true then none else some (c,s)
def orF (a b:Flt):Flt:=match a with | some x=>some x | none=>b
theorem orF_none (b:Flt):orF none b=b:=rfl
theorem orF_assoc (a b c:Flt):orF (orF a b) c=orF a (orF b c):=by cases a <;> rfl
def onceF:List ByteArray→List ByteArray→Flt
 | _,[]=>none
 | have_,s::r=>orF (needF (!isIn s have_) 8 s) (onceF (have_++[s]) r)
def unknF (all:List ByteArray):List ByteArray→Flt
 | []=>none
 | s::r=>orF (needF (isIn s all) 7 s) (unknF all r)
def knownF (all:List ByteArray) (e:Ex):Flt:=unknF all (namO e)
def givenF (st all:List ByteArray) (q:Qe) (before:List ByteArray):Flt:=orF (needF (isIn q.name st) 7 q.name) (orF (needF (!isIn q.name before) 8 q.name) (knownF all q.e))
def flowF (st all:List ByteArray):List ByteArray→List Qe→Flt
 | _,[]=>none
 | before,q::r=>orF (givenF st all q before) (flowF st all (before++[q.name]) r)
def missF (hv:List ByteArray):List ByteArray→Flt
 | []=>none
 | s::r=>orF (needF (isIn s hv) 3 s) (missF hv r)
def edgeF (st all mds:List ByteArray) (x:Ed):Flt:=orF (needF (isIn x.tx mds) 7 x.tx) (orF (knownF all x.g) (flowF st all [] x.rs))
def edgesF (st all mds:List ByteArray):List Ed→Flt
 | []=>none
 | x::r=>orF (edgeF st all mds x) (edgesF st all mds r)
def modeF (st all mds:List ByteArray) (m:Mo):Flt:=orF (flowF st all [] m.fs) (orF (missF (m.fs.map Qe.name) st) (edgesF st all mds m.es))
def modesF (st all mds:List ByteArray):List Mo→Flt
 | []=>none
 | m::r=>orF (modeF st all mds m) (modesF st all mds r)
def ratC (an ad bn bd:Int):Int:=if ratB an ad=true∧ratB bn bd=true then (if an*bd<bn*ad then -1 else if bn*ad<an*bd then 1 else 0) else 0
def rngF:List De→Flt
 | []=>none
 | d::r=>orF (needF (decide (ratC d.ln d.ld d.hn d.hd≤0)) 2 d.name) (rngF r)
def stN (p:Pr):List ByteArray:=p.ss.map De.name
def allN (p:Pr):List ByteArray:=p.ss.map De.name++p.ps.map De.name
def mdN (p:Pr):List ByteArray:=p.ms.map Mo.name
def checkF (p:Pr):Flt:=orF (needF (probB p) 1 ByteArray.empty) (orF (onceF [] (allN p)) (orF (onceF [] (mdN p)) (orF (rngF (p.ss++p.ps)) (orF (needF (decide (0<p.tn)) 2 ByteArray.empty) (modesF (stN p) (allN p) (mdN p) p.ms)))))
structure Opn where
 k:Int
 a:Int
 b:Int
 n:Int
 cn:Int
 cd:Int
deriving DecidableEq
def findO (o:Opn):List Opn→Option Nat
 | []=>none
 | x::r=>if x=o then some 0 else (findO o r).map (·+1)
def putF (ins:Nat) (ops:List Opn) (o:Opn):List Opn×Int:=match findO o ops with
 | some k=>(ops,(ins+k:Nat))
 | none=>(ops++[o],(ins+ops.length:Nat))
mutual
def tapN (nm:List ByteArray) (ops:List Opn):Ex→List Opn×Int
 | .mk k r d s p _ _ l=>if k=2 then (ops,placeF s nm) else
  putF nm.length (tapL nm ops l).1 ⟨k,(tapL nm ops l).2.1,(tapL nm ops l).2.2,p,r,d⟩
def tapL (nm:List ByteArray) (ops:List Opn):List Ex→List Opn×Int×Int
 | []=>(ops,0,0)
 | x::t=>((tapM nm (tapN nm ops x).1 t).1,(tapN nm ops x).2,(tapM nm (tapN nm ops x).1 t).2)
def tapM (nm:List ByteArray) (ops:List Opn):List Ex→List Opn×Int
 | []=>(ops,0)
 | x::_=>(tapN nm ops x)
end
def tapeF (nm:List ByteArray):List Opn→List Ex→List Opn×List Int
 | ops,[]=>(ops,[])
 | ops,e::r=>((tapeF nm (tapN nm ops e).1 r).1,(tapN nm ops e).2::(tapeF nm (tapN nm ops e).1 r).2)
end
section
open Go.RowKit Go.Sort
abbrev fltV (c:Int) (s:ByteArray):Value:=.iface 131 (.agg #[.int .i64 c,.string s])
def EndF (f:Flt) (r:Ending):Prop:=match f with
 | none=>r=.returned (.tuple #[])
 | some x=>r=.panicked [{ v:=fltV x.1 x.2,recovered:=false }]
theorem need_yes (c:Int) (s:ByteArray) (w:World):Calls Tryz.prog 61 #[.bool true,.int .i64 c,.string s] w fun r w'=>r=.returned (.tuple #[])∧w'=w:=by
 go_enter Tryz.func61,Tryz.ntmps61
 go_wp2
 go_end0
 exact⟨rfl,rfl⟩
theorem need_no (c:Int) (s:ByteArray) (w:World):Calls Tryz.prog 61 #[.bool false,.int .i64 c,.string s] w fun r w'=>r=.panicked [{ v:=fltV c s,recovered:=false }]∧w'=w:=by
 go_enter Tryz.func61,Tryz.ntmps61
 go_wp2
 exact⟨rfl,rfl,rfl⟩
theorem rowS_take {w:World} {a:Option Addr} {ss:List ByteArray} (h:RowS w a ss) (k:Nat):RowS w a (ss.take k):=fun i s hs=>by
 rw[List.getElem?_take] at hs
 split at hs
 ·exact h i s hs
 ·cases hs
theorem onceF_step {ss:List ByteArray} {k:Nat} {s:ByteArray} (hs:ss[k]? = some s):onceF (ss.take k) (ss.drop k)=orF (needF (!isIn s (ss.take k)) 8 s) (onceF (ss.take (k+1)) (ss.drop (k+1))):=by
 have hd:ss.drop k=s::ss.drop (k+1):=by
  obtain⟨h,e⟩:=List.getElem?_eq_some_iff.1 hs
  rw[← e];exact List.drop_eq_getElem_cons h
 have ht:ss.take (k+1)=ss.take k++[s]:=by rw[List.take_add_one,hs];rfl
 rw[hd,ht];rfl
set_option maxHeartbeats 4000000 in
theorem once_any (a:Option Addr) (ss:List ByteArray) (c:Nat) (w:World) (hm:ss.length≤1100000) (hrow:RowS w a ss) (hcap:ss.length≤c):Calls Tryz.prog 64 #[.slice a ss.length c] w fun r w'=>EndF (onceF [] ss) r∧Kp w w':=by
 have HR:=hid hrow
 clear hrow
 go_enter Tryz.func64,Tryz.ntmps64
 go_wp2
 go_loopw [6] (fun x wr=>∃ k:Nat,k≤ss.length∧x=.int .i64 k∧onceF [] ss=onceF (ss.take k) (ss.drop k)∧Kp w wr) (fun x _=>ss.length-(intOf x).toNat)
 case atStart=>exact⟨0,by omega,rfl,rfl,.refl _⟩
 case round =>
 obtain⟨k,hk,rfl,hz,hkp⟩:=hrel
 by_cases hlt:k<ss.length
 rotate_left
 ·have hd:ss.drop k=[]:=List.drop_eq_nil_of_le (by omega)
  rw[hd] at hz
  have Hz:=hid hz
  have Hk:=hid hkp
  clear hz hkp hd
  go_wp2
  go_end0
  exact⟨by rw[Hz.out];exact rfl,Hk.out⟩
 obtain⟨s,hs⟩:∃ s,ss[k]? = some s:=⟨_,List.getElem?_eq_getElem hlt⟩
 obtain⟨b,o,rfl,h0⟩:=HR.out.kp hkp k s hs
 rw[onceF_step hs] at hz
 have Hk:=hid hkp
 have hlk:(ss.take k).length=k:=by rw[List.length_take];omega
 have HC:=hid fun W' (e:W'=wr) (c':Nat)=>conS_any (some ⟨b,o,none⟩) c' (ss.take k) s W' (e▸rowS_take (HR.out.kp hkp) k) (by omega)
 rw[hlk] at HC
 clear hkp hs hlk
 cases hq:inS (ss.take k) s with
 | true =>
  have hz2:onceF [] ss=some (8,s):=by rw[hz];unfold isIn;rw[hq];rfl
  rw[hq] at HC
  have Hz:=hid hz2
  clear hz hz2 hq
  go_wp2_with (first | (go_at_call 97;go_fit (HC.out _ rfl _);rintro r w1 ⟨rfl,rfl⟩) | (go_at_call 61;go_fit (need_no _ _ _);rintro r w2 ⟨rfl,rfl⟩) | fail)
  exact⟨rfl,by rw[Hz.out];exact rfl,Hk.out⟩
 | false =>
 have hz2:onceF [] ss=onceF (ss.take (k+1)) (ss.drop (k+1)):=by rw[hz];unfold isIn;rw[hq];rfl
 rw[hq] at HC
 have Hz:=hid hz2
 clear hz hz2 hq
 go_wp2_with (first | (go_at_call 97;go_fit (HC.out _ rfl _);rintro r w1 ⟨rfl,rfl⟩) | (go_at_call 61;go_fit (need_yes _ _ _);rintro r w2 ⟨rfl,rfl⟩) | fail)
 go_roundw
 case measure=>simp only[intOf];omega
 case rel=>exact⟨k+1,by omega,by go_num,Hz.out,Hk.out⟩
structure Lk where
 sa:Option Addr
 sc:Nat
 st:List ByteArray
 na:Option Addr
 nc:Nat
 all:List ByteArray
 ma:Option Addr
 mc:Nat
 md:List ByteArray
def Lk.cells (x:Lk):List Value:=[.slice x.sa x.st.length x.sc,.slice x.na x.all.length x.nc,.slice x.ma x.md.length x.mc]
def Lk.at (x:Lk) (w:World) (lb:Nat):Prop:=CellsV w lb 0 x.cells∧(RowS w x.sa x.st∧RowS w x.na x.all∧RowS w x.ma x.md)∧x.st.length≤1100000∧x.all.length≤1100000∧x.md.length≤1100000
theorem Lk.at_kp {x:Lk} {w w':World} {lb:Nat} (h:x.at w lb) (k:Kp w w'):x.at w' lb:=⟨h.1.kp k,⟨h.2.1.1.kp k,h.2.1.2.1.kp k,h.2.1.2.2.kp k⟩,h.2.2⟩
theorem unkF_step {all ss:List ByteArray} {k:Nat} {s:ByteArray} (hs:ss[k]? = some s):unknF all (ss.drop k)=orF (needF (isIn s all) 7 s) (unknF all (ss.drop (k+1))):=by
 have hd:ss.drop k=s::ss.drop (k+1):=by
  obtain⟨h,e⟩:=List.getElem?_eq_some_iff.1 hs
  rw[← e];exact List.drop_eq_getElem_cons h
 rw[hd];rfl
set_option maxHeartbeats 4000000 in
theorem lknown_any (x':Lk) (lb:Nat) (e:Ex) (B:Nat) (w:World) (hx:x'.at w lb) (hat:e.at w B) (hB:B≤w.heap.size) :
  Calls Tryz.prog 130 #[.pointer (some ⟨lb,0,none⟩),.agg #[.int .i64 e.kind,.int .i64 e.rn,.int .i64 e.rd,.string e.name,.int .i64 e.pw,.slice e.a e.l.length e.c]] w fun r w'=>EndF (knownF x'.all e) r∧Kp w w':=by
 have k1:Kp w (w.alloc (.cells #[.int .i64 e.kind,.int .i64 e.rn,.int .i64 e.rd,.string e.name,.int .i64 e.pw,.slice e.a e.l.length e.c] 71)):=(Kp.refl w).alloc _
 have hB1:BoxX (w.alloc (.cells #[.int .i64 e.kind,.int .i64 e.rn,.int .i64 e.rd,.string e.name,.int .i64 e.pw,.slice e.a e.l.length e.c] 71)) w.heap.size e:=BoxX.new w e _ rfl
 go_enter Tryz.func130,Tryz.ntmps130
 go_upto_region 1 with fail
 generalize w.alloc _=W at *
 have HX:=hid hx
 obtain⟨⟨q0,q1,q2,q3,q4,q5⟩,_⟩:=hB1
 have HN:=hid (tnames_any e B W (Ex.at_kp hat k1) (Nat.le_trans hB k1.size))
 clear hat hx
 go_wp2_with (go_at_call 95;go_fit HN.out;rintro r w2 ⟨v,rfl,hv,k2⟩;obtain⟨va,vc,rfl,hrow⟩:=rowS_own hv)
 clear q0 q1 q2 q3 q4 q5
 have KC:=hid (k1.trans k2)
 have hle:=namO_le e
 have hal:=HX.out.2.2.2.1
 have HN2:=hid hrow
 clear hrow hv k1 HN
 go_loopw [9] (fun x wr=>∃ k:Nat,k≤(namO e).length∧x=.int .i64 k∧knownF x'.all e=unknF x'.all ((namO e).drop k)∧Kp w wr∧Kp w2 wr) (fun x _=>(namO e).length-(intOf x).toNat)
 case atStart=>exact⟨0,by omega,rfl,rfl,KC.out,.refl _⟩
 case round =>
 obtain⟨k,hk,rfl,hz,hkp,hkp2⟩:=hrel
 have Hk:=hid hkp
 have Hk2:=hid hkp2
 by_cases hlt:k<(namO e).length
 rotate_left
 ·have hd:(namO e).drop k=[]:=List.drop_eq_nil_of_le (by omega)
  rw[hd] at hz
  have Hz:=hid hz
  clear hz hkp hkp2 hd
  go_wp2
  go_end0
  exact⟨by rw[Hz.out];exact rfl,Hk.out⟩
 obtain⟨s,hs⟩:∃ s,(namO e)[k]? = some s:=⟨_,List.getElem?_eq_getElem hlt⟩
 obtain⟨b,o,rfl,h0⟩:=HN2.out.kp hkp2 k s hs
 rw[unkF_step hs] at hz
 have hc1:wr.cell? ⟨lb,1,none⟩=some (.slice x'.na x'.all.length x'.nc):=(Lk.at_kp HX.out hkp).1 1 _ rfl
 have HC:=hid fun W' (h:W'=wr)=>conS_any x'.na x'.nc x'.all s W' (h▸(Lk.at_kp HX.out hkp).2.1.2.1) hal
 clear hkp hkp2 hs
 cases hq:inS x'.all s with
 | false =>
  have hz2:knownF x'.all e=some (7,s):=by rw[hz];unfold isIn;rw[hq];rfl
  rw[hq] at HC
  have Hz:=hid hz2
  clear hz hz2 hq
  go_wp2_with (first | (go_at_call 97;go_fit (HC.out _ rfl);rintro r w1 ⟨rfl,rfl⟩) | (go_at_call 61;go_fit (need_no _ _ _);rintro r w2 ⟨rfl,rfl⟩) | fail)
  exact⟨rfl,by rw[Hz.out];exact rfl,Hk.out⟩
 | true =>
 have hz2:knownF x'.all e=unknF x'.all ((namO e).drop (k+1)):=by rw[hz];unfold isIn;rw[hq];rfl
 rw[hq] at HC
 have Hz:=hid hz2
 clear hz hz2 hq
 go_wp2_with (first | (go_at_call 97;go_fit (HC.out _ rfl);rintro r w1 ⟨rfl,rfl⟩) | (go_at_call 61;go_fit (need_yes _ _ _);rintro r w2 ⟨rfl,rfl⟩) | fail)
 go_roundw
 case measure=>simp only[intOf];omega
 case rel=>exact⟨k+1,by omega,by go_num,Hz.out,Hk.out,Hk2.out⟩
theorem givenF_no1 {st all:List ByteArray} {q:Qe} {bf:List ByteArray} (h:inS st q.name=false):givenF st all q bf=some (7,q.name):=by unfold givenF isIn;rw[h];rfl
theorem givenF_no2 {st all:List ByteArray} {q:Qe} {bf:List ByteArray} (h:inS st q.name=true) (h2:inS bf q.name=true):givenF st all q bf=some (8,q.name):=by unfold givenF isIn;rw[h,h2];rfl
theorem givenF_yes {st all:List ByteArray} {q:Qe} {bf:List ByteArray} (h:inS st q.name=true) (h2:inS bf q.name=false):givenF st all q bf=knownF all q.e:=by unfold givenF isIn;rw[h,h2];rfl
set_option maxHeartbeats 4000000 in
theorem given_any (x:Lk) (lb:Nat) (q:Qe) (ba:Option Addr) (bc:Nat) (bf:List ByteArray) (B:Nat) (w:World) (hx:x.at w lb) (hat:q.e.at w B) (hB:B≤w.heap.size) (hb:RowS w ba bf) (hbl:bf.length≤1100000) :
  Calls Tryz.prog 129 #[.pointer (some ⟨lb,0,none⟩),.string q.name,.agg #[.int .i64 q.e.kind,.int .i64 q.e.rn,.int .i64 q.e.rd,.string q.e.name,.int .i64 q.e.pw,.slice q.e.a q.e.l.length q.e.c],.slice ba bf.length bc] w fun r w'=>EndF (givenF x.st x.all q bf) r∧Kp w w':=by
 have k1:Kp w (w.alloc (.cells #[.int .i64 q.e.kind,.int .i64 q.e.rn,.int .i64 q.e.rd,.string q.e.name,.int .i64 q.e.pw,.slice q.e.a q.e.l.length q.e.c] 71)):=(Kp.refl w).alloc _
 have hB1:BoxX (w.alloc (.cells #[.int .i64 q.e.kind,.int .i64 q.e.rn,.int .i64 q.e.rd,.string q.e.name,.int .i64 q.e.pw,.slice q.e.a q.e.l.length q.e.c] 71)) w.heap.size q.e:=BoxX.new w q.e _ rfl
 go_enter Tryz.func129,Tryz.ntmps129
 go_upto_region 1 with fail
 generalize w.alloc _=W at *
 have HX:=hid (Lk.at_kp hx k1)
 obtain⟨⟨q0,q1,q2,q3,q4,q5⟩,_⟩:=hB1
 have hc0:W.cell? ⟨lb,0,none⟩=some (.slice x.sa x.st.length x.sc):=HX.out.1 0 _ rfl
 have HC:=hid (conS_any x.sa x.sc x.st q.name W HX.out.2.1.1 HX.out.2.2.1)
 have HC2:=hid (conS_any ba bc bf q.name W (hb.kp k1) hbl)
 have HK:=hid (lknown_any x lb q.e B W HX.out (Ex.at_kp hat k1) (Nat.le_trans hB k1.size))
 have K1:=hid k1
 clear hx hat hb k1
 cases h1:inS x.st q.name with
 | false =>
  rw[h1] at HC
  have Hz:=hid (givenF_no1 (all:=x.all) (bf:=bf) h1)
  clear h1
  go_wp2_with (first | (go_at_call 97;go_fit HC.out;rintro r w1 ⟨rfl,rfl⟩) | (go_at_call 61;go_fit (need_no _ _ _);rintro r w2 ⟨rfl,rfl⟩) | fail)
  exact⟨rfl,by rw[Hz.out];exact rfl,K1.out⟩
 | true =>
 rw[h1] at HC
 cases h2:inS bf q.name with
 | true =>
  rw[h2] at HC2
  have Hz:=hid (givenF_no2 (all:=x.all) h1 h2)
  clear h1 h2
  go_wp2_with (first | (go_at_call 97;go_fit HC.out;rintro r w1 ⟨rfl,rfl⟩) | (go_at_call 97;go_fit HC2.out;rintro r w1 ⟨rfl,rfl⟩) | (go_at_call 61;go_fit (need_no _ _ _);rintro r w2 ⟨rfl,rfl⟩) | (go_at_call 61;go_fit (need_yes _ _ _);rintro r w2 ⟨rfl,rfl⟩) | fail)
  exact⟨rfl,by rw[Hz.out];exact rfl,K1.out⟩
 | false =>
 rw[h2] at HC2
 have Hz:=hid (givenF_yes (all:=x.all) h1 h2)
 clear h1 h2
 cases hf:knownF x.all q.e with
 | some f =>
  rw[hf] at HK Hz
  clear hf
  go_wp2_with (first | (go_at_call 97;go_fit HC.out;rintro r w1 ⟨rfl,rfl⟩) | (go_at_call 97;go_fit HC2.out;rintro r w1 ⟨rfl,rfl⟩) | (go_at_call 61;go_fit (need_yes _ _ _);rintro r w2 ⟨rfl,rfl⟩) | (go_at_call 130;go_fit HK.out;rintro r w3 ⟨hr,k3⟩;obtain rfl:r=.panicked [{ v:=fltV f.1 f.2,recovered:=false }]:=hr) | fail)
  exact⟨rfl,by rw[Hz.out];exact rfl,K1.out.trans k3⟩
 | none =>
 rw[hf] at HK Hz
 clear hf
 go_wp2_with (first | (go_at_call 97;go_fit HC.out;rintro r w1 ⟨rfl,rfl⟩) | (go_at_call 97;go_fit HC2.out;rintro r w1 ⟨rfl,rfl⟩) | (go_at_call 61;go_fit (need_yes _ _ _);rintro r w2 ⟨rfl,rfl⟩) | (go_at_call 130;go_fit HK.out;rintro r w3 ⟨hr,k3⟩;obtain rfl:r=.returned (.tuple #[]):=hr) | fail)
 go_end0
 exact⟨by rw[Hz.out];exact rfl,K1.out.trans k3⟩
end
end Go.Proofs.YteidgoldnllabaaGreatDoor
