/-
  Plain: the intervals of ranges: their ends stand in order; the systems that are made are valid.
-/
import Derived.Test.YteidgoldnllabaaGreatDoorMLawQa
import Derived.Test.YteidgoldnllabaaGreatDoorMVsyN
import Derived.Test.YteidgoldnllabaaGreatDoorMFndN
import Derived.Test.YteidgoldnllabaaGreatDoorMEqoN
import Derived.Test.YteidgoldnllabaaGreatDoorMSysN
namespace Go.Proofs.YteidgoldnllabaaGreatDoor
open Go.RowKit
open Lib (hid)
theorem intD_small {n:Int} (hn:-1073741824≤n∧n≤1073741824):(intD n).ok :=
 (intD_isP (p := 40) (by decide) (by decide) (by have : (2 : Nat) ^ 40 = 1099511627776 := by decide
                                                 omega)).1
theorem div_small {n d:Int} (hn:-1073741824≤n∧n≤1073741824) (hd:1≤d):ab ((n:Rat)/(d:Rat))≤e2 16000:=by
 have h1:(1:Rat)≤(d:Rat):=by have:=int_le_rat.2 hd;simpa using this
 have h2:e2 30≤e2 16000:=e2_le (by decide)
 have h3:e2 30=((1073741824:Int):Rat):=by rw[show (30:Int)=((30:Nat):Int) from rfl,e2_int];rfl
 have h4:=int_le_rat.2 hn.1
 have h5:=int_le_rat.2 hn.2
 rw[Rat.intCast_neg] at h4
 have hi:(0:Rat)<(d:Rat)⁻¹:=Rat.inv_pos.2 (by grind)
 have hm:(d:Rat)*(d:Rat)⁻¹=1:=Rat.mul_inv_cancel _ (by grind)
 rw[Rat.div_def]
 generalize (d:Rat)⁻¹=i at *
 generalize (d:Rat)=D at *
 generalize (n:Rat)=M at *
 have hi1:i≤1:=by
  have:=Rat.mul_le_mul_of_nonneg_right h1 (Rat.le_of_lt hi)
  grind
 rw[ab_le]
 rw[← h3] at h4 h5
 generalize e2 30=E at *
 generalize e2 16000=F at *
 have hE:0≤E:=by grind
 have a1:=Rat.mul_le_mul_of_nonneg_right h5 (Rat.le_of_lt hi)
 have a2:=Rat.mul_le_mul_of_nonneg_right h4 (Rat.le_of_lt hi)
 have a3:=Rat.mul_le_mul_of_nonneg_left hi1 hE
 constructor <;> grind
theorem enc_q {n d:Int} {p:Nat} (hv:ratB n d=true) (h8:8≤p) (h5:p≤512):∃ lo hi,encR n d p=(lo,hi,false)∧qv lo≤(n:Rat)/(d:Rat)∧(n:Rat)/(d:Rat)≤qv hi:=by
 obtain⟨d1,d2,n1,n2⟩:=ratB_parts hv
 have hz:qv (intD d)≠0:=by
  rw[qv_int]
  have:=int_le_rat.2 d1
  intro h
  rw[h] at this
  simp at this
  grind
 obtain⟨r1,e1,q1⟩:=dvP_q (intD_small ⟨n1,n2⟩) (intD_small ⟨by omega,d2⟩) h8 h5 false hz
 obtain⟨r2,e2',q2⟩:=dvP_q (intD_small ⟨n1,n2⟩) (intD_small ⟨by omega,d2⟩) h8 h5 true hz
 rw[qv_int,qv_int] at q1 q2
 have hb:=div_small ⟨n1,n2⟩ d1
 obtain⟨a1,b1⟩:=rndE_rdq q1
 obtain⟨a2,b2⟩:=rndE_rdq q2
 refine⟨(dvP (intD n) (intD d) p false).1,(dvP (intD n) (intD d) p true).1,?_,?_,?_⟩
 ·unfold encR
  rw[if_pos ⟨by rw[e1];exact (b1 hb).1,by rw[e2'];exact (b2 hb).1⟩]
 ·rw[e1];exact (a1 (b1 hb).1).1 rfl
 rw[e2'];exact (a2 (b2 hb).1).2 rfl
theorem rat_le {a b c d:Int} (hb:1≤b) (hd:1≤d) (h:a*d≤c*b):(a:Rat)/(b:Rat)≤(c:Rat)/(d:Rat):=by
 have h1:(1:Rat)≤(b:Rat):=by have:=int_le_rat.2 hb;simpa using this
 have h2:(1:Rat)≤(d:Rat):=by have:=int_le_rat.2 hd;simpa using this
 have h3:=int_le_rat.2 h
 rw[Rat.intCast_mul,Rat.intCast_mul] at h3
 have i1:(0:Rat)<(b:Rat)⁻¹:=Rat.inv_pos.2 (by grind)
 have i2:(0:Rat)<(d:Rat)⁻¹:=Rat.inv_pos.2 (by grind)
 have m1:(b:Rat)*(b:Rat)⁻¹=1:=Rat.mul_inv_cancel _ (by grind)
 have m2:(d:Rat)*(d:Rat)⁻¹=1:=Rat.mul_inv_cancel _ (by grind)
 rw[Rat.div_def,Rat.div_def]
 generalize (b:Rat)⁻¹=x at *
 generalize (d:Rat)⁻¹=y at *
 have h4:=Rat.mul_le_mul_of_nonneg_right h3 (Rat.le_of_lt (Rat.mul_pos i1 i2))
 have e1:(a:Rat)*x=(a:Rat)*(d:Rat)*(x*y):=by
  rw[show (a:Rat)*(d:Rat)*(x*y)=(a:Rat)*x*((d:Rat)*y) by grind,m2,Rat.mul_one]
 have e2':(c:Rat)*y=(c:Rat)*(b:Rat)*(x*y):=by
  rw[show (c:Rat)*(b:Rat)*(x*y)=(c:Rat)*y*((b:Rat)*x) by grind,m1,Rat.mul_one]
 rw[e1,e2']
 exact h4
theorem rng_le {p:Nat} {e:De} (hv:declB e=true) (ho:ratC e.ln e.ld e.hn e.hd≤0) (h8:8≤p) (h5:p≤512):(rngV p e).1.iv≤(rngV p e).2.1.iv:=by
 obtain⟨r1,r2⟩:=declB_rat hv
 obtain⟨lo1,hi1,e1,a1,b1⟩:=enc_q r1 h8 h5
 obtain⟨lo2,hi2,e2',a2,b2⟩:=enc_q r2 h8 h5
 unfold rngV
 rw[e1,e2']
 show lo1.iv≤hi2.iv
 have hle:e.ln*e.hd≤e.hn*e.ld:=by
  unfold ratC at ho
  rw[if_pos ⟨r1,r2⟩] at ho
  split at ho
  ·omega
  ·split at ho
   ·exact absurd ho (by decide)
   ·omega
 have:=rat_le (ratB_parts r1).1 (ratB_parts r2).1 hle
 rw[← qv_le]
 grind
section
theorem rngF_none:∀ {l:List De},rngF l=none→∀ d∈l,ratC d.ln d.ld d.hn d.hd≤0
 | [],_,d,hd=>by cases hd
 | x::r,h,d,hd=>by
  rw[rngF] at h
  obtain⟨h1,h2⟩:=orF_none_iff.1 h
  rcases List.mem_cons.1 hd with rfl | hd
  ·exact of_decide_eq_true (needF_none h1)
  ·exact rngF_none h2 d hd
theorem okF_rng {p:Pr} (h:okF p=true):∀ d∈p.ss++p.ps,ratC d.ln d.ld d.hn d.hd≤0:=by
 have h1:=okF_none h
 unfold checkF at h1
 obtain⟨_,h1⟩:=orF_none_iff.1 h1
 obtain⟨_,h1⟩:=orF_none_iff.1 h1
 obtain⟨_,h1⟩:=orF_none_iff.1 h1
 obtain⟨h1,_⟩:=orF_none_iff.1 h1
 exact rngF_none h1
theorem opsB_inv:∀ (ops:List Opn) (n:Nat),(∀ (i:Nat) (o:Opn),ops[i]? = some o→opB o ((n+i:Nat):Int)=true)→opsB (n:Int) ops=true
 | [],_,_=>rfl
 | o::r,n,h=>by
  rw[opsB,show opB o (n:Int)=true from h 0 o rfl,Bool.true_and]
  exact opsB_inv r (n+1) fun i o' hi=>by
   have:=h (i+1) o' hi
   rw[show n+1+i=n+(i+1) by omega]
   exact this
theorem allN_len (p:Pr):(allN p).length=p.ss.length+p.ps.length:=by
 unfold allN;rw[List.length_append,List.length_map,List.length_map]
theorem shr_sys {x:Sy} {p:Pr} {m:Mo} (ho:okF p=true) (hm:m∈p.ms) (h5:¬ 200<(tapeF (allN p) [] (rightsF p m)).1.length)
  (hx:x.val=(((allN p).length:Int),(tapeF (allN p) [] (rightsF p m)).1,(tapeF (allN p) [] (rightsF p m)).2,(p.ss.length:Int),p.ps.map (rngV 60))) (hv:∀ z∈x.ps,z.lo.vl=true∧z.hi.vl=true):sysB x=true:=by
 obtain⟨⟨hI,hO,_⟩,hl⟩:=mode_tape ho hm
 have hB:=okF_prob ho
 have hs:=probB_ss hB
 have ha:=allN_len p
 have e1:x.ins=((allN p).length:Int):=congrArg Prod.fst hx
 have e2:x.ops=(tapeF (allN p) [] (rightsF p m)).1:=congrArg (fun q=>q.2.1) hx
 have e3:x.outs=(tapeF (allN p) [] (rightsF p m)).2:=congrArg (fun q=>q.2.2.1) hx
 have e4:x.st=(p.ss.length:Int):=congrArg (fun q=>q.2.2.2.1) hx
 have e5:x.ps.map valI=p.ps.map (rngV 60):=congrArg (fun q=>q.2.2.2.2) hx
 have e6:x.ps.length=p.ps.length:=by have:=congrArg List.length e5;rwa [List.length_map,List.length_map] at this
 rw[← e2] at hI hO h5
 rw[← e3] at hO hl
 have c1:opsB x.ins x.ops=true:=by rw[e1];exact opsB_inv _ _ hI.fm
 have c2:x.outs.any (outZ (x.ins+x.ops.length))=false:=List.any_eq_false.2 fun k hk=>by
  have:=hO k hk
  unfold outZ
  rw[decide_eq_false (by omega)]
  decide
 have c3:(x.ps.any fun z=>!parB z)=false:=List.any_eq_false.2 fun z hz=>by
  have h1:valI z∈p.ps.map (rngV 60):=e5▸List.mem_map_of_mem hz
  obtain⟨d,hd,h2⟩:=List.mem_map.1 h1
  have h3:=rng_le (p:=60) (probB_de hB d (List.mem_append_right _ hd)) (okF_rng ho d (List.mem_append_right _ hd)) (by omega) (by omega)
  have a1:z.all=false:=(congrArg (fun q=>q.2.2) h2).symm
  have a2:(rngV 60 d).1=z.lo.dy:=congrArg Prod.fst h2
  have a3:(rngV 60 d).2.1=z.hi.dy:=congrArg (fun q=>q.2.1) h2
  rw[a2,a3] at h3
  have h4:z.lo.iv≤z.hi.iv:=h3
  have h5:¬ 0<cmpZ z.lo.iv z.hi.iv:=fun h=>by have:=cmpZ_gt.1 h;omega
  unfold parB
  rw[a1,(hv z hz).1,(hv z hz).2,decide_eq_true (by omega)]
  decide
 rw[sysB_eq,c1,c2,c3,decide_eq_true (by omega),decide_eq_true (by omega)]
 rfl
end
section
theorem sys_cases (p:Pr) (s:ByteArray):(sysE p s 60≠0∧sysV p s 60=Sy.zero.val)∨(sysE p s 60=0∧okF p=true∧∃ m,m∈p.ms∧¬ 200<(tapeF (allN p) [] (rightsF p m)).1.length ∧
  sysV p s 60=(((allN p).length:Int),(tapeF (allN p) [] (rightsF p m)).1,(tapeF (allN p) [] (rightsF p m)).2,(p.ss.length:Int),p.ps.map (rngV 60))):=by
 have hp:preB 60=true:=by decide
 unfold sysE sysV
 cases hm:modeO p s with
 | none =>
  refine .inl ⟨?_,rfl⟩
  rw[hp]
  by_cases h:okF p=false
  ·rw[if_pos h];decide
  rw[if_neg h];simp
 | some m =>
 obtain⟨ho,hmem⟩:=modeO_mem hm
 rw[hp,ho]
 by_cases h:200<(tapeF (allN p) [] (rightsF p m)).1.length
 ·refine .inl ⟨?_,?_⟩
  ·simp only[Bool.true_eq_false,if_false];rw[if_pos h];decide
  simp only;rw[if_neg (fun q=>q.2 h)]
 refine .inr ⟨?_,rfl,m,hmem,h,?_⟩
 ·simp only[Bool.true_eq_false,if_false];rw[if_neg h]
 simp only;rw[if_pos ⟨trivial,h⟩];rfl
def marks1 (o:Opn):List Int:=if o.k=1 then [] else if 3≤o.k∧o.k≤6 then [o.b,o.a] else [o.a]
theorem uses_mark {o:Opn} {v:Int} (h:Uses o v):v∈marks1 o:=by
 unfold marks1
 rcases h with ⟨h1,rfl⟩ | ⟨h1,rfl⟩
 ·rw[if_neg h1]
  split <;> simp
 rw[if_neg (by omega),if_pos h1]
 simp
end
section
open Go.RowKit Go.Sort Go.Maps
def SetI (w:World) (b n:Nat) (S:List Int):Prop :=
 ∃ D:DataW Value,w.ownsMap Tryz.prog 3 heldR b n D∧IsMap D∧∀ k:Int,Maps.has D (.int .i64 k)=decide (k∈S)∧(k∈S→∀ z,D.atKey (.int .i64 k) z=.held (.bool true))
theorem SetI.made (w:World):SetI (w.alloc (.map #[] 0)) w.heap.size 0 [] :=
 ⟨.map [],World.ownsMap_made _ _ _ _,isMap_empty,fun k=>⟨rfl,fun h=>by cases h⟩⟩
theorem SetI.kp {w w':World} {b n:Nat} {S:List Int} (h:SetI w b n S) (k:Kp w w'):SetI w' b n S:=by
 obtain⟨D,⟨es,clock,hb,r⟩,h2⟩:=h
 exact⟨D,⟨es,clock,k.heap hb,r⟩,h2⟩
theorem SetI.set {w:World} {b n g i:Nat} {S:List Int} (h:SetI w b n S) (hg:b≠g) (v:Value):SetI (w.setCell ⟨g,i,none⟩ v) b n S:=by
 obtain⟨D,h1,h2⟩:=h
 exact⟨D,h1.setCell hg v,h2⟩
theorem zeroBool (w:World):(zeroValue 4).run Tryz.prog w=.ok (.bool false) w:=by kernel_rfl
theorem intLaw:Keyed Tryz.prog 3:=int_keyed Tryz.underlying3
theorem keyI {k:Int} (hk:(Lit.int .i64 k).wf=true):keyOf Tryz.prog 3 (.int .i64 k)=some (.int .i64 k):=keyOf_int_mk Tryz.underlying3 hk
theorem litI_ne {s t:Int} (h:t≠s):(Lit.int .i64 t)≠.int .i64 s:=fun e=>h (by injection e)
theorem SetI.look {w:World} {b n:Nat} {S:List Int} (h:SetI w b n S) {k:Int} (hk:(Lit.int .i64 k).wf=true):(Instr.lookup 118 (.map (some b)) (.int .i64 k) false).run Tryz.prog w=.ok (.bool (decide (k∈S))) w:=by
 obtain⟨D,⟨es,clock,hb,F,hs,rfl⟩,hI,h2⟩:=h
 obtain⟨h3,h4⟩:=h2 k
 rcases Maps.fit_look false intLaw Tryz.underlying118 (zeroBool w) hb F (keyI hk) with ⟨hrun,_,hat⟩ | ⟨e0,y,_,_,hrun,hR,hat,_⟩
 ·rw[Maps.has_false_of_atKey hat] at h3
  rw[hrun,← h3]
  simp only[Bool.false_eq_true,if_false]
 rw[Maps.has_true_of_atKey hat] at h3
 have hm:k∈S:=of_decide_eq_true h3.symm
 have h5:=h4 hm (.held (.bool true))
 rw[hat] at h5
 have h6:(DataW.held e0.val:DataW Value)=.held (.bool true):=(congrArg Prod.fst (Option.some.inj hR)).trans h5
 have h5:e0.val=.bool true:=DataW.held.inj h6
 rw[hrun,← h3,h5]
 simp only[Bool.false_eq_true,if_false]
theorem SetI.put {w:World} {b n:Nat} {S:List Int} (h:SetI w b n S) (hn:n<maxLen) {k:Int} (hk:(Lit.int .i64 k).wf=true) :
  ∃ w',(Instr.mapUpdate 118 (.map (some b)) (.int .i64 k) (.bool true)).run Tryz.prog w=.ok () w'∧SetI w' b (n+1) (k::S)∧Turn b w w':=by
 obtain⟨D,h1,hI,h2⟩:=h
 obtain⟨w',hrun,r1,r2⟩:=h1.store intLaw Tryz.underlying118 hn (keyI hk) (val:=.bool true) rfl
 have hl:WideAt.IsKeyLit (.int .i64 k):=intLaw.key (keyI hk)
 refine⟨w',hrun,⟨_,r1,hI.put _ _,fun j=>?_⟩,turn_of r2⟩
 by_cases e:j=k
 ·subst e
  exact⟨by rw[has_put_same hI hl];simp,fun _ z=>atKey_put_same hI hl _ z⟩
 obtain⟨h3,h4⟩:=h2 j
 refine⟨(has_put_other (litI_ne e) _).trans (h3.trans (decide_eq_decide.2 (by simp[e]))),fun hm z=>(atKey_put_other (litI_ne e) _ z).trans (h4 ?_ z)⟩
 rcases List.mem_cons.1 hm with h | h
 ·exact absurd h e
 exact h
theorem wpList_put_set {w:World} {ops:Array Oper} {rest:List Oper} {o:Oper} {a:Act} {Q:Exit→Act→World→Prop} (hg:o.guard=none) (m x v:Operand) (hop:o.op=Op.mapUpdate 118 m x v)
  (b n:Nat) (S:List Int) (hm:a.eval m=.map (some b)) (hown:SetI w b n S) (hn:n<maxLen) (k:Int) (hx:a.eval x=.int .i64 k) (hk:(Lit.int .i64 k).wf=true) (hv:a.eval v=.bool true)
  (hK:∀ w',SetI w' b (n+1) (k::S)→Turn b w w'→wpList Tryz.prog ops Q rest (a.put o.dst undef) w'):wpList Tryz.prog ops Q (o::rest) a w:=by
 refine wpList_plain hg fun K' hK'=>?_
 obtain⟨w',hrun,r1,r2⟩:=hown.put hn hk
 unfold Oper.wp
 simp[execOp,hop,hm,hx,hv,hrun,Result.andThen]
 exact hK' _ _ (hK w' r1 r2)
theorem wpList_look_set {w:World} {ops:Array Oper} {rest:List Oper} {o:Oper} {a:Act} {Q:Exit→Act→World→Prop} (hg:o.guard=none) (m x:Operand) (hop:o.op=Op.lookup 118 m x false)
  (b n:Nat) (S:List Int) (hm:a.eval m=.map (some b)) (hown:SetI w b n S) (k:Int) (hx:a.eval x=.int .i64 k) (hk:(Lit.int .i64 k).wf=true) (r:Bool) (hr:decide (k∈S)=r)
  (hK:wpList Tryz.prog ops Q rest (a.put o.dst (.bool r)) w):wpList Tryz.prog ops Q (o::rest) a w:=by
 refine wpList_plain hg fun K' hK'=>?_
 have hrun:=hown.look hk
 rw[hr] at hrun
 unfold Oper.wp
 simp[execOp,hop,hm,hx,hrun,Result.andThen]
 exact hK' _ _ hK
end
section
open Go.RowKit Go.Sort
set_option maxHeartbeats 8000000 in
set_option maxRecDepth 20000 in
theorem idxO_not (a:Option Addr) (zs:List Opn) (c:Nat) (y:Opn) (w:World) (B:Nat) (hm:zs.length≤1100000) (hr:RowV Opn.cells 6 w B a zs) (hy:y ∉ zs) :
  Calls Tryz.prog 118 #[.slice a zs.length c,opV y] w fun e w'=>e=.returned (.int .i64 (-1))∧Kp w w':=by
 have k1:Kp w (w.alloc (.cells #[.int .i64 y.k,.int .i64 y.a,.int .i64 y.b,.int .i64 y.n,.int .i64 y.cn,.int .i64 y.cd] 120)):=(Kp.refl w).alloc _
 have h0:BoxV (w.alloc (.cells #[.int .i64 y.k,.int .i64 y.a,.int .i64 y.b,.int .i64 y.n,.int .i64 y.cn,.int .i64 y.cd] 120)) w.heap.size y.cells:=BoxV.new w y.cells _ _ rfl
 have HR:=hid (hr.kp k1)
 have HY:=hid hy
 unfold opV
 go_enter Tryz.func118,Tryz.ntmps118
 go_upto_region 1 with fail
 generalize w.alloc _=W at *
 have H0:=hid h0
 have K1:=hid k1
 clear h0 k1 hr hy
 go_wp2
 go_loopw [8] (fun x wr=>∃ k:Nat,k≤zs.length∧x=.int .i64 k∧Kp W wr) (fun x _=>zs.length-(intOf x).toNat)
 case atStart=>exact⟨0,by omega,rfl,.refl _⟩
 case round =>
 obtain⟨k,hk,rfl,hkp⟩:=hrel
 have Hk:=hid hkp
 by_cases hlt:k<zs.length
 rotate_left
 ·clear hkp
  go_wp2
  go_ret
  exact⟨rfl,K1.out.trans Hk.out⟩
 obtain⟨x,hs⟩:∃ x,zs[k]? = some x:=⟨_,List.getElem?_eq_getElem hlt⟩
 obtain⟨b,o,rfl,_,j0⟩:=HR.out.kp hkp k x hs
 have hq:=H0.out.kp hkp
 have q0:=hq.cell 0 rfl;have q1:=hq.cell 1 rfl;have q2:=hq.cell 2 rfl;have q3:=hq.cell 3 rfl;have q4:=hq.cell 4 rfl;have q5:=hq.cell 5 rfl
 have s0:wr.cell? ⟨b,o+k*6,none⟩=some (.int .i64 x.k):=j0 0 _ rfl
 have s1:wr.cell? ⟨b,o+k*6+1,none⟩=some (.int .i64 x.a):=j0 1 _ rfl
 have s2:wr.cell? ⟨b,o+k*6+2,none⟩=some (.int .i64 x.b):=j0 2 _ rfl
 have s3:wr.cell? ⟨b,o+k*6+3,none⟩=some (.int .i64 x.n):=j0 3 _ rfl
 have s4:wr.cell? ⟨b,o+k*6+4,none⟩=some (.int .i64 x.cn):=j0 4 _ rfl
 have s5:wr.cell? ⟨b,o+k*6+5,none⟩=some (.int .i64 x.cd):=j0 5 _ rfl
 have Hq:=hid (show ¬ y=x from fun e=>HY.out (e▸List.mem_of_getElem? hs))
 clear hs hkp hq j0
 rcases opn_ne Hq.out with e1 | ⟨e1,e2 | ⟨e2,e3 | ⟨e3,e4 | ⟨e4,e5 | ⟨e5,e6⟩⟩⟩⟩⟩
 ·have f:(y.k==x.k)=false:=beq_eq_false_iff_ne.2 e1
  clear e1
  go_upto_region 4 with fail
  go_quiet (fail)
  go_wp2
  go_roundw
  case measure=>simp[intOf];omega
  case rel=>exact⟨k+1,by omega,by go_num,Hk.out.drewN _⟩
 ·rw[← e1] at s0;have f:(y.a==x.a)=false:=beq_eq_false_iff_ne.2 e2
  clear e1 e2
  go_upto_region 4 with fail
  go_quiet (fail)
  go_wp2
  go_roundw
  case measure=>simp[intOf];omega
  case rel=>exact⟨k+1,by omega,by go_num,Hk.out.drewN _⟩
 ·rw[← e1] at s0;rw[← e2] at s1;have f:(y.b==x.b)=false:=beq_eq_false_iff_ne.2 e3
  clear e1 e2 e3
  go_upto_region 4 with fail
  go_quiet (fail)
  go_wp2
  go_roundw
  case measure=>simp[intOf];omega
  case rel=>exact⟨k+1,by omega,by go_num,Hk.out.drewN _⟩
 ·rw[← e1] at s0;rw[← e2] at s1;rw[← e3] at s2;have f:(y.n==x.n)=false:=beq_eq_false_iff_ne.2 e4
  clear e1 e2 e3 e4
  go_upto_region 4 with fail
  go_quiet (fail)
  go_wp2
  go_roundw
  case measure=>simp[intOf];omega
  case rel=>exact⟨k+1,by omega,by go_num,Hk.out.drewN _⟩
 ·rw[← e1] at s0;rw[← e2] at s1;rw[← e3] at s2;rw[← e4] at s3;have f:(y.cn==x.cn)=false:=beq_eq_false_iff_ne.2 e5
  clear e1 e2 e3 e4 e5
  go_upto_region 4 with fail
  go_quiet (fail)
  go_wp2
  go_roundw
  case measure=>simp[intOf];omega
  case rel=>exact⟨k+1,by omega,by go_num,Hk.out.drewN _⟩
 rw[← e1] at s0;rw[← e2] at s1;rw[← e3] at s2;rw[← e4] at s3;rw[← e5] at s4;have f:(y.cd==x.cd)=false:=beq_eq_false_iff_ne.2 e6
 clear e1 e2 e3 e4 e5 e6
 go_upto_region 4 with fail
 go_quiet (fail)
 go_wp2
 go_roundw
 case measure=>simp[intOf];omega
 case rel=>exact⟨k+1,by omega,by go_num,Hk.out.drewN _⟩
set_option maxHeartbeats 1000000 in
theorem conO_not (a:Option Addr) (zs:List Opn) (c:Nat) (y:Opn) (w:World) (B:Nat) (hm:zs.length≤1100000) (hr:RowV Opn.cells 6 w B a zs) (hy:y ∉ zs) :
  Calls Tryz.prog 53 #[.slice a zs.length c,opV y] w fun e w'=>e=.returned (.bool false)∧Kp w w':=by
 have k1:Kp w (w.alloc (.cells #[.int .i64 y.k,.int .i64 y.a,.int .i64 y.b,.int .i64 y.n,.int .i64 y.cn,.int .i64 y.cd] 120)):=(Kp.refl w).alloc _
 have h0:BoxV (w.alloc (.cells #[.int .i64 y.k,.int .i64 y.a,.int .i64 y.b,.int .i64 y.n,.int .i64 y.cn,.int .i64 y.cd] 120)) w.heap.size y.cells:=BoxV.new w y.cells _ _ rfl
 have HC:=hid (idxO_not a zs c y _ B hm (hr.kp k1) hy)
 unfold opV at HC ⊢
 go_enter Tryz.func53,Tryz.ntmps53
 go_upto_region 1 with fail
 generalize w.alloc _=W at *
 have q0:=h0.cell 0 rfl;have q1:=h0.cell 1 rfl;have q2:=h0.cell 2 rfl;have q3:=h0.cell 3 rfl;have q4:=h0.cell 4 rfl;have q5:=h0.cell 5 rfl
 clear h0 hr hy
 go_wp2_with (first | (go_at_call 118;go_fit HC.out;rintro r w2 ⟨rfl,k2⟩) | fail)
 go_ret
 exact⟨rfl,k1.trans k2⟩
end
section
open Go.RowKit Go.Sort
theorem opB_cases {o:Opn} {bf:Int} (h:opB o bf=true):o.k=1∨((3≤o.k∧o.k≤6)∧(0≤o.a∧o.a<bf)∧(0≤o.b∧o.b<bf))∨(7≤o.k∧(0≤o.a∧o.a<bf)∧o.b=0):=by
 unfold opB at h
 split at h
 ·rename_i hk;exact .inl hk
 split at h
 ·rename_i hk
  have:=of_decide_eq_true h
  exact .inr (.inl ⟨hk,this.2.1,this.2.2.1⟩)
 split at h
 ·rename_i hk
  have:=of_decide_eq_true h
  exact .inr (.inr ⟨by omega,this.2.1,this.2.2.1⟩)
 split at h
 ·rename_i hk
  have:=of_decide_eq_true h
  exact .inr (.inr ⟨by omega,this.2.1,this.2.2.1⟩)
 cases h
theorem marks_one {o:Opn} (h:o.k=1):marks1 o=[]:=by unfold marks1;rw[if_pos h]
theorem marks_two {o:Opn} (h:3≤o.k∧o.k≤6):marks1 o=[o.b,o.a]:=by unfold marks1;rw[if_neg (by omega),if_pos h]
theorem marks_snd {o:Opn} (h:7≤o.k):marks1 o=[o.a]:=by unfold marks1;rw[if_neg (by omega),if_neg (by omega)]
structure ShrF (x:Sy):Prop where
 ins:0≤x.ins∧x.ins≤8
 lo:x.ops.length≤200
 lu:x.outs.length≤8
 lp:x.ps.length≤8
 nd:x.ops.Nodup
 fm:∀ (i:Nat) (o:Opn),x.ops[i]? = some o→opB o (x.ins+i)=true
 bd:∀ k∈x.outs,0≤k∧k<x.ins+x.ops.length
 us:∀ i:Nat,i<x.ops.length→x.ins+i∈x.outs∨∃ o∈x.ops,x.ins+i∈marks1 o
 sy:sysB x=true
theorem shr_facts {x:Sy} {p:Pr} {m:Mo} (ho:okF p=true) (hm:m∈p.ms) (h5:¬ 200<(tapeF (allN p) [] (rightsF p m)).1.length)
  (hx:x.val=(((allN p).length:Int),(tapeF (allN p) [] (rightsF p m)).1,(tapeF (allN p) [] (rightsF p m)).2,(p.ss.length:Int),p.ps.map (rngV 60))) (hv:∀ z∈x.ps,z.lo.vl=true∧z.hi.vl=true):ShrF x:=by
 have hs:=shr_sys ho hm h5 hx hv
 obtain⟨⟨hI,hO,hU⟩,hl⟩:=mode_tape ho hm
 have hB:=okF_prob ho
 have hss:=probB_ss hB
 have ha:=allN_len p
 have e1:x.ins=((allN p).length:Int):=congrArg Prod.fst hx
 have e2:x.ops=(tapeF (allN p) [] (rightsF p m)).1:=congrArg (fun q=>q.2.1) hx
 have e3:x.outs=(tapeF (allN p) [] (rightsF p m)).2:=congrArg (fun q=>q.2.2.1) hx
 have e5:x.ps.map valI=p.ps.map (rngV 60):=congrArg (fun q=>q.2.2.2.2) hx
 have e6:x.ps.length=p.ps.length:=by have:=congrArg List.length e5;rwa [List.length_map,List.length_map] at this
 rw[← e2] at hI hO h5 hU
 rw[← e3] at hO hl hU
 refine⟨by omega,by omega,by omega,by omega,hI.nd,fun i o hi=>?_,fun k hk=>?_,fun i hi=>?_,hs⟩
 ·have:=hI.fm i o hi
  rw[e1];rwa [Int.natCast_add] at this
 ·have:=hO k hk
  omega
 rw[e1,← Int.natCast_add]
 rcases hU i hi with h | ⟨o,h,hu⟩
 ·exact .inl h
 exact .inr ⟨o,h,uses_mark hu⟩
def SysO (w:World) (_p:Pr) (_s:ByteArray) (r:Ending) (w':World):Prop :=
 ∃ (x:Sy) (E:Int),r=.returned (.tuple #[.agg #[.int .i64 x.ins,.slice x.oa x.ops.length x.oc,.slice x.ua x.outs.length x.uc,.int .i64 x.st,.slice x.pa x.ps.length x.pc],.int .i64 E])∧x.at w'∧x.ops.length≤x.oc∧((E≠0∧x.ops=[]∧x.st=0)∨(E=0∧ShrF x))∧Kp w w'
theorem sysO_of {w w':World} {p:Pr} {s:ByteArray} {r:Ending} (h:SysOut w p s 60 r w'):SysO w p s r w':=by
 obtain⟨x,h1,h2,h3,h4,h5⟩:=h
 refine⟨x,_,h1,h2,h5,?_,h4⟩
 rcases sys_cases p s with ⟨e,hv⟩ | ⟨e,ho,m,hm,h5,hv⟩
 ·rw[hv] at h3
  exact .inl ⟨e,congrArg (fun q=>q.2.1) h3,congrArg (fun q=>q.2.2.2.1) h3⟩
 rw[hv] at h3
 exact .inr ⟨e,shr_facts ho hm h5 h3 h2.2.2.2⟩
theorem rowV_take {α:Type} {cells:α→List Value} {k:Nat} {w:World} {B:Nat} {a:Option Addr} {zs:List α} (h:RowV cells k w B a zs) (n:Nat):RowV cells k w B a (zs.take n):=fun i x hx=>by
 rw[List.getElem?_take] at hx
 split at hx
 ·exact h i x hx
 ·cases hx
theorem nodup_takeO {α:Type} {l:List α} (h:l.Nodup) {i:Nat} {x:α} (hi:l[i]? = some x):x ∉ l.take i:=by
 intro hm
 obtain⟨j,hj⟩:=List.getElem?_of_mem hm
 rw[List.getElem?_take] at hj
 split at hj
 ·rename_i hlt
  have h1:=(List.getElem?_eq_some_iff.1 hi)
  have h2:=(List.getElem?_eq_some_iff.1 hj)
  obtain⟨a1,b1⟩:=h1
  obtain⟨a2,b2⟩:=h2
  exact (List.pairwise_iff_getElem.1 h) j i a2 a1 hlt (by rw[b1,b2])
 cases hj
theorem keep7V {w w':World} (k:Kp w w') {p0 p1 p2 p3 p4 p5 p6:Addr} {v0 v1 v2 v3 v4 v5 v6:Value} (h:w.cell? p0=some v0∧w.cell? p1=some v1∧w.cell? p2=some v2∧w.cell? p3=some v3∧w.cell? p4=some v4∧w.cell? p5=some v5∧w.cell? p6=some v6) :
  w'.cell? p0=some v0∧w'.cell? p1=some v1∧w'.cell? p2=some v2∧w'.cell? p3=some v3∧w'.cell? p4=some v4∧w'.cell? p5=some v5∧w'.cell? p6=some v6:=⟨k.cell h.1,k.cell h.2.1,k.cell h.2.2.1,k.cell h.2.2.2.1,k.cell h.2.2.2.2.1,k.cell h.2.2.2.2.2.1,k.cell h.2.2.2.2.2.2⟩
theorem SetI.lt {w:World} {b n:Nat} {S:List Int} (h:SetI w b n S):b<w.heap.size:=by
 obtain⟨D,⟨es,clock,hb,r⟩,h2⟩:=h
 exact (Array.getElem?_eq_some_iff.1 hb).1
theorem wf_litO {n:Int} (h0:0≤n) (h1:n≤1000000):(Lit.int .i64 n).wf=true:=by
 simp only[Lit.wf,IntKind.min,IntKind.max,IntKind.signed,IntKind.bits,Bool.and_eq_true,decide_eq_true_eq]
 constructor <;> simp <;> omega
set_option maxHeartbeats 16000000 in
set_option maxRecDepth 20000 in
theorem Shares_ok (p:Pr) (s:ByteArray) (w:World) (hat:p.at w w.heap.size) (_hs:s.size≤maxLen) (hT:Tab w) :
  Calls Tryz.prog 11 #[.agg #[.slice p.sa p.ss.length p.sc,.slice p.pa p.ps.length p.pc,.slice p.ma p.ms.length p.mc,.int .i64 p.tn,.int .i64 p.td],.string s] w fun r w'=>r=.returned (.bool true)∧Kp w w':=by
 have k1:Kp w (w.alloc (.cells #[.slice p.sa p.ss.length p.sc,.slice p.pa p.ps.length p.pc,.slice p.ma p.ms.length p.mc,.int .i64 p.tn,.int .i64 p.td] 27)):=(Kp.refl w).alloc _
 have h0:BoxV (w.alloc (.cells #[.slice p.sa p.ss.length p.sc,.slice p.pa p.ps.length p.pc,.slice p.ma p.ms.length p.mc,.int .i64 p.tn,.int .i64 p.td] 27)) w.heap.size p.cells:=BoxV.new w p.cells _ _ rfl
 go_enter Tryz.func11,Tryz.ntmps11
 go_upto_region 1 with fail
 generalize w.alloc _=W at *
 have HAW:=hid (awakeq_any W (hT.kp k1))
 have HAT:=hid (Pr.at_kp hat k1)
 have HBW:=hid k1.size
 have HSm:=hid fun W' (k:Kp W W')=>small_any p W' w.heap.size (Pr.at_kp HAT.out k) (Nat.le_trans HBW.out k.size)
 have H0:=hid h0
 have K1:=hid k1
 have HSy:=hid fun W' (k:Kp W W')=>(system_any p s 60 W' w.heap.size (Pr.at_kp HAT.out k) (Nat.le_trans HBW.out k.size) (hT.kp (k1.trans k))).mono fun _ _=>sysO_of
 clear h0 k1 hat hT
 go_upto_region 3 with (first | (go_at_call 13;go_fit HAW.out;rintro r w2 ⟨rfl,k2⟩) | fail)
 have hq:=H0.out.kp k2
 have q0:=hq.cell 0 rfl;have q1:=hq.cell 1 rfl;have q2:=hq.cell 2 rfl;have q3:=hq.cell 3 rfl;have q4:=hq.cell 4 rfl
 have K2:=hid k2
 clear hq k2
 by_cases hlen:(50:Int)<(s.size:Int)
 ·go_wp2_with (first | (go_at_call 14;go_fit (HSm.out w2 K2.out);rintro r w3 ⟨b,rfl,k3⟩;cases b) | fail)
  all_goals
   go_ret
   exact⟨rfl,K1.out.trans (K2.out.trans k3)⟩
 go_upto_region 5 with (first | (go_at_call 14;go_fit (HSm.out w2 K2.out);rintro r w3 ⟨b,rfl,k3⟩;cases b) | fail)
 ·go_ret
  exact⟨rfl,K1.out.trans (K2.out.trans k3)⟩
 have hq:=H0.out.kp (K2.out.trans k3)
 clear q0 q1 q2 q3 q4
 have q0:=hq.cell 0 rfl;have q1:=hq.cell 1 rfl;have q2:=hq.cell 2 rfl;have q3:=hq.cell 3 rfl;have q4:=hq.cell 4 rfl
 have K3:=hid (K2.out.trans k3)
 clear hq k3
 go_upto_region 6 with (first | (go_at_call 28;go_fit (HSy.out w3 K3.out);rintro r w4 ⟨x,E,rfl,hx,hcp,hE,k4⟩) | fail)
 clear q0 q1 q2 q3 q4
 have k5:=k4.alloc (.cells #[.int .i64 x.ins,.slice x.oa x.ops.length x.oc,.slice x.ua x.outs.length x.uc,.int .i64 x.st,.slice x.pa x.ps.length x.pc] 60)
 have hs5:BoxV (w4.alloc (.cells #[.int .i64 x.ins,.slice x.oa x.ops.length x.oc,.slice x.ua x.outs.length x.uc,.int .i64 x.st,.slice x.pa x.ps.length x.pc] 60)) w4.heap.size x.cells:=BoxV.new w4 x.cells _ _ rfl
 have kA:=(Kp.refl w4).alloc (.cells #[.int .i64 x.ins,.slice x.oa x.ops.length x.oc,.slice x.ua x.outs.length x.uc,.int .i64 x.st,.slice x.pa x.ps.length x.pc] 60)
 have hro:=hx.1.kp kA
 have hru:=hx.2.1.kp kA
 have hrp:=hx.2.2.1.kp kA
 clear hx kA k4
 generalize World.alloc w4 _=V at *
 have HS:=hid hs5
 have HRo:=hid hro
 have HRu:=hid hru
 have HRp:=hid hrp
 have K5:=hid (K3.out.trans k5)
 clear hs5 hro hru hrp k5
 rcases hE with ⟨hE,ho,hst⟩ | ⟨rfl,hF⟩
 ·have hEb:(E != 0)=true:=by simpa using hE
  clear hE
  have q1:=HS.out.cell 1 rfl
  have q3:=HS.out.cell 3 rfl
  rw[ho] at q1
  rw[hst] at q3
  clear ho hst
  go_wp2_with fail
  go_ret
  exact⟨rfl,K1.out.trans K5.out⟩
 have HF:=hid hF
 have hlo:=hF.lo
 have hlu:=hF.lu
 have hin0:=hF.ins.1
 have hin8:=hF.ins.2
 clear hF
 have hmm:=@run_makeMap Tryz.prog
 have hM:=SetI.made V
 have kM:Kp V (V.alloc (.map #[] 0)):=(Kp.refl V).alloc _
 have q2:=(HS.out.kp kM).cell 2 rfl
 go_upto_region 10 with fail
 generalize World.alloc V _=M at *
 have HM:=hid hM
 have KM:=hid kM
 clear hM kM hmm q2
 go_loopw [46] (fun z wr=>∃ (k n:Nat) (S:List Int),k≤x.outs.length∧z=.int .i64 k∧Kp V wr∧SetI wr V.heap.size n S∧n≤k∧∀ v∈x.outs.take k,v∈S) (fun z _=>x.outs.length-(intOf z).toNat)
 case atStart=>exact⟨0,0,[],by omega,rfl,KM.out,HM.out,by omega,fun v h=>by simp at h⟩
 case round =>
 obtain⟨k,n,S,hk,rfl,hkv,hS,hn,hin⟩:=hrel
 have HKv:=hid hkv
 have HSet:=hid hS
 have HIn:=hid hin
 by_cases hlt:k<x.outs.length
 ·obtain⟨v,hs⟩:∃ v,x.outs[k]? = some v:=⟨_,List.getElem?_eq_getElem hlt⟩
  obtain⟨b,o,ha,_,hc⟩:=HRu.out.kp hkv k v hs
  have y0:wr.cell? ⟨b,o+k,none⟩=some (.int .i64 v):=by
   have:=hc 0 _ rfl
   rwa [Nat.mul_one,Nat.add_zero] at this
  have hvb:=HF.out.bd v (List.mem_of_getElem? hs)
  have hwf:(Lit.int .i64 v).wf=true:=wf_litO hvb.1 (by omega)
  have HTk:=hid (take_snoc hs)
  clear hs hc hkv hS hin hvb
  rw[ha]
  go_upto_region 13 with (first | (at_mapUpdate;refine wpList_put_set rfl _ _ _ rfl V.heap.size n S rfl HSet.out (by unfold maxLen;omega) v rfl hwf rfl ?_;intro w6 hs6 ht6) | fail)
  go_wp2
  go_roundw
  case measure=>simp only[intOf];omega
  case rel =>
  refine⟨k+1,n+1,v::S,by omega,by go_num,ht6.kp V HKv.out (Nat.le_refl _),hs6,by omega,fun u hu=>?_⟩
  rw[HTk.out,List.mem_append] at hu
  rcases hu with hu | hu
  ·exact List.mem_cons_of_mem _ (HIn.out u hu)
  rw[List.mem_singleton] at hu;subst hu;exact List.mem_cons_self
 have HIn2:=hid (show ∀ v∈x.outs,v∈S from fun v hv=>hin v (by rw[List.take_of_length_le (by omega)];exact hv))
 clear hS hin HIn
 have q1:=(HS.out.kp hkv).cell 1 rfl
 have hn8:n≤8:=by omega
 clear hkv
 go_upto_region 15 with fail
 clear q1
 go_loopw [57] (fun z wr=>∃ (k n:Nat) (S:List Int),k≤x.ops.length∧z=.int .i64 k∧Kp V wr∧SetI wr V.heap.size n S∧n≤8+2*k∧(∀ v∈x.outs,v∈S)∧∀ o∈x.ops.take k,∀ v∈marks1 o,v∈S) (fun z _=>x.ops.length-(intOf z).toNat)
 case atStart=>exact⟨0,n,S,by omega,rfl,HKv.out,HSet.out,by omega,HIn2.out,fun o h=>by simp at h⟩
 case round =>
 obtain⟨k,n,S,hk,rfl,hkv,hS,hn,hin,hmk⟩:=hrel
 have HKv:=hid hkv
 have HSet:=hid hS
 have HIn:=hid hin
 have HMk:=hid hmk
 by_cases hlt:k<x.ops.length
 rotate_left
 ·have HMk2:=hid (show ∀ o∈x.ops,∀ v∈marks1 o,v∈S from fun o ho=>hmk o (by rw[List.take_of_length_le (by omega)];exact ho))
  have q1:=(HS.out.kp hkv).cell 1 rfl
  clear hS hin hmk HMk hkv
  go_upto_region 27 with fail
  clear q1
  go_loopw [109] (fun z wr=>∃ k:Nat,k≤x.ops.length∧z=.int .i64 k∧Kp V wr∧SetI wr V.heap.size n S) (fun z _=>x.ops.length-(intOf z).toNat)
  case atStart=>exact⟨0,by omega,rfl,HKv.out,HSet.out⟩
  case round =>
  obtain⟨k,hk,rfl,hkv,hS⟩:=hrel
  have HKw:=hid hkv
  have HSw:=hid hS
  clear hS
  by_cases hlt:k<x.ops.length
  rotate_left
  ·have hq:=HS.out.kp hkv
   have q0:=hq.cell 0 rfl;have q1:=hq.cell 1 rfl;have q2:=hq.cell 2 rfl;have q3:=hq.cell 3 rfl;have q4:=hq.cell 4 rfl
   have hV:=vsys_any x wr w4.heap.size w4.heap.size (HRo.out.kp hkv) (HRu.out.kp hkv) (HRp.out.kp hkv) (by omega) (by omega) (by have:=HF.out.lp;omega)
   rw[HF.out.sy] at hV
   have HV:=hid hV
   clear hkv hq hV
   go_wp2_with (first | (go_at_call 51;go_fit HV.out;rintro r w9 ⟨rfl,k9⟩) | fail)
   go_ret
   exact⟨rfl,K1.out.trans (K5.out.trans (HKw.out.trans k9))⟩
  have hm:x.ins+(k:Int)∈S:=by
   rcases HF.out.us k hlt with h | ⟨o,ho,h⟩
   ·exact HIn.out _ h
   ·exact HMk2.out o ho _ h
  have Hm:=hid hm
  have i0:=(HS.out.kp hkv).cell 0 rfl
  have hwf:(Lit.int .i64 (x.ins+(k:Int))).wf=true:=wf_litO (by omega) (by omega)
  clear hkv hm
  go_wp2_with (first | (at_lookup;refine wpList_look_set rfl _ _ rfl V.heap.size n S rfl HSw.out (x.ins+(k:Int)) rfl hwf true (decide_eq_true Hm.out) ?_) | fail)
  go_roundw
  case measure=>simp only[intOf];omega
  case rel=>exact⟨k+1,by omega,by go_num,HKw.out,HSw.out⟩
 obtain⟨y,hs⟩:∃ y,x.ops[k]? = some y:=⟨_,List.getElem?_eq_getElem hlt⟩
 obtain⟨b,o,ha,_,j0⟩:=HRo.out.kp hkv k y hs
 have s0:wr.cell? ⟨b,o+k*6,none⟩=some (.int .i64 y.k):=j0 0 _ rfl
 have s1:wr.cell? ⟨b,o+k*6+1,none⟩=some (.int .i64 y.a):=j0 1 _ rfl
 have s2:wr.cell? ⟨b,o+k*6+2,none⟩=some (.int .i64 y.b):=j0 2 _ rfl
 have s3:wr.cell? ⟨b,o+k*6+3,none⟩=some (.int .i64 y.n):=j0 3 _ rfl
 have s4:wr.cell? ⟨b,o+k*6+4,none⟩=some (.int .i64 y.cn):=j0 4 _ rfl
 have s5:wr.cell? ⟨b,o+k*6+5,none⟩=some (.int .i64 y.cd):=j0 5 _ rfl
 have HTk:=hid (take_snoc hs)
 have HOp:=hid (opB_cases (HF.out.fm k y hs))
 have HNt:=hid (nodup_takeO HF.out.nd hs)
 have ka:Kp wr (wr.alloc (.cells #[.int .i64 y.k,.int .i64 y.a,.int .i64 y.b,.int .i64 y.n,.int .i64 y.cn,.int .i64 y.cd] 120)):=(Kp.refl wr).alloc _
 have hb:BoxV (wr.alloc (.cells #[.int .i64 y.k,.int .i64 y.a,.int .i64 y.b,.int .i64 y.n,.int .i64 y.cn,.int .i64 y.cd] 120)) wr.heap.size y.cells:=BoxV.new wr y.cells _ _ rfl
 have Ha:=ha
 have hlt2:k≤x.ops.length:=hk
 have hk3:(k:Int)≤(x.oc:Int):=by omega
 clear hs j0 hkv hS hin hmk ha
 rw[Ha]
 go_upto_region 17 with fail
 generalize World.alloc wr _=Y at *
 clear s0 s1 s2 s3 s4 s5
 have HKY:=hid (HKv.out.trans ka)
 have HSY:=hid (HSet.out.kp ka)
 have HBo:=hid hb
 clear hb ka
 have hSd:Y.drew.cell? ⟨w4.heap.size,1,none⟩=some (.slice x.oa x.ops.length x.oc)∧Y.drew.cell? ⟨wr.heap.size,0,none⟩=some (.int .i64 y.k)∧Y.drew.cell? ⟨wr.heap.size,1,none⟩=some (.int .i64 y.a)∧Y.drew.cell? ⟨wr.heap.size,2,none⟩=some (.int .i64 y.b)∧Y.drew.cell? ⟨wr.heap.size,3,none⟩=some (.int .i64 y.n)∧Y.drew.cell? ⟨wr.heap.size,4,none⟩=some (.int .i64 y.cn)∧Y.drew.cell? ⟨wr.heap.size,5,none⟩=some (.int .i64 y.cd) :=
  have kd:=(Kp.refl Y).drew
  ⟨(HS.out.kp (HKY.out.trans kd)).cell 1 rfl,(HBo.out.kp kd).cell 0 rfl,(HBo.out.kp kd).cell 1 rfl,(HBo.out.kp kd).cell 2 rfl,(HBo.out.kp kd).cell 3 rfl,(HBo.out.kp kd).cell 4 rfl,(HBo.out.kp kd).cell 5 rfl⟩
 have hC:=conO_not x.oa (x.ops.take k) x.oc y Y.drew w4.heap.size (by rw[List.length_take];omega) (rowV_take (HRo.out.kp (HKY.out.trans (Kp.refl Y).drew)) k) HNt.out
 rw[List.length_take,Nat.min_eq_left hlt2,Ha] at hC
 unfold opV at hC
 have HC:=hid hC
 rw[Ha] at hSd
 have HSd:=hid hSd
 clear hC
 refine wp_region_held_drew (S:=fun w'=>w'.cell? ⟨w4.heap.size,1,none⟩=some (.slice (some ⟨b,o,none⟩) x.ops.length x.oc)∧w'.cell? ⟨wr.heap.size,0,none⟩=some (.int .i64 y.k)∧w'.cell? ⟨wr.heap.size,1,none⟩=some (.int .i64 y.a)∧w'.cell? ⟨wr.heap.size,2,none⟩=some (.int .i64 y.b)∧w'.cell? ⟨wr.heap.size,3,none⟩=some (.int .i64 y.n)∧w'.cell? ⟨wr.heap.size,4,none⟩=some (.int .i64 y.cn)∧w'.cell? ⟨wr.heap.size,5,none⟩=some (.int .i64 y.cd)) (by kernel_rfl) hSd (fun hHeld=>?_)
 clear hSd
 refine tk 0 ?_;refine tk 1 ?_;refine tk 2 ?_;refine tk 3 ?_;refine tk 4 ?_;refine tk 5 ?_;(try simp only[Act.put,List.getElem_toArray,List.getElem_cons_zero,List.getElem_cons_succ,List.setIfInBounds_toArray,List.set_cons_zero,List.set_cons_succ])
 refine cm 6 (fun K hK=>?_)
 (go_simp;go_fit HC.out;rintro r w8 ⟨rfl,k8⟩)
 refine hK.out _ _ (keep7V k8 HSd.out) (fun hHeld=>?_)
 clear hK K
 refine wpAnyH_done (by kernel_rfl) ?_ _
 have HK8:=hid (HKY.out.trans ((Kp.refl Y).drew.trans k8))
 have HS8:=hid (HSY.out.kp ((Kp.refl Y).drew.trans k8))
 obtain⟨_,z0,z1,z2,_,_,_⟩:=keep7V k8 HSd.out
 have i0:=(HS.out.kp HK8.out).cell 0 rfl
 clear k8 hHeld
 have hne:wr.heap.size≠V.heap.size:=by have:=HSet.out.lt;omega
 have hn4:w4.heap.size≠V.heap.size:=by have:=HS.out.2.2;omega
 rcases HOp.out with hop | ⟨⟨hk3,hk6⟩,⟨ha0,ha1⟩,hb0,hb1⟩ | ⟨hk7,⟨ha0,ha1⟩,hb7⟩
 ·rw[hop] at z0
  have HM1:=hid (marks_one hop)
  clear hop
  go_wp2_with fail
  go_roundw
  case measure=>simp only[intOf];omega
  case rel =>
  refine⟨k+1,n,S,by omega,by go_num,HK8.out,HS8.out,by omega,HIn.out,fun o' ho' v hv=>?_⟩
  rw[HTk.out,List.mem_append] at ho'
  rcases ho' with h | h
  ·exact HMk.out o' h v hv
  rw[List.mem_singleton] at h
  subst h
  rw[HM1.out] at hv
  cases hv
 ·have HM1:=hid (marks_two ⟨hk3,hk6⟩)
  have hk1:(y.k != 1)=true:=by simp;omega
  have ha2:¬ (x.ins+(k:Int)≤y.a):=by omega
  have hb2:¬ (x.ins+(k:Int)≤y.b):=by omega
  have hwa:(Lit.int .i64 y.a).wf=true:=wf_litO ha0 (by omega)
  have hwb:(Lit.int .i64 y.b).wf=true:=wf_litO hb0 (by omega)
  clear ha0 ha1 hb0 hb1
  go_wp2_with (first | (at_mapUpdate;refine wpList_put_set rfl _ _ _ rfl V.heap.size n S rfl HS8.out (by unfold maxLen;omega) y.a rfl hwa rfl ?_;intro w9 hs9 ht9;have e0:=(ht9.cell ⟨wr.heap.size,0,none⟩ hne).trans z0;have e1:=(ht9.cell ⟨wr.heap.size,1,none⟩ hne).trans z1;have e2:=(ht9.cell ⟨wr.heap.size,2,none⟩ hne).trans z2;have e3:=(ht9.cell ⟨w4.heap.size,0,none⟩ hn4).trans i0;clear z0 z1 z2 i0) | (at_mapUpdate;refine wpList_put_set rfl _ _ _ rfl V.heap.size (n+1) (y.a::S) rfl hs9 (by unfold maxLen;omega) y.b rfl hwb rfl ?_;intro w10 hs10 ht10) | fail)
  go_roundw
  case measure=>simp only[intOf];omega
  case rel =>
  refine⟨k+1,n+1+1,y.b::y.a::S,by omega,by go_num,ht10.kp V (ht9.kp V HK8.out (Nat.le_refl _)) (Nat.le_refl _),hs10,by omega,fun v hv=>List.mem_cons_of_mem _ (List.mem_cons_of_mem _ (HIn.out v hv)),fun o' ho' v hv=>?_⟩
  rw[HTk.out,List.mem_append] at ho'
  rcases ho' with h | h
  ·exact List.mem_cons_of_mem _ (List.mem_cons_of_mem _ (HMk.out o' h v hv))
  rw[List.mem_singleton] at h
  subst h
  rw[HM1.out] at hv
  rcases List.mem_cons.1 hv with rfl | hv
  ·exact List.mem_cons_self
  rw[List.mem_singleton] at hv
  subst hv
  exact List.mem_cons_of_mem _ List.mem_cons_self
 have HM1:=hid (marks_snd hk7)
 have hk1:(y.k != 1)=true:=by simp;omega
 have hk3:3≤y.k:=by omega
 have hk6:¬ y.k≤6:=by omega
 have ha2:¬ (x.ins+(k:Int)≤y.a):=by omega
 have hb2:¬ (x.ins+(k:Int)≤0):=by omega
 have hwa:(Lit.int .i64 y.a).wf=true:=wf_litO ha0 (by omega)
 rw[hb7] at z2
 clear ha0 ha1 hb7 hk7
 go_wp2_with (first | (at_mapUpdate;refine wpList_put_set rfl _ _ _ rfl V.heap.size n S rfl HS8.out (by unfold maxLen;omega) y.a rfl hwa rfl ?_;intro w9 hs9 ht9;have e0:=(ht9.cell ⟨wr.heap.size,0,none⟩ hne).trans z0;have e1:=(ht9.cell ⟨wr.heap.size,1,none⟩ hne).trans z1;have e2:=(ht9.cell ⟨wr.heap.size,2,none⟩ hne).trans z2;have e3:=(ht9.cell ⟨w4.heap.size,0,none⟩ hn4).trans i0;clear z0 z1 z2 i0) | fail)
 go_roundw
 case measure=>simp only[intOf];omega
 case rel =>
 refine⟨k+1,n+1,y.a::S,by omega,by go_num,ht9.kp V HK8.out (Nat.le_refl _),hs9,by omega,fun v hv=>List.mem_cons_of_mem _ (HIn.out v hv),fun o' ho' v hv=>?_⟩
 rw[HTk.out,List.mem_append] at ho'
 rcases ho' with h | h
 ·exact List.mem_cons_of_mem _ (HMk.out o' h v hv)
 rw[List.mem_singleton] at h
 subst h
 rw[HM1.out] at hv
 rw[List.mem_singleton] at hv
 subst hv
 exact List.mem_cons_self
end
end Go.Proofs.YteidgoldnllabaaGreatDoor
