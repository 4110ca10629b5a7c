/-
  Plain: the coordinates of a move contain what they stand for, in rationals.
-/
import Derived.Test.YtbhmhfnfceakoaaGreatDoorMInsF
import Derived.Test.YtbhmhfnfceakoaaGreatDoorMArdN
import Derived.Test.YtbhmhfnfceakoaaGreatDoorMOpen
import Derived.Test.YtbhmhfnfceakoaaGreatDoorMSig
import Derived.Deep.DeepFit
import Derived.Test.YtbhmhfnfceakoaaGreatDoorMRoQ
import Derived.Test.YtbhmhfnfceakoaaGreatDoorMEqfR
import Derived.Test.YtbhmhfnfceakoaaGreatDoorMEchM
import Derived.Deep.LoopGhost
import Derived.Deep.CutRange
import Derived.Test.YtbhmhfnfceakoaaGreatDoorMLinP
import Derived.Test.YtbhmhfnfceakoaaGreatDoorMSumG
import Derived.Test.YtbhmhfnfceakoaaGreatDoorMAwk3
import Derived.Deep.RegionHeld3
import Derived.Test.YtbhmhfnfceakoaaGreatDoorMRoAdd
import Derived.Test.YtbhmhfnfceakoaaGreatDoorMMemB
namespace Go.Proofs.YtbhmhfnfceakoaaGreatDoor
open Go.RowKit
theorem rowF_getD {n:Nat} {F:Nat→PI} {i:Nat} (hi:i<n):(rowF n F).getD i .whole=F i:=by
 unfold rowF
 rw[List.getD_eq_getElem?_getD,List.getElem?_map,List.getElem?_range hi];rfl
theorem crdC_zero {f g:RF} {j:List (List RI)} {z:List RI} {v:List (List RD)} {p:Int} (h:(crdC f g j z v p).2=0) :
  crdE f g j z p=0∧(corC g.ms v p).2=0∧(crdC f g j z v p).1=crdX f g j z (atX (corC g.ms v p).1) p.toNat∧∀ X∈(crdC f g j z v p).1,X.all=false:=by
 unfold crdC at h ⊢
 by_cases h1:crdE f g j z p=0
 rotate_left
 ·rw[if_pos h1] at h;exact absurd h h1
 rw[if_neg (fun k=>k h1)] at h ⊢
 by_cases h2:(corC g.ms v p).2=0
 ·rw[if_neg (fun k=>k h2)] at h ⊢
  unfold crdV at h ⊢
  by_cases h3:((crdX f g j z (atX (corC g.ms v p).1) p.toNat).any fun x=>x.all)=true
  ·rw[if_pos h3] at h;cases h
  rw[if_neg h3]
  refine⟨h1,h2,rfl,fun X hX=>?_⟩
  cases hc:X.all with
  | true=>exact absurd (List.any_eq_true.2 ⟨X,hX,hc⟩) h3
  | false=>rfl
 rw[if_pos h2] at h;exact absurd h h2
theorem corC_vec {m v:List (List RD)} {p:Int} (h:(corC m v p).2=0) (x:Nat→Rat) :
  ∃ B:Nat→Nat→Rat,(∀ i j,i<m.length→j<m.length→hasQ (atX (corC m v p).1 i j) (B i j))∧∀ i,i<m.length→x i=mv m.length B (mv m.length (qM m) x) i:=by
 obtain⟨P,d,q,h1,h2,h3,h4,h6,hd0,q0,q1,q2,q3⟩:=corC_bound h
 obtain⟨R,r1,r2⟩:=bnd_form q0 q1 q2 hd0 q3 x
 refine⟨fun i j=>rs (fun t=>((if i=t then 1 else 0)+R i t)*qM v t j) m.length,fun i j hi hj=>?_,fun i hi=>?_⟩
 ·rw[h6]
  unfold corF
  rw[atX_tab hi hj]
  exact dotF_qn h2 h3 h4 (fun t ht=>pAdd_q h2 h3 (hasQ_id i t) (hasQ_around (r1 i t hi))) (fun t ht=>hasQ_pt _)
 rw[r2 i hi]
 obtain⟨b,hb⟩:∃ b,b=mv m.length (qM m) x:=⟨_,rfl⟩
 rw[← hb]
 show rs (fun t=>((if i=t then 1 else 0)+R i t)*rs (fun k=>qM v t k*b k) m.length) m.length=rs (fun k=>rs (fun t=>((if i=t then 1 else 0)+R i t)*qM v t k) m.length*b k) m.length
 rw[rs_congr (d:=fun t=>rs (fun k=>((if i=t then 1 else 0)+R i t)*(qM v t k*b k)) m.length) (fun t _=>(rs_mul _ _ _).symm),
  rs_comm (fun t k=>((if i=t then 1 else 0)+R i t)*(qM v t k*b k))]
 refine rs_congr fun k _=>?_
 rw[← rs_mulr]
 refine rs_congr fun t _=>?_
 rw[Rat.mul_assoc]
theorem mv_mul (n:Nat) (a b:Nat→Nat→Rat) (x:Nat→Rat) (i:Nat):mv n a (mv n b x) i=mv n (fun i k=>rs (fun s=>a i s*b s k) n) x i:=by
 unfold mv
 rw[rs_congr (d:=fun s=>rs (fun k=>a i s*(b s k*x k)) n) (fun s _=>(rs_mul _ _ _).symm),rs_comm (fun s k=>a i s*(b s k*x k))]
 refine rs_congr fun k _=>?_
 rw[← rs_mulr]
 exact rs_congr fun s _=>(Rat.mul_assoc _ _ _).symm
theorem mv_add (n:Nat) (a:Nat→Nat→Rat) (x y:Nat→Rat) (i:Nat):mv n a (fun k=>x k+y k) i=mv n a x i+mv n a y i:=by
 unfold mv
 rw[← rs_add]
 exact rs_congr fun k _=>by grind
theorem mv_congr {n:Nat} {a:Nat→Nat→Rat} {x y:Nat→Rat} (h:∀ i,i<n→x i=y i) (i:Nat):mv n a x i=mv n a y i:=rs_congr fun k hk=>by rw[h k hk]
theorem crd_sound {f g:RF} {j:List (List RI)} {z:List RI} {v:List (List RD)} {p:Int} {n:Nat} (hn:f.cs.length=n) (h:(crdC f g j z v p).2=0) {Jr:Nat→Nat→Rat} {zr r t:Nat→Rat}
  (hJ:∀ s u,s<n→u<n→hasQ (atP j s u) (Jr s u)) (hz:∀ i,i<n→hasQ (rowG z i) (zr i)) (hr:∀ i,i<n→hasQ (rowG f.rs i) (r i))
  (ht:∀ i,i<n→mv n (qM g.ms) t i=(zr i-qv (g.cs.getD i rdZero).dy)+mv n Jr (mv n (qM f.ms) r) i) :
  ∀ i,i<n→hasQ ((crdC f g j z v p).1.getD i .whole) (t i):=by
 obtain⟨h1,h2,h3,_⟩:=crdC_zero h
 obtain⟨⟨v1,v2,_,_⟩,hp,l1,_,_,_⟩:=crdE_zero h1
 obtain⟨⟨n1,n8⟩,_⟩:=vlF_iff.1 v1
 obtain⟨_,⟨lm,_⟩,_⟩:=vlF_iff.1 v2
 have hml:g.ms.length=n:=by omega
 obtain⟨B,b1,b2⟩:=corC_vec h2 t
 rw[hml] at b1 b2
 have hq:=preB_iff.1 hp
 obtain⟨q,rfl⟩:∃ q:Nat,p=(q:Int):=⟨p.toNat,by omega⟩
 have q8:8≤q:=by omega
 have q5:q≤512:=by omega
 intro i hi
 rw[h3]
 unfold crdX
 rw[hn,rowF_getD hi]
 have e:t i=mv n B (fun k=>zr k-qv (g.cs.getD k rdZero).dy) i+mv n (fun a u=>rs (fun s=>B a s*rs (fun w=>Jr s w*qM f.ms w u) n) n) r i:=by
  rw[b2 i hi,mv_congr ht,mv_add,mv_congr (x:=mv n Jr (mv n (qM f.ms) r)) (fun k _=>mv_mul n Jr (qM f.ms) r k),mv_mul]
 rw[e]
 have hn1:1≤n:=by omega
 refine pAdd_q q8 q5 (dotF_qn q8 q5 hn1 (fun s hs=>b1 i s hi hs) (fun s hs=>pSub_q q8 q5 (hz s hs) (hasQ_pt _))) ?_
 exact dotF_qn q8 q5 hn1 (fun u hu=>dotF_qn q8 q5 hn1 (fun s hs=>b1 i s hi hs) (fun s hs=>dotF_qn q8 q5 hn1 (fun w hw=>hJ s w hs hw) (fun w _=>hasQ_pt _))) (fun u hu=>hr u hu)
def endsP (r:List RI) (l:List RD):Prop:=∀ (j:Nat) (x:RI) (d:RD),r[j]? = some x→l[j]? = some d→endR x d
def endsQ (m:List (List RI)) (L:List (List RD)):Prop:=∀ (i:Nat) (r:List RI) (l:List RD),m[i]? = some r→L[i]? = some l→endsR r l
theorem snoc_at {α:Type} {W:List α} {s y:α} {i:Nat} (h:(W++[s])[i]? = some y):W[i]? = some y∨i=W.length∧y=s:=by
 by_cases hi:i<W.length
 ·rw[List.getElem?_append_left hi] at h;exact .inl h
 rw[List.getElem?_append_right (by omega)] at h
 have hie:i=W.length:=by
  have:=(List.getElem?_eq_some_iff.1 h).1
  simp at this;omega
 subst hie
 simp at h
 exact .inr ⟨rfl,h.symm⟩
theorem endsP.snoc {r:List RI} {l:List RD} (h:endsP r l) {x:RI} {d:RD} (hx:r[l.length]? = some x) (hd:endR x d):endsP r (l++[d]):=by
 intro j y q hj hq
 rcases snoc_at hq with hq | ⟨rfl,rfl⟩
 ·exact h j y q hj hq
 rw[hx] at hj;cases hj;exact hd
theorem endsQ.snoc {m:List (List RI)} {L:List (List RD)} (h:endsQ m L) {r:List RI} {l:List RD} (hr:m[L.length]? = some r) (hl:endsP r l) (hn:l.length=r.length):endsQ m (L++[l]):=by
 intro j y q hj hq
 rcases snoc_at hq with hq | ⟨rfl,rfl⟩
 ·exact h j y q hj hq
 rw[hr] at hj;cases hj;exact⟨hn,hl⟩
def bndD (z:List RD) (M:Int):Prop:=0≤M∧∀ y∈z,(y.iv.natAbs:Int)≤M
theorem bndD.same {z:List RD} {M:Int} {d:RD} (h:bndD z M) (hd:¬ M<(d.iv.natAbs:Int)):bndD (z++[d]) M:=⟨h.1,fun y hy=>by
 rcases List.mem_append.1 hy with h1 | h1
 ·exact h.2 y h1
 ·simp only[List.mem_singleton] at h1;subst h1;omega⟩
theorem bndD.more {z:List RD} {M:Int} {d:RD} (h:bndD z M) (hd:M<(d.iv.natAbs:Int)):bndD (z++[d]) (d.iv.natAbs:Int):=⟨by omega,fun y hy=>by
 rcases List.mem_append.1 hy with h1 | h1
 ·have:=h.2 y h1;omega
 ·simp only[List.mem_singleton] at h1;subst h1;exact Int.le_refl _⟩
theorem sumD_q {x y:Dy} (h:(chk (sumD x y)).2=0):qv (chk (sumD x y)).1=qv x+qv y:=by
 rw[chk0 h]
 unfold qv
 rw[sumD_iv,Rat.intCast_add]
 grind
theorem prodD_q {x y:Dy} (hx:x.ok) (hy:y.ok) (h:(chk (prodD x y)).2=0):qv (chk (prodD x y)).1=qv x*qv y:=(muK_q (ok:=true) hx hy (by unfold muK;rw[h];rfl)).2
theorem rs_front (f:Nat→Rat):∀ n,rs f (n+1)=f 0+rs (fun k=>f (k+1)) n
 | 0=>by show rs f 0+f 0=f 0+0;rw[show rs f 0=0 from rfl];grind
 | n+1=>by
  show rs f (n+1)+f (n+1)=f 0+(rs (fun k=>f (k+1)) n+f (n+1))
  rw[rs_front f n];grind
theorem ptR_q:∀ {r z:List RD} {s t:Dy},(∀ x∈r,x.dy.ok)→(∀ y∈z,y.dy.ok)→ptR r z s=some t→qv t=qv s+rs (fun k=>qv (r.getD k rdZero).dy*qv (z.getD k rdZero).dy) r.length
 | [],z,s,t,_,_,h=>by
  unfold ptR at h
  cases h
  show qv s=qv s+0
  grind
 | _::_,[],_,_,_,_,h=>by unfold ptR at h;cases h
 | a::r,y::z,s,t,hr,hz,h=>by
  unfold ptR at h
  by_cases h1:(chk (prodD a.dy y.dy)).2=0
  ·rw[if_neg (fun k=>k h1)] at h
   by_cases h2:(chk (sumD s (chk (prodD a.dy y.dy)).1)).2=0
   ·rw[if_neg (fun k=>k h2)] at h
    have:=ptR_q (fun x hx=>hr x (.tail _ hx)) (fun x hx=>hz x (.tail _ hx)) h
    rw[this,sumD_q h2,prodD_q (hr a (.head _)) (hz y (.head _)) h1,List.length_cons,rs_front]
    simp only[List.getD_cons_zero,List.getD_cons_succ]
    grind
   ·rw[if_pos h2] at h;cases h
  ·rw[if_pos h1] at h;cases h
theorem ptM_get {r:List RD}:∀ {m:List (RD×List RD)} {l:List Dy} {i:Nat} {t:Dy},ptM r m=some l→l[i]? = some t→∃ c row,m[i]? = some (c,row)∧ptR row r c.dy=some t
 | [],l,i,t,h,hi=>by unfold ptM at h;cases h;simp at hi
 | (c,row)::m,l,i,t,h,hi=>by
  unfold ptM at h
  cases hs:ptR row r c.dy with
  | none=>rw[hs] at h;cases h
  | some s =>
   rw[hs] at h
   have h:(match ptM r m with | none=>none | some l=>some (s::l))=some l:=h
   cases hm:ptM r m with
   | none=>rw[hm] at h;cases h
   | some l' =>
    rw[hm] at h
    have h:some (s::l')=some l:=h
    cases h
    cases i with
    | zero=>simp at hi;subst hi;exact⟨c,row,rfl,hs⟩
    | succ i =>
     rw[List.getElem?_cons_succ] at hi
     obtain⟨c',row',h1,h2⟩:=ptM_get hm hi
     exact⟨c',row',by rw[List.getElem?_cons_succ];exact h1,h2⟩
theorem ptM_len {r:List RD}:∀ {m:List (RD×List RD)} {l:List Dy},ptM r m=some l→l.length=m.length
 | [],l,h=>by unfold ptM at h;cases h;rfl
 | (c,row)::m,l,h=>by
  unfold ptM at h
  cases hs:ptR row r c.dy with
  | none=>rw[hs] at h;cases h
  | some s =>
   rw[hs] at h
   have h:(match ptM r m with | none=>none | some l=>some (s::l))=some l:=h
   cases hm:ptM r m with
   | none=>rw[hm] at h;cases h
   | some l' =>
    rw[hm] at h
    have h:some (s::l')=some l:=h
    cases h
    rw[List.length_cons,List.length_cons,ptM_len hm]
theorem atN_some {m:List (List RD)} {i j:Nat} {row:List RD} {x:RD} (h1:m[i]? = some row) (h2:row[j]? = some x):atN m i j=x:=by
 unfold atN
 rw[show m.getD i []=row by rw[List.getD_eq_getElem?_getD,h1];rfl,List.getD_eq_getElem?_getD,h2];rfl
def okF (f:RF):Prop:=(∀ x∈f.cs,x.dy.ok)∧(∀ r∈f.ms,∀ x∈r,x.dy.ok)∧∀ x∈f.rs,x.lo.dy.ok∧x.hi.dy.ok
theorem okF_of {w:World} {f:RF} (hf:f.rd w) (hv:vlF f=true):okF f:=by
 obtain⟨_,_,h3,h4,h5⟩:=vlF_iff.1 hv
 refine⟨fun x hx=>?_,fun r hr x hx=>?_,fun x hx=>?_⟩
 ·exact rdok_dy ⟨hf.1.1.rd hx,h3 x hx⟩
 ·obtain⟨i,hi⟩:=List.getElem?_of_mem hr
  obtain⟨_,_,_,_,_,_,hrow,_⟩:=hf.2.1.1 i r hi
  exact rdok_dy ⟨hrow.rd hx,(h4 r hr).2 x hx⟩
 have h:=(goodZ_iff.1 (h5 x hx)).2.1
 have e:=endR.ok (w:=w) (d:=x.lo) (.inl rfl) (hf.2.2.1.rdI hx) h
 have e':=endR.ok (w:=w) (d:=x.hi) (.inr rfl) (hf.2.2.1.rdI hx) h
 exact⟨rdok_dy e,rdok_dy e'⟩
structure InsH (b:RF) (l:List Dy) (n:Nat):Prop where
 sol:∀ t:Nat→Rat,(∀ (i:Nat) (y:Dy),i<n→l[i]? = some y→mv n (qM b.ms) t i=qv y-qv (b.cs.getD i rdZero).dy)→∀ i,i<n→qv (b.rs.getD i wholeR).lo.dy≤t i∧t i≤qv (b.rs.getD i wholeR).hi.dy
theorem insX_q {X Y:PI} {x:Rat} (h:insX X Y=true) (hY:Y.all=false) (hX:hasQ X x):qv Y.lo≤x∧x≤qv Y.hi:=by
 unfold insX at h
 rw[hY,Bool.false_or,Bool.and_eq_true,Bool.and_eq_true,decide_eq_true_eq,decide_eq_true_eq,Bool.not_eq_true'] at h
 rcases hX with hX | ⟨h1,h2⟩
 ·rw[h.1] at hX;cases hX
 exact⟨Rat.le_trans (qv_le.2 h.2.1) h1,Rat.le_trans h2 (qv_le.2 h.2.2)⟩
theorem insH_of {a b:RF} {j:List (List RI)} {z:List RI} {v:List (List RD)} {p:Int} {n:Nat} {zz:List RD} {l:List Dy} (hn:a.cs.length=n) (h:(crdC a b j z v p).2=0) (oa:okF a)
  (hJ:∀ s u,s<n→u<n→atP j s u=idP s u) (hz:∀ i,i<n→rowG z i=ptP (a.cs.getD i rdZero)) (hin:∀ i,i<n→insX ((crdC a b j z v p).1.getD i .whole) (rowG b.rs i)=true)
  (ez:endsR a.rs zz) (hl:ptM zz (a.cs.zip a.ms)=some l):InsH b l n:=by
 obtain⟨h1,h2,h3,_⟩:=crdC_zero h
 obtain⟨⟨v1,v2,_,_⟩,hp,l1,_,_,_⟩:=crdE_zero h1
 obtain⟨⟨n1,n8⟩,⟨m1,m2⟩,_,m4,m5⟩:=vlF_iff.1 v1
 obtain⟨_,⟨_,k2⟩,_,_,k5⟩:=vlF_iff.1 v2
 refine⟨fun t ht i hi=>?_⟩
 have hll:l.length=n:=by rw[ptM_len hl,List.length_zip,hn,m1,hn];omega
 have zat (u:Nat) (hu:u<n):∃ x d,a.rs[u]? = some x∧zz[u]? = some d∧endR x d:=by
  have e1:zz.length=a.rs.length:=ez.1
  exact⟨a.rs[u],zz[u],List.getElem?_eq_getElem (by omega),List.getElem?_eq_getElem (by omega),ez.2 u _ _ (List.getElem?_eq_getElem (by omega)) (List.getElem?_eq_getElem (by omega))⟩
 have zok:∀ y∈zz,y.dy.ok:=by
  intro y hy
  obtain⟨u,hu⟩:=List.getElem?_of_mem hy
  have e1:zz.length=a.rs.length:=ez.1
  have hul:=(List.getElem?_eq_some_iff.1 hu).1
  obtain⟨x,d,hx,hd,he⟩:=zat u (by omega)
  rw[hu] at hd;cases hd
  have:=oa.2.2 x (List.mem_of_getElem? hx)
  rcases he with rfl | rfl
  ·exact this.1
  ·exact this.2
 have S:=crd_sound hn h (Jr:=fun s u=>if s=u then 1 else 0) (zr:=fun i=>qv (a.cs.getD i rdZero).dy) (r:=fun u=>qv (zz.getD u rdZero).dy) (t:=t)
  (fun s u hs hu=>by rw[hJ s u hs hu];exact hasQ_id s u) (fun i hi=>by rw[hz i hi];exact hasQ_pt _) (fun u hu=>by
   obtain⟨x,d,hx,hd,he⟩:=zat u hu
   have e1:rowG a.rs u=x.pl:=by unfold rowG;rw[List.getD_eq_getElem?_getD,hx];rfl
   have e2:(zz.getD u rdZero)=d:=by rw[List.getD_eq_getElem?_getD,hd];rfl
   rw[e1,e2]
   have g:=goodZ_iff.1 (m5 x (List.mem_of_getElem? hx))
   have hle:x.lo.iv≤x.hi.iv:=by omega
   rcases he with rfl | rfl
   ·exact .inr ⟨Rat.le_refl,qv_le.2 hle⟩
   ·exact .inr ⟨qv_le.2 hle,Rat.le_refl⟩)
  (fun i hi=>by
   obtain⟨y,hy⟩:∃ y,l[i]? = some y:=⟨_,List.getElem?_eq_getElem (by omega)⟩
   rw[ht i y hi hy]
   obtain⟨c,row,g1,g2⟩:=ptM_get hl hy
   obtain⟨gc,gr⟩:=List.getElem?_zip_eq_some.1 g1
   have mr:=m4 row (List.mem_of_getElem? gr)
   have e:=ptR_q (oa.2.1 row (List.mem_of_getElem? gr)) zok g2
   have ec:a.cs.getD i rdZero=c:=by rw[List.getD_eq_getElem?_getD,gc];rfl
   have er:a.ms.getD i []=row:=by rw[List.getD_eq_getElem?_getD,gr];rfl
   have e1:mv n (fun s u=>if s=u then 1 else 0) (mv n (qM a.ms) fun u=>qv (zz.getD u rdZero).dy) i=mv n (qM a.ms) (fun u=>qv (zz.getD u rdZero).dy) i:=by
    have e3:mv n (fun s u=>if s=u then 1 else 0) (mv n (qM a.ms) fun u=>qv (zz.getD u rdZero).dy) i=rs (fun k=>if i=k then mv n (qM a.ms) (fun u=>qv (zz.getD u rdZero).dy) i else 0) n:=rs_congr fun k _=>by
     by_cases e:i=k
     ·subst e
      rw[if_pos rfl]
      show (if i=i then (1:Rat) else 0)*_=_
      rw[if_pos rfl];grind
     ·rw[if_neg e]
      show (if i=k then (1:Rat) else 0)*_=_
      rw[if_neg e];grind
    rw[e3,rs_one _ hi]
   have e2:mv n (qM a.ms) (fun u=>qv (zz.getD u rdZero).dy) i=rs (fun k=>qv (row.getD k rdZero).dy*qv (zz.getD k rdZero).dy) row.length:=by
    rw[mr.1,hn]
    refine rs_congr fun k _=>?_
    show qv (atN a.ms i k).dy*_=_
    unfold atN
    rw[er]
   rw[e1,e2,ec,e]
   grind)
 have hb:(rowG b.rs i).all=false:=by
  have hlt:i<b.rs.length:=by omega
  have:rowG b.rs i=(b.rs[i]).pl:=by unfold rowG;rw[List.getD_eq_getElem?_getD,List.getElem?_eq_getElem hlt];rfl
  rw[this]
  exact (goodZ_iff.1 (k5 _ (List.getElem_mem hlt))).1
 exact insX_q (hin i hi) hb (S i hi)
theorem memC2_det {y0 y1 c0 c1 a b c d lo0 hi0 lo1 hi1:Dy} (ha:a.ok) (hb:b.ok) (hc:c.ok) (hd:d.ok)
  (h:(memC2 y0 y1 c0 c1 a b c d lo0 hi0 lo1 hi1).2=true):qv a*qv d-qv b*qv c≠0:=by
 unfold memC2 at h
 rw[Bool.and_eq_true,decide_eq_true_eq] at h
 obtain⟨h1,h2⟩:=h
 obtain⟨s,hs⟩:∃ s,s=mem2 y0 y1 c0 c1 a b c d:=⟨_,rfl⟩
 have su:s.u=sbK y0 c0 true:=by rw[hs];rfl
 have sv:s.v=sbK y1 c1 s.u.2:=by rw[hs];rfl
 have s1:s.m1=muK a d s.v.2:=by rw[hs];rfl
 have s2:s.m2=muK b c s.m1.2:=by rw[hs];rfl
 have sd:s.det=sbK s.m1.1 s.m2.1 s.m2.2:=by rw[hs];rfl
 have sp:s.p1=muK s.u.1 d s.det.2:=by rw[hs];rfl
 have sq:s.p2=muK b s.v.1 s.p1.2:=by rw[hs];rfl
 have sn:s.n0=sbK s.p1.1 s.p2.1 s.p2.2:=by rw[hs];rfl
 rw[← hs] at h1 h2
 clear hs
 have hz:qv s.det.1≠0:=fun e=>h2 (qv_eq_zero.1 e)
 -- all that was computed up to n0 is exact
 have hn0:s.n0.2=true:=by
  unfold memI at h1
  split at h1
  ·have:=btC_was h1
   rw[sbK] at this
   have h3:(muK a s.v.1 (btC s.n0.1 s.det.1 lo0 hi0 s.n0.2).2).2=true:=by
    have h4:=(Bool.and_eq_true _ _).mp this
    have h5:=h4.1
    unfold muK at h5
    exact ((Bool.and_eq_true _ _).mp h5).1
   have h6:(btC s.n0.1 s.det.1 lo0 hi0 s.n0.2).2=true:=by
    unfold muK at h3
    exact ((Bool.and_eq_true _ _).mp h3).1
   exact btC_was h6
  ·exact btC_was h1
 obtain⟨x1,q1⟩:=sbK_q (sn▸hn0)
 rw[← sn] at q1
 have okv:s.v.1.ok:=by rw[sv];exact sbK_ok _ _ _
 have oku:s.u.1.ok:=by rw[su];exact sbK_ok _ _ _
 obtain⟨x2,q2⟩:=muK_q hb okv (sq▸x1)
 rw[← sq] at q2
 obtain⟨x3,q3⟩:=muK_q oku hd (sp▸x2)
 rw[← sp] at q3
 obtain⟨x4,q4⟩:=sbK_q (sd▸x3)
 rw[← sd] at q4
 obtain⟨x5,q5⟩:=muK_q hb hc (s2▸x4)
 rw[← s2] at q5
 obtain⟨x6,q6⟩:=muK_q ha hd (s1▸x5)
 rw[← s1] at q6
 obtain⟨x7,q7⟩:=sbK_q (sv▸x6)
 rw[← sv] at q7
 obtain⟨_,q8⟩:=sbK_q (su▸x7)
 rw[← su] at q8
 rw[q4,q5,q6] at hz
 exact hz
theorem InsH.mem1 {b:RF} {l:List Dy} (H:InsH b l 1) (ob:okF b) {c0 a0:RD} {row0:List RD} {r0:RI} {y0:Dy} (hc0:b.cs[0]? = some c0) (hm0:b.ms[0]? = some row0) (ha0:row0[0]? = some a0) (hr0:b.rs[0]? = some r0) (hy0:l[0]? = some y0)
  (h:(memC1 y0 c0.dy a0.dy r0.lo.dy r0.hi.dy).2=true):(memC1 y0 c0.dy a0.dy r0.lo.dy r0.hi.dy).1=true:=by
 have hz:a0.dy.m≠0:=by
  unfold memC1 at h
  rw[Bool.and_eq_true,decide_eq_true_eq] at h
  exact h.2
 have hz':qv a0.dy≠0:=fun e=>hz (qv_eq_zero.1 e)
 have e1:qM b.ms 0 0=qv a0.dy:=by unfold qM;rw[atN_some hm0 ha0]
 have e2:b.cs.getD 0 rdZero=c0:=by rw[List.getD_eq_getElem?_getD,hc0];rfl
 have e3:b.rs.getD 0 wholeR=r0:=by rw[List.getD_eq_getElem?_getD,hr0];rfl
 obtain⟨t,ht⟩:∃ t,t=(qv y0-qv c0.dy)/qv a0.dy:=⟨_,rfl⟩
 have hte:qv a0.dy*t=qv y0-qv c0.dy:=by rw[ht];grind
 have:=H.sol (fun _=>t) (fun i y hi hy=>by
  obtain rfl:i=0:=by omega
  rw[hy0] at hy;cases hy
  show (0:Rat)+qM b.ms 0 0*t=_
  rw[e1,e2,hte];grind) 0 (by omega)
 rw[e3] at this
 have o:=ob.2.2 r0 (List.mem_of_getElem? hr0)
 exact memC1_sound (ob.2.1 row0 (List.mem_of_getElem? hm0) a0 (List.mem_of_getElem? ha0)) o.1 o.2 h hte this.1 this.2
theorem InsH.mem2 {b:RF} {l:List Dy} (H:InsH b l 2) (ob:okF b) {c0 c1 a e c d:RD} {row0 row1:List RD} {r0 r1:RI} {y0 y1:Dy} (hc0:b.cs[0]? = some c0) (hc1:b.cs[1]? = some c1) (hm0:b.ms[0]? = some row0) (hm1:b.ms[1]? = some row1)
  (ha:row0[0]? = some a) (he:row0[1]? = some e) (hc:row1[0]? = some c) (hd:row1[1]? = some d) (hr0:b.rs[0]? = some r0) (hr1:b.rs[1]? = some r1) (hy0:l[0]? = some y0) (hy1:l[1]? = some y1)
  (h:(memC2 y0 y1 c0.dy c1.dy a.dy e.dy c.dy d.dy r0.lo.dy r0.hi.dy r1.lo.dy r1.hi.dy).2=true):(memC2 y0 y1 c0.dy c1.dy a.dy e.dy c.dy d.dy r0.lo.dy r0.hi.dy r1.lo.dy r1.hi.dy).1=true:=by
 have q00:qM b.ms 0 0=qv a.dy:=by unfold qM;rw[atN_some hm0 ha]
 have q01:qM b.ms 0 1=qv e.dy:=by unfold qM;rw[atN_some hm0 he]
 have q10:qM b.ms 1 0=qv c.dy:=by unfold qM;rw[atN_some hm1 hc]
 have q11:qM b.ms 1 1=qv d.dy:=by unfold qM;rw[atN_some hm1 hd]
 have f0:b.cs.getD 0 rdZero=c0:=by rw[List.getD_eq_getElem?_getD,hc0];rfl
 have f1:b.cs.getD 1 rdZero=c1:=by rw[List.getD_eq_getElem?_getD,hc1];rfl
 have g0:b.rs.getD 0 wholeR=r0:=by rw[List.getD_eq_getElem?_getD,hr0];rfl
 have g1:b.rs.getD 1 wholeR=r1:=by rw[List.getD_eq_getElem?_getD,hr1];rfl
 have o0:=ob.2.2 r0 (List.mem_of_getElem? hr0)
 have o1:=ob.2.2 r1 (List.mem_of_getElem? hr1)
 have oa:=ob.2.1 row0 (List.mem_of_getElem? hm0) a (List.mem_of_getElem? ha)
 have oe:=ob.2.1 row0 (List.mem_of_getElem? hm0) e (List.mem_of_getElem? he)
 have oc:=ob.2.1 row1 (List.mem_of_getElem? hm1) c (List.mem_of_getElem? hc)
 have od:=ob.2.1 row1 (List.mem_of_getElem? hm1) d (List.mem_of_getElem? hd)
 obtain⟨D,hD⟩:∃ D,D=qv a.dy*qv d.dy-qv e.dy*qv c.dy:=⟨_,rfl⟩
 have hz:D≠0:=by
  rw[hD]
  exact memC2_det oa oe oc od h
 obtain⟨t0,h0⟩:∃ t,t=((qv y0-qv c0.dy)*qv d.dy-qv e.dy*(qv y1-qv c1.dy))/D:=⟨_,rfl⟩
 obtain⟨t1,h1⟩:∃ t,t=(qv a.dy*(qv y1-qv c1.dy)-(qv y0-qv c0.dy)*qv c.dy)/D:=⟨_,rfl⟩
 have k0:D*t0=(qv y0-qv c0.dy)*qv d.dy-qv e.dy*(qv y1-qv c1.dy):=by rw[h0];grind
 have k1:D*t1=qv a.dy*(qv y1-qv c1.dy)-(qv y0-qv c0.dy)*qv c.dy:=by rw[h1];grind
 have z (x:Rat) (hx:D*x=0):x=0:=by
  rcases Rat.mul_eq_zero.1 hx with h | h
  ·exact absurd h hz
  ·exact h
 have e0:qv a.dy*t0+qv e.dy*t1=qv y0-qv c0.dy:=by
  have:=z (qv a.dy*t0+qv e.dy*t1-(qv y0-qv c0.dy)) (by grind)
  grind
 have e1:qv c.dy*t0+qv d.dy*t1=qv y1-qv c1.dy:=by
  have:=z (qv c.dy*t0+qv d.dy*t1-(qv y1-qv c1.dy)) (by grind)
  grind
 have S:=H.sol (fun i=>if i=0 then t0 else t1) (fun i y hi hy=>by
  rcases (show i=0∨i=1 by omega) with rfl | rfl
  ·rw[hy0] at hy;cases hy
   show (0:Rat)+qM b.ms 0 0*t0+qM b.ms 0 1*t1=_
   rw[q00,q01,f0,← e0];grind
  ·rw[hy1] at hy;cases hy
   show (0:Rat)+qM b.ms 1 0*t0+qM b.ms 1 1*t1=_
   rw[q10,q11,f1,← e1];grind)
 have s0:=S 0 (by omega)
 have s1:=S 1 (by omega)
 rw[g0] at s0
 rw[g1] at s1
 exact memC2_sound oa oe oc od o0.1 o0.2 o1.1 o1.2 h e0 e1 s0.1 s0.2 s1.1 s1.2
theorem member_in (g:RF) (aP:Option Addr) (P:List RD) (cP n:Nat) (V:World) (hg:g.rd V) (hP:RowD V aP P) (hn:g.cs.length=n) (h12:n=1∨n=2) (vg:vlF g=true) (vP:∀ x∈P,x.vl=true) (lP:P.length=n)
  (H:InsH g (P.map RD.dy) n) (hT:Tab V) :
  ∃ R:Bool×Bool,Calls Tryz.prog 16 #[.agg #[.slice g.ca g.cs.length g.cc,.slice g.aa g.ms.length g.ac,.slice g.ra g.rs.length g.rc],.slice aP P.length cP] V (MeO V R)∧(R.2=true→R.1=true):=by
 obtain⟨_,⟨m1,m2⟩,v3,v4,v5⟩:=vlF_iff.1 vg
 have ok:=okF_of hg vg
 have row (i:Nat) (hi:i<n):∃ r,g.ms[i]? = some r∧r.length=n∧∀ x∈r,x.vl=true:=by
  have h:g.ms[i]? = some g.ms[i]:=List.getElem?_eq_getElem (by omega)
  have:=v4 _ (List.mem_of_getElem? h)
  exact⟨_,h,by omega,this.2⟩
 have num (l:List RD) (hl:l.length=n) (hv:∀ x∈l,x.vl=true) (i:Nat) (hi:i<n):∃ x,l[i]? = some x∧x.vl=true:=by
  have h:l[i]? = some l[i]:=List.getElem?_eq_getElem (by omega)
  exact⟨_,h,hv _ (List.mem_of_getElem? h)⟩
 have ivl (i:Nat) (hi:i<n):∃ x,g.rs[i]? = some x∧x.vl=true:=by
  have h:g.rs[i]? = some g.rs[i]:=List.getElem?_eq_getElem (by omega)
  exact⟨_,h,(goodZ_iff.1 (v5 _ (List.mem_of_getElem? h))).2.1⟩
 have dyP (i:Nat) (x:RD) (h:P[i]? = some x):(P.map RD.dy)[i]? = some x.dy:=by rw[List.getElem?_map,h];rfl
 rcases h12 with rfl | rfl
 ·obtain⟨row0,h0,l0,w0⟩:=row 0 (by omega)
  obtain⟨a0,ha0,va0⟩:=num row0 l0 w0 0 (by omega)
  obtain⟨c0,hc0,vc0⟩:=num g.cs hn v3 0 (by omega)
  obtain⟨y0,hy0,vy0⟩:=num P lP vP 0 (by omega)
  obtain⟨r0,hr0,vr0⟩:=ivl 0 (by omega)
  exact⟨_,mem1_any g aP P cP c0 a0 y0 r0 row0 V hg hP hn hc0 h0 ha0 hr0 hy0 vc0 va0 vr0 vy0 hT,H.mem1 ok hc0 h0 ha0 hr0 (dyP 0 y0 hy0)⟩
 obtain⟨row0,h0,l0,w0⟩:=row 0 (by omega)
 obtain⟨row1,h1,l1,w1⟩:=row 1 (by omega)
 obtain⟨a,ha,va⟩:=num row0 l0 w0 0 (by omega)
 obtain⟨b,hb,vb⟩:=num row0 l0 w0 1 (by omega)
 obtain⟨c,hc,vc⟩:=num row1 l1 w1 0 (by omega)
 obtain⟨d,hd,vd⟩:=num row1 l1 w1 1 (by omega)
 obtain⟨c0,hc0,vc0⟩:=num g.cs hn v3 0 (by omega)
 obtain⟨c1,hc1,vc1⟩:=num g.cs hn v3 1 (by omega)
 obtain⟨y0,hy0,vy0⟩:=num P lP vP 0 (by omega)
 obtain⟨y1,hy1,vy1⟩:=num P lP vP 1 (by omega)
 obtain⟨r0,hr0,vr0⟩:=ivl 0 (by omega)
 obtain⟨r1,hr1,vr1⟩:=ivl 1 (by omega)
 exact⟨_,mem2_any g aP P cP c0 c1 a b c d y0 y1 r0 r1 row0 row1 V hg hP hn hc0 hc1 h0 h1 ha hb hc hd hr0 hr1 hy0 hy1 ⟨⟨vc0,vc1⟩,⟨va,vb,vc,vd⟩,⟨vr0,vr1⟩,vy0,vy1⟩ hT,
  H.mem2 ok hc0 hc1 h0 h1 ha hb hc hd hr0 hr1 (dyP 0 y0 hy0) (dyP 1 y1 hy1)⟩
theorem midn_zero (w:World):Calls Tryz.prog 36 #[.int .i64 0] w fun e w'=>e=.returned (.slice none 0 0)∧Kp w w':=by
 go_enter Tryz.func36,Tryz.ntmps36
 go_wp2_with fail
 go_ret
 exact⟨rfl,Kp.refl w⟩
theorem midn_few (n:Nat) (w:World) (h8:n≤8) (hT:Tab w) :
  Calls Tryz.prog 36 #[.int .i64 n] w fun e w'=>∃ (a:Option Addr) (Z:List (List RI)) (c:Nat),e=.returned (.slice a Z.length c)∧RowM w' a Z∧(1≤n→plM Z=tabM n n idP∧okM Z)∧Z.length≤1100000∧Kp w w':=by
 by_cases h:1≤n
 ·refine (midn_any n w h h8 hT).mono ?_
  rintro e w' ⟨a,Z,c,h1,h2,h3,h4,h5,h6⟩
  exact⟨a,Z,c,h1,h2,fun _=>⟨h3,h4⟩,h5,h6⟩
 obtain rfl:n=0:=by omega
 refine (midn_zero w).mono ?_
 rintro e w' ⟨h1,h2⟩
 exact⟨none,[],0,h1,fun i x hx=>by simp at hx,fun h=>absurd h (by decide),by simp,h2⟩
end Go.Proofs.YtbhmhfnfceakoaaGreatDoor
