/-
  Walks: frame.Point.
-/
import Derived.Deep.LoopGhost
import Derived.Deep.CutRange
import Derived.Deep.DeepFit
import Derived.Deep.RegionHeld3
import Derived.Test.YtbhmhfnfceakoaaGreatDoorMFrB
import Derived.Test.YtbhmhfnfceakoaaGreatDoorMLinP
namespace Go.Proofs.YtbhmhfnfceakoaaGreatDoor
open Go.RowKit
open Lib (hid)
def PtE (w:World) (X:List Dy) (f:Int) (e:Ending) (w':World):Prop :=
 ∃ (a:Option Addr) (Z:List RD) (c:Nat),e=.returned (.tuple #[.slice a Z.length c,.int .i64 f])∧RowD w' a Z∧Z.map RD.dy=X∧(∀ x∈Z,x.vl=true)∧Z.length≤1100000∧Kp w w'
theorem ptE_nil {w w':World} {f:Int} {e:Ending} (h:e=.returned (.tuple #[.slice none 0 0,.int .i64 f])) (k:Kp w w'):PtE w [] f e w':=⟨none,[],0,h,fun i x h=>by simp at h,rfl,fun x h=>by simp at h,by simp,k⟩
def ptO:Option (List Dy)→List Dy×Int
 | none=>([],9)
 | some l=>(l,0)
def ptC (f:RF) (r:List RD):List Dy×Int :=
 if vlF f=false then ([],1) else if (r.any fun x=>!x.vl)=true then ([],1) else if r.length≠f.cs.length then ([],3) else ptO (ptM r (f.cs.zip f.ms))
theorem ptM_step {r:List RD} {m:List (RD×List RD)} {k:Nat} {c:RD} {row:List RD} (h:m[k]? = some (c,row)):ptM r (m.drop k)=match ptR row r c.dy with | none=>none | some s=>(ptM r (m.drop (k+1))).map (s::·):=by
 rw[drop_at h]
 conv=>lhs;unfold ptM
 cases ptR row r c.dy with
 | some s=>show (match ptM r (m.drop (k+1)) with | none=>none | some l=>some (s::l))=_;cases ptM r (m.drop (k+1)) <;> rfl
 | none=>rfl
theorem ptM_none {r:List RD} {m:List (RD×List RD)} {k:Nat} {c:RD} {row:List RD} {X:List Dy} {D:Option (List Dy)} (h:m[k]? = some (c,row)) (hn:ptR row r c.dy=none) (hD:D=(ptM r (m.drop k)).map (X++·)):D=none:=by
 rw[hD,ptM_step h,hn];rfl
theorem ptM_some {r:List RD} {m:List (RD×List RD)} {k:Nat} {c:RD} {row:List RD} {X:List Dy} {s:Dy} {D:Option (List Dy)} (h:m[k]? = some (c,row)) (hn:ptR row r c.dy=some s) (hD:D=(ptM r (m.drop k)).map (X++·)):D=(ptM r (m.drop (k+1))).map (X++[s]++·):=by
 rw[hD,ptM_step h,hn]
 show ((ptM r (m.drop (k+1))).map (s::·)).map (X++·)=_
 rw[Option.map_map]
 congr 1
 funext l
 simp
set_option maxRecDepth 100000 in
set_option maxHeartbeats 16000000 in
theorem fpoint_any (f:RF) (b:Option Addr) (r:List RD) (d:Nat) (w:World) (hf:f.rd w) (hr:RowD w b r) (hl:r.length≤1100000) (hT:Tab w) :
   Calls Tryz.prog 37 #[.agg #[.slice f.ca f.cs.length f.cc,.slice f.aa f.ms.length f.ac,.slice f.ra f.rs.length f.rc],.slice b r.length d] w (PtE w (ptC f r).1 (ptC f r).2):=by
 obtain⟨ca,cs,cc,aa,ms,ac,ra,rs,rc⟩:=f
 dsimp only
 have HF:=hid hf
 have HCS:=hid (show RowD w ca cs from hf.1.1)
 have HMS:=hid (show RowN w aa ms from hf.2.1.1)
 have HR:=hid hr
 have HT:=hid hT
 obtain⟨D,hD⟩:∃ D,D=ptC ⟨ca,cs,cc,aa,ms,ac,ra,rs,rc⟩ r:=⟨_,rfl⟩
 have HD:=hid hD
 rw[← hD]
 have kk:=(Kp.refl w).alloc (.cells #[.slice ca cs.length cc,.slice aa ms.length ac,.slice ra rs.length rc] 26)
 have HFV:=hid (fun (W:World) (k:Kp w W)=>fval_any ⟨ca,cs,cc,aa,ms,ac,ra,rs,rc⟩ W (hf.kp k))
 clear hf hr hT hD
 go_enter Tryz.func37,Tryz.ntmps37
 go_upto_region 1 with fail
 generalize hW:w.alloc _=W at *
 have HS:=hid (show W.cell? ⟨w.heap.size,0,none⟩=some (.slice ca cs.length cc)∧W.cell? ⟨w.heap.size,1,none⟩=some (.slice aa ms.length ac)∧W.cell? ⟨w.heap.size,2,none⟩=some (.slice ra rs.length rc) by rw[← hW];simp)
 obtain⟨s0,s1,s2⟩:=id HS.out
 clear hW
 go_wp2_with fail
 go_fit (HFV.out _ kk)
 rintro e w1 ⟨rfl,k1⟩
 have HK1:=hid (kk.trans k1)
 have HS1:=hid (keep3 k1 HS.out)
 clear s0 s1 s2 k1 kk
 cases hv:vlF ⟨ca,cs,cc,aa,ms,ac,ra,rs,rc⟩ with
 | false =>
   have HE:=hid (show D=([],1) by rw[HD.out];unfold ptC;rw[if_pos hv])
   clear hv
   go_wp2_with fail
   rw[HE.out]
   refine bodyPost_ret (v:=.tuple #[.slice none 0 0,.int .i64 1]) (by simp[results,Tryz.results37,go_sem]) rfl ?_
   exact ptE_nil rfl HK1.out
 | true =>
 have HV:=hid hv
 have HL:=hid (show (1≤cs.length∧cs.length≤8)∧(ms.length=cs.length∧rs.length=cs.length)∧(∀ x∈cs,x.vl=true)∧(∀ r∈ms,r.length=cs.length∧∀ x∈r,x.vl=true)∧∀ x∈rs,goodZ x=true from vlF_iff.1 hv)
 clear hv
 go_wp2_with fail
 go_fit (containsD b r d 93 #[] _ (fun x=>!x.vl) hl (HR.out.kp HK1.out) ⟨fun _ _=>by kernel_rfl,fun x hx w1 k=>fp1_any x w1 (((HR.out.kp HK1.out).rd hx).kp k)⟩)
 rintro e w2 ⟨rfl,k2⟩
 have HK2:=hid (HK1.out.trans k2)
 have HS2:=hid (keep3 k2 HS1.out)
 clear k2
 cases hc:r.any fun x=>!x.vl with
 | true =>
   have HE:=hid (show D=([],1) by rw[HD.out];unfold ptC;rw[HV.out,if_neg (by decide),if_pos hc])
   clear hc
   go_wp2_with fail
   rw[HE.out]
   refine bodyPost_ret (v:=.tuple #[.slice none 0 0,.int .i64 1]) (by simp[results,Tryz.results37,go_sem]) rfl ?_
   exact ptE_nil rfl HK2.out
 | false =>
 have HVR:=hid (show ∀ y∈r,y.vl=true from fun y hy=>by
   have:=List.any_eq_false.1 hc y hy
   simpa using this)
 have HCR:=hid hc
 obtain⟨s0,s1,s2⟩:=id HS2.out
 clear hc
 by_cases hn:r.length=cs.length
 case neg =>
   have HE:=hid (show D=([],3) by rw[HD.out];unfold ptC;rw[HV.out,if_neg (by decide),if_neg (by rw[HCR.out];decide),if_pos hn])
   have g3:((r.length:Int) != (cs.length:Int))=true:=by simpa using (by omega:¬ (r.length:Int)=(cs.length:Int))
   clear hn
   go_wp2_with fail
   rw[HE.out]
   refine bodyPost_ret (v:=.tuple #[.slice none 0 0,.int .i64 3]) (by simp[results,Tryz.results37,go_sem]) rfl ?_
   exact ptE_nil rfl HK2.out
 have HN:=hid hn
 have g3:((r.length:Int) != (cs.length:Int))=false:=by rw[hn];simp
 obtain⟨Q,hQ⟩:∃ Q,Q=ptM r (cs.zip ms):=⟨_,rfl⟩
 have HQ:=hid (show Q=(ptM r ((cs.zip ms).drop 0)).map (([]:List RD).map RD.dy++·) by
   rw[List.drop_zero,hQ]
   cases ptM r (cs.zip ms) <;> rfl)
 have HDQ:=hid (show D=ptO Q by rw[HD.out];unfold ptC;rw[HV.out,if_neg (by decide),if_neg (by rw[HCR.out];decide),if_neg (by exact fun h=>h hn),hQ])
 clear hn hQ
 -- the rows
 obtain⟨c00,hc00⟩:∃ c,cs[0]? = some c:=⟨_,List.getElem?_eq_getElem (by have:=HL.out.1;omega)⟩
 obtain⟨m00,hm00⟩:∃ c,ms[0]? = some c:=⟨_,List.getElem?_eq_getElem (by have:=HL.out;omega)⟩
 obtain⟨r00,hr00⟩:∃ c,r[0]? = some c:=⟨_,List.getElem?_eq_getElem (by have:=HL.out.1;have:=HN.out;omega)⟩
 obtain⟨bc,oc,rfl,_⟩:=HCS.out 0 c00 hc00
 obtain⟨bm,om,_,_,rfl,_⟩:=HMS.out 0 m00 hm00
 obtain⟨br,orr,rfl,_⟩:=HR.out 0 r00 hr00
 clear hc00 hm00 hr00
 have h8:cs.length≤8:=HL.out.1.2
 go_wp2_with fail
 clear g3 s0 s1 s2
 go_loopg [6,32] ms.length (fun q v x wr=>∃ W:List RD,W.length+q=ms.length∧x=.int .i64 (W.length:Int)∧OwnE w2 wr v W∧(∀ y∈W,y.vl=true)∧Q=(ptM r ((cs.zip ms).drop W.length)).map (W.map RD.dy++·))
 case atStart=>exact⟨[],by simp,rfl,OwnE.nil (Kp.refl _),fun y h=>by simp at h,HQ.out⟩
 case round =>
 obtain⟨W,hWq,rfl,hO,hvW,hQW⟩:=hrel
 have HO:=hid hO
 have HW:=hid (And.intro hvW hQW)
 have HKR:=hid hO.1
 clear hO hvW hQW
 by_cases hlt:W.length<ms.length
 rotate_left
 · have hRe:W.length=ms.length:=by omega
   obtain⟨va,vc,rfl,hvc1,hvc2,hrm⟩:=HO.out.value
   have HRe:=hid (And.intro hRe hrm)
   have HE:=hid (show D=(W.map RD.dy,0) by
     rw[HDQ.out,HW.out.2,hRe]
     have:(cs.zip ms).drop ms.length=[]:=List.drop_eq_nil_of_le (by rw[List.length_zip];omega)
     rw[this]
     unfold ptM
     show ptO (some (W.map RD.dy++[]))=_
     rw[List.append_nil];rfl)
   have hl8:W.length≤1100000:=by have:=HL.out;omega
   clear hRe hWq hrm
   go_wp2_with fail
   rw[HE.out]
   refine bodyPost_ret (v:=.tuple #[.slice va W.length vc,.int .i64 0]) (by simp[results,Tryz.results37,go_sem]) rfl ?_
   exact⟨va,W,vc,rfl,HRe.out.2,rfl,HW.out.1,hl8,HK2.out.trans HKR.out⟩
 obtain⟨row,hrow⟩:∃ x,ms[W.length]? = some x:=⟨_,List.getElem?_eq_getElem hlt⟩
 obtain⟨c,hcc⟩:∃ x,cs[W.length]? = some x:=⟨_,List.getElem?_eq_getElem (by have:=HL.out;omega)⟩
 obtain⟨b2,o2,ra2,rc2,e2,hrc,hrD,hrl⟩:=HMS.out W.length row hrow
 cases e2
 obtain⟨b3,o3,e3,hcr,c0,c1,c2⟩:=(HCS.out.kp (HK2.out.trans HKR.out)) W.length c hcc
 cases e3
 have hrc1:=(HK2.out.trans HKR.out).cell hrc
 have HZP:=hid (show (cs.zip ms)[W.length]? = some (c,row) from List.getElem?_zip_eq_some.2 ⟨hcc,hrow⟩)
 have HRW:=hid (And.intro hrD (HL.out.2.2.2.1 row (List.mem_of_getElem? hrow)))
 have HCO:=hid (show c.ok wr from ⟨hcr,HL.out.2.2.1 c (List.mem_of_getElem? hcc)⟩)
 have Hlt:=hid (And.intro hlt hWq)
 have hk1:(0:Int)≤(W.length:Int):=by omega
 have hk2:(W.length:Int)<(ms.length:Int):=by omega
 have hk3:(W.length:Int)<(cs.length:Int):=by have:=HL.out;omega
 have hr8:row.length≤8:=by have:=HRW.out.2.1;omega
 obtain⟨s0,s1,s2⟩:=keep3 HKR.out HS2.out
 clear hrow hcc hrc hrD hrl hcr hWq hlt
 go_upto_region 9 with fail
 clear hrc1
 go_wp2_with fail
 go_fit (copied_any c _ HCO.out)
 rintro e v0 ⟨y0,rfl,oy0,dy0,j0⟩
 have hS3:=BoxD.new v0 y0 38
 have hk3':=(Kp.refl v0).alloc (.cells #[.bool y0.neg,.slice y0.a y0.xs.length y0.c,.int .i64 y0.e] 38)
 have HY0:=hid (And.intro (oy0.kp hk3') dy0)
 have HJ0:=hid (j0.trans hk3')
 have HV0:=hid j0.size
 clear oy0 dy0 c0 c1 c2 s0 s1 s2 j0 hk3'
 go_upto_region 10 with fail
 generalize hW3:v0.alloc _=W3 at *
 clear hW3
 obtain⟨V,hV⟩:∃ x:World,x=wr:=⟨_,rfl⟩
 subst hV
 obtain⟨gk1,hgk1⟩:∃ x:Nat,x=gk:=⟨_,rfl⟩
 subst hgk1
 go_wp2_with fail
 go_loopg [45] row.length (fun n v wr=>∃ (k:Nat) (s:RD),k+n=row.length∧v=.int .i64 (k:Int)∧Kp V wr∧BoxD wr v0.heap.size s∧s.ok wr∧ptR row r c.dy=ptR (row.drop k) (r.drop k) s.dy)
 case atStart=>exact⟨0,y0,by omega,rfl,HJ0.out,hS3,HY0.out.1,by rw[HY0.out.2,List.drop_zero,List.drop_zero]⟩
 case round =>
 obtain⟨k,s,hkn,rfl,hks,hS,hso,hC⟩:=hrel
 have HC:=hid hC
 have HSo:=hid hso
 have HKS:=hid hks
 clear hC hso hS3 hks
 by_cases hlt2:k<row.length
 rotate_left
 · have hke:k=row.length:=by omega
   have HD2:=hid (show ptR row r c.dy=some s.dy by
     rw[HC.out,hke,List.drop_length]
     unfold ptR;rfl)
   have kB:=(Kp.refl wr).alloc (.cells #[.bool s.neg,.slice s.a s.xs.length s.c,.int .i64 s.e] 38)
   have hownA:=HO.out.kp (HKS.out.trans kB)
   have hsA:=HSo.out.1.kp kB
   have hcl:W.length+1≤9000000:=by omega
   obtain⟨q0,q1,q2,f0,f1,f2⟩:=id hS
   clear hke hkn hS
   go_wp2_with (at_builtin;refine wpList_append_dyn rfl _ _ rfl w2 _ W rfl hownA _ _ rfl s hsA (by simp) hcl ?_;intro a' c' w9 hown9 hbel hgrow)
   go_roundg (gk1-1)
   case measure=>have:=Hlt.out;omega
   case rel =>
   refine⟨W++[s],by have:=Hlt.out;rw[List.length_append,List.length_singleton];omega,by rw[List.length_append,List.length_singleton];go_num,by simpa using hown9,vl_snocD HW.out.1 HSo.out.2,?_⟩
   rw[List.map_append,List.length_append,List.length_singleton]
   exact ptM_some HZP.out HD2.out HW.out.2
 obtain⟨x,hx⟩:∃ x,row[k]? = some x:=⟨_,List.getElem?_eq_getElem hlt2⟩
 obtain⟨b5,o5,e5,hrd,s0,s1,s2⟩:=(HRW.out.1.kp ((HK2.out.trans HKR.out).trans HKS.out)) k x hx
 subst e5
 obtain⟨y,hy⟩:∃ y,r[k]? = some y:=⟨_,List.getElem?_eq_getElem (by have:=HRW.out.2.1;have:=HN.out;omega)⟩
 have kA:=(Kp.refl wr).alloc (.cells #[.bool x.neg,.slice x.a x.xs.length x.c,.int .i64 x.e] 38)
 obtain⟨b4,o4,e4,hyd,t0,t1,t2⟩:=(HR.out.kp (((HK2.out.trans HKR.out).trans HKS.out).trans kA)) k y hy
 cases e4
 have OXY:=hid (And.intro (And.intro hx (show x.ok (wr.alloc (.cells #[.bool x.neg,.slice x.a x.xs.length x.c,.int .i64 x.e] 38)) from ⟨hrd.kp kA,HRW.out.2.2 x (List.mem_of_getElem? hx)⟩)) (And.intro hy (show y.ok (wr.alloc (.cells #[.bool x.neg,.slice x.a x.xs.length x.c,.int .i64 x.e] 38)) from ⟨hyd,HVR.out y (List.mem_of_getElem? hy)⟩)))
 have hj1:(0:Int)≤(k:Int):=by omega
 have hj2:(k:Int)<(row.length:Int):=by omega
 have hj3:(k:Int)<(r.length:Int):=by have:=HRW.out.2.1;have:=HN.out;omega
 have Hkn:=hid (And.intro hkn hlt2)
 have HSA:=hid (hS.kp kA)
 have HKA:=hid (HKS.out.trans kA)
 have HSoA:=hid (HSo.out.kp kA)
 have hb4:=World.block_lt_of_cell? _ _ t0
 clear hx hy hrd hyd hkn hS
 go_upto_region 13 with fail
 clear s0 s1 s2
 have hb3:wr.heap.size<(wr.alloc (.cells #[.bool x.neg,.slice x.a x.xs.length x.c,.int .i64 x.e] 38)).heap.size:=by simp
 have hPx:(wr.alloc (.cells #[.bool x.neg,.slice x.a x.xs.length x.c,.int .i64 x.e] 38)).cell? ⟨wr.heap.size,0,none⟩=some (.bool x.neg)∧(wr.alloc (.cells #[.bool x.neg,.slice x.a x.xs.length x.c,.int .i64 x.e] 38)).cell? ⟨wr.heap.size,1,none⟩=some (.slice x.a x.xs.length x.c)∧(wr.alloc (.cells #[.bool x.neg,.slice x.a x.xs.length x.c,.int .i64 x.e] 38)).cell? ⟨wr.heap.size,2,none⟩=some (.int .i64 x.e):=by simp
 generalize hW4:wr.alloc _=W4 at *
 clear hW4 kA
 have hPC:(W4.cell? ⟨wr.heap.size,0,none⟩=some (.bool x.neg)∧W4.cell? ⟨wr.heap.size,0+1,none⟩=some (.slice x.a x.xs.length x.c)∧W4.cell? ⟨wr.heap.size,0+2,none⟩=some (.int .i64 x.e))∧W4.cell? ⟨br,orr+k*3,none⟩=some (.bool y.neg)∧W4.cell? ⟨br,orr+k*3+1,none⟩=some (.slice y.a y.xs.length y.c)∧W4.cell? ⟨br,orr+k*3+2,none⟩=some (.int .i64 y.e):=⟨hPx,t0,t1,t2⟩
 clear hPx t0 t1 t2
 go_cut [12,13] from 50 to 58 (fun s t wx=>∃ (b1:Nat) (q:RD),s=.pointer (some ⟨b1,0,none⟩)∧t=.int .i64 (chk (prodD x.dy y.dy)).2∧HasD W4 wx b1 q (chk (prodD x.dy y.dy)).1)
 case first =>
   have hOK:(chk (prodD x.dy y.dy)).1.ok:=chk_canon_ok _ _ _
   have HOK:=hid hOK
   have kd:=hid (Kp.refl W4).drew
   have hSd:=keep33 kd.out hPC
   have HS0:=hid hPC
   have KZ:=hid (show Kp W4 (W4.alloc (.cells #[.bool false,.slice none 0 0,.int .i64 0] 38)).drew from kd.out.trans ((Kp.refl W4.drew).alloc _))
   have HSZ:=hid (keep33 KZ.out hPC)
   have BZ:=hid (show Box3 (W4.alloc (.cells #[.bool false,.slice none 0 0,.int .i64 0] 38)).drew W4.heap.size _ _ _ from Box3.new W4.drew _ _ _ _)
   have n1:wr.heap.size≠W4.heap.size:=Nat.ne_of_lt hb3
   have n2:br≠W4.heap.size:=Nat.ne_of_lt hb4
   have HTM:=hid (HT.out.kp ((HK2.out.trans HKR.out).trans HKA.out))
   clear hPC hb3 hb4 hOK
   go_region_held3 (fun w'=>(w'.cell? ⟨wr.heap.size,0,none⟩=some (.bool x.neg)∧w'.cell? ⟨wr.heap.size,0+1,none⟩=some (.slice x.a x.xs.length x.c)∧w'.cell? ⟨wr.heap.size,0+2,none⟩=some (.int .i64 x.e))∧w'.cell? ⟨br,orr+k*3,none⟩=some (.bool y.neg)∧w'.cell? ⟨br,orr+k*3+1,none⟩=some (.slice y.a y.xs.length y.c)∧w'.cell? ⟨br,orr+k*3+2,none⟩=some (.int .i64 y.e)) (first | with_reducible assumption | with_reducible exact keep33 (by assumption) (by assumption) | with_reducible exact keep33 ((Kp.refl _).alloc _) (by assumption) | with_reducible exact set33x (by assumption) (by assumption) (by assumption) | with_reducible exact HSZ.out | fail)
     (first
       | ((with_reducible refine (Mul_rd x y _ (OXY.out.1.2.kp kd.out) (OXY.out.2.2.kp kd.out) (HTM.out.kp kd.out)).mono ?_); rintro e v1 ⟨z1, rfl, r1, d1, q1, j1⟩
          have KJ:=hid (kd.out.trans j1)
          have hS1:=keep33 KJ.out HS0.out
          have O1:=hid (And.intro (show z1.ok v1 from ⟨r1,q1 HOK.out⟩) d1)
          clear r1 d1 q1)
       | ((with_reducible refine (Mul_rd x y _ (OXY.out.1.2.kp KZ.out) (OXY.out.2.2.kp KZ.out) (HTM.out.kp KZ.out)).mono ?_); rintro e v1 ⟨z1, rfl, r1, d1, q1, j1⟩
          have KJ:=hid (KZ.out.trans j1)
          have BV:=BZ.out.kp j1
          have O1:=hid (And.intro (show z1.ok v1 from ⟨r1,q1 HOK.out⟩) d1)
          clear r1 d1 q1
          obtain⟨q0,q1,q2,f0,f1,f2⟩:=id BV)
       | fail)
   all_goals
     go_wp2_with fail
     go_meet
     case rel=>first
       | exact⟨_,z1,rfl,rfl,hasD_store BV nofun nofun nofun O1.out.1 O1.out.2 KJ.out (Nat.le_refl _)⟩
       | exact⟨_,z1,rfl,rfl,hasD_alloc O1.out.1 O1.out.2 KJ.out _⟩
 case rest =>
 obtain⟨b1,z1,rfl,rfl,hD1⟩:=hcut
 obtain⟨W8,hW8⟩:∃ x:World,x=wc:=⟨_,rfl⟩
 subst hW8
 have HK8:=hid hD1.2.2.2.1
 have hSB:=HSA.out.kp HK8.out
 have HKB:=hid (HKA.out.trans HK8.out)
 have SoB:=HSoA.out.kp HK8.out
 have O1:=hid (And.intro hD1.2.1 hD1.2.2.1)
 obtain⟨m0,m1,m2⟩:=hD1.1
 obtain⟨q0,q1,q2,f0,f1,f2⟩:=id hSB
 clear hPC hD1 hb3 hb4
 by_cases he1:(chk (prodD x.dy y.dy)).2=0
 case neg =>
   have g1:((chk (prodD x.dy y.dy)).2 != 0)=true:=by rw[bne,beq_eq_false_iff_ne.2 he1];rfl
   have g3:((chk (prodD x.dy y.dy)).2==0)=false:=beq_eq_false_iff_ne.2 he1
   have HE:=hid (show D=([],9) by rw[HDQ.out,ptM_none HZP.out (HC.out.trans (ptR_mul OXY.out.1.1 OXY.out.2.1 he1)) HW.out.2];rfl)
   have HKF:=hid ((HK2.out.trans HKR.out).trans HKB.out)
   clear hSB m0 m1 m2 he1 q0 q1 q2 f0 f1 f2
   go_wp2_with fail
   rw[HE.out]
   refine bodyPost_ret (v:=.tuple #[.slice none 0 0,.int .i64 9]) (by simp[results,Tryz.results37,go_sem]) rfl ?_
   exact ptE_nil rfl HKF.out
 have HE1:=hid he1
 rw[he1]
 clear he1
 go_wp2_with fail
 go_fit (Add_rd s z1 _ SoB O1.out.1 (HT.out.kp ((HK2.out.trans HKR.out).trans HKB.out)))
 rintro e w6 ⟨z2,rfl,rz,dz,vz,k6⟩
 have O2:=hid (And.intro (show z2.ok w6 from ⟨rz,vz (sumD_chk_ok _ _)⟩) dz)
 have hSC:=hSB.kp k6
 have HKC:=hid (HKB.out.trans k6)
 clear rz dz vz hSB q0 q1 q2 f0 f1 f2 m0 m1 m2 SoB k6
 obtain⟨q0,q1,q2,f0,f1,f2⟩:=id hSC
 go_upto_region 17 with fail
 obtain⟨hN,hU⟩:=BoxD.store hSC z2 rfl
 generalize hW9:(((w6.setCell _ _).setCell _ _).setCell _ _)=W9 at *
 have HKD:=hid (hU.2.2.1 _ HKC.out HV0.out)
 have HNS:=hid (And.intro hN (hU.okD O2.out.1))
 clear hSC hN hU hW9 q0 q1 q2 f0 f1 f2
 by_cases he2:(chk (sumD s.dy z1.dy)).2=0
 · have HDN:=hid (HC.out.trans (ptR_next OXY.out.1.1 OXY.out.2.1 HE1.out O1.out.2 he2 O2.out.2))
   rw[he2]
   clear he2
   go_wp2_with fail
   go_roundg (gk-1)
   case rel=>exact⟨k+1,z2,by have:=Hkn.out;omega,by go_num,HKD.out,HNS.out.1,HNS.out.2,HDN.out⟩
   case measure=>have:=Hkn.out;omega
 have g1:((chk (sumD s.dy z1.dy)).2 != 0)=true:=by rw[bne,beq_eq_false_iff_ne.2 he2];rfl
 have g3:((chk (sumD s.dy z1.dy)).2==0)=false:=beq_eq_false_iff_ne.2 he2
 have HE:=hid (show D=([],9) by rw[HDQ.out,ptM_none HZP.out (HC.out.trans (ptR_add OXY.out.1.1 OXY.out.2.1 HE1.out O1.out.2 he2)) HW.out.2];rfl)
 have HKF:=hid ((HK2.out.trans HKR.out).trans HKD.out)
 clear he2
 go_wp2_with fail
 rw[HE.out]
 refine bodyPost_ret (v:=.tuple #[.slice none 0 0,.int .i64 9]) (by simp[results,Tryz.results37,go_sem]) rfl ?_
 exact ptE_nil rfl HKF.out
end Go.Proofs.YtbhmhfnfceakoaaGreatDoor
