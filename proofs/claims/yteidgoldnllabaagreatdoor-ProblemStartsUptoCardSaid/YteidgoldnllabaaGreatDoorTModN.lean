/-
  Walks: (*looker).mode.
-/
import Derived.Deep.QuietTactic
import Derived.BigQuiet
import Derived.Deep.RegionHeld3
import Derived.Deep.DeepFit
import Derived.Deep.CutBlock
import Derived.Test.YteidgoldnllabaaGreatDoorTRCoN
import Derived.Test.YteidgoldnllabaaGreatDoorTTail
set_option maxHeartbeats 16000000
set_option maxRecDepth 20000
namespace Go.Proofs.YteidgoldnllabaaGreatDoor
open Go.RowKit Go.Sort
theorem OwnU.sl {wb w:World} {v:Value} {xs:List ByteArray} (h:OwnU wb w v xs):∃ a c,v=.slice a xs.length c∧RowS w a xs:=by
 cases xs with
 | cons s t =>
  obtain⟨g,c,h1,_,_,_,h5⟩:=h.row (by simp)
  exact⟨_,c,h1,h5⟩
 | nil =>
 obtain⟨_,⟨h2,h3⟩⟩:=h
 rcases h3 with ⟨rfl,h3⟩ | ⟨g,cap,cur,rfl,_⟩
 ·exact⟨none,0,rfl,fun i s hs=>by simp at hs⟩
 exact⟨_,_,rfl,fun i s hs=>by simp at hs⟩
theorem OwnU.nil {wb w:World} (k:Kp wb w):OwnU wb w (.slice none 0 0) []:=⟨k,World.ownsRow_nil _ _ _ _⟩
theorem drop_eq {α:Type} {l:List α} {k:Nat} {q:α} (h:l[k]? = some q):l.drop k=q::l.drop (k+1):=by
 obtain⟨h1,e⟩:=List.getElem?_eq_some_iff.1 h
 rw[← e];exact List.drop_eq_getElem_cons h1
theorem take_map {α β:Type} (f:α→β) {l:List α} {k:Nat} {q:α} (h:l[k]? = some q):(l.take (k+1)).map f=(l.take k).map f++[f q]:=by rw[List.take_add_one,h,List.map_append];rfl
theorem keep2V {w w':World} (k:Kp w w') {p q:Addr} {u v:Value} (h:w.cell? p=some u∧w.cell? q=some v):w'.cell? p=some u∧w'.cell? q=some v:=⟨k.cell h.1,k.cell h.2⟩
theorem flowF_step {st all:List ByteArray} {fs:List Qe} {k:Nat} {q:Qe} (h:fs[k]? = some q) (R:Flt) :
  orF (flowF st all ((fs.take k).map Qe.name) (fs.drop k)) R=orF (givenF st all q ((fs.take k).map Qe.name)) (orF (flowF st all ((fs.take (k+1)).map Qe.name) (fs.drop (k+1))) R):=by
 rw[drop_eq h,take_map _ h,← orF_assoc];rfl
theorem missF_step {hv st:List ByteArray} {k:Nat} {s:ByteArray} (h:st[k]? = some s) (R:Flt):orF (missF hv (st.drop k)) R=orF (needF (isIn s hv) 3 s) (orF (missF hv (st.drop (k+1))) R):=by
 rw[drop_eq h,← orF_assoc];rfl
theorem edgesF_step {st all mds:List ByteArray} {es:List Ed} {k:Nat} {x:Ed} (h:es[k]? = some x):edgesF st all mds (es.drop k)=orF (needF (isIn x.tx mds) 7 x.tx) (orF (knownF all x.g) (orF (flowF st all [] x.rs) (edgesF st all mds (es.drop (k+1))))):=by
 rw[drop_eq h]
 show orF (edgeF st all mds x) _=_
 unfold edgeF
 rw[orF_assoc,orF_assoc]
theorem lmode_any (x':Lk) (lb:Nat) (m:Mo) (B:Nat) (w:World) (hx:x'.at w lb) (hat:m.at w B) (hB:B≤w.heap.size) :
  Calls Tryz.prog 67 #[.pointer (some ⟨lb,0,none⟩),.agg #[.string m.name,.slice m.fa m.fs.length m.fc,.slice m.ea m.es.length m.ec]] w fun r w'=>EndF (modeF x'.st x'.all x'.md m) r∧Kp w w':=by
 have k1:Kp w (w.alloc (.cells #[.string m.name,.slice m.fa m.fs.length m.fc,.slice m.ea m.es.length m.ec] 41)):=(Kp.refl w).alloc _
 have hB1:CellsV (w.alloc (.cells #[.string m.name,.slice m.fa m.fs.length m.fc,.slice m.ea m.es.length m.ec] 41)) w.heap.size 0 m.cells:=CellsV.new w m.cells _ _ rfl
 obtain⟨F,hF⟩:∃ F,modeF x'.st x'.all x'.md m=F:=⟨_,rfl⟩
 have HF:F=orF (flowF x'.st x'.all [] m.fs) (orF (missF (m.fs.map Qe.name) x'.st) (edgesF x'.st x'.all x'.md m.es)):=hF.symm
 rw[hF]
 have HF:=Lib.hid HF
 clear hF
 go_enter Tryz.func67,Tryz.ntmps67
 go_upto_region 1 with fail
 generalize w.alloc _=W at *
 have HX:=Lib.hid (Lk.at_kp hx k1)
 have HM:=Lib.hid (Mo.at_kp hat k1)
 have HB1:=Lib.hid hB1
 have K1:=Lib.hid k1
 have hBW:B≤W.heap.size:=Nat.le_trans hB k1.size
 have hfl:=hat.1.2.1
 have hel:=hat.1.2.2
 have hsl:=hx.2.2.1
 have hml:=hx.2.2.2.2
 have q0:=hB1 0 _ rfl;have q1:=hB1 1 _ rfl;have q2:=hB1 2 _ rfl
 clear hx hat hB1 k1
 go_upto_region 3 with fail
 clear q0 q1 q2
 go_loopw [4,17] (fun y x wr=>∃ k:Nat,k≤m.fs.length∧x=.int .i64 k∧OwnU W wr y ((m.fs.take k).map Qe.name)∧F=orF (flowF x'.st x'.all ((m.fs.take k).map Qe.name) (m.fs.drop k)) (orF (missF (m.fs.map Qe.name) x'.st) (edgesF x'.st x'.all x'.md m.es))) (fun _ x _=>m.fs.length-(intOf x).toNat)
 case atStart=>exact⟨0,by omega,rfl,OwnU.nil (.refl _),HF.out⟩
 case round =>
 obtain⟨k,hk,rfl,hO,hz⟩:=hrel
 obtain⟨va,vc,rfl,hrw⟩:=hO.sl
 have hkw:=hO.1
 have HK:=Lib.hid hkw
 have HO:=Lib.hid hO
 by_cases hlt:k<m.fs.length
 ·obtain⟨q,hs⟩:∃ q,m.fs[k]? = some q:=⟨_,List.getElem?_eq_getElem hlt⟩
  obtain⟨b,o,ha,_,hc⟩:=HM.out.2.1.1.kp hkw k q hs
  have hq:=Qe.at_kp (HM.out.2.1.2 q (List.mem_of_getElem? hs)) hkw
  rw[flowF_step hs] at hz
  have HT:=Lib.hid (take_map Qe.name hs)
  have hnl:((m.fs.take k).map Qe.name).length≤1100000:=by rw[List.length_map,List.length_take];omega
  have k2:Kp wr (wr.alloc (.cells #[.string q.name,.int .i64 q.e.kind,.int .i64 q.e.rn,.int .i64 q.e.rd,.string q.e.name,.int .i64 q.e.pw,.slice q.e.a q.e.l.length q.e.c] 73)):=(Kp.refl wr).alloc _
  have hb2:CellsV (wr.alloc (.cells #[.string q.name,.int .i64 q.e.kind,.int .i64 q.e.rn,.int .i64 q.e.rd,.string q.e.name,.int .i64 q.e.pw,.slice q.e.a q.e.l.length q.e.c] 73)) wr.heap.size 0 q.cells:=CellsV.new wr q.cells _ _ rfl
  have hw1:W.heap.size≤wr.heap.size:=hkw.size
  have q0:wr.cell? ⟨b,o+k*7,none⟩=some (.string q.name):=hc 0 _ rfl;have q1:=hc 1 _ rfl;have q2:=hc 2 _ rfl;have q3:=hc 3 _ rfl;have q4:=hc 4 _ rfl;have q5:=hc 5 _ rfl;have q6:=hc 6 _ rfl
  have Ha:=ha
  clear hc hs hkw
  generalize hnn:(m.fs.take k).map Qe.name=nn at *
  have HS:=Lib.hid hz
  have Hnn:=Lib.hid hnn
  clear hz hnn
  rw[Ha]
  go_upto_region 5 with fail
  generalize wr.alloc _=W2 at *
  have HG:=Lib.hid (given_any x' lb q va vc nn B W2 (Lk.at_kp HX.out (HK.out.trans k2)) (Ex.at_kp hq.2 k2) (by have:=k2.size;omega) (hrw.kp k2) hnl)
  have HB2:=Lib.hid hb2
  have HO2:=Lib.hid (HO.out.kp k2)
  have p0:=hb2 0 _ rfl;have p1:=hb2 1 _ rfl;have p2:=hb2 2 _ rfl;have p3:=hb2 3 _ rfl;have p4:=hb2 4 _ rfl;have p5:=hb2 5 _ rfl;have p6:=hb2 6 _ rfl
  clear hb2 hrw q0 q1 q2 q3 q4 q5 q6
  cases hg:givenF x'.st x'.all q nn with
  | some f =>
   rw[hg] at HG HS
   clear hg
   go_wp2_with (first | (go_at_call 129;go_fit HG.out;rintro r w3 ⟨hr,k3⟩;obtain rfl:r=.panicked [{ v:=fltV f.1 f.2,recovered:=false }]:=hr) | fail)
   exact⟨rfl,by rw[HS.out];exact rfl,K1.out.trans (HK.out.trans (k2.trans k3))⟩
  | none =>
  rw[hg] at HG HS
  clear hg
  go_wp2_with (first | (go_at_call 129;go_fit HG.out;rintro r w3 ⟨hr,k3⟩;obtain rfl:r=.returned (.tuple #[]):=hr;clear p0 p1 p2 p3 p4 p5 p6;have p0:=(HB2.out.kp k3) 0 _ rfl;have HO3:=Lib.hid (HO2.out.kp k3)) | (at_builtin;refine wpList_append_us rfl _ _ rfl W _ nn rfl (HO3.out.kp ((Kp.refl _).alloc _)) ⟨w3.heap.size,0,none⟩ 1 [q.name] 1 rfl rfl (rowS_one _ _ _ (by simp)) (by simp only[List.length_cons,List.length_nil];omega) ?_;intro v4 w4 hO4) | fail)
  go_roundw
  case measure=>simp only[intOf];omega
  case rel =>
  refine⟨k+1,by omega,by go_num,?_,?_⟩
  ·rw[HT.out];exact hO4
  exact HS.out
 have hk2:k=m.fs.length:=by omega
 subst hk2
 have hd:m.fs.drop m.fs.length=[]:=List.drop_eq_nil_of_le (Nat.le_refl _)
 rw[hd,List.take_length] at hz
 rw[List.take_length] at HO hO hrw ⊢
 have hz2:F=orF (missF (m.fs.map Qe.name) x'.st) (edgesF x'.st x'.all x'.md m.es):=hz
 have HZ:=Lib.hid hz2
 have hnl:(m.fs.map Qe.name).length≤1100000:=by rw[List.length_map];omega
 generalize hnn:m.fs.map Qe.name=nn at *
 have hcs:wr.cell? ⟨lb,0,none⟩=some (.slice x'.sa x'.st.length x'.sc):=(Lk.at_kp HX.out HK.out).1 0 _ rfl
 have HRW:=Lib.hid hrw
 clear hz hz2 hd hkw hO hrw hlt hnn
 go_upto_region 9 with fail
 clear hcs
 obtain⟨V,hV⟩:∃ V:World,V=wr:=⟨_,rfl⟩
 subst hV
 go_loopw [39] (fun x wr=>∃ k:Nat,k≤x'.st.length∧x=.int .i64 k∧F=orF (missF nn (x'.st.drop k)) (edgesF x'.st x'.all x'.md m.es)∧Kp V wr) (fun x _=>x'.st.length-(intOf x).toNat)
 case atStart=>exact⟨0,by omega,rfl,HZ.out,.refl _⟩
 case round =>
 obtain⟨j,hj,rfl,hz,hkq⟩:=hrel
 have HKQ:=Lib.hid hkq
 have HKW:=Lib.hid (HK.out.trans hkq)
 by_cases hlt:j<x'.st.length
 ·obtain⟨s,hs⟩:∃ s,x'.st[j]? = some s:=⟨_,List.getElem?_eq_getElem hlt⟩
  obtain⟨b,o,ha,hc⟩:=(Lk.at_kp HX.out HKW.out).2.1.1 j s hs
  rw[missF_step hs] at hz
  have HC:=Lib.hid fun W' (h:W'=wr)=>conS_any va vc nn s W' (h▸HRW.out.kp hkq) hnl
  clear hs hkq
  cases hq:inS nn s with
  | false =>
   rw[hq] at HC
   have HS:=Lib.hid (show F=some (3,s) by rw[hz];unfold isIn;rw[hq];rfl)
   clear hq hz
   rw[ha]
   go_wp2_with (first | (go_at_call 97;go_fit (HC.out _ rfl);rintro r w1 ⟨rfl,rfl⟩) | (go_at_call 61;go_fit (need_no _ _ _);rintro r w2 ⟨rfl,rfl⟩) | fail)
   exact⟨rfl,by rw[HS.out];exact rfl,K1.out.trans HKW.out⟩
  | true =>
  rw[hq] at HC
  have HS:=Lib.hid (show F=orF (missF nn (x'.st.drop (j+1))) (edgesF x'.st x'.all x'.md m.es) by rw[hz];unfold isIn;rw[hq];rfl)
  clear hq hz
  rw[ha]
  go_wp2_with (first | (go_at_call 97;go_fit (HC.out _ rfl);rintro r w1 ⟨rfl,rfl⟩) | (go_at_call 61;go_fit (need_yes _ _ _);rintro r w2 ⟨rfl,rfl⟩) | fail)
  go_roundw
  case measure=>simp only[intOf];omega
  case rel=>exact⟨j+1,by omega,by go_num,HS.out,HKQ.out⟩
 have hd:x'.st.drop j=[]:=List.drop_eq_nil_of_le (by omega)
 rw[hd] at hz
 have HZ2:=Lib.hid (show F=edgesF x'.st x'.all x'.md m.es from hz)
 have hb1:=HB1.out.kp HKW.out
 have q0:=hb1 0 _ rfl;have q1:=hb1 1 _ rfl;have q2:=hb1 2 _ rfl
 clear hz hd hkq hb1 HZ
 go_upto_region 14 with fail
 clear q0 q1 q2
 obtain⟨V2,hV⟩:∃ V:World,V=wr:=⟨_,rfl⟩
 subst hV
 go_loopw [52] (fun x wr=>∃ k:Nat,k≤m.es.length∧x=.int .i64 k∧F=edgesF x'.st x'.all x'.md (m.es.drop k)∧Kp V2 wr) (fun x _=>m.es.length-(intOf x).toNat)
 case atStart=>exact⟨0,by omega,rfl,HZ2.out,.refl _⟩
 case round =>
 obtain⟨i,hi,rfl,hz,hke⟩:=hrel
 have HKE:=Lib.hid hke
 have HKX:=Lib.hid (HKW.out.trans hke)
 by_cases hlt2:i<m.es.length
 rotate_left
 ·have hd:m.es.drop i=[]:=List.drop_eq_nil_of_le (by omega)
  rw[hd] at hz
  have HZ3:=Lib.hid (show F=none from hz)
  clear hz hd hke
  go_wp2
  go_end0
  exact⟨by rw[HZ3.out];exact rfl,K1.out.trans HKX.out⟩
 obtain⟨x,hs⟩:∃ x,m.es[i]? = some x:=⟨_,List.getElem?_eq_getElem hlt2⟩
 obtain⟨b,o,ha,_,hc⟩:=HM.out.2.2.1.kp HKX.out i x hs
 have hq:=Ed.at_kp (HM.out.2.2.2 x (List.mem_of_getElem? hs)) HKX.out
 rw[edgesF_step hs] at hz
 have HS:=Lib.hid hz
 have k2:Kp wr (wr.alloc (.cells #[.int .i64 x.g.kind,.int .i64 x.g.rn,.int .i64 x.g.rd,.string x.g.name,.int .i64 x.g.pw,.slice x.g.a x.g.l.length x.g.c,.int .i64 x.dir,.string x.tx,.slice x.a x.rs.length x.c] 103)):=(Kp.refl wr).alloc _
 have hb2:CellsV (wr.alloc (.cells #[.int .i64 x.g.kind,.int .i64 x.g.rn,.int .i64 x.g.rd,.string x.g.name,.int .i64 x.g.pw,.slice x.g.a x.g.l.length x.g.c,.int .i64 x.dir,.string x.tx,.slice x.a x.rs.length x.c] 103)) wr.heap.size 0 x.cells:=CellsV.new wr x.cells _ _ rfl
 have hw1:W.heap.size≤wr.heap.size:=HKX.out.size
 have q0:wr.cell? ⟨b,o+i*9,none⟩=some (.int .i64 x.g.kind):=hc 0 _ rfl;have q1:=hc 1 _ rfl;have q2:=hc 2 _ rfl;have q3:=hc 3 _ rfl;have q4:=hc 4 _ rfl;have q5:=hc 5 _ rfl;have q6:=hc 6 _ rfl;have q7:=hc 7 _ rfl;have q8:=hc 8 _ rfl
 clear hc hs hke hz
 rw[ha]
 go_upto_region 16 with fail
 generalize wr.alloc _=W2 at *
 have hxl:=hq.1.2.2
 have HG:=Lib.hid (Ed.at_kp hq k2)
 have HB2:=Lib.hid hb2
 have HKY:=Lib.hid (HKX.out.trans k2)
 have hBW2:B≤W2.heap.size:=Nat.le_trans hBW HKY.out.size
 have HC:=Lib.hid fun W' (k:Kp W2 W')=>conS_any x'.ma x'.mc x'.md x.tx W' (Lk.at_kp HX.out (HKY.out.trans k)).2.1.2.2 hml
 have HN:=Lib.hid fun W' (k:Kp W2 W')=>lknown_any x' lb x.g B W' (Lk.at_kp HX.out (HKY.out.trans k)) (Ex.at_kp HG.out.1.1 k) (Nat.le_trans hBW2 k.size)
 have hc2:W2.cell? ⟨lb,2,none⟩=some (.slice x'.ma x'.md.length x'.mc):=(Lk.at_kp HX.out HKY.out).1 2 _ rfl
 have hc3:W2.cell? ⟨wr.heap.size,0+7,none⟩=some (.string x.tx):=hb2 7 _ rfl
 have kd:=(Kp.refl W2).drew
 have hSd:=keep2V kd ⟨hc2,hc3⟩
 have KJ:=Lib.hid kd
 clear hb2 hq q0 q1 q2 q3 q4 q5 q6 q7 q8 kd hc2 hc3
 cases h1:inS x'.md x.tx with
 | false =>
  rw[h1] at HC
  replace HS:=Lib.hid (show F=some (7,x.tx) by rw[HS.out];unfold isIn;rw[h1];rfl)
  clear h1
  refine wp_region_held_drew (S:=fun w'=>w'.cell? ⟨lb,2,none⟩=some (.slice x'.ma x'.md.length x'.mc)∧w'.cell? ⟨wr.heap.size,0+7,none⟩=some (.string x.tx)) (by kernel_rfl) hSd (fun hHeld=>?_)
  have HD:=Lib.hid hSd
  clear hSd
  refine tk 0 ?_;refine tk 1 ?_;refine tk 2 ?_;refine tk 3 ?_;refine tk 4 ?_;refine tk 5 ?_;refine tk 7 ?_;refine tk 8 ?_;(try simp only[aput])
  refine cm 6 (fun K hK=>?_)
  (go_simp;go_fit (HC.out _ KJ.out);rintro r w1 ⟨rfl,rfl⟩)
  refine hK.out _ _ HD.out (fun hHeld=>?_);clear hK K
  refine cm 9 (fun K hK=>?_)
  (go_simp;go_fit (need_no _ _ _);rintro r w2 ⟨rfl,rfl⟩)
  exact⟨rfl,by rw[HS.out];exact rfl,K1.out.trans (HKY.out.trans KJ.out)⟩
 | true =>
 rw[h1] at HC
 replace HS:=Lib.hid (show F=orF (knownF x'.all x.g) (orF (flowF x'.st x'.all [] x.rs) (edgesF x'.st x'.all x'.md (m.es.drop (i+1)))) by rw[HS.out];unfold isIn;rw[h1];rfl)
 clear h1
 go_region_held3 (fun w'=>w'.cell? ⟨lb,2,none⟩=some (.slice x'.ma x'.md.length x'.mc)∧w'.cell? ⟨wr.heap.size,0+7,none⟩=some (.string x.tx)) (first | with_reducible assumption | with_reducible exact keep2V (by assumption) (by assumption) | fail) (first | (go_at_call 97;go_fit (HC.out _ KJ.out);rintro r w1 ⟨rfl,rfl⟩) | (go_at_call 61;go_fit (need_yes _ _ _);rintro r w2 ⟨rfl,rfl⟩) | fail)
 generalize W2.drew=W3 at *
 have k3:=KJ.out
 have hb3:=HB2.out.kp k3
 have p0:=hb3 0 _ rfl;have p1:=hb3 1 _ rfl;have p2:=hb3 2 _ rfl;have p3:=hb3 3 _ rfl;have p4:=hb3 4 _ rfl;have p5:=hb3 5 _ rfl;have p6:=hb3 6 _ rfl;have p7:=hb3 7 _ rfl;have p8:=hb3 8 _ rfl
 have HN2:=Lib.hid (HN.out W3 k3)
 clear HN HC hSd hb3
 cases h2:knownF x'.all x.g with
 | some f =>
  rw[h2] at HN2 HS
  clear h2
  go_wp2_with (first | (go_at_call 130;go_fit HN2.out;rintro r w3 ⟨hr,k4⟩;obtain rfl:r=.panicked [{ v:=fltV f.1 f.2,recovered:=false }]:=hr) | fail)
  exact⟨rfl,by rw[HS.out];exact rfl,K1.out.trans (HKY.out.trans (k3.trans k4))⟩
 | none =>
 rw[h2] at HN2 HS
 clear h2
 go_upto_region 20 with (first | (go_at_call 130;go_fit HN2.out;rintro r w4 ⟨hr,k4⟩;obtain rfl:r=.returned (.tuple #[]):=hr;clear p0 p1 p2 p3 p4 p5 p6 p7 p8;have hb4:=HB2.out.kp (k3.trans k4);have p8:w4.cell? ⟨wr.heap.size,0+8,none⟩=some (.slice x.a x.rs.length x.c):=hb4 8 _ rfl) | fail)
 have HS2:=Lib.hid (show F=orF (flowF x'.st x'.all ((x.rs.take 0).map Qe.name) (x.rs.drop 0)) (edgesF x'.st x'.all x'.md (m.es.drop (i+1))) from HS.out)
 have HKA:=Lib.hid (HKY.out.trans (k3.trans k4))
 have HG4:=Lib.hid (Ed.at_kp HG.out (k3.trans k4))
 have HE4:=Lib.hid (HKE.out.trans (k2.trans (k3.trans k4)))
 generalize hRR:edgesF x'.st x'.all x'.md (m.es.drop (i+1))=RR at *
 have HRR:=Lib.hid hRR
 clear hRR HS hb4 k2 k3 k4 HN2 HKX HKE KJ
 clear p8
 obtain⟨V3,hV⟩:∃ V:World,V=w4:=⟨_,rfl⟩
 subst hV
 go_loopw [11,73] (fun y z wr=>∃ k:Nat,k≤x.rs.length∧z=.int .i64 k∧OwnU V3 wr y ((x.rs.take k).map Qe.name)∧F=orF (flowF x'.st x'.all ((x.rs.take k).map Qe.name) (x.rs.drop k)) RR) (fun _ z _=>x.rs.length-(intOf z).toNat)
 case atStart=>exact⟨0,by omega,rfl,OwnU.nil (.refl _),HS2.out⟩
 case round =>
 obtain⟨k,hk,rfl,hO,hz⟩:=hrel
 obtain⟨va2,vc2,rfl,hrw⟩:=hO.sl
 have hkw:=hO.1
 have HKB:=Lib.hid hkw
 have HOB:=Lib.hid hO
 by_cases hlt3:k<x.rs.length
 rotate_left
 ·-- [[b
  have hk2:k=x.rs.length:=by omega
  subst hk2
  have hd:x.rs.drop x.rs.length=[]:=List.drop_eq_nil_of_le (Nat.le_refl _)
  rw[hd] at hz
  have HZ3:=Lib.hid (show F=RR from hz)
  clear hz hd hkw hO hrw hlt3
  go_wp2
  go_roundw
  case rel=>exact⟨i+1,by omega,by go_num,by rw[HRR.out];exact HZ3.out,HE4.out.trans HKB.out⟩
  case measure=>simp only[intOf];omega
  -- ]]b
 -- [[a
 obtain⟨q,hs⟩:∃ q,x.rs[k]? = some q:=⟨_,List.getElem?_eq_getElem hlt3⟩
 obtain⟨b,o,ha,_,hc⟩:=HG4.out.2.1.kp hkw k q hs
 have hq:=Qe.at_kp (HG4.out.2.2 q (List.mem_of_getElem? hs)) hkw
 rw[flowF_step hs] at hz
 have HT:=Lib.hid (take_map Qe.name hs)
 have hnl2:((x.rs.take k).map Qe.name).length≤1100000:=by rw[List.length_map,List.length_take];omega
 have k2:Kp wr (wr.alloc (.cells #[.string q.name,.int .i64 q.e.kind,.int .i64 q.e.rn,.int .i64 q.e.rd,.string q.e.name,.int .i64 q.e.pw,.slice q.e.a q.e.l.length q.e.c] 107)):=(Kp.refl wr).alloc _
 have hb2:CellsV (wr.alloc (.cells #[.string q.name,.int .i64 q.e.kind,.int .i64 q.e.rn,.int .i64 q.e.rd,.string q.e.name,.int .i64 q.e.pw,.slice q.e.a q.e.l.length q.e.c] 107)) wr.heap.size 0 q.cells:=CellsV.new wr q.cells _ _ rfl
 have hwb:B≤wr.heap.size:=Nat.le_trans hBW (HKA.out.trans hkw).size
 have q0:wr.cell? ⟨b,o+k*7,none⟩=some (.string q.name):=hc 0 _ rfl;have q1:=hc 1 _ rfl;have q2:=hc 2 _ rfl;have q3:=hc 3 _ rfl;have q4:=hc 4 _ rfl;have q5:=hc 5 _ rfl;have q6:=hc 6 _ rfl
 have Ha:=ha
 clear hc hs hkw
 generalize hnn2:(x.rs.take k).map Qe.name=nn2 at *
 have HS:=Lib.hid hz
 have Hnn:=Lib.hid hnn2
 clear hz hnn2
 rw[Ha]
 go_upto_region 22 with fail
 generalize wr.alloc _=W5 at *
 have HG:=Lib.hid (given_any x' lb q va2 vc2 nn2 B W5 (Lk.at_kp HX.out (HKA.out.trans (HKB.out.trans k2))) (Ex.at_kp hq.2 k2) (by have:=k2.size;omega) (hrw.kp k2) hnl2)
 have HB2:=Lib.hid hb2
 have HO2:=Lib.hid (HOB.out.kp k2)
 have p0:=hb2 0 _ rfl;have p1:=hb2 1 _ rfl;have p2:=hb2 2 _ rfl;have p3:=hb2 3 _ rfl;have p4:=hb2 4 _ rfl;have p5:=hb2 5 _ rfl;have p6:=hb2 6 _ rfl
 clear hb2 hrw q0 q1 q2 q3 q4 q5 q6
 cases hg:givenF x'.st x'.all q nn2 with
 | some f =>
  rw[hg] at HG HS
  clear hg
  go_wp2_with (first | (go_at_call 129;go_fit HG.out;rintro r w3 ⟨hr,k3⟩;obtain rfl:r=.panicked [{ v:=fltV f.1 f.2,recovered:=false }]:=hr) | fail)
  exact⟨rfl,by rw[HS.out];exact rfl,K1.out.trans (HKA.out.trans (HKB.out.trans (k2.trans k3)))⟩
 | none =>
  rw[hg] at HG HS
  clear hg
  go_wp2_with (first | (go_at_call 129;go_fit HG.out;rintro r w3 ⟨hr,k3⟩;obtain rfl:r=.returned (.tuple #[]):=hr;clear p0 p1 p2 p3 p4 p5 p6;have p0:=(HB2.out.kp k3) 0 _ rfl;have HO3:=Lib.hid (HO2.out.kp k3)) | (at_builtin;refine wpList_append_us rfl _ _ rfl V3 _ nn2 rfl (HO3.out.kp ((Kp.refl _).alloc _)) ⟨w3.heap.size,0,none⟩ 1 [q.name] 1 rfl rfl (rowS_one _ _ _ (by simp)) (by simp only[List.length_cons,List.length_nil];omega) ?_;intro v4 w4 hO4) | fail)
  go_roundw
  case measure=>simp only[intOf];omega
  case rel =>
  refine⟨k+1,by omega,by go_num,?_,?_⟩
  ·rw[HT.out];exact hO4
  exact HS.out
 -- ]]a
end Go.Proofs.YteidgoldnllabaaGreatDoor
