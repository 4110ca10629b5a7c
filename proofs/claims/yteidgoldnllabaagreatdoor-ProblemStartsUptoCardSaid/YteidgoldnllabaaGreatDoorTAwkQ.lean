/-
  Walks: the problem law's v, example.
-/
import Derived.Test.YteidgoldnllabaaGreatDoorTIvlN
import Derived.Test.YteidgoldnllabaaGreatDoorTSysN
import Derived.Test.YteidgoldnllabaaGreatDoorTAwkT
import Derived.Test.YteidgoldnllabaaGreatDoorTEqoN
import Derived.Deep.RegionHeld3
set_option maxHeartbeats 8000000
set_option maxRecDepth 20000
namespace Go.Proofs.YteidgoldnllabaaGreatDoor
open Go.RowKit Go.Sort
theorem lawvq_any (s:ByteArray) (w:World):Calls Tryz.prog 123 #[.string s] w fun r w'=>r=.returned (.agg #[.int .i64 2,.int .i64 0,.int .i64 0,.string s,.int .i64 0,.slice none 0 0])∧Kp w w':=by
 have k1:Kp w (w.alloc (.cells #[.int .i64 2,.int .i64 0,.int .i64 0,.string s,.int .i64 0,.slice none 0 0] 71)):=(Kp.refl w).alloc _
 have hb:BoxX (w.alloc (.cells #[.int .i64 2,.int .i64 0,.int .i64 0,.string s,.int .i64 0,.slice none 0 0] 71)) w.heap.size (varE s):=BoxX.new w (varE s) _ rfl
 go_enter Tryz.func123,Tryz.ntmps123
 go_wp2_with fail
 obtain⟨⟨s0,s1,s2,s3,s4,s5⟩,_⟩:=hb
 refine bodyPost_ret (v:=.agg #[.int .i64 2,.int .i64 0,.int .i64 0,.string s,.int .i64 0,.slice none 0 0]) (by simp[results,Tryz.results123,go_sem]) rfl ?_
 exact⟨rfl,k1⟩
theorem rowV_new {α:Type} {cells:α→List Value} {k:Nat} (hk:∀ x,(cells x).length=k) (_h0:0<k) {w w':World} {T:TypeId} (zs:List α) (q:Kp (w.alloc (.cells (zs.flatMap cells).toArray T)) w'):RowV cells k w' w'.heap.size (some ⟨w.heap.size,0,none⟩) zs:=by
 have hs:w.heap.size<w'.heap.size:=by have:=q.size;rw[World.size_alloc] at this;omega
 intro i x hx
 refine⟨w.heap.size,0,rfl,hs,?_⟩
 have h:CellsV (w.alloc (.cells (zs.flatMap cells).toArray T)) w.heap.size (0+i*k) (cells x):=fun j u hj=>by
  have hjk:j<k:=by rw[← hk x];exact (List.getElem?_eq_some_iff.1 hj).1
  have h1:=flatV_at cells k hk zs i j x hx hjk
  have h2:=CellsV.new w (zs.flatMap cells) T w.heap.size rfl (i*k+j) u (h1.trans hj)
  rw[Nat.zero_add] at h2 ⊢
  exact h2
 exact h.kp q
theorem rowV_newg {α:Type} {cells:α→List Value} {k:Nat} (hk:∀ x,(cells x).length=k) (h0:0<k) {w w':World} {T:TypeId} (g:Nat) (hg:w.heap.size=g) (zs:List α) (q:Kp (w.alloc (.cells (zs.flatMap cells).toArray T)) w'):RowV cells k w' w'.heap.size (some ⟨g,0,none⟩) zs:=by
 subst hg
 exact rowV_new hk h0 zs q
def ExqOut (w:World) (r:Ending) (w':World):Prop:=∃ sa ma fa a1 a2,r=.returned (.agg #[.slice (exP sa ma fa a1 a2).sa (exP sa ma fa a1 a2).ss.length (exP sa ma fa a1 a2).sc,.slice (exP sa ma fa a1 a2).pa (exP sa ma fa a1 a2).ps.length (exP sa ma fa a1 a2).pc,.slice (exP sa ma fa a1 a2).ma (exP sa ma fa a1 a2).ms.length (exP sa ma fa a1 a2).mc,.int .i64 (exP sa ma fa a1 a2).tn,.int .i64 (exP sa ma fa a1 a2).td])∧(exP sa ma fa a1 a2).at w' w'.heap.size∧Kp w w'
theorem keepQ10 {w w':World} (k:Kp w w') {p0 p1 p2 p3 p4 p5 p6 p7 p8 p9:Addr} {v0 v1 v2 v3 v4 v5 v6 v7 v8 v9:Value} (h:w.cell? p0=some v0∧w.cell? p1=some v1∧w.cell? p2=some v2∧w.cell? p3=some v3∧w.cell? p4=some v4∧w.cell? p5=some v5∧w.cell? p6=some v6∧w.cell? p7=some v7∧w.cell? p8=some v8∧w.cell? p9=some v9) :
  w'.cell? p0=some v0∧w'.cell? p1=some v1∧w'.cell? p2=some v2∧w'.cell? p3=some v3∧w'.cell? p4=some v4∧w'.cell? p5=some v5∧w'.cell? p6=some v6∧w'.cell? p7=some v7∧w'.cell? p8=some v8∧w'.cell? p9=some v9 :=
 ⟨k.cell h.1,k.cell h.2.1,k.cell h.2.2.1,k.cell h.2.2.2.1,k.cell h.2.2.2.2.1,k.cell h.2.2.2.2.2.1,k.cell h.2.2.2.2.2.2.1,k.cell h.2.2.2.2.2.2.2.1,k.cell h.2.2.2.2.2.2.2.2.1,k.cell h.2.2.2.2.2.2.2.2.2⟩
theorem updQ10 {g:Nat} {w w':World} (hU:Upd g w w') {b0 b1:Nat} {v0 v1 v2 v3 v4 v5 v6 v7 v8 v9:Value} (n0:b0≠g) (n1:b1≠g) (h:w.cell? ⟨b0,0,none⟩=some v0∧w.cell? ⟨b0,1,none⟩=some v1∧w.cell? ⟨b0,2,none⟩=some v2∧w.cell? ⟨b0,3,none⟩=some v3∧w.cell? ⟨b1,0,none⟩=some v4∧w.cell? ⟨b1,1,none⟩=some v5∧w.cell? ⟨b1,2,none⟩=some v6∧w.cell? ⟨b1,3,none⟩=some v7∧w.cell? ⟨b1,4,none⟩=some v8∧w.cell? ⟨b1,5,none⟩=some v9) :
  w'.cell? ⟨b0,0,none⟩=some v0∧w'.cell? ⟨b0,1,none⟩=some v1∧w'.cell? ⟨b0,2,none⟩=some v2∧w'.cell? ⟨b0,3,none⟩=some v3∧w'.cell? ⟨b1,0,none⟩=some v4∧w'.cell? ⟨b1,1,none⟩=some v5∧w'.cell? ⟨b1,2,none⟩=some v6∧w'.cell? ⟨b1,3,none⟩=some v7∧w'.cell? ⟨b1,4,none⟩=some v8∧w'.cell? ⟨b1,5,none⟩=some v9:=by
 have k (i:Nat):w'.cell? ⟨b0,i,none⟩=w.cell? ⟨b0,i,none⟩:=hU.2.2.2.1 ⟨b0,i,none⟩ n0
 have j (i:Nat):w'.cell? ⟨b1,i,none⟩=w.cell? ⟨b1,i,none⟩:=hU.2.2.2.1 ⟨b1,i,none⟩ n1
 rw[k,k,k,k,j,j,j,j,j,j]
 exact h
theorem RowV.kpB {α:Type} {cells:α→List Value} {n:Nat} {w w':World} {a:Option Addr} {zs:List α} (h:RowV cells n w w.heap.size a zs) (k:Kp w w'):RowV cells n w' w'.heap.size a zs:=(h.kp k).up k.size
theorem exq_at {g:Nat} {X W:World} (hU:Upd g X W) {sa ma fa a1 a2:Option Addr} (r1:RowV Ex.cells 6 X X.heap.size a1 [varE nX,varE nX]) (r2:RowV Ex.cells 6 X X.heap.size a2 [.mk 5 0 0 ⟨#[]⟩ 0 a1 2 [varE nX,varE nX]]) (r3:RowV De.cells 5 X X.heap.size sa [⟨nX,1,1,1,1⟩,⟨nY,1,1,1,1⟩]) (r4:RowV Qe.cells 7 X X.heap.size fa [⟨nY,exG a1 a2⟩,⟨nX,varE nY⟩]) (r5:RowV Mo.cells 3 X X.heap.size ma [exM fa a1 a2])
  (n1:∀ b o,a1=some ⟨b,o,none⟩→b≠g) (n2:∀ b o,a2=some ⟨b,o,none⟩→b≠g) (n3:∀ b o,sa=some ⟨b,o,none⟩→b≠g) (n4:∀ b o,fa=some ⟨b,o,none⟩→b≠g) (n5:∀ b o,ma=some ⟨b,o,none⟩→b≠g):(exP sa ma fa a1 a2).at W W.heap.size:=by
 have hs:W.heap.size=X.heap.size:=hU.2.2.2.2
 rw[hs]
 have x1:=rowX_of (rowV_upd r1 hU n1)
 have x2:=rowX_of (rowV_upd r2 hU n2)
 have hg:(exG a1 a2).at W X.heap.size:=by
  refine Ex.at_iff.2 ⟨⟨Nat.le_refl _,(by show (1:Nat)≤maxLen;decide),Nat.zero_le _,(by show (1:Nat)≤1048576;decide)⟩,x2,fun x hx=>?_⟩
  rcases List.mem_cons.1 hx with rfl | hx
  ·refine Ex.at_iff.2 ⟨⟨Nat.le_refl _,(by show (2:Nat)≤maxLen;decide),Nat.zero_le _,(by show (2:Nat)≤1048576;decide)⟩,x1,fun x hx=>?_⟩
   rcases List.mem_cons.1 hx with rfl | hx
   ·exact varE_at (by decide)
   ·rcases List.mem_cons.1 hx with rfl | hx
    ·exact varE_at (by decide)
    ·cases hx
  ·cases hx
 refine⟨⟨(by show (2:Nat)≤1048576;decide),Nat.zero_le _,(by show (1:Nat)≤1048576;decide)⟩,⟨rowV_upd r3 hU n3,fun d hd=>?_⟩,⟨fun i x h=>by simp[exP] at h,fun d hd=>by simp[exP] at hd⟩,rowV_upd r5 hU n5,fun m hm=>?_⟩
 ·rcases List.mem_cons.1 hd with rfl | hd
  ·show (1:Nat)≤maxLen;decide
  rcases List.mem_cons.1 hd with rfl | hd
  ·show (1:Nat)≤maxLen;decide
  cases hd
 rcases List.mem_cons.1 hm with rfl | hm
 ·refine⟨⟨(by show (3:Nat)≤maxLen;decide),(by show (2:Nat)≤1048576;decide),Nat.zero_le _⟩,⟨rowV_upd r4 hU n4,fun q hq=>?_⟩,fun i x h=>by simp[exM] at h,fun x h=>by simp[exM] at h⟩
  rcases List.mem_cons.1 hq with rfl | hq
  ·exact⟨by show (1:Nat)≤maxLen;decide,hg⟩
  rcases List.mem_cons.1 hq with rfl | hq
  ·exact⟨by show (1:Nat)≤maxLen;decide,varE_at (by decide)⟩
  cases hq
 cases hm
theorem exampleq_any (w:World):Calls Tryz.prog 57 #[] w (ExqOut w):=by
 have k1:Kp w (w.alloc (.cells #[.slice none 0 0,.slice none 0 0,.slice none 0 0,.int .i64 0,.int .i64 0] 27)):=(Kp.refl w).alloc _
 have hb:BoxV (w.alloc (.cells #[.slice none 0 0,.slice none 0 0,.slice none 0 0,.int .i64 0,.int .i64 0] 27)) w.heap.size [.slice none 0 0,.slice none 0 0,.slice none 0 0,.int .i64 0,.int .i64 0]:=BoxV.new w [_,_,_,_,_] _ _ rfl
 have hz:(w.alloc (.cells #[.slice none 0 0,.slice none 0 0,.slice none 0 0,.int .i64 0,.int .i64 0] 27)).heap.size=w.heap.size+1:=by simp
 go_enter Tryz.func57,Tryz.ntmps57
 go_upto_region 1 with fail
 generalize w.alloc _=W1 at *
 have k2:Kp W1 (W1.alloc (.cells #[.int .i64 1,.int .i64 1,.int .i64 1,.int .i64 1] 66)):=(Kp.refl W1).alloc _
 have hr:BoxV (W1.alloc (.cells #[.int .i64 1,.int .i64 1,.int .i64 1,.int .i64 1] 66)) (w.heap.size+1) [.int .i64 1,.int .i64 1,.int .i64 1,.int .i64 1]:=BoxV.new W1 [_,_,_,_] _ _ hz
 go_upto_region 2 with fail
 generalize W1.alloc _=W2 at *
 have HB:=Lib.hid (hb.kp k2)
 have HRg:=Lib.hid hr
 have KJ:=Lib.hid (Kp.refl W2)
 have K2:=Lib.hid (k1.trans k2)
 clear hb hr k1 k2 hz
 go_upto_region 3 with (first
  | (go_at_call 123;go_fit (lawvq_any nX _);rintro r wv ⟨rfl,kv⟩;replace KJ:=Lib.hid (KJ.out.trans kv);clear kv)
  | fail)
 have k3:Kp wv ((wv.alloc (.cells #[.int .i64 2,.int .i64 0,.int .i64 0,.string nX,.int .i64 0,.slice none 0 0,.int .i64 2,.int .i64 0,.int .i64 0,.string nX,.int .i64 0,.slice none 0 0] 71)).alloc (.cells #[.int .i64 5,.int .i64 0,.int .i64 0,.string ⟨#[]⟩,.int .i64 0,.slice (some ⟨wv.heap.size,0,none⟩) 2 2] 71)):=((Kp.refl wv).alloc _).alloc _
 have hrow:=rowV_new Ex.cells_len (by decide) (w':=((wv.alloc (.cells #[.int .i64 2,.int .i64 0,.int .i64 0,.string nX,.int .i64 0,.slice none 0 0,.int .i64 2,.int .i64 0,.int .i64 0,.string nX,.int .i64 0,.slice none 0 0] 71)).alloc (.cells #[.int .i64 5,.int .i64 0,.int .i64 0,.string ⟨#[]⟩,.int .i64 0,.slice (some ⟨wv.heap.size,0,none⟩) 2 2] 71))) (w:=wv) (T:=71) [varE nX,varE nX] ((Kp.refl _).alloc _)
 have hsq:BoxV ((wv.alloc (.cells #[.int .i64 2,.int .i64 0,.int .i64 0,.string nX,.int .i64 0,.slice none 0 0,.int .i64 2,.int .i64 0,.int .i64 0,.string nX,.int .i64 0,.slice none 0 0] 71)).alloc (.cells #[.int .i64 5,.int .i64 0,.int .i64 0,.string ⟨#[]⟩,.int .i64 0,.slice (some ⟨wv.heap.size,0,none⟩) 2 2] 71)) (wv.heap.size+1) [.int .i64 5,.int .i64 0,.int .i64 0,.string ⟨#[]⟩,.int .i64 0,.slice (some ⟨wv.heap.size,0,none⟩) 2 2]:=BoxV.new _ [_,_,_,_,_,_] _ _ (by simp)
 generalize World.alloc _ _=W3 at *
 have K3:=Lib.hid (KJ.out.trans k3)
 have HB3:=Lib.hid (HB.out.kp K3.out)
 have HR3:=Lib.hid (HRg.out.kp K3.out)
 have HS3:=Lib.hid hsq
 have HKK:=Lib.hid (K2.out.trans K3.out)
 have H3:=Lib.hid (show w.heap.size+1<W3.heap.size from HR3.out.2.2)
 have hwv:=KJ.out.size
 have hw2:=HRg.out.2.2
 have HN1:=Lib.hid (show ∀ b o,(some (⟨wv.heap.size,0,none⟩:Addr))=some ⟨b,o,none⟩→b≠w.heap.size from fun b o e=>by cases e;omega)
 have HNe:=Lib.hid (show wv.heap.size+1≠w.heap.size by omega)
 have RW1:=Lib.hid hrow
 clear k3 hrow hsq KJ hwv hw2
 obtain⟨a1,ha1⟩:∃ a,a=some (⟨wv.heap.size,0,none⟩:Addr):=⟨_,rfl⟩
 rw[← ha1] at HS3 RW1 HN1 ⊢
 generalize wv.heap.size+1=sb at *
 clear ha1
 have HS0:=Lib.hid (keepQ10 (Kp.refl W3) ⟨HR3.out.cell 0 rfl,HR3.out.cell 1 rfl,HR3.out.cell 2 rfl,HR3.out.cell 3 rfl,HS3.out.cell 0 rfl,HS3.out.cell 1 rfl,HS3.out.cell 2 rfl,HS3.out.cell 3 rfl,HS3.out.cell 4 rfl,HS3.out.cell 5 rfl⟩)
 have hSd:=keepQ10 ((Kp.refl W3).drew) HS0.out
 refine wp_region_held_drew (S:=fun w'=>w'.cell? ⟨w.heap.size+1,0,none⟩=some (.int .i64 1)∧w'.cell? ⟨w.heap.size+1,1,none⟩=some (.int .i64 1)∧w'.cell? ⟨w.heap.size+1,2,none⟩=some (.int .i64 1)∧w'.cell? ⟨w.heap.size+1,3,none⟩=some (.int .i64 1)∧w'.cell? ⟨sb,0,none⟩=some (.int .i64 5)∧w'.cell? ⟨sb,1,none⟩=some (.int .i64 0)∧w'.cell? ⟨sb,2,none⟩=some (.int .i64 0)∧w'.cell? ⟨sb,3,none⟩=some (.string ⟨#[]⟩)∧w'.cell? ⟨sb,4,none⟩=some (.int .i64 0)∧w'.cell? ⟨sb,5,none⟩=some (.slice a1 2 2)) (by kernel_rfl) hSd (fun hHeld=>?_)
 clear hSd
 refine tk 0 ?_;refine tk 1 ?_;refine tk 2 ?_;refine tk 3 ?_;refine tk 5 ?_;refine tk 14 ?_;(try simp only[aput])
 -- GEN
 refine wpAnyH_ready (rs:=[4,6,9]) (by kernel_rfl) (by simp) (AllReadyH.cons rfl (fun K hK=>?_) (AllReadyH.cons rfl (fun K hK=>?_) (AllReadyH.cons rfl (fun K hK=>?_) AllReadyH.nil)))
 ·go_simp
  refine hK.out _ _ (keepQ10 ((Kp.refl W3).alloc _).drew HS0.out) (fun hHeld=>?_)
  clear hK K
  refine wpAnyH_ready (rs:=[6,9]) (by kernel_rfl) (by simp) (AllReadyH.cons rfl (fun K hK=>?_) (AllReadyH.cons rfl (fun K hK=>?_) AllReadyH.nil))
  ·go_simp
   refine hK.out _ _ (keepQ10 (((Kp.refl W3).alloc _).alloc _).drew HS0.out) (fun hHeld=>?_)
   clear hK K
   refine tk 7 ?_;refine tk 8 ?_;(try simp only[aput])
   refine cm 9 (fun K hK=>?_)
   go_simp
   go_fit (lawvq_any ⟨#[121]⟩ _)
   rintro r w4 ⟨rfl,k4⟩
   have KW4:=Lib.hid ((((Kp.refl W3).alloc _).alloc _).drew.trans k4)
   refine hK.out _ _ (keepQ10 KW4.out HS0.out) (fun hHeld=>?_)
   clear hK K
   refine tk 10 ?_;(try simp only[aput])
   refine cm 11 (fun K hK=>?_)
   go_simp
   refine hK.out _ _ (keepQ10 (KW4.out.alloc _) HS0.out) (fun hHeld=>?_)
   clear hK K
   refine tk 12 ?_;(try simp only[aput])
   refine cm 13 (fun K hK=>?_)
   go_simp
   refine hK.out _ _ (keepQ10 ((KW4.out.alloc _).alloc _) HS0.out) (fun hHeld=>?_)
   clear hK K
   refine tk 15 ?_;(try simp only[aput])
   have KF:=Lib.hid (show Kp W3 ((w4.alloc (.cells #[.string ⟨#[121]⟩,.int .i64 7,.int .i64 0,.int .i64 0,.string ⟨#[]⟩,.int .i64 0,.slice (some ⟨W3.heap.size+1,0,none⟩) 1 1,.string ⟨#[120]⟩,.int .i64 2,.int .i64 0,.int .i64 0,.string ⟨#[121]⟩,.int .i64 0,.slice none 0 0] 73)).alloc (.cells #[.string ⟨#[114,117,110]⟩,.slice (some ⟨w4.heap.size,0,none⟩) 2 2,.slice none 0 0] 41)) from ((KW4.out.alloc _).alloc _))
   have R4:=Lib.hid (rowV_newg (cells:=De.cells) (k:=5) de_len (by decide) (w:=W3) (T:=68) (w':=((w4.alloc (.cells #[.string ⟨#[121]⟩,.int .i64 7,.int .i64 0,.int .i64 0,.string ⟨#[]⟩,.int .i64 0,.slice (some ⟨W3.heap.size+1,0,none⟩) 1 1,.string ⟨#[120]⟩,.int .i64 2,.int .i64 0,.int .i64 0,.string ⟨#[121]⟩,.int .i64 0,.slice none 0 0] 73)).alloc (.cells #[.string ⟨#[114,117,110]⟩,.slice (some ⟨w4.heap.size,0,none⟩) 2 2,.slice none 0 0] 41))) (W3.heap.size) (by simp) [⟨nX,1,1,1,1⟩,⟨nY,1,1,1,1⟩] (((((Kp.refl _).alloc _).drew.trans k4).alloc _).alloc _))
   have R6:=Lib.hid (rowV_newg (cells:=Ex.cells) (k:=6) Ex.cells_len (by decide) (w:=(W3.alloc (.cells #[.string ⟨#[120]⟩,.int .i64 1,.int .i64 1,.int .i64 1,.int .i64 1,.string ⟨#[121]⟩,.int .i64 1,.int .i64 1,.int .i64 1,.int .i64 1] 68))) (T:=71) (w':=((w4.alloc (.cells #[.string ⟨#[121]⟩,.int .i64 7,.int .i64 0,.int .i64 0,.string ⟨#[]⟩,.int .i64 0,.slice (some ⟨W3.heap.size+1,0,none⟩) 1 1,.string ⟨#[120]⟩,.int .i64 2,.int .i64 0,.int .i64 0,.string ⟨#[121]⟩,.int .i64 0,.slice none 0 0] 73)).alloc (.cells #[.string ⟨#[114,117,110]⟩,.slice (some ⟨w4.heap.size,0,none⟩) 2 2,.slice none 0 0] 41))) (W3.heap.size+1) (by simp) [.mk 5 0 0 ⟨#[]⟩ 0 a1 2 [varE nX,varE nX]] ((((Kp.refl _).drew.trans k4).alloc _).alloc _))
   have R11:=Lib.hid (rowV_newg (cells:=Qe.cells) (k:=7) (fun _=>rfl) (by decide) (w:=w4) (T:=73) (w':=((w4.alloc (.cells #[.string ⟨#[121]⟩,.int .i64 7,.int .i64 0,.int .i64 0,.string ⟨#[]⟩,.int .i64 0,.slice (some ⟨W3.heap.size+1,0,none⟩) 1 1,.string ⟨#[120]⟩,.int .i64 2,.int .i64 0,.int .i64 0,.string ⟨#[121]⟩,.int .i64 0,.slice none 0 0] 73)).alloc (.cells #[.string ⟨#[114,117,110]⟩,.slice (some ⟨w4.heap.size,0,none⟩) 2 2,.slice none 0 0] 41))) (w4.heap.size) (by simp) [⟨nY,exG a1 (some ⟨W3.heap.size+1,0,none⟩)⟩,⟨nX,varE nY⟩] ((Kp.refl _).alloc _))
   have R13:=Lib.hid (rowV_newg (cells:=Mo.cells) (k:=3) (fun _=>rfl) (by decide) (w:=(w4.alloc (.cells #[.string ⟨#[121]⟩,.int .i64 7,.int .i64 0,.int .i64 0,.string ⟨#[]⟩,.int .i64 0,.slice (some ⟨W3.heap.size+1,0,none⟩) 1 1,.string ⟨#[120]⟩,.int .i64 2,.int .i64 0,.int .i64 0,.string ⟨#[121]⟩,.int .i64 0,.slice none 0 0] 73))) (T:=41) (w':=((w4.alloc (.cells #[.string ⟨#[121]⟩,.int .i64 7,.int .i64 0,.int .i64 0,.string ⟨#[]⟩,.int .i64 0,.slice (some ⟨W3.heap.size+1,0,none⟩) 1 1,.string ⟨#[120]⟩,.int .i64 2,.int .i64 0,.int .i64 0,.string ⟨#[121]⟩,.int .i64 0,.slice none 0 0] 73)).alloc (.cells #[.string ⟨#[114,117,110]⟩,.slice (some ⟨w4.heap.size,0,none⟩) 2 2,.slice none 0 0] 41))) (w4.heap.size+1) (by simp) [exM (some ⟨w4.heap.size,0,none⟩) a1 (some ⟨W3.heap.size+1,0,none⟩)] (Kp.refl _))
   have n4:∀ b o,(some (⟨W3.heap.size,0,none⟩:Addr))=some ⟨b,o,none⟩→b≠w.heap.size:=fun b o e=>by cases e;have:=H3.out;have:=KW4.out.size;(try simp only[World.size_alloc]);omega
   have n6:∀ b o,(some (⟨W3.heap.size+1,0,none⟩:Addr))=some ⟨b,o,none⟩→b≠w.heap.size:=fun b o e=>by cases e;have:=H3.out;have:=KW4.out.size;(try simp only[World.size_alloc]);omega
   have n11:∀ b o,(some (⟨w4.heap.size,0,none⟩:Addr))=some ⟨b,o,none⟩→b≠w.heap.size:=fun b o e=>by cases e;have:=H3.out;have:=KW4.out.size;(try simp only[World.size_alloc]);omega
   have n13:∀ b o,(some (⟨w4.heap.size+1,0,none⟩:Addr))=some ⟨b,o,none⟩→b≠w.heap.size:=fun b o e=>by cases e;have:=H3.out;have:=KW4.out.size;(try simp only[World.size_alloc]);omega
   have hX:=HB3.out.kp KF.out
   have c0:=hX.cell 0 rfl;have c1:=hX.cell 1 rfl;have c2:=hX.cell 2 rfl;have c3:=hX.cell 3 rfl;have c4:=hX.cell 4 rfl
   have f0:=hX.2.1 0
   have f1:=hX.2.1 1
   have f2:=hX.2.1 2
   have f3:=hX.2.1 3
   have f4:=hX.2.1 4
   have HX:=Lib.hid hX
   clear hX
   refine cm 16 (fun K hK=>?_)
   go_simp
   generalize hW9:((((World.setCell _ _ _).setCell _ _).setCell _ _).setCell _ _).setCell _ _=W9
   obtain⟨hF,hK9,hU⟩:=box5_set HX.out (HKK.out.trans KF.out) (Nat.le_refl _) nofun nofun nofun nofun nofun _ _ _ _ _ hW9
   refine hK.out _ _ (updQ10 hU (by simp) HNe.out (keepQ10 KF.out HS0.out)) (fun hHeld=>?_)
   clear hK K
   refine wpAnyH_done (by kernel_rfl) ?_ _
   have hat:=exq_at hU (RW1.out.kpB KF.out) R6.out R4.out R11.out R13.out HN1.out n6 n4 n11 n13
   have s0:=hF.cell 0 rfl
   have s1:=hF.cell 1 rfl
   have s2:=hF.cell 2 rfl
   have s3:=hF.cell 3 rfl
   have s4:=hF.cell 4 rfl
   go_wp2_with fail
   refine bodyPost_ret (v:=.agg #[.slice (some ⟨W3.heap.size,0,none⟩) 2 2,.slice none 0 0,.slice (some ⟨w4.heap.size+1,0,none⟩) 1 1,.int .i64 1,.int .i64 1]) (by simp[results,Tryz.results57,go_sem,s0,s1,s2,s3,s4]) rfl ?_
   exact⟨_,_,_,_,_,rfl,hat,hK9⟩
  go_simp
  go_fit (lawvq_any ⟨#[121]⟩ _)
  rintro r w4 ⟨rfl,k4⟩
  have KW4:=Lib.hid (((Kp.refl W3).alloc _).drew.trans k4)
  refine hK.out _ _ (keepQ10 KW4.out HS0.out) (fun hHeld=>?_)
  clear hK K
  refine tk 10 ?_;(try simp only[aput])
  refine cm 6 (fun K hK=>?_)
  go_simp
  refine hK.out _ _ (keepQ10 (KW4.out.alloc _) HS0.out) (fun hHeld=>?_)
  clear hK K
  refine tk 7 ?_;refine tk 8 ?_;(try simp only[aput])
  refine cm 11 (fun K hK=>?_)
  go_simp
  refine hK.out _ _ (keepQ10 ((KW4.out.alloc _).alloc _) HS0.out) (fun hHeld=>?_)
  clear hK K
  refine tk 12 ?_;(try simp only[aput])
  refine cm 13 (fun K hK=>?_)
  go_simp
  refine hK.out _ _ (keepQ10 (((KW4.out.alloc _).alloc _).alloc _) HS0.out) (fun hHeld=>?_)
  clear hK K
  refine tk 15 ?_;(try simp only[aput])
  have KF:=Lib.hid (show Kp W3 (((w4.alloc (.cells #[.int .i64 5,.int .i64 0,.int .i64 0,.string ⟨#[]⟩,.int .i64 0,.slice a1 2 2] 71)).alloc (.cells #[.string ⟨#[121]⟩,.int .i64 7,.int .i64 0,.int .i64 0,.string ⟨#[]⟩,.int .i64 0,.slice (some ⟨w4.heap.size,0,none⟩) 1 1,.string ⟨#[120]⟩,.int .i64 2,.int .i64 0,.int .i64 0,.string ⟨#[121]⟩,.int .i64 0,.slice none 0 0] 73)).alloc (.cells #[.string ⟨#[114,117,110]⟩,.slice (some ⟨w4.heap.size+1,0,none⟩) 2 2,.slice none 0 0] 41)) from (((KW4.out.alloc _).alloc _).alloc _))
  have R4:=Lib.hid (rowV_newg (cells:=De.cells) (k:=5) de_len (by decide) (w:=W3) (T:=68) (w':=(((w4.alloc (.cells #[.int .i64 5,.int .i64 0,.int .i64 0,.string ⟨#[]⟩,.int .i64 0,.slice a1 2 2] 71)).alloc (.cells #[.string ⟨#[121]⟩,.int .i64 7,.int .i64 0,.int .i64 0,.string ⟨#[]⟩,.int .i64 0,.slice (some ⟨w4.heap.size,0,none⟩) 1 1,.string ⟨#[120]⟩,.int .i64 2,.int .i64 0,.int .i64 0,.string ⟨#[121]⟩,.int .i64 0,.slice none 0 0] 73)).alloc (.cells #[.string ⟨#[114,117,110]⟩,.slice (some ⟨w4.heap.size+1,0,none⟩) 2 2,.slice none 0 0] 41))) (W3.heap.size) (by simp) [⟨nX,1,1,1,1⟩,⟨nY,1,1,1,1⟩] (((((Kp.refl _).drew.trans k4).alloc _).alloc _).alloc _))
  have R6:=Lib.hid (rowV_newg (cells:=Ex.cells) (k:=6) Ex.cells_len (by decide) (w:=w4) (T:=71) (w':=(((w4.alloc (.cells #[.int .i64 5,.int .i64 0,.int .i64 0,.string ⟨#[]⟩,.int .i64 0,.slice a1 2 2] 71)).alloc (.cells #[.string ⟨#[121]⟩,.int .i64 7,.int .i64 0,.int .i64 0,.string ⟨#[]⟩,.int .i64 0,.slice (some ⟨w4.heap.size,0,none⟩) 1 1,.string ⟨#[120]⟩,.int .i64 2,.int .i64 0,.int .i64 0,.string ⟨#[121]⟩,.int .i64 0,.slice none 0 0] 73)).alloc (.cells #[.string ⟨#[114,117,110]⟩,.slice (some ⟨w4.heap.size+1,0,none⟩) 2 2,.slice none 0 0] 41))) (w4.heap.size) (by simp) [.mk 5 0 0 ⟨#[]⟩ 0 a1 2 [varE nX,varE nX]] (((Kp.refl _).alloc _).alloc _))
  have R11:=Lib.hid (rowV_newg (cells:=Qe.cells) (k:=7) (fun _=>rfl) (by decide) (w:=(w4.alloc (.cells #[.int .i64 5,.int .i64 0,.int .i64 0,.string ⟨#[]⟩,.int .i64 0,.slice a1 2 2] 71))) (T:=73) (w':=(((w4.alloc (.cells #[.int .i64 5,.int .i64 0,.int .i64 0,.string ⟨#[]⟩,.int .i64 0,.slice a1 2 2] 71)).alloc (.cells #[.string ⟨#[121]⟩,.int .i64 7,.int .i64 0,.int .i64 0,.string ⟨#[]⟩,.int .i64 0,.slice (some ⟨w4.heap.size,0,none⟩) 1 1,.string ⟨#[120]⟩,.int .i64 2,.int .i64 0,.int .i64 0,.string ⟨#[121]⟩,.int .i64 0,.slice none 0 0] 73)).alloc (.cells #[.string ⟨#[114,117,110]⟩,.slice (some ⟨w4.heap.size+1,0,none⟩) 2 2,.slice none 0 0] 41))) (w4.heap.size+1) (by simp) [⟨nY,exG a1 (some ⟨w4.heap.size,0,none⟩)⟩,⟨nX,varE nY⟩] ((Kp.refl _).alloc _))
  have R13:=Lib.hid (rowV_newg (cells:=Mo.cells) (k:=3) (fun _=>rfl) (by decide) (w:=((w4.alloc (.cells #[.int .i64 5,.int .i64 0,.int .i64 0,.string ⟨#[]⟩,.int .i64 0,.slice a1 2 2] 71)).alloc (.cells #[.string ⟨#[121]⟩,.int .i64 7,.int .i64 0,.int .i64 0,.string ⟨#[]⟩,.int .i64 0,.slice (some ⟨w4.heap.size,0,none⟩) 1 1,.string ⟨#[120]⟩,.int .i64 2,.int .i64 0,.int .i64 0,.string ⟨#[121]⟩,.int .i64 0,.slice none 0 0] 73))) (T:=41) (w':=(((w4.alloc (.cells #[.int .i64 5,.int .i64 0,.int .i64 0,.string ⟨#[]⟩,.int .i64 0,.slice a1 2 2] 71)).alloc (.cells #[.string ⟨#[121]⟩,.int .i64 7,.int .i64 0,.int .i64 0,.string ⟨#[]⟩,.int .i64 0,.slice (some ⟨w4.heap.size,0,none⟩) 1 1,.string ⟨#[120]⟩,.int .i64 2,.int .i64 0,.int .i64 0,.string ⟨#[121]⟩,.int .i64 0,.slice none 0 0] 73)).alloc (.cells #[.string ⟨#[114,117,110]⟩,.slice (some ⟨w4.heap.size+1,0,none⟩) 2 2,.slice none 0 0] 41))) (w4.heap.size+1+1) (by simp) [exM (some ⟨w4.heap.size+1,0,none⟩) a1 (some ⟨w4.heap.size,0,none⟩)] (Kp.refl _))
  have n4:∀ b o,(some (⟨W3.heap.size,0,none⟩:Addr))=some ⟨b,o,none⟩→b≠w.heap.size:=fun b o e=>by cases e;have:=H3.out;have:=KW4.out.size;(try simp only[World.size_alloc]);omega
  have n6:∀ b o,(some (⟨w4.heap.size,0,none⟩:Addr))=some ⟨b,o,none⟩→b≠w.heap.size:=fun b o e=>by cases e;have:=H3.out;have:=KW4.out.size;(try simp only[World.size_alloc]);omega
  have n11:∀ b o,(some (⟨w4.heap.size+1,0,none⟩:Addr))=some ⟨b,o,none⟩→b≠w.heap.size:=fun b o e=>by cases e;have:=H3.out;have:=KW4.out.size;(try simp only[World.size_alloc]);omega
  have n13:∀ b o,(some (⟨w4.heap.size+1+1,0,none⟩:Addr))=some ⟨b,o,none⟩→b≠w.heap.size:=fun b o e=>by cases e;have:=H3.out;have:=KW4.out.size;(try simp only[World.size_alloc]);omega
  have hX:=HB3.out.kp KF.out
  have c0:=hX.cell 0 rfl;have c1:=hX.cell 1 rfl;have c2:=hX.cell 2 rfl;have c3:=hX.cell 3 rfl;have c4:=hX.cell 4 rfl
  have f0:=hX.2.1 0
  have f1:=hX.2.1 1
  have f2:=hX.2.1 2
  have f3:=hX.2.1 3
  have f4:=hX.2.1 4
  have HX:=Lib.hid hX
  clear hX
  refine cm 16 (fun K hK=>?_)
  go_simp
  generalize hW9:((((World.setCell _ _ _).setCell _ _).setCell _ _).setCell _ _).setCell _ _=W9
  obtain⟨hF,hK9,hU⟩:=box5_set HX.out (HKK.out.trans KF.out) (Nat.le_refl _) nofun nofun nofun nofun nofun _ _ _ _ _ hW9
  refine hK.out _ _ (updQ10 hU (by simp) HNe.out (keepQ10 KF.out HS0.out)) (fun hHeld=>?_)
  clear hK K
  refine wpAnyH_done (by kernel_rfl) ?_ _
  have hat:=exq_at hU (RW1.out.kpB KF.out) R6.out R4.out R11.out R13.out HN1.out n6 n4 n11 n13
  have s0:=hF.cell 0 rfl
  have s1:=hF.cell 1 rfl
  have s2:=hF.cell 2 rfl
  have s3:=hF.cell 3 rfl
  have s4:=hF.cell 4 rfl
  go_wp2_with fail
  refine bodyPost_ret (v:=.agg #[.slice (some ⟨W3.heap.size,0,none⟩) 2 2,.slice none 0 0,.slice (some ⟨w4.heap.size+1+1,0,none⟩) 1 1,.int .i64 1,.int .i64 1]) (by simp[results,Tryz.results57,go_sem,s0,s1,s2,s3,s4]) rfl ?_
  exact⟨_,_,_,_,_,rfl,hat,hK9⟩
 ·go_simp
  refine hK.out _ _ (keepQ10 ((Kp.refl W3).alloc _).drew HS0.out) (fun hHeld=>?_)
  clear hK K
  refine tk 7 ?_;refine tk 8 ?_;(try simp only[aput])
  refine wpAnyH_ready (rs:=[4,9]) (by kernel_rfl) (by simp) (AllReadyH.cons rfl (fun K hK=>?_) (AllReadyH.cons rfl (fun K hK=>?_) AllReadyH.nil))
  ·go_simp
   refine hK.out _ _ (keepQ10 (((Kp.refl W3).alloc _).alloc _).drew HS0.out) (fun hHeld=>?_)
   clear hK K
   refine cm 9 (fun K hK=>?_)
   go_simp
   go_fit (lawvq_any ⟨#[121]⟩ _)
   rintro r w4 ⟨rfl,k4⟩
   have KW4:=Lib.hid ((((Kp.refl W3).alloc _).alloc _).drew.trans k4)
   refine hK.out _ _ (keepQ10 KW4.out HS0.out) (fun hHeld=>?_)
   clear hK K
   refine tk 10 ?_;(try simp only[aput])
   refine cm 11 (fun K hK=>?_)
   go_simp
   refine hK.out _ _ (keepQ10 (KW4.out.alloc _) HS0.out) (fun hHeld=>?_)
   clear hK K
   refine tk 12 ?_;(try simp only[aput])
   refine cm 13 (fun K hK=>?_)
   go_simp
   refine hK.out _ _ (keepQ10 ((KW4.out.alloc _).alloc _) HS0.out) (fun hHeld=>?_)
   clear hK K
   refine tk 15 ?_;(try simp only[aput])
   have KF:=Lib.hid (show Kp W3 ((w4.alloc (.cells #[.string ⟨#[121]⟩,.int .i64 7,.int .i64 0,.int .i64 0,.string ⟨#[]⟩,.int .i64 0,.slice (some ⟨W3.heap.size,0,none⟩) 1 1,.string ⟨#[120]⟩,.int .i64 2,.int .i64 0,.int .i64 0,.string ⟨#[121]⟩,.int .i64 0,.slice none 0 0] 73)).alloc (.cells #[.string ⟨#[114,117,110]⟩,.slice (some ⟨w4.heap.size,0,none⟩) 2 2,.slice none 0 0] 41)) from ((KW4.out.alloc _).alloc _))
   have R6:=Lib.hid (rowV_newg (cells:=Ex.cells) (k:=6) Ex.cells_len (by decide) (w:=W3) (T:=71) (w':=((w4.alloc (.cells #[.string ⟨#[121]⟩,.int .i64 7,.int .i64 0,.int .i64 0,.string ⟨#[]⟩,.int .i64 0,.slice (some ⟨W3.heap.size,0,none⟩) 1 1,.string ⟨#[120]⟩,.int .i64 2,.int .i64 0,.int .i64 0,.string ⟨#[121]⟩,.int .i64 0,.slice none 0 0] 73)).alloc (.cells #[.string ⟨#[114,117,110]⟩,.slice (some ⟨w4.heap.size,0,none⟩) 2 2,.slice none 0 0] 41))) (W3.heap.size) (by simp) [.mk 5 0 0 ⟨#[]⟩ 0 a1 2 [varE nX,varE nX]] (((((Kp.refl _).alloc _).drew.trans k4).alloc _).alloc _))
   have R4:=Lib.hid (rowV_newg (cells:=De.cells) (k:=5) de_len (by decide) (w:=(W3.alloc (.cells #[.int .i64 5,.int .i64 0,.int .i64 0,.string ⟨#[]⟩,.int .i64 0,.slice a1 2 2] 71))) (T:=68) (w':=((w4.alloc (.cells #[.string ⟨#[121]⟩,.int .i64 7,.int .i64 0,.int .i64 0,.string ⟨#[]⟩,.int .i64 0,.slice (some ⟨W3.heap.size,0,none⟩) 1 1,.string ⟨#[120]⟩,.int .i64 2,.int .i64 0,.int .i64 0,.string ⟨#[121]⟩,.int .i64 0,.slice none 0 0] 73)).alloc (.cells #[.string ⟨#[114,117,110]⟩,.slice (some ⟨w4.heap.size,0,none⟩) 2 2,.slice none 0 0] 41))) (W3.heap.size+1) (by simp) [⟨nX,1,1,1,1⟩,⟨nY,1,1,1,1⟩] ((((Kp.refl _).drew.trans k4).alloc _).alloc _))
   have R11:=Lib.hid (rowV_newg (cells:=Qe.cells) (k:=7) (fun _=>rfl) (by decide) (w:=w4) (T:=73) (w':=((w4.alloc (.cells #[.string ⟨#[121]⟩,.int .i64 7,.int .i64 0,.int .i64 0,.string ⟨#[]⟩,.int .i64 0,.slice (some ⟨W3.heap.size,0,none⟩) 1 1,.string ⟨#[120]⟩,.int .i64 2,.int .i64 0,.int .i64 0,.string ⟨#[121]⟩,.int .i64 0,.slice none 0 0] 73)).alloc (.cells #[.string ⟨#[114,117,110]⟩,.slice (some ⟨w4.heap.size,0,none⟩) 2 2,.slice none 0 0] 41))) (w4.heap.size) (by simp) [⟨nY,exG a1 (some ⟨W3.heap.size,0,none⟩)⟩,⟨nX,varE nY⟩] ((Kp.refl _).alloc _))
   have R13:=Lib.hid (rowV_newg (cells:=Mo.cells) (k:=3) (fun _=>rfl) (by decide) (w:=(w4.alloc (.cells #[.string ⟨#[121]⟩,.int .i64 7,.int .i64 0,.int .i64 0,.string ⟨#[]⟩,.int .i64 0,.slice (some ⟨W3.heap.size,0,none⟩) 1 1,.string ⟨#[120]⟩,.int .i64 2,.int .i64 0,.int .i64 0,.string ⟨#[121]⟩,.int .i64 0,.slice none 0 0] 73))) (T:=41) (w':=((w4.alloc (.cells #[.string ⟨#[121]⟩,.int .i64 7,.int .i64 0,.int .i64 0,.string ⟨#[]⟩,.int .i64 0,.slice (some ⟨W3.heap.size,0,none⟩) 1 1,.string ⟨#[120]⟩,.int .i64 2,.int .i64 0,.int .i64 0,.string ⟨#[121]⟩,.int .i64 0,.slice none 0 0] 73)).alloc (.cells #[.string ⟨#[114,117,110]⟩,.slice (some ⟨w4.heap.size,0,none⟩) 2 2,.slice none 0 0] 41))) (w4.heap.size+1) (by simp) [exM (some ⟨w4.heap.size,0,none⟩) a1 (some ⟨W3.heap.size,0,none⟩)] (Kp.refl _))
   have n6:∀ b o,(some (⟨W3.heap.size,0,none⟩:Addr))=some ⟨b,o,none⟩→b≠w.heap.size:=fun b o e=>by cases e;have:=H3.out;have:=KW4.out.size;(try simp only[World.size_alloc]);omega
   have n4:∀ b o,(some (⟨W3.heap.size+1,0,none⟩:Addr))=some ⟨b,o,none⟩→b≠w.heap.size:=fun b o e=>by cases e;have:=H3.out;have:=KW4.out.size;(try simp only[World.size_alloc]);omega
   have n11:∀ b o,(some (⟨w4.heap.size,0,none⟩:Addr))=some ⟨b,o,none⟩→b≠w.heap.size:=fun b o e=>by cases e;have:=H3.out;have:=KW4.out.size;(try simp only[World.size_alloc]);omega
   have n13:∀ b o,(some (⟨w4.heap.size+1,0,none⟩:Addr))=some ⟨b,o,none⟩→b≠w.heap.size:=fun b o e=>by cases e;have:=H3.out;have:=KW4.out.size;(try simp only[World.size_alloc]);omega
   have hX:=HB3.out.kp KF.out
   have c0:=hX.cell 0 rfl;have c1:=hX.cell 1 rfl;have c2:=hX.cell 2 rfl;have c3:=hX.cell 3 rfl;have c4:=hX.cell 4 rfl
   have f0:=hX.2.1 0
   have f1:=hX.2.1 1
   have f2:=hX.2.1 2
   have f3:=hX.2.1 3
   have f4:=hX.2.1 4
   have HX:=Lib.hid hX
   clear hX
   refine cm 16 (fun K hK=>?_)
   go_simp
   generalize hW9:((((World.setCell _ _ _).setCell _ _).setCell _ _).setCell _ _).setCell _ _=W9
   obtain⟨hF,hK9,hU⟩:=box5_set HX.out (HKK.out.trans KF.out) (Nat.le_refl _) nofun nofun nofun nofun nofun _ _ _ _ _ hW9
   refine hK.out _ _ (updQ10 hU (by simp) HNe.out (keepQ10 KF.out HS0.out)) (fun hHeld=>?_)
   clear hK K
   refine wpAnyH_done (by kernel_rfl) ?_ _
   have hat:=exq_at hU (RW1.out.kpB KF.out) R6.out R4.out R11.out R13.out HN1.out n6 n4 n11 n13
   have s0:=hF.cell 0 rfl
   have s1:=hF.cell 1 rfl
   have s2:=hF.cell 2 rfl
   have s3:=hF.cell 3 rfl
   have s4:=hF.cell 4 rfl
   go_wp2_with fail
   refine bodyPost_ret (v:=.agg #[.slice (some ⟨W3.heap.size+1,0,none⟩) 2 2,.slice none 0 0,.slice (some ⟨w4.heap.size+1,0,none⟩) 1 1,.int .i64 1,.int .i64 1]) (by simp[results,Tryz.results57,go_sem,s0,s1,s2,s3,s4]) rfl ?_
   exact⟨_,_,_,_,_,rfl,hat,hK9⟩
  go_simp
  go_fit (lawvq_any ⟨#[121]⟩ _)
  rintro r w4 ⟨rfl,k4⟩
  have KW4:=Lib.hid (((Kp.refl W3).alloc _).drew.trans k4)
  refine hK.out _ _ (keepQ10 KW4.out HS0.out) (fun hHeld=>?_)
  clear hK K
  refine tk 10 ?_;(try simp only[aput])
  refine wpAnyH_ready (rs:=[4,11]) (by kernel_rfl) (by simp) (AllReadyH.cons rfl (fun K hK=>?_) (AllReadyH.cons rfl (fun K hK=>?_) AllReadyH.nil))
  ·go_simp
   refine hK.out _ _ (keepQ10 (KW4.out.alloc _) HS0.out) (fun hHeld=>?_)
   clear hK K
   refine cm 11 (fun K hK=>?_)
   go_simp
   refine hK.out _ _ (keepQ10 ((KW4.out.alloc _).alloc _) HS0.out) (fun hHeld=>?_)
   clear hK K
   refine tk 12 ?_;(try simp only[aput])
   refine cm 13 (fun K hK=>?_)
   go_simp
   refine hK.out _ _ (keepQ10 (((KW4.out.alloc _).alloc _).alloc _) HS0.out) (fun hHeld=>?_)
   clear hK K
   refine tk 15 ?_;(try simp only[aput])
   have KF:=Lib.hid (show Kp W3 (((w4.alloc (.cells #[.string ⟨#[120]⟩,.int .i64 1,.int .i64 1,.int .i64 1,.int .i64 1,.string ⟨#[121]⟩,.int .i64 1,.int .i64 1,.int .i64 1,.int .i64 1] 68)).alloc (.cells #[.string ⟨#[121]⟩,.int .i64 7,.int .i64 0,.int .i64 0,.string ⟨#[]⟩,.int .i64 0,.slice (some ⟨W3.heap.size,0,none⟩) 1 1,.string ⟨#[120]⟩,.int .i64 2,.int .i64 0,.int .i64 0,.string ⟨#[121]⟩,.int .i64 0,.slice none 0 0] 73)).alloc (.cells #[.string ⟨#[114,117,110]⟩,.slice (some ⟨w4.heap.size+1,0,none⟩) 2 2,.slice none 0 0] 41)) from (((KW4.out.alloc _).alloc _).alloc _))
   have R6:=Lib.hid (rowV_newg (cells:=Ex.cells) (k:=6) Ex.cells_len (by decide) (w:=W3) (T:=71) (w':=(((w4.alloc (.cells #[.string ⟨#[120]⟩,.int .i64 1,.int .i64 1,.int .i64 1,.int .i64 1,.string ⟨#[121]⟩,.int .i64 1,.int .i64 1,.int .i64 1,.int .i64 1] 68)).alloc (.cells #[.string ⟨#[121]⟩,.int .i64 7,.int .i64 0,.int .i64 0,.string ⟨#[]⟩,.int .i64 0,.slice (some ⟨W3.heap.size,0,none⟩) 1 1,.string ⟨#[120]⟩,.int .i64 2,.int .i64 0,.int .i64 0,.string ⟨#[121]⟩,.int .i64 0,.slice none 0 0] 73)).alloc (.cells #[.string ⟨#[114,117,110]⟩,.slice (some ⟨w4.heap.size+1,0,none⟩) 2 2,.slice none 0 0] 41))) (W3.heap.size) (by simp) [.mk 5 0 0 ⟨#[]⟩ 0 a1 2 [varE nX,varE nX]] (((((Kp.refl _).drew.trans k4).alloc _).alloc _).alloc _))
   have R4:=Lib.hid (rowV_newg (cells:=De.cells) (k:=5) de_len (by decide) (w:=w4) (T:=68) (w':=(((w4.alloc (.cells #[.string ⟨#[120]⟩,.int .i64 1,.int .i64 1,.int .i64 1,.int .i64 1,.string ⟨#[121]⟩,.int .i64 1,.int .i64 1,.int .i64 1,.int .i64 1] 68)).alloc (.cells #[.string ⟨#[121]⟩,.int .i64 7,.int .i64 0,.int .i64 0,.string ⟨#[]⟩,.int .i64 0,.slice (some ⟨W3.heap.size,0,none⟩) 1 1,.string ⟨#[120]⟩,.int .i64 2,.int .i64 0,.int .i64 0,.string ⟨#[121]⟩,.int .i64 0,.slice none 0 0] 73)).alloc (.cells #[.string ⟨#[114,117,110]⟩,.slice (some ⟨w4.heap.size+1,0,none⟩) 2 2,.slice none 0 0] 41))) (w4.heap.size) (by simp) [⟨nX,1,1,1,1⟩,⟨nY,1,1,1,1⟩] (((Kp.refl _).alloc _).alloc _))
   have R11:=Lib.hid (rowV_newg (cells:=Qe.cells) (k:=7) (fun _=>rfl) (by decide) (w:=(w4.alloc (.cells #[.string ⟨#[120]⟩,.int .i64 1,.int .i64 1,.int .i64 1,.int .i64 1,.string ⟨#[121]⟩,.int .i64 1,.int .i64 1,.int .i64 1,.int .i64 1] 68))) (T:=73) (w':=(((w4.alloc (.cells #[.string ⟨#[120]⟩,.int .i64 1,.int .i64 1,.int .i64 1,.int .i64 1,.string ⟨#[121]⟩,.int .i64 1,.int .i64 1,.int .i64 1,.int .i64 1] 68)).alloc (.cells #[.string ⟨#[121]⟩,.int .i64 7,.int .i64 0,.int .i64 0,.string ⟨#[]⟩,.int .i64 0,.slice (some ⟨W3.heap.size,0,none⟩) 1 1,.string ⟨#[120]⟩,.int .i64 2,.int .i64 0,.int .i64 0,.string ⟨#[121]⟩,.int .i64 0,.slice none 0 0] 73)).alloc (.cells #[.string ⟨#[114,117,110]⟩,.slice (some ⟨w4.heap.size+1,0,none⟩) 2 2,.slice none 0 0] 41))) (w4.heap.size+1) (by simp) [⟨nY,exG a1 (some ⟨W3.heap.size,0,none⟩)⟩,⟨nX,varE nY⟩] ((Kp.refl _).alloc _))
   have R13:=Lib.hid (rowV_newg (cells:=Mo.cells) (k:=3) (fun _=>rfl) (by decide) (w:=((w4.alloc (.cells #[.string ⟨#[120]⟩,.int .i64 1,.int .i64 1,.int .i64 1,.int .i64 1,.string ⟨#[121]⟩,.int .i64 1,.int .i64 1,.int .i64 1,.int .i64 1] 68)).alloc (.cells #[.string ⟨#[121]⟩,.int .i64 7,.int .i64 0,.int .i64 0,.string ⟨#[]⟩,.int .i64 0,.slice (some ⟨W3.heap.size,0,none⟩) 1 1,.string ⟨#[120]⟩,.int .i64 2,.int .i64 0,.int .i64 0,.string ⟨#[121]⟩,.int .i64 0,.slice none 0 0] 73))) (T:=41) (w':=(((w4.alloc (.cells #[.string ⟨#[120]⟩,.int .i64 1,.int .i64 1,.int .i64 1,.int .i64 1,.string ⟨#[121]⟩,.int .i64 1,.int .i64 1,.int .i64 1,.int .i64 1] 68)).alloc (.cells #[.string ⟨#[121]⟩,.int .i64 7,.int .i64 0,.int .i64 0,.string ⟨#[]⟩,.int .i64 0,.slice (some ⟨W3.heap.size,0,none⟩) 1 1,.string ⟨#[120]⟩,.int .i64 2,.int .i64 0,.int .i64 0,.string ⟨#[121]⟩,.int .i64 0,.slice none 0 0] 73)).alloc (.cells #[.string ⟨#[114,117,110]⟩,.slice (some ⟨w4.heap.size+1,0,none⟩) 2 2,.slice none 0 0] 41))) (w4.heap.size+1+1) (by simp) [exM (some ⟨w4.heap.size+1,0,none⟩) a1 (some ⟨W3.heap.size,0,none⟩)] (Kp.refl _))
   have n6:∀ b o,(some (⟨W3.heap.size,0,none⟩:Addr))=some ⟨b,o,none⟩→b≠w.heap.size:=fun b o e=>by cases e;have:=H3.out;have:=KW4.out.size;(try simp only[World.size_alloc]);omega
   have n4:∀ b o,(some (⟨w4.heap.size,0,none⟩:Addr))=some ⟨b,o,none⟩→b≠w.heap.size:=fun b o e=>by cases e;have:=H3.out;have:=KW4.out.size;(try simp only[World.size_alloc]);omega
   have n11:∀ b o,(some (⟨w4.heap.size+1,0,none⟩:Addr))=some ⟨b,o,none⟩→b≠w.heap.size:=fun b o e=>by cases e;have:=H3.out;have:=KW4.out.size;(try simp only[World.size_alloc]);omega
   have n13:∀ b o,(some (⟨w4.heap.size+1+1,0,none⟩:Addr))=some ⟨b,o,none⟩→b≠w.heap.size:=fun b o e=>by cases e;have:=H3.out;have:=KW4.out.size;(try simp only[World.size_alloc]);omega
   have hX:=HB3.out.kp KF.out
   have c0:=hX.cell 0 rfl;have c1:=hX.cell 1 rfl;have c2:=hX.cell 2 rfl;have c3:=hX.cell 3 rfl;have c4:=hX.cell 4 rfl
   have f0:=hX.2.1 0
   have f1:=hX.2.1 1
   have f2:=hX.2.1 2
   have f3:=hX.2.1 3
   have f4:=hX.2.1 4
   have HX:=Lib.hid hX
   clear hX
   refine cm 16 (fun K hK=>?_)
   go_simp
   generalize hW9:((((World.setCell _ _ _).setCell _ _).setCell _ _).setCell _ _).setCell _ _=W9
   obtain⟨hF,hK9,hU⟩:=box5_set HX.out (HKK.out.trans KF.out) (Nat.le_refl _) nofun nofun nofun nofun nofun _ _ _ _ _ hW9
   refine hK.out _ _ (updQ10 hU (by simp) HNe.out (keepQ10 KF.out HS0.out)) (fun hHeld=>?_)
   clear hK K
   refine wpAnyH_done (by kernel_rfl) ?_ _
   have hat:=exq_at hU (RW1.out.kpB KF.out) R6.out R4.out R11.out R13.out HN1.out n6 n4 n11 n13
   have s0:=hF.cell 0 rfl
   have s1:=hF.cell 1 rfl
   have s2:=hF.cell 2 rfl
   have s3:=hF.cell 3 rfl
   have s4:=hF.cell 4 rfl
   go_wp2_with fail
   refine bodyPost_ret (v:=.agg #[.slice (some ⟨w4.heap.size,0,none⟩) 2 2,.slice none 0 0,.slice (some ⟨w4.heap.size+1+1,0,none⟩) 1 1,.int .i64 1,.int .i64 1]) (by simp[results,Tryz.results57,go_sem,s0,s1,s2,s3,s4]) rfl ?_
   exact⟨_,_,_,_,_,rfl,hat,hK9⟩
  go_simp
  refine hK.out _ _ (keepQ10 (KW4.out.alloc _) HS0.out) (fun hHeld=>?_)
  clear hK K
  refine tk 12 ?_;(try simp only[aput])
  refine wpAnyH_ready (rs:=[4,13]) (by kernel_rfl) (by simp) (AllReadyH.cons rfl (fun K hK=>?_) (AllReadyH.cons rfl (fun K hK=>?_) AllReadyH.nil))
  ·go_simp
   refine hK.out _ _ (keepQ10 ((KW4.out.alloc _).alloc _) HS0.out) (fun hHeld=>?_)
   clear hK K
   refine cm 13 (fun K hK=>?_)
   go_simp
   refine hK.out _ _ (keepQ10 (((KW4.out.alloc _).alloc _).alloc _) HS0.out) (fun hHeld=>?_)
   clear hK K
   refine tk 15 ?_;(try simp only[aput])
   have KF:=Lib.hid (show Kp W3 (((w4.alloc (.cells #[.string ⟨#[121]⟩,.int .i64 7,.int .i64 0,.int .i64 0,.string ⟨#[]⟩,.int .i64 0,.slice (some ⟨W3.heap.size,0,none⟩) 1 1,.string ⟨#[120]⟩,.int .i64 2,.int .i64 0,.int .i64 0,.string ⟨#[121]⟩,.int .i64 0,.slice none 0 0] 73)).alloc (.cells #[.string ⟨#[120]⟩,.int .i64 1,.int .i64 1,.int .i64 1,.int .i64 1,.string ⟨#[121]⟩,.int .i64 1,.int .i64 1,.int .i64 1,.int .i64 1] 68)).alloc (.cells #[.string ⟨#[114,117,110]⟩,.slice (some ⟨w4.heap.size,0,none⟩) 2 2,.slice none 0 0] 41)) from (((KW4.out.alloc _).alloc _).alloc _))
   have R6:=Lib.hid (rowV_newg (cells:=Ex.cells) (k:=6) Ex.cells_len (by decide) (w:=W3) (T:=71) (w':=(((w4.alloc (.cells #[.string ⟨#[121]⟩,.int .i64 7,.int .i64 0,.int .i64 0,.string ⟨#[]⟩,.int .i64 0,.slice (some ⟨W3.heap.size,0,none⟩) 1 1,.string ⟨#[120]⟩,.int .i64 2,.int .i64 0,.int .i64 0,.string ⟨#[121]⟩,.int .i64 0,.slice none 0 0] 73)).alloc (.cells #[.string ⟨#[120]⟩,.int .i64 1,.int .i64 1,.int .i64 1,.int .i64 1,.string ⟨#[121]⟩,.int .i64 1,.int .i64 1,.int .i64 1,.int .i64 1] 68)).alloc (.cells #[.string ⟨#[114,117,110]⟩,.slice (some ⟨w4.heap.size,0,none⟩) 2 2,.slice none 0 0] 41))) (W3.heap.size) (by simp) [.mk 5 0 0 ⟨#[]⟩ 0 a1 2 [varE nX,varE nX]] (((((Kp.refl _).drew.trans k4).alloc _).alloc _).alloc _))
   have R11:=Lib.hid (rowV_newg (cells:=Qe.cells) (k:=7) (fun _=>rfl) (by decide) (w:=w4) (T:=73) (w':=(((w4.alloc (.cells #[.string ⟨#[121]⟩,.int .i64 7,.int .i64 0,.int .i64 0,.string ⟨#[]⟩,.int .i64 0,.slice (some ⟨W3.heap.size,0,none⟩) 1 1,.string ⟨#[120]⟩,.int .i64 2,.int .i64 0,.int .i64 0,.string ⟨#[121]⟩,.int .i64 0,.slice none 0 0] 73)).alloc (.cells #[.string ⟨#[120]⟩,.int .i64 1,.int .i64 1,.int .i64 1,.int .i64 1,.string ⟨#[121]⟩,.int .i64 1,.int .i64 1,.int .i64 1,.int .i64 1] 68)).alloc (.cells #[.string ⟨#[114,117,110]⟩,.slice (some ⟨w4.heap.size,0,none⟩) 2 2,.slice none 0 0] 41))) (w4.heap.size) (by simp) [⟨nY,exG a1 (some ⟨W3.heap.size,0,none⟩)⟩,⟨nX,varE nY⟩] (((Kp.refl _).alloc _).alloc _))
   have R4:=Lib.hid (rowV_newg (cells:=De.cells) (k:=5) de_len (by decide) (w:=(w4.alloc (.cells #[.string ⟨#[121]⟩,.int .i64 7,.int .i64 0,.int .i64 0,.string ⟨#[]⟩,.int .i64 0,.slice (some ⟨W3.heap.size,0,none⟩) 1 1,.string ⟨#[120]⟩,.int .i64 2,.int .i64 0,.int .i64 0,.string ⟨#[121]⟩,.int .i64 0,.slice none 0 0] 73))) (T:=68) (w':=(((w4.alloc (.cells #[.string ⟨#[121]⟩,.int .i64 7,.int .i64 0,.int .i64 0,.string ⟨#[]⟩,.int .i64 0,.slice (some ⟨W3.heap.size,0,none⟩) 1 1,.string ⟨#[120]⟩,.int .i64 2,.int .i64 0,.int .i64 0,.string ⟨#[121]⟩,.int .i64 0,.slice none 0 0] 73)).alloc (.cells #[.string ⟨#[120]⟩,.int .i64 1,.int .i64 1,.int .i64 1,.int .i64 1,.string ⟨#[121]⟩,.int .i64 1,.int .i64 1,.int .i64 1,.int .i64 1] 68)).alloc (.cells #[.string ⟨#[114,117,110]⟩,.slice (some ⟨w4.heap.size,0,none⟩) 2 2,.slice none 0 0] 41))) (w4.heap.size+1) (by simp) [⟨nX,1,1,1,1⟩,⟨nY,1,1,1,1⟩] ((Kp.refl _).alloc _))
   have R13:=Lib.hid (rowV_newg (cells:=Mo.cells) (k:=3) (fun _=>rfl) (by decide) (w:=((w4.alloc (.cells #[.string ⟨#[121]⟩,.int .i64 7,.int .i64 0,.int .i64 0,.string ⟨#[]⟩,.int .i64 0,.slice (some ⟨W3.heap.size,0,none⟩) 1 1,.string ⟨#[120]⟩,.int .i64 2,.int .i64 0,.int .i64 0,.string ⟨#[121]⟩,.int .i64 0,.slice none 0 0] 73)).alloc (.cells #[.string ⟨#[120]⟩,.int .i64 1,.int .i64 1,.int .i64 1,.int .i64 1,.string ⟨#[121]⟩,.int .i64 1,.int .i64 1,.int .i64 1,.int .i64 1] 68))) (T:=41) (w':=(((w4.alloc (.cells #[.string ⟨#[121]⟩,.int .i64 7,.int .i64 0,.int .i64 0,.string ⟨#[]⟩,.int .i64 0,.slice (some ⟨W3.heap.size,0,none⟩) 1 1,.string ⟨#[120]⟩,.int .i64 2,.int .i64 0,.int .i64 0,.string ⟨#[121]⟩,.int .i64 0,.slice none 0 0] 73)).alloc (.cells #[.string ⟨#[120]⟩,.int .i64 1,.int .i64 1,.int .i64 1,.int .i64 1,.string ⟨#[121]⟩,.int .i64 1,.int .i64 1,.int .i64 1,.int .i64 1] 68)).alloc (.cells #[.string ⟨#[114,117,110]⟩,.slice (some ⟨w4.heap.size,0,none⟩) 2 2,.slice none 0 0] 41))) (w4.heap.size+1+1) (by simp) [exM (some ⟨w4.heap.size,0,none⟩) a1 (some ⟨W3.heap.size,0,none⟩)] (Kp.refl _))
   have n6:∀ b o,(some (⟨W3.heap.size,0,none⟩:Addr))=some ⟨b,o,none⟩→b≠w.heap.size:=fun b o e=>by cases e;have:=H3.out;have:=KW4.out.size;(try simp only[World.size_alloc]);omega
   have n11:∀ b o,(some (⟨w4.heap.size,0,none⟩:Addr))=some ⟨b,o,none⟩→b≠w.heap.size:=fun b o e=>by cases e;have:=H3.out;have:=KW4.out.size;(try simp only[World.size_alloc]);omega
   have n4:∀ b o,(some (⟨w4.heap.size+1,0,none⟩:Addr))=some ⟨b,o,none⟩→b≠w.heap.size:=fun b o e=>by cases e;have:=H3.out;have:=KW4.out.size;(try simp only[World.size_alloc]);omega
   have n13:∀ b o,(some (⟨w4.heap.size+1+1,0,none⟩:Addr))=some ⟨b,o,none⟩→b≠w.heap.size:=fun b o e=>by cases e;have:=H3.out;have:=KW4.out.size;(try simp only[World.size_alloc]);omega
   have hX:=HB3.out.kp KF.out
   have c0:=hX.cell 0 rfl;have c1:=hX.cell 1 rfl;have c2:=hX.cell 2 rfl;have c3:=hX.cell 3 rfl;have c4:=hX.cell 4 rfl
   have f0:=hX.2.1 0
   have f1:=hX.2.1 1
   have f2:=hX.2.1 2
   have f3:=hX.2.1 3
   have f4:=hX.2.1 4
   have HX:=Lib.hid hX
   clear hX
   refine cm 16 (fun K hK=>?_)
   go_simp
   generalize hW9:((((World.setCell _ _ _).setCell _ _).setCell _ _).setCell _ _).setCell _ _=W9
   obtain⟨hF,hK9,hU⟩:=box5_set HX.out (HKK.out.trans KF.out) (Nat.le_refl _) nofun nofun nofun nofun nofun _ _ _ _ _ hW9
   refine hK.out _ _ (updQ10 hU (by simp) HNe.out (keepQ10 KF.out HS0.out)) (fun hHeld=>?_)
   clear hK K
   refine wpAnyH_done (by kernel_rfl) ?_ _
   have hat:=exq_at hU (RW1.out.kpB KF.out) R6.out R4.out R11.out R13.out HN1.out n6 n4 n11 n13
   have s0:=hF.cell 0 rfl
   have s1:=hF.cell 1 rfl
   have s2:=hF.cell 2 rfl
   have s3:=hF.cell 3 rfl
   have s4:=hF.cell 4 rfl
   go_wp2_with fail
   refine bodyPost_ret (v:=.agg #[.slice (some ⟨w4.heap.size+1,0,none⟩) 2 2,.slice none 0 0,.slice (some ⟨w4.heap.size+1+1,0,none⟩) 1 1,.int .i64 1,.int .i64 1]) (by simp[results,Tryz.results57,go_sem,s0,s1,s2,s3,s4]) rfl ?_
   exact⟨_,_,_,_,_,rfl,hat,hK9⟩
  go_simp
  refine hK.out _ _ (keepQ10 ((KW4.out.alloc _).alloc _) HS0.out) (fun hHeld=>?_)
  clear hK K
  refine cm 4 (fun K hK=>?_)
  go_simp
  refine hK.out _ _ (keepQ10 (((KW4.out.alloc _).alloc _).alloc _) HS0.out) (fun hHeld=>?_)
  clear hK K
  refine tk 15 ?_;(try simp only[aput])
  have KF:=Lib.hid (show Kp W3 (((w4.alloc (.cells #[.string ⟨#[121]⟩,.int .i64 7,.int .i64 0,.int .i64 0,.string ⟨#[]⟩,.int .i64 0,.slice (some ⟨W3.heap.size,0,none⟩) 1 1,.string ⟨#[120]⟩,.int .i64 2,.int .i64 0,.int .i64 0,.string ⟨#[121]⟩,.int .i64 0,.slice none 0 0] 73)).alloc (.cells #[.string ⟨#[114,117,110]⟩,.slice (some ⟨w4.heap.size,0,none⟩) 2 2,.slice none 0 0] 41)).alloc (.cells #[.string ⟨#[120]⟩,.int .i64 1,.int .i64 1,.int .i64 1,.int .i64 1,.string ⟨#[121]⟩,.int .i64 1,.int .i64 1,.int .i64 1,.int .i64 1] 68)) from (((KW4.out.alloc _).alloc _).alloc _))
  have R6:=Lib.hid (rowV_newg (cells:=Ex.cells) (k:=6) Ex.cells_len (by decide) (w:=W3) (T:=71) (w':=(((w4.alloc (.cells #[.string ⟨#[121]⟩,.int .i64 7,.int .i64 0,.int .i64 0,.string ⟨#[]⟩,.int .i64 0,.slice (some ⟨W3.heap.size,0,none⟩) 1 1,.string ⟨#[120]⟩,.int .i64 2,.int .i64 0,.int .i64 0,.string ⟨#[121]⟩,.int .i64 0,.slice none 0 0] 73)).alloc (.cells #[.string ⟨#[114,117,110]⟩,.slice (some ⟨w4.heap.size,0,none⟩) 2 2,.slice none 0 0] 41)).alloc (.cells #[.string ⟨#[120]⟩,.int .i64 1,.int .i64 1,.int .i64 1,.int .i64 1,.string ⟨#[121]⟩,.int .i64 1,.int .i64 1,.int .i64 1,.int .i64 1] 68))) (W3.heap.size) (by simp) [.mk 5 0 0 ⟨#[]⟩ 0 a1 2 [varE nX,varE nX]] (((((Kp.refl _).drew.trans k4).alloc _).alloc _).alloc _))
  have R11:=Lib.hid (rowV_newg (cells:=Qe.cells) (k:=7) (fun _=>rfl) (by decide) (w:=w4) (T:=73) (w':=(((w4.alloc (.cells #[.string ⟨#[121]⟩,.int .i64 7,.int .i64 0,.int .i64 0,.string ⟨#[]⟩,.int .i64 0,.slice (some ⟨W3.heap.size,0,none⟩) 1 1,.string ⟨#[120]⟩,.int .i64 2,.int .i64 0,.int .i64 0,.string ⟨#[121]⟩,.int .i64 0,.slice none 0 0] 73)).alloc (.cells #[.string ⟨#[114,117,110]⟩,.slice (some ⟨w4.heap.size,0,none⟩) 2 2,.slice none 0 0] 41)).alloc (.cells #[.string ⟨#[120]⟩,.int .i64 1,.int .i64 1,.int .i64 1,.int .i64 1,.string ⟨#[121]⟩,.int .i64 1,.int .i64 1,.int .i64 1,.int .i64 1] 68))) (w4.heap.size) (by simp) [⟨nY,exG a1 (some ⟨W3.heap.size,0,none⟩)⟩,⟨nX,varE nY⟩] (((Kp.refl _).alloc _).alloc _))
  have R13:=Lib.hid (rowV_newg (cells:=Mo.cells) (k:=3) (fun _=>rfl) (by decide) (w:=(w4.alloc (.cells #[.string ⟨#[121]⟩,.int .i64 7,.int .i64 0,.int .i64 0,.string ⟨#[]⟩,.int .i64 0,.slice (some ⟨W3.heap.size,0,none⟩) 1 1,.string ⟨#[120]⟩,.int .i64 2,.int .i64 0,.int .i64 0,.string ⟨#[121]⟩,.int .i64 0,.slice none 0 0] 73))) (T:=41) (w':=(((w4.alloc (.cells #[.string ⟨#[121]⟩,.int .i64 7,.int .i64 0,.int .i64 0,.string ⟨#[]⟩,.int .i64 0,.slice (some ⟨W3.heap.size,0,none⟩) 1 1,.string ⟨#[120]⟩,.int .i64 2,.int .i64 0,.int .i64 0,.string ⟨#[121]⟩,.int .i64 0,.slice none 0 0] 73)).alloc (.cells #[.string ⟨#[114,117,110]⟩,.slice (some ⟨w4.heap.size,0,none⟩) 2 2,.slice none 0 0] 41)).alloc (.cells #[.string ⟨#[120]⟩,.int .i64 1,.int .i64 1,.int .i64 1,.int .i64 1,.string ⟨#[121]⟩,.int .i64 1,.int .i64 1,.int .i64 1,.int .i64 1] 68))) (w4.heap.size+1) (by simp) [exM (some ⟨w4.heap.size,0,none⟩) a1 (some ⟨W3.heap.size,0,none⟩)] ((Kp.refl _).alloc _))
  have R4:=Lib.hid (rowV_newg (cells:=De.cells) (k:=5) de_len (by decide) (w:=((w4.alloc (.cells #[.string ⟨#[121]⟩,.int .i64 7,.int .i64 0,.int .i64 0,.string ⟨#[]⟩,.int .i64 0,.slice (some ⟨W3.heap.size,0,none⟩) 1 1,.string ⟨#[120]⟩,.int .i64 2,.int .i64 0,.int .i64 0,.string ⟨#[121]⟩,.int .i64 0,.slice none 0 0] 73)).alloc (.cells #[.string ⟨#[114,117,110]⟩,.slice (some ⟨w4.heap.size,0,none⟩) 2 2,.slice none 0 0] 41))) (T:=68) (w':=(((w4.alloc (.cells #[.string ⟨#[121]⟩,.int .i64 7,.int .i64 0,.int .i64 0,.string ⟨#[]⟩,.int .i64 0,.slice (some ⟨W3.heap.size,0,none⟩) 1 1,.string ⟨#[120]⟩,.int .i64 2,.int .i64 0,.int .i64 0,.string ⟨#[121]⟩,.int .i64 0,.slice none 0 0] 73)).alloc (.cells #[.string ⟨#[114,117,110]⟩,.slice (some ⟨w4.heap.size,0,none⟩) 2 2,.slice none 0 0] 41)).alloc (.cells #[.string ⟨#[120]⟩,.int .i64 1,.int .i64 1,.int .i64 1,.int .i64 1,.string ⟨#[121]⟩,.int .i64 1,.int .i64 1,.int .i64 1,.int .i64 1] 68))) (w4.heap.size+1+1) (by simp) [⟨nX,1,1,1,1⟩,⟨nY,1,1,1,1⟩] (Kp.refl _))
  have n6:∀ b o,(some (⟨W3.heap.size,0,none⟩:Addr))=some ⟨b,o,none⟩→b≠w.heap.size:=fun b o e=>by cases e;have:=H3.out;have:=KW4.out.size;(try simp only[World.size_alloc]);omega
  have n11:∀ b o,(some (⟨w4.heap.size,0,none⟩:Addr))=some ⟨b,o,none⟩→b≠w.heap.size:=fun b o e=>by cases e;have:=H3.out;have:=KW4.out.size;(try simp only[World.size_alloc]);omega
  have n13:∀ b o,(some (⟨w4.heap.size+1,0,none⟩:Addr))=some ⟨b,o,none⟩→b≠w.heap.size:=fun b o e=>by cases e;have:=H3.out;have:=KW4.out.size;(try simp only[World.size_alloc]);omega
  have n4:∀ b o,(some (⟨w4.heap.size+1+1,0,none⟩:Addr))=some ⟨b,o,none⟩→b≠w.heap.size:=fun b o e=>by cases e;have:=H3.out;have:=KW4.out.size;(try simp only[World.size_alloc]);omega
  have hX:=HB3.out.kp KF.out
  have c0:=hX.cell 0 rfl;have c1:=hX.cell 1 rfl;have c2:=hX.cell 2 rfl;have c3:=hX.cell 3 rfl;have c4:=hX.cell 4 rfl
  have f0:=hX.2.1 0
  have f1:=hX.2.1 1
  have f2:=hX.2.1 2
  have f3:=hX.2.1 3
  have f4:=hX.2.1 4
  have HX:=Lib.hid hX
  clear hX
  refine cm 16 (fun K hK=>?_)
  go_simp
  generalize hW9:((((World.setCell _ _ _).setCell _ _).setCell _ _).setCell _ _).setCell _ _=W9
  obtain⟨hF,hK9,hU⟩:=box5_set HX.out (HKK.out.trans KF.out) (Nat.le_refl _) nofun nofun nofun nofun nofun _ _ _ _ _ hW9
  refine hK.out _ _ (updQ10 hU (by simp) HNe.out (keepQ10 KF.out HS0.out)) (fun hHeld=>?_)
  clear hK K
  refine wpAnyH_done (by kernel_rfl) ?_ _
  have hat:=exq_at hU (RW1.out.kpB KF.out) R6.out R4.out R11.out R13.out HN1.out n6 n4 n11 n13
  have s0:=hF.cell 0 rfl
  have s1:=hF.cell 1 rfl
  have s2:=hF.cell 2 rfl
  have s3:=hF.cell 3 rfl
  have s4:=hF.cell 4 rfl
  go_wp2_with fail
  refine bodyPost_ret (v:=.agg #[.slice (some ⟨w4.heap.size+1+1,0,none⟩) 2 2,.slice none 0 0,.slice (some ⟨w4.heap.size+1,0,none⟩) 1 1,.int .i64 1,.int .i64 1]) (by simp[results,Tryz.results57,go_sem,s0,s1,s2,s3,s4]) rfl ?_
  exact⟨_,_,_,_,_,rfl,hat,hK9⟩
 go_simp
 go_fit (lawvq_any ⟨#[121]⟩ _)
 rintro r w4 ⟨rfl,k4⟩
 have KW4:=Lib.hid ((Kp.refl W3).drew.trans k4)
 refine hK.out _ _ (keepQ10 KW4.out HS0.out) (fun hHeld=>?_)
 clear hK K
 refine tk 10 ?_;(try simp only[aput])
 refine wpAnyH_ready (rs:=[4,6]) (by kernel_rfl) (by simp) (AllReadyH.cons rfl (fun K hK=>?_) (AllReadyH.cons rfl (fun K hK=>?_) AllReadyH.nil))
 ·go_simp
  refine hK.out _ _ (keepQ10 (KW4.out.alloc _) HS0.out) (fun hHeld=>?_)
  clear hK K
  refine cm 6 (fun K hK=>?_)
  go_simp
  refine hK.out _ _ (keepQ10 ((KW4.out.alloc _).alloc _) HS0.out) (fun hHeld=>?_)
  clear hK K
  refine tk 7 ?_;refine tk 8 ?_;(try simp only[aput])
  refine cm 11 (fun K hK=>?_)
  go_simp
  refine hK.out _ _ (keepQ10 (((KW4.out.alloc _).alloc _).alloc _) HS0.out) (fun hHeld=>?_)
  clear hK K
  refine tk 12 ?_;(try simp only[aput])
  refine cm 13 (fun K hK=>?_)
  go_simp
  refine hK.out _ _ (keepQ10 ((((KW4.out.alloc _).alloc _).alloc _).alloc _) HS0.out) (fun hHeld=>?_)
  clear hK K
  refine tk 15 ?_;(try simp only[aput])
  have KF:=Lib.hid (show Kp W3 ((((w4.alloc (.cells #[.string ⟨#[120]⟩,.int .i64 1,.int .i64 1,.int .i64 1,.int .i64 1,.string ⟨#[121]⟩,.int .i64 1,.int .i64 1,.int .i64 1,.int .i64 1] 68)).alloc (.cells #[.int .i64 5,.int .i64 0,.int .i64 0,.string ⟨#[]⟩,.int .i64 0,.slice a1 2 2] 71)).alloc (.cells #[.string ⟨#[121]⟩,.int .i64 7,.int .i64 0,.int .i64 0,.string ⟨#[]⟩,.int .i64 0,.slice (some ⟨w4.heap.size+1,0,none⟩) 1 1,.string ⟨#[120]⟩,.int .i64 2,.int .i64 0,.int .i64 0,.string ⟨#[121]⟩,.int .i64 0,.slice none 0 0] 73)).alloc (.cells #[.string ⟨#[114,117,110]⟩,.slice (some ⟨w4.heap.size+1+1,0,none⟩) 2 2,.slice none 0 0] 41)) from ((((KW4.out.alloc _).alloc _).alloc _).alloc _))
  have R4:=Lib.hid (rowV_newg (cells:=De.cells) (k:=5) de_len (by decide) (w:=w4) (T:=68) (w':=((((w4.alloc (.cells #[.string ⟨#[120]⟩,.int .i64 1,.int .i64 1,.int .i64 1,.int .i64 1,.string ⟨#[121]⟩,.int .i64 1,.int .i64 1,.int .i64 1,.int .i64 1] 68)).alloc (.cells #[.int .i64 5,.int .i64 0,.int .i64 0,.string ⟨#[]⟩,.int .i64 0,.slice a1 2 2] 71)).alloc (.cells #[.string ⟨#[121]⟩,.int .i64 7,.int .i64 0,.int .i64 0,.string ⟨#[]⟩,.int .i64 0,.slice (some ⟨w4.heap.size+1,0,none⟩) 1 1,.string ⟨#[120]⟩,.int .i64 2,.int .i64 0,.int .i64 0,.string ⟨#[121]⟩,.int .i64 0,.slice none 0 0] 73)).alloc (.cells #[.string ⟨#[114,117,110]⟩,.slice (some ⟨w4.heap.size+1+1,0,none⟩) 2 2,.slice none 0 0] 41))) (w4.heap.size) (by simp) [⟨nX,1,1,1,1⟩,⟨nY,1,1,1,1⟩] ((((Kp.refl _).alloc _).alloc _).alloc _))
  have R6:=Lib.hid (rowV_newg (cells:=Ex.cells) (k:=6) Ex.cells_len (by decide) (w:=(w4.alloc (.cells #[.string ⟨#[120]⟩,.int .i64 1,.int .i64 1,.int .i64 1,.int .i64 1,.string ⟨#[121]⟩,.int .i64 1,.int .i64 1,.int .i64 1,.int .i64 1] 68))) (T:=71) (w':=((((w4.alloc (.cells #[.string ⟨#[120]⟩,.int .i64 1,.int .i64 1,.int .i64 1,.int .i64 1,.string ⟨#[121]⟩,.int .i64 1,.int .i64 1,.int .i64 1,.int .i64 1] 68)).alloc (.cells #[.int .i64 5,.int .i64 0,.int .i64 0,.string ⟨#[]⟩,.int .i64 0,.slice a1 2 2] 71)).alloc (.cells #[.string ⟨#[121]⟩,.int .i64 7,.int .i64 0,.int .i64 0,.string ⟨#[]⟩,.int .i64 0,.slice (some ⟨w4.heap.size+1,0,none⟩) 1 1,.string ⟨#[120]⟩,.int .i64 2,.int .i64 0,.int .i64 0,.string ⟨#[121]⟩,.int .i64 0,.slice none 0 0] 73)).alloc (.cells #[.string ⟨#[114,117,110]⟩,.slice (some ⟨w4.heap.size+1+1,0,none⟩) 2 2,.slice none 0 0] 41))) (w4.heap.size+1) (by simp) [.mk 5 0 0 ⟨#[]⟩ 0 a1 2 [varE nX,varE nX]] (((Kp.refl _).alloc _).alloc _))
  have R11:=Lib.hid (rowV_newg (cells:=Qe.cells) (k:=7) (fun _=>rfl) (by decide) (w:=((w4.alloc (.cells #[.string ⟨#[120]⟩,.int .i64 1,.int .i64 1,.int .i64 1,.int .i64 1,.string ⟨#[121]⟩,.int .i64 1,.int .i64 1,.int .i64 1,.int .i64 1] 68)).alloc (.cells #[.int .i64 5,.int .i64 0,.int .i64 0,.string ⟨#[]⟩,.int .i64 0,.slice a1 2 2] 71))) (T:=73) (w':=((((w4.alloc (.cells #[.string ⟨#[120]⟩,.int .i64 1,.int .i64 1,.int .i64 1,.int .i64 1,.string ⟨#[121]⟩,.int .i64 1,.int .i64 1,.int .i64 1,.int .i64 1] 68)).alloc (.cells #[.int .i64 5,.int .i64 0,.int .i64 0,.string ⟨#[]⟩,.int .i64 0,.slice a1 2 2] 71)).alloc (.cells #[.string ⟨#[121]⟩,.int .i64 7,.int .i64 0,.int .i64 0,.string ⟨#[]⟩,.int .i64 0,.slice (some ⟨w4.heap.size+1,0,none⟩) 1 1,.string ⟨#[120]⟩,.int .i64 2,.int .i64 0,.int .i64 0,.string ⟨#[121]⟩,.int .i64 0,.slice none 0 0] 73)).alloc (.cells #[.string ⟨#[114,117,110]⟩,.slice (some ⟨w4.heap.size+1+1,0,none⟩) 2 2,.slice none 0 0] 41))) (w4.heap.size+1+1) (by simp) [⟨nY,exG a1 (some ⟨w4.heap.size+1,0,none⟩)⟩,⟨nX,varE nY⟩] ((Kp.refl _).alloc _))
  have R13:=Lib.hid (rowV_newg (cells:=Mo.cells) (k:=3) (fun _=>rfl) (by decide) (w:=(((w4.alloc (.cells #[.string ⟨#[120]⟩,.int .i64 1,.int .i64 1,.int .i64 1,.int .i64 1,.string ⟨#[121]⟩,.int .i64 1,.int .i64 1,.int .i64 1,.int .i64 1] 68)).alloc (.cells #[.int .i64 5,.int .i64 0,.int .i64 0,.string ⟨#[]⟩,.int .i64 0,.slice a1 2 2] 71)).alloc (.cells #[.string ⟨#[121]⟩,.int .i64 7,.int .i64 0,.int .i64 0,.string ⟨#[]⟩,.int .i64 0,.slice (some ⟨w4.heap.size+1,0,none⟩) 1 1,.string ⟨#[120]⟩,.int .i64 2,.int .i64 0,.int .i64 0,.string ⟨#[121]⟩,.int .i64 0,.slice none 0 0] 73))) (T:=41) (w':=((((w4.alloc (.cells #[.string ⟨#[120]⟩,.int .i64 1,.int .i64 1,.int .i64 1,.int .i64 1,.string ⟨#[121]⟩,.int .i64 1,.int .i64 1,.int .i64 1,.int .i64 1] 68)).alloc (.cells #[.int .i64 5,.int .i64 0,.int .i64 0,.string ⟨#[]⟩,.int .i64 0,.slice a1 2 2] 71)).alloc (.cells #[.string ⟨#[121]⟩,.int .i64 7,.int .i64 0,.int .i64 0,.string ⟨#[]⟩,.int .i64 0,.slice (some ⟨w4.heap.size+1,0,none⟩) 1 1,.string ⟨#[120]⟩,.int .i64 2,.int .i64 0,.int .i64 0,.string ⟨#[121]⟩,.int .i64 0,.slice none 0 0] 73)).alloc (.cells #[.string ⟨#[114,117,110]⟩,.slice (some ⟨w4.heap.size+1+1,0,none⟩) 2 2,.slice none 0 0] 41))) (w4.heap.size+1+1+1) (by simp) [exM (some ⟨w4.heap.size+1+1,0,none⟩) a1 (some ⟨w4.heap.size+1,0,none⟩)] (Kp.refl _))
  have n4:∀ b o,(some (⟨w4.heap.size,0,none⟩:Addr))=some ⟨b,o,none⟩→b≠w.heap.size:=fun b o e=>by cases e;have:=H3.out;have:=KW4.out.size;(try simp only[World.size_alloc]);omega
  have n6:∀ b o,(some (⟨w4.heap.size+1,0,none⟩:Addr))=some ⟨b,o,none⟩→b≠w.heap.size:=fun b o e=>by cases e;have:=H3.out;have:=KW4.out.size;(try simp only[World.size_alloc]);omega
  have n11:∀ b o,(some (⟨w4.heap.size+1+1,0,none⟩:Addr))=some ⟨b,o,none⟩→b≠w.heap.size:=fun b o e=>by cases e;have:=H3.out;have:=KW4.out.size;(try simp only[World.size_alloc]);omega
  have n13:∀ b o,(some (⟨w4.heap.size+1+1+1,0,none⟩:Addr))=some ⟨b,o,none⟩→b≠w.heap.size:=fun b o e=>by cases e;have:=H3.out;have:=KW4.out.size;(try simp only[World.size_alloc]);omega
  have hX:=HB3.out.kp KF.out
  have c0:=hX.cell 0 rfl;have c1:=hX.cell 1 rfl;have c2:=hX.cell 2 rfl;have c3:=hX.cell 3 rfl;have c4:=hX.cell 4 rfl
  have f0:=hX.2.1 0
  have f1:=hX.2.1 1
  have f2:=hX.2.1 2
  have f3:=hX.2.1 3
  have f4:=hX.2.1 4
  have HX:=Lib.hid hX
  clear hX
  refine cm 16 (fun K hK=>?_)
  go_simp
  generalize hW9:((((World.setCell _ _ _).setCell _ _).setCell _ _).setCell _ _).setCell _ _=W9
  obtain⟨hF,hK9,hU⟩:=box5_set HX.out (HKK.out.trans KF.out) (Nat.le_refl _) nofun nofun nofun nofun nofun _ _ _ _ _ hW9
  refine hK.out _ _ (updQ10 hU (by simp) HNe.out (keepQ10 KF.out HS0.out)) (fun hHeld=>?_)
  clear hK K
  refine wpAnyH_done (by kernel_rfl) ?_ _
  have hat:=exq_at hU (RW1.out.kpB KF.out) R6.out R4.out R11.out R13.out HN1.out n6 n4 n11 n13
  have s0:=hF.cell 0 rfl
  have s1:=hF.cell 1 rfl
  have s2:=hF.cell 2 rfl
  have s3:=hF.cell 3 rfl
  have s4:=hF.cell 4 rfl
  go_wp2_with fail
  refine bodyPost_ret (v:=.agg #[.slice (some ⟨w4.heap.size,0,none⟩) 2 2,.slice none 0 0,.slice (some ⟨w4.heap.size+1+1+1,0,none⟩) 1 1,.int .i64 1,.int .i64 1]) (by simp[results,Tryz.results57,go_sem,s0,s1,s2,s3,s4]) rfl ?_
  exact⟨_,_,_,_,_,rfl,hat,hK9⟩
 go_simp
 refine hK.out _ _ (keepQ10 (KW4.out.alloc _) HS0.out) (fun hHeld=>?_)
 clear hK K
 refine tk 7 ?_;refine tk 8 ?_;(try simp only[aput])
 refine wpAnyH_ready (rs:=[4,11]) (by kernel_rfl) (by simp) (AllReadyH.cons rfl (fun K hK=>?_) (AllReadyH.cons rfl (fun K hK=>?_) AllReadyH.nil))
 ·go_simp
  refine hK.out _ _ (keepQ10 ((KW4.out.alloc _).alloc _) HS0.out) (fun hHeld=>?_)
  clear hK K
  refine cm 11 (fun K hK=>?_)
  go_simp
  refine hK.out _ _ (keepQ10 (((KW4.out.alloc _).alloc _).alloc _) HS0.out) (fun hHeld=>?_)
  clear hK K
  refine tk 12 ?_;(try simp only[aput])
  refine cm 13 (fun K hK=>?_)
  go_simp
  refine hK.out _ _ (keepQ10 ((((KW4.out.alloc _).alloc _).alloc _).alloc _) HS0.out) (fun hHeld=>?_)
  clear hK K
  refine tk 15 ?_;(try simp only[aput])
  have KF:=Lib.hid (show Kp W3 ((((w4.alloc (.cells #[.int .i64 5,.int .i64 0,.int .i64 0,.string ⟨#[]⟩,.int .i64 0,.slice a1 2 2] 71)).alloc (.cells #[.string ⟨#[120]⟩,.int .i64 1,.int .i64 1,.int .i64 1,.int .i64 1,.string ⟨#[121]⟩,.int .i64 1,.int .i64 1,.int .i64 1,.int .i64 1] 68)).alloc (.cells #[.string ⟨#[121]⟩,.int .i64 7,.int .i64 0,.int .i64 0,.string ⟨#[]⟩,.int .i64 0,.slice (some ⟨w4.heap.size,0,none⟩) 1 1,.string ⟨#[120]⟩,.int .i64 2,.int .i64 0,.int .i64 0,.string ⟨#[121]⟩,.int .i64 0,.slice none 0 0] 73)).alloc (.cells #[.string ⟨#[114,117,110]⟩,.slice (some ⟨w4.heap.size+1+1,0,none⟩) 2 2,.slice none 0 0] 41)) from ((((KW4.out.alloc _).alloc _).alloc _).alloc _))
  have R6:=Lib.hid (rowV_newg (cells:=Ex.cells) (k:=6) Ex.cells_len (by decide) (w:=w4) (T:=71) (w':=((((w4.alloc (.cells #[.int .i64 5,.int .i64 0,.int .i64 0,.string ⟨#[]⟩,.int .i64 0,.slice a1 2 2] 71)).alloc (.cells #[.string ⟨#[120]⟩,.int .i64 1,.int .i64 1,.int .i64 1,.int .i64 1,.string ⟨#[121]⟩,.int .i64 1,.int .i64 1,.int .i64 1,.int .i64 1] 68)).alloc (.cells #[.string ⟨#[121]⟩,.int .i64 7,.int .i64 0,.int .i64 0,.string ⟨#[]⟩,.int .i64 0,.slice (some ⟨w4.heap.size,0,none⟩) 1 1,.string ⟨#[120]⟩,.int .i64 2,.int .i64 0,.int .i64 0,.string ⟨#[121]⟩,.int .i64 0,.slice none 0 0] 73)).alloc (.cells #[.string ⟨#[114,117,110]⟩,.slice (some ⟨w4.heap.size+1+1,0,none⟩) 2 2,.slice none 0 0] 41))) (w4.heap.size) (by simp) [.mk 5 0 0 ⟨#[]⟩ 0 a1 2 [varE nX,varE nX]] ((((Kp.refl _).alloc _).alloc _).alloc _))
  have R4:=Lib.hid (rowV_newg (cells:=De.cells) (k:=5) de_len (by decide) (w:=(w4.alloc (.cells #[.int .i64 5,.int .i64 0,.int .i64 0,.string ⟨#[]⟩,.int .i64 0,.slice a1 2 2] 71))) (T:=68) (w':=((((w4.alloc (.cells #[.int .i64 5,.int .i64 0,.int .i64 0,.string ⟨#[]⟩,.int .i64 0,.slice a1 2 2] 71)).alloc (.cells #[.string ⟨#[120]⟩,.int .i64 1,.int .i64 1,.int .i64 1,.int .i64 1,.string ⟨#[121]⟩,.int .i64 1,.int .i64 1,.int .i64 1,.int .i64 1] 68)).alloc (.cells #[.string ⟨#[121]⟩,.int .i64 7,.int .i64 0,.int .i64 0,.string ⟨#[]⟩,.int .i64 0,.slice (some ⟨w4.heap.size,0,none⟩) 1 1,.string ⟨#[120]⟩,.int .i64 2,.int .i64 0,.int .i64 0,.string ⟨#[121]⟩,.int .i64 0,.slice none 0 0] 73)).alloc (.cells #[.string ⟨#[114,117,110]⟩,.slice (some ⟨w4.heap.size+1+1,0,none⟩) 2 2,.slice none 0 0] 41))) (w4.heap.size+1) (by simp) [⟨nX,1,1,1,1⟩,⟨nY,1,1,1,1⟩] (((Kp.refl _).alloc _).alloc _))
  have R11:=Lib.hid (rowV_newg (cells:=Qe.cells) (k:=7) (fun _=>rfl) (by decide) (w:=((w4.alloc (.cells #[.int .i64 5,.int .i64 0,.int .i64 0,.string ⟨#[]⟩,.int .i64 0,.slice a1 2 2] 71)).alloc (.cells #[.string ⟨#[120]⟩,.int .i64 1,.int .i64 1,.int .i64 1,.int .i64 1,.string ⟨#[121]⟩,.int .i64 1,.int .i64 1,.int .i64 1,.int .i64 1] 68))) (T:=73) (w':=((((w4.alloc (.cells #[.int .i64 5,.int .i64 0,.int .i64 0,.string ⟨#[]⟩,.int .i64 0,.slice a1 2 2] 71)).alloc (.cells #[.string ⟨#[120]⟩,.int .i64 1,.int .i64 1,.int .i64 1,.int .i64 1,.string ⟨#[121]⟩,.int .i64 1,.int .i64 1,.int .i64 1,.int .i64 1] 68)).alloc (.cells #[.string ⟨#[121]⟩,.int .i64 7,.int .i64 0,.int .i64 0,.string ⟨#[]⟩,.int .i64 0,.slice (some ⟨w4.heap.size,0,none⟩) 1 1,.string ⟨#[120]⟩,.int .i64 2,.int .i64 0,.int .i64 0,.string ⟨#[121]⟩,.int .i64 0,.slice none 0 0] 73)).alloc (.cells #[.string ⟨#[114,117,110]⟩,.slice (some ⟨w4.heap.size+1+1,0,none⟩) 2 2,.slice none 0 0] 41))) (w4.heap.size+1+1) (by simp) [⟨nY,exG a1 (some ⟨w4.heap.size,0,none⟩)⟩,⟨nX,varE nY⟩] ((Kp.refl _).alloc _))
  have R13:=Lib.hid (rowV_newg (cells:=Mo.cells) (k:=3) (fun _=>rfl) (by decide) (w:=(((w4.alloc (.cells #[.int .i64 5,.int .i64 0,.int .i64 0,.string ⟨#[]⟩,.int .i64 0,.slice a1 2 2] 71)).alloc (.cells #[.string ⟨#[120]⟩,.int .i64 1,.int .i64 1,.int .i64 1,.int .i64 1,.string ⟨#[121]⟩,.int .i64 1,.int .i64 1,.int .i64 1,.int .i64 1] 68)).alloc (.cells #[.string ⟨#[121]⟩,.int .i64 7,.int .i64 0,.int .i64 0,.string ⟨#[]⟩,.int .i64 0,.slice (some ⟨w4.heap.size,0,none⟩) 1 1,.string ⟨#[120]⟩,.int .i64 2,.int .i64 0,.int .i64 0,.string ⟨#[121]⟩,.int .i64 0,.slice none 0 0] 73))) (T:=41) (w':=((((w4.alloc (.cells #[.int .i64 5,.int .i64 0,.int .i64 0,.string ⟨#[]⟩,.int .i64 0,.slice a1 2 2] 71)).alloc (.cells #[.string ⟨#[120]⟩,.int .i64 1,.int .i64 1,.int .i64 1,.int .i64 1,.string ⟨#[121]⟩,.int .i64 1,.int .i64 1,.int .i64 1,.int .i64 1] 68)).alloc (.cells #[.string ⟨#[121]⟩,.int .i64 7,.int .i64 0,.int .i64 0,.string ⟨#[]⟩,.int .i64 0,.slice (some ⟨w4.heap.size,0,none⟩) 1 1,.string ⟨#[120]⟩,.int .i64 2,.int .i64 0,.int .i64 0,.string ⟨#[121]⟩,.int .i64 0,.slice none 0 0] 73)).alloc (.cells #[.string ⟨#[114,117,110]⟩,.slice (some ⟨w4.heap.size+1+1,0,none⟩) 2 2,.slice none 0 0] 41))) (w4.heap.size+1+1+1) (by simp) [exM (some ⟨w4.heap.size+1+1,0,none⟩) a1 (some ⟨w4.heap.size,0,none⟩)] (Kp.refl _))
  have n6:∀ b o,(some (⟨w4.heap.size,0,none⟩:Addr))=some ⟨b,o,none⟩→b≠w.heap.size:=fun b o e=>by cases e;have:=H3.out;have:=KW4.out.size;(try simp only[World.size_alloc]);omega
  have n4:∀ b o,(some (⟨w4.heap.size+1,0,none⟩:Addr))=some ⟨b,o,none⟩→b≠w.heap.size:=fun b o e=>by cases e;have:=H3.out;have:=KW4.out.size;(try simp only[World.size_alloc]);omega
  have n11:∀ b o,(some (⟨w4.heap.size+1+1,0,none⟩:Addr))=some ⟨b,o,none⟩→b≠w.heap.size:=fun b o e=>by cases e;have:=H3.out;have:=KW4.out.size;(try simp only[World.size_alloc]);omega
  have n13:∀ b o,(some (⟨w4.heap.size+1+1+1,0,none⟩:Addr))=some ⟨b,o,none⟩→b≠w.heap.size:=fun b o e=>by cases e;have:=H3.out;have:=KW4.out.size;(try simp only[World.size_alloc]);omega
  have hX:=HB3.out.kp KF.out
  have c0:=hX.cell 0 rfl;have c1:=hX.cell 1 rfl;have c2:=hX.cell 2 rfl;have c3:=hX.cell 3 rfl;have c4:=hX.cell 4 rfl
  have f0:=hX.2.1 0
  have f1:=hX.2.1 1
  have f2:=hX.2.1 2
  have f3:=hX.2.1 3
  have f4:=hX.2.1 4
  have HX:=Lib.hid hX
  clear hX
  refine cm 16 (fun K hK=>?_)
  go_simp
  generalize hW9:((((World.setCell _ _ _).setCell _ _).setCell _ _).setCell _ _).setCell _ _=W9
  obtain⟨hF,hK9,hU⟩:=box5_set HX.out (HKK.out.trans KF.out) (Nat.le_refl _) nofun nofun nofun nofun nofun _ _ _ _ _ hW9
  refine hK.out _ _ (updQ10 hU (by simp) HNe.out (keepQ10 KF.out HS0.out)) (fun hHeld=>?_)
  clear hK K
  refine wpAnyH_done (by kernel_rfl) ?_ _
  have hat:=exq_at hU (RW1.out.kpB KF.out) R6.out R4.out R11.out R13.out HN1.out n6 n4 n11 n13
  have s0:=hF.cell 0 rfl
  have s1:=hF.cell 1 rfl
  have s2:=hF.cell 2 rfl
  have s3:=hF.cell 3 rfl
  have s4:=hF.cell 4 rfl
  go_wp2_with fail
  refine bodyPost_ret (v:=.agg #[.slice (some ⟨w4.heap.size+1,0,none⟩) 2 2,.slice none 0 0,.slice (some ⟨w4.heap.size+1+1+1,0,none⟩) 1 1,.int .i64 1,.int .i64 1]) (by simp[results,Tryz.results57,go_sem,s0,s1,s2,s3,s4]) rfl ?_
  exact⟨_,_,_,_,_,rfl,hat,hK9⟩
 go_simp
 refine hK.out _ _ (keepQ10 ((KW4.out.alloc _).alloc _) HS0.out) (fun hHeld=>?_)
 clear hK K
 refine tk 12 ?_;(try simp only[aput])
 refine wpAnyH_ready (rs:=[4,13]) (by kernel_rfl) (by simp) (AllReadyH.cons rfl (fun K hK=>?_) (AllReadyH.cons rfl (fun K hK=>?_) AllReadyH.nil))
 ·go_simp
  refine hK.out _ _ (keepQ10 (((KW4.out.alloc _).alloc _).alloc _) HS0.out) (fun hHeld=>?_)
  clear hK K
  refine cm 13 (fun K hK=>?_)
  go_simp
  refine hK.out _ _ (keepQ10 ((((KW4.out.alloc _).alloc _).alloc _).alloc _) HS0.out) (fun hHeld=>?_)
  clear hK K
  refine tk 15 ?_;(try simp only[aput])
  have KF:=Lib.hid (show Kp W3 ((((w4.alloc (.cells #[.int .i64 5,.int .i64 0,.int .i64 0,.string ⟨#[]⟩,.int .i64 0,.slice a1 2 2] 71)).alloc (.cells #[.string ⟨#[121]⟩,.int .i64 7,.int .i64 0,.int .i64 0,.string ⟨#[]⟩,.int .i64 0,.slice (some ⟨w4.heap.size,0,none⟩) 1 1,.string ⟨#[120]⟩,.int .i64 2,.int .i64 0,.int .i64 0,.string ⟨#[121]⟩,.int .i64 0,.slice none 0 0] 73)).alloc (.cells #[.string ⟨#[120]⟩,.int .i64 1,.int .i64 1,.int .i64 1,.int .i64 1,.string ⟨#[121]⟩,.int .i64 1,.int .i64 1,.int .i64 1,.int .i64 1] 68)).alloc (.cells #[.string ⟨#[114,117,110]⟩,.slice (some ⟨w4.heap.size+1,0,none⟩) 2 2,.slice none 0 0] 41)) from ((((KW4.out.alloc _).alloc _).alloc _).alloc _))
  have R6:=Lib.hid (rowV_newg (cells:=Ex.cells) (k:=6) Ex.cells_len (by decide) (w:=w4) (T:=71) (w':=((((w4.alloc (.cells #[.int .i64 5,.int .i64 0,.int .i64 0,.string ⟨#[]⟩,.int .i64 0,.slice a1 2 2] 71)).alloc (.cells #[.string ⟨#[121]⟩,.int .i64 7,.int .i64 0,.int .i64 0,.string ⟨#[]⟩,.int .i64 0,.slice (some ⟨w4.heap.size,0,none⟩) 1 1,.string ⟨#[120]⟩,.int .i64 2,.int .i64 0,.int .i64 0,.string ⟨#[121]⟩,.int .i64 0,.slice none 0 0] 73)).alloc (.cells #[.string ⟨#[120]⟩,.int .i64 1,.int .i64 1,.int .i64 1,.int .i64 1,.string ⟨#[121]⟩,.int .i64 1,.int .i64 1,.int .i64 1,.int .i64 1] 68)).alloc (.cells #[.string ⟨#[114,117,110]⟩,.slice (some ⟨w4.heap.size+1,0,none⟩) 2 2,.slice none 0 0] 41))) (w4.heap.size) (by simp) [.mk 5 0 0 ⟨#[]⟩ 0 a1 2 [varE nX,varE nX]] ((((Kp.refl _).alloc _).alloc _).alloc _))
  have R11:=Lib.hid (rowV_newg (cells:=Qe.cells) (k:=7) (fun _=>rfl) (by decide) (w:=(w4.alloc (.cells #[.int .i64 5,.int .i64 0,.int .i64 0,.string ⟨#[]⟩,.int .i64 0,.slice a1 2 2] 71))) (T:=73) (w':=((((w4.alloc (.cells #[.int .i64 5,.int .i64 0,.int .i64 0,.string ⟨#[]⟩,.int .i64 0,.slice a1 2 2] 71)).alloc (.cells #[.string ⟨#[121]⟩,.int .i64 7,.int .i64 0,.int .i64 0,.string ⟨#[]⟩,.int .i64 0,.slice (some ⟨w4.heap.size,0,none⟩) 1 1,.string ⟨#[120]⟩,.int .i64 2,.int .i64 0,.int .i64 0,.string ⟨#[121]⟩,.int .i64 0,.slice none 0 0] 73)).alloc (.cells #[.string ⟨#[120]⟩,.int .i64 1,.int .i64 1,.int .i64 1,.int .i64 1,.string ⟨#[121]⟩,.int .i64 1,.int .i64 1,.int .i64 1,.int .i64 1] 68)).alloc (.cells #[.string ⟨#[114,117,110]⟩,.slice (some ⟨w4.heap.size+1,0,none⟩) 2 2,.slice none 0 0] 41))) (w4.heap.size+1) (by simp) [⟨nY,exG a1 (some ⟨w4.heap.size,0,none⟩)⟩,⟨nX,varE nY⟩] (((Kp.refl _).alloc _).alloc _))
  have R4:=Lib.hid (rowV_newg (cells:=De.cells) (k:=5) de_len (by decide) (w:=((w4.alloc (.cells #[.int .i64 5,.int .i64 0,.int .i64 0,.string ⟨#[]⟩,.int .i64 0,.slice a1 2 2] 71)).alloc (.cells #[.string ⟨#[121]⟩,.int .i64 7,.int .i64 0,.int .i64 0,.string ⟨#[]⟩,.int .i64 0,.slice (some ⟨w4.heap.size,0,none⟩) 1 1,.string ⟨#[120]⟩,.int .i64 2,.int .i64 0,.int .i64 0,.string ⟨#[121]⟩,.int .i64 0,.slice none 0 0] 73))) (T:=68) (w':=((((w4.alloc (.cells #[.int .i64 5,.int .i64 0,.int .i64 0,.string ⟨#[]⟩,.int .i64 0,.slice a1 2 2] 71)).alloc (.cells #[.string ⟨#[121]⟩,.int .i64 7,.int .i64 0,.int .i64 0,.string ⟨#[]⟩,.int .i64 0,.slice (some ⟨w4.heap.size,0,none⟩) 1 1,.string ⟨#[120]⟩,.int .i64 2,.int .i64 0,.int .i64 0,.string ⟨#[121]⟩,.int .i64 0,.slice none 0 0] 73)).alloc (.cells #[.string ⟨#[120]⟩,.int .i64 1,.int .i64 1,.int .i64 1,.int .i64 1,.string ⟨#[121]⟩,.int .i64 1,.int .i64 1,.int .i64 1,.int .i64 1] 68)).alloc (.cells #[.string ⟨#[114,117,110]⟩,.slice (some ⟨w4.heap.size+1,0,none⟩) 2 2,.slice none 0 0] 41))) (w4.heap.size+1+1) (by simp) [⟨nX,1,1,1,1⟩,⟨nY,1,1,1,1⟩] ((Kp.refl _).alloc _))
  have R13:=Lib.hid (rowV_newg (cells:=Mo.cells) (k:=3) (fun _=>rfl) (by decide) (w:=(((w4.alloc (.cells #[.int .i64 5,.int .i64 0,.int .i64 0,.string ⟨#[]⟩,.int .i64 0,.slice a1 2 2] 71)).alloc (.cells #[.string ⟨#[121]⟩,.int .i64 7,.int .i64 0,.int .i64 0,.string ⟨#[]⟩,.int .i64 0,.slice (some ⟨w4.heap.size,0,none⟩) 1 1,.string ⟨#[120]⟩,.int .i64 2,.int .i64 0,.int .i64 0,.string ⟨#[121]⟩,.int .i64 0,.slice none 0 0] 73)).alloc (.cells #[.string ⟨#[120]⟩,.int .i64 1,.int .i64 1,.int .i64 1,.int .i64 1,.string ⟨#[121]⟩,.int .i64 1,.int .i64 1,.int .i64 1,.int .i64 1] 68))) (T:=41) (w':=((((w4.alloc (.cells #[.int .i64 5,.int .i64 0,.int .i64 0,.string ⟨#[]⟩,.int .i64 0,.slice a1 2 2] 71)).alloc (.cells #[.string ⟨#[121]⟩,.int .i64 7,.int .i64 0,.int .i64 0,.string ⟨#[]⟩,.int .i64 0,.slice (some ⟨w4.heap.size,0,none⟩) 1 1,.string ⟨#[120]⟩,.int .i64 2,.int .i64 0,.int .i64 0,.string ⟨#[121]⟩,.int .i64 0,.slice none 0 0] 73)).alloc (.cells #[.string ⟨#[120]⟩,.int .i64 1,.int .i64 1,.int .i64 1,.int .i64 1,.string ⟨#[121]⟩,.int .i64 1,.int .i64 1,.int .i64 1,.int .i64 1] 68)).alloc (.cells #[.string ⟨#[114,117,110]⟩,.slice (some ⟨w4.heap.size+1,0,none⟩) 2 2,.slice none 0 0] 41))) (w4.heap.size+1+1+1) (by simp) [exM (some ⟨w4.heap.size+1,0,none⟩) a1 (some ⟨w4.heap.size,0,none⟩)] (Kp.refl _))
  have n6:∀ b o,(some (⟨w4.heap.size,0,none⟩:Addr))=some ⟨b,o,none⟩→b≠w.heap.size:=fun b o e=>by cases e;have:=H3.out;have:=KW4.out.size;(try simp only[World.size_alloc]);omega
  have n11:∀ b o,(some (⟨w4.heap.size+1,0,none⟩:Addr))=some ⟨b,o,none⟩→b≠w.heap.size:=fun b o e=>by cases e;have:=H3.out;have:=KW4.out.size;(try simp only[World.size_alloc]);omega
  have n4:∀ b o,(some (⟨w4.heap.size+1+1,0,none⟩:Addr))=some ⟨b,o,none⟩→b≠w.heap.size:=fun b o e=>by cases e;have:=H3.out;have:=KW4.out.size;(try simp only[World.size_alloc]);omega
  have n13:∀ b o,(some (⟨w4.heap.size+1+1+1,0,none⟩:Addr))=some ⟨b,o,none⟩→b≠w.heap.size:=fun b o e=>by cases e;have:=H3.out;have:=KW4.out.size;(try simp only[World.size_alloc]);omega
  have hX:=HB3.out.kp KF.out
  have c0:=hX.cell 0 rfl;have c1:=hX.cell 1 rfl;have c2:=hX.cell 2 rfl;have c3:=hX.cell 3 rfl;have c4:=hX.cell 4 rfl
  have f0:=hX.2.1 0
  have f1:=hX.2.1 1
  have f2:=hX.2.1 2
  have f3:=hX.2.1 3
  have f4:=hX.2.1 4
  have HX:=Lib.hid hX
  clear hX
  refine cm 16 (fun K hK=>?_)
  go_simp
  generalize hW9:((((World.setCell _ _ _).setCell _ _).setCell _ _).setCell _ _).setCell _ _=W9
  obtain⟨hF,hK9,hU⟩:=box5_set HX.out (HKK.out.trans KF.out) (Nat.le_refl _) nofun nofun nofun nofun nofun _ _ _ _ _ hW9
  refine hK.out _ _ (updQ10 hU (by simp) HNe.out (keepQ10 KF.out HS0.out)) (fun hHeld=>?_)
  clear hK K
  refine wpAnyH_done (by kernel_rfl) ?_ _
  have hat:=exq_at hU (RW1.out.kpB KF.out) R6.out R4.out R11.out R13.out HN1.out n6 n4 n11 n13
  have s0:=hF.cell 0 rfl
  have s1:=hF.cell 1 rfl
  have s2:=hF.cell 2 rfl
  have s3:=hF.cell 3 rfl
  have s4:=hF.cell 4 rfl
  go_wp2_with fail
  refine bodyPost_ret (v:=.agg #[.slice (some ⟨w4.heap.size+1+1,0,none⟩) 2 2,.slice none 0 0,.slice (some ⟨w4.heap.size+1+1+1,0,none⟩) 1 1,.int .i64 1,.int .i64 1]) (by simp[results,Tryz.results57,go_sem,s0,s1,s2,s3,s4]) rfl ?_
  exact⟨_,_,_,_,_,rfl,hat,hK9⟩
 go_simp
 refine hK.out _ _ (keepQ10 (((KW4.out.alloc _).alloc _).alloc _) HS0.out) (fun hHeld=>?_)
 clear hK K
 refine cm 4 (fun K hK=>?_)
 go_simp
 refine hK.out _ _ (keepQ10 ((((KW4.out.alloc _).alloc _).alloc _).alloc _) HS0.out) (fun hHeld=>?_)
 clear hK K
 refine tk 15 ?_;(try simp only[aput])
 have KF:=Lib.hid (show Kp W3 ((((w4.alloc (.cells #[.int .i64 5,.int .i64 0,.int .i64 0,.string ⟨#[]⟩,.int .i64 0,.slice a1 2 2] 71)).alloc (.cells #[.string ⟨#[121]⟩,.int .i64 7,.int .i64 0,.int .i64 0,.string ⟨#[]⟩,.int .i64 0,.slice (some ⟨w4.heap.size,0,none⟩) 1 1,.string ⟨#[120]⟩,.int .i64 2,.int .i64 0,.int .i64 0,.string ⟨#[121]⟩,.int .i64 0,.slice none 0 0] 73)).alloc (.cells #[.string ⟨#[114,117,110]⟩,.slice (some ⟨w4.heap.size+1,0,none⟩) 2 2,.slice none 0 0] 41)).alloc (.cells #[.string ⟨#[120]⟩,.int .i64 1,.int .i64 1,.int .i64 1,.int .i64 1,.string ⟨#[121]⟩,.int .i64 1,.int .i64 1,.int .i64 1,.int .i64 1] 68)) from ((((KW4.out.alloc _).alloc _).alloc _).alloc _))
 have R6:=Lib.hid (rowV_newg (cells:=Ex.cells) (k:=6) Ex.cells_len (by decide) (w:=w4) (T:=71) (w':=((((w4.alloc (.cells #[.int .i64 5,.int .i64 0,.int .i64 0,.string ⟨#[]⟩,.int .i64 0,.slice a1 2 2] 71)).alloc (.cells #[.string ⟨#[121]⟩,.int .i64 7,.int .i64 0,.int .i64 0,.string ⟨#[]⟩,.int .i64 0,.slice (some ⟨w4.heap.size,0,none⟩) 1 1,.string ⟨#[120]⟩,.int .i64 2,.int .i64 0,.int .i64 0,.string ⟨#[121]⟩,.int .i64 0,.slice none 0 0] 73)).alloc (.cells #[.string ⟨#[114,117,110]⟩,.slice (some ⟨w4.heap.size+1,0,none⟩) 2 2,.slice none 0 0] 41)).alloc (.cells #[.string ⟨#[120]⟩,.int .i64 1,.int .i64 1,.int .i64 1,.int .i64 1,.string ⟨#[121]⟩,.int .i64 1,.int .i64 1,.int .i64 1,.int .i64 1] 68))) (w4.heap.size) (by simp) [.mk 5 0 0 ⟨#[]⟩ 0 a1 2 [varE nX,varE nX]] ((((Kp.refl _).alloc _).alloc _).alloc _))
 have R11:=Lib.hid (rowV_newg (cells:=Qe.cells) (k:=7) (fun _=>rfl) (by decide) (w:=(w4.alloc (.cells #[.int .i64 5,.int .i64 0,.int .i64 0,.string ⟨#[]⟩,.int .i64 0,.slice a1 2 2] 71))) (T:=73) (w':=((((w4.alloc (.cells #[.int .i64 5,.int .i64 0,.int .i64 0,.string ⟨#[]⟩,.int .i64 0,.slice a1 2 2] 71)).alloc (.cells #[.string ⟨#[121]⟩,.int .i64 7,.int .i64 0,.int .i64 0,.string ⟨#[]⟩,.int .i64 0,.slice (some ⟨w4.heap.size,0,none⟩) 1 1,.string ⟨#[120]⟩,.int .i64 2,.int .i64 0,.int .i64 0,.string ⟨#[121]⟩,.int .i64 0,.slice none 0 0] 73)).alloc (.cells #[.string ⟨#[114,117,110]⟩,.slice (some ⟨w4.heap.size+1,0,none⟩) 2 2,.slice none 0 0] 41)).alloc (.cells #[.string ⟨#[120]⟩,.int .i64 1,.int .i64 1,.int .i64 1,.int .i64 1,.string ⟨#[121]⟩,.int .i64 1,.int .i64 1,.int .i64 1,.int .i64 1] 68))) (w4.heap.size+1) (by simp) [⟨nY,exG a1 (some ⟨w4.heap.size,0,none⟩)⟩,⟨nX,varE nY⟩] (((Kp.refl _).alloc _).alloc _))
 have R13:=Lib.hid (rowV_newg (cells:=Mo.cells) (k:=3) (fun _=>rfl) (by decide) (w:=((w4.alloc (.cells #[.int .i64 5,.int .i64 0,.int .i64 0,.string ⟨#[]⟩,.int .i64 0,.slice a1 2 2] 71)).alloc (.cells #[.string ⟨#[121]⟩,.int .i64 7,.int .i64 0,.int .i64 0,.string ⟨#[]⟩,.int .i64 0,.slice (some ⟨w4.heap.size,0,none⟩) 1 1,.string ⟨#[120]⟩,.int .i64 2,.int .i64 0,.int .i64 0,.string ⟨#[121]⟩,.int .i64 0,.slice none 0 0] 73))) (T:=41) (w':=((((w4.alloc (.cells #[.int .i64 5,.int .i64 0,.int .i64 0,.string ⟨#[]⟩,.int .i64 0,.slice a1 2 2] 71)).alloc (.cells #[.string ⟨#[121]⟩,.int .i64 7,.int .i64 0,.int .i64 0,.string ⟨#[]⟩,.int .i64 0,.slice (some ⟨w4.heap.size,0,none⟩) 1 1,.string ⟨#[120]⟩,.int .i64 2,.int .i64 0,.int .i64 0,.string ⟨#[121]⟩,.int .i64 0,.slice none 0 0] 73)).alloc (.cells #[.string ⟨#[114,117,110]⟩,.slice (some ⟨w4.heap.size+1,0,none⟩) 2 2,.slice none 0 0] 41)).alloc (.cells #[.string ⟨#[120]⟩,.int .i64 1,.int .i64 1,.int .i64 1,.int .i64 1,.string ⟨#[121]⟩,.int .i64 1,.int .i64 1,.int .i64 1,.int .i64 1] 68))) (w4.heap.size+1+1) (by simp) [exM (some ⟨w4.heap.size+1,0,none⟩) a1 (some ⟨w4.heap.size,0,none⟩)] ((Kp.refl _).alloc _))
 have R4:=Lib.hid (rowV_newg (cells:=De.cells) (k:=5) de_len (by decide) (w:=(((w4.alloc (.cells #[.int .i64 5,.int .i64 0,.int .i64 0,.string ⟨#[]⟩,.int .i64 0,.slice a1 2 2] 71)).alloc (.cells #[.string ⟨#[121]⟩,.int .i64 7,.int .i64 0,.int .i64 0,.string ⟨#[]⟩,.int .i64 0,.slice (some ⟨w4.heap.size,0,none⟩) 1 1,.string ⟨#[120]⟩,.int .i64 2,.int .i64 0,.int .i64 0,.string ⟨#[121]⟩,.int .i64 0,.slice none 0 0] 73)).alloc (.cells #[.string ⟨#[114,117,110]⟩,.slice (some ⟨w4.heap.size+1,0,none⟩) 2 2,.slice none 0 0] 41))) (T:=68) (w':=((((w4.alloc (.cells #[.int .i64 5,.int .i64 0,.int .i64 0,.string ⟨#[]⟩,.int .i64 0,.slice a1 2 2] 71)).alloc (.cells #[.string ⟨#[121]⟩,.int .i64 7,.int .i64 0,.int .i64 0,.string ⟨#[]⟩,.int .i64 0,.slice (some ⟨w4.heap.size,0,none⟩) 1 1,.string ⟨#[120]⟩,.int .i64 2,.int .i64 0,.int .i64 0,.string ⟨#[121]⟩,.int .i64 0,.slice none 0 0] 73)).alloc (.cells #[.string ⟨#[114,117,110]⟩,.slice (some ⟨w4.heap.size+1,0,none⟩) 2 2,.slice none 0 0] 41)).alloc (.cells #[.string ⟨#[120]⟩,.int .i64 1,.int .i64 1,.int .i64 1,.int .i64 1,.string ⟨#[121]⟩,.int .i64 1,.int .i64 1,.int .i64 1,.int .i64 1] 68))) (w4.heap.size+1+1+1) (by simp) [⟨nX,1,1,1,1⟩,⟨nY,1,1,1,1⟩] (Kp.refl _))
 have n6:∀ b o,(some (⟨w4.heap.size,0,none⟩:Addr))=some ⟨b,o,none⟩→b≠w.heap.size:=fun b o e=>by cases e;have:=H3.out;have:=KW4.out.size;(try simp only[World.size_alloc]);omega
 have n11:∀ b o,(some (⟨w4.heap.size+1,0,none⟩:Addr))=some ⟨b,o,none⟩→b≠w.heap.size:=fun b o e=>by cases e;have:=H3.out;have:=KW4.out.size;(try simp only[World.size_alloc]);omega
 have n13:∀ b o,(some (⟨w4.heap.size+1+1,0,none⟩:Addr))=some ⟨b,o,none⟩→b≠w.heap.size:=fun b o e=>by cases e;have:=H3.out;have:=KW4.out.size;(try simp only[World.size_alloc]);omega
 have n4:∀ b o,(some (⟨w4.heap.size+1+1+1,0,none⟩:Addr))=some ⟨b,o,none⟩→b≠w.heap.size:=fun b o e=>by cases e;have:=H3.out;have:=KW4.out.size;(try simp only[World.size_alloc]);omega
 have hX:=HB3.out.kp KF.out
 have c0:=hX.cell 0 rfl;have c1:=hX.cell 1 rfl;have c2:=hX.cell 2 rfl;have c3:=hX.cell 3 rfl;have c4:=hX.cell 4 rfl
 have f0:=hX.2.1 0
 have f1:=hX.2.1 1
 have f2:=hX.2.1 2
 have f3:=hX.2.1 3
 have f4:=hX.2.1 4
 have HX:=Lib.hid hX
 clear hX
 refine cm 16 (fun K hK=>?_)
 go_simp
 generalize hW9:((((World.setCell _ _ _).setCell _ _).setCell _ _).setCell _ _).setCell _ _=W9
 obtain⟨hF,hK9,hU⟩:=box5_set HX.out (HKK.out.trans KF.out) (Nat.le_refl _) nofun nofun nofun nofun nofun _ _ _ _ _ hW9
 refine hK.out _ _ (updQ10 hU (by simp) HNe.out (keepQ10 KF.out HS0.out)) (fun hHeld=>?_)
 clear hK K
 refine wpAnyH_done (by kernel_rfl) ?_ _
 have hat:=exq_at hU (RW1.out.kpB KF.out) R6.out R4.out R11.out R13.out HN1.out n6 n4 n11 n13
 have s0:=hF.cell 0 rfl
 have s1:=hF.cell 1 rfl
 have s2:=hF.cell 2 rfl
 have s3:=hF.cell 3 rfl
 have s4:=hF.cell 4 rfl
 go_wp2_with fail
 refine bodyPost_ret (v:=.agg #[.slice (some ⟨w4.heap.size+1+1+1,0,none⟩) 2 2,.slice none 0 0,.slice (some ⟨w4.heap.size+1+1,0,none⟩) 1 1,.int .i64 1,.int .i64 1]) (by simp[results,Tryz.results57,go_sem,s0,s1,s2,s3,s4]) rfl ?_
 exact⟨_,_,_,_,_,rfl,hat,hK9⟩
end Go.Proofs.YteidgoldnllabaaGreatDoor
