/-
  Walks: ref16.Range, ranges.
-/
import Derived.Test.YteidgoldnllabaaGreatDoorTR4E
import Derived.Test.YteidgoldnllabaaGreatDoorTSysN
set_option maxHeartbeats 8000000
set_option maxRecDepth 100000
namespace Go.Proofs.YteidgoldnllabaaGreatDoor
open Go.RowKit
open Lib (hid)
theorem r16range_any (d:De) (p:Nat) (w:World) (hv:declB d=true) (h0:8≤p) (h1:p≤512) (hT:Tab w) :
  Calls Tryz.prog 154 #[.agg #[.int .i64 d.ln,.int .i64 d.ld,.int .i64 d.hn,.int .i64 d.hd],.int .i64 (p:Int)] w (IvlOut w p d):=by
 obtain⟨v1,v2⟩:=declB_rat hv
 have k1:Kp w ((w.alloc (.cells #[.int .i64 d.ln,.int .i64 d.ld,.int .i64 d.hn,.int .i64 d.hd] 66)).alloc (.cells #[.bool false,.slice none 0 0,.int .i64 0,.bool false,.slice none 0 0,.int .i64 0,.bool false] 115)):=((Kp.refl w).alloc _).alloc _
 have hA:BoxV ((w.alloc (.cells #[.int .i64 d.ln,.int .i64 d.ld,.int .i64 d.hn,.int .i64 d.hd] 66)).alloc (.cells #[.bool false,.slice none 0 0,.int .i64 0,.bool false,.slice none 0 0,.int .i64 0,.bool false] 115)) w.heap.size [.int .i64 d.ln,.int .i64 d.ld,.int .i64 d.hn,.int .i64 d.hd]:=(BoxV.new w [_,_,_,_] _ _ rfl).kp ((Kp.refl _).alloc _)
 have hB:Var7 ((w.alloc (.cells #[.int .i64 d.ln,.int .i64 d.ld,.int .i64 d.hn,.int .i64 d.hd] 66)).alloc (.cells #[.bool false,.slice none 0 0,.int .i64 0,.bool false,.slice none 0 0,.int .i64 0,.bool false] 115)) (w.heap.size+1):=by
  have:=Var7.new (w.alloc (.cells #[.int .i64 d.ln,.int .i64 d.ld,.int .i64 d.hn,.int .i64 d.hd] 66)) 115
  rwa [World.size_alloc] at this
 have HE1:=hid fun W (_T:Tab W)=>r4enc_any d.ln d.ld p W v1 h0 h1
 have HE2:=hid fun W (_T:Tab W)=>r4enc_any d.hn d.hd p W v2 h0 h1
 have hf0:=run_fieldI0
 have hf1:=run_fieldI1
 clear hv v1 v2
 go_enter Tryz.func154,Tryz.ntmps154
 go_upto_region 1 with fail
 generalize World.alloc _ _=W at *
 have hSd:W.drew.cell? ⟨w.heap.size,0,none⟩=some (.int .i64 d.ln)∧W.drew.cell? ⟨w.heap.size,1,none⟩=some (.int .i64 d.ld)∧W.drew.cell? ⟨w.heap.size,2,none⟩=some (.int .i64 d.hn)∧W.drew.cell? ⟨w.heap.size,3,none⟩=some (.int .i64 d.hd):=keep4V (Kp.refl W).drew ⟨hA.cell 0 rfl,hA.cell 1 rfl,hA.cell 2 rfl,hA.cell 3 rfl⟩
 have HB:=hid (hB.kp (Kp.refl W).drew)
 have HT:=hid (hT.kp (k1.trans (Kp.refl W).drew))
 have K1:=hid (k1.trans (Kp.refl W).drew)
 have HD:=hid hSd
 refine wp_region_held_drew (S:=fun w'=>w'.cell? ⟨w.heap.size,0,none⟩=some (.int .i64 d.ln)∧w'.cell? ⟨w.heap.size,1,none⟩=some (.int .i64 d.ld)∧w'.cell? ⟨w.heap.size,2,none⟩=some (.int .i64 d.hn)∧w'.cell? ⟨w.heap.size,3,none⟩=some (.int .i64 d.hd)) (by kernel_rfl) hSd (fun hHeld=>?_)
 clear hSd hA hB hT k1
 refine tk 0 ?_;refine tk 1 ?_;refine tk 2 ?_;refine tk 5 ?_;refine tk 6 ?_;refine tk 7 ?_;(try simp only[aput])
 refine cm 3 (fun K hK=>?_)
 (go_simp;go_fit (HE1.out _ HT.out);rintro r w3 ⟨z1,rfl,o1,e1,k3⟩)
 have HD3:=hid (keep4V k3 HD.out)
 refine hK.out _ _ HD3.out (fun hHeld=>?_);clear hK K
 have O1:=hid (And.intro o1 e1)
 have K3:=hid k3
 clear o1 e1 k3
 refine tk 4 ?_;(try simp only[aput])
 refine cm 8 (fun K hK=>?_)
 (go_simp;go_fit (HE2.out _ (HT.out.kp K3.out));rintro r w4 ⟨z2,rfl,o2,e2,k4⟩)
 have HD4:=hid (keep4V k4 HD3.out)
 refine hK.out _ _ HD4.out (fun hHeld=>?_);clear hK K
 have O2:=hid (And.intro o2 e2)
 have HB4:=hid (HB.out.kp (K3.out.trans k4))
 have HK4:=hid (K1.out.trans (K3.out.trans k4))
 have O1b:=hid (And.intro (O1.out.1.1.kp k4) O1.out.2)
 clear o2 e2 k4
 refine tk 9 ?_;refine tk 10 ?_;(try simp only[aput])
 obtain⟨⟨q0,q1,q2,q3,q4,q5,q6⟩,f0,f1,f2,f3,f4,f5,f6⟩:=id HB4.out
 refine cm 11 (fun K hK=>?_)
 go_simp
 generalize hW9:((((((w4.setCell _ _).setCell _ _).setCell _ _).setCell _ _).setCell _ _).setCell _ _).setCell _ _=W9
 obtain⟨⟨s0,s1,s2,s3,s4,s5,s6⟩,hU⟩:=stored7 (show Box7 w4 _ _ _ _ _ _ _ _ from ⟨q0,q1,q2,q3,q4,q5,q6⟩) nofun nofun nofun nofun nofun nofun nofun _ _ _ _ _ _ _ hW9
 clear hW9 q0 q1 q2 q3 q4 q5 q6 f0 f1 f2 f3 f4 f5 f6
 have hne (j:Nat):W9.cell? ⟨w.heap.size,j,none⟩=w4.cell? ⟨w.heap.size,j,none⟩:=hU.2.2.2.1 ⟨w.heap.size,j,none⟩ (by show w.heap.size≠w.heap.size+1;omega)
 refine hK.out _ _ ⟨(hne 0).trans HD4.out.1,(hne 1).trans HD4.out.2.1,(hne 2).trans HD4.out.2.2.1,(hne 3).trans HD4.out.2.2.2⟩ (fun hHeld=>?_)
 clear hK K
 refine wpAnyH_done (by kernel_rfl) ?_ _
 go_wp2_with fail
 refine bodyPost_ret (v:=.agg #[.bool (RI.mk z1.lo z2.hi false).lo.neg,.slice (RI.mk z1.lo z2.hi false).lo.a (RI.mk z1.lo z2.hi false).lo.xs.length (RI.mk z1.lo z2.hi false).lo.c,.int .i64 (RI.mk z1.lo z2.hi false).lo.e,.bool (RI.mk z1.lo z2.hi false).hi.neg,.slice (RI.mk z1.lo z2.hi false).hi.a (RI.mk z1.lo z2.hi false).hi.xs.length (RI.mk z1.lo z2.hi false).hi.c,.int .i64 (RI.mk z1.lo z2.hi false).hi.e,.bool (RI.mk z1.lo z2.hi false).all]) (by simp[results,Tryz.results154,go_sem,s0,s1,s2,s3,s4,s5,s6]) rfl ?_
 refine⟨RI.mk z1.lo z2.hi false,rfl,⟨⟨hU.rdD O1b.out.1.1,O1b.out.1.2⟩,⟨hU.rdD O2.out.1.2.1,O2.out.1.2.2⟩⟩,?_,hU.2.2.1 _ HK4.out (by omega)⟩
 have h1:=O1b.out.2
 have h2:=O2.out.2
 unfold valI rngV
 rw[← h1,← h2]
theorem r16ranges_any (l:List De) (a:Option Addr) (c B:Nat) (p:Nat) (w:World) (hr:RowV De.cells 5 w B a l) (hl:l.length≤1000000) (hv:∀ d∈l,declB d=true) (h0:8≤p) (h1:p≤512) (hT:Tab w) :
   Calls Tryz.prog 102 #[.slice a l.length c,.int .i64 (p:Int)] w fun r w'=>∃ v zs,r=.returned v∧OwnN w w' v zs∧zs.map valI=l.map (rngV p)∧∀ z∈zs,z.lo.vl=true∧z.hi.vl=true:=by
 have HR:=hid hr
 have HT:=hid hT
 have HV:=hid hv
 clear hr hT hv
 go_enter Tryz.func102,Tryz.ntmps102
 go_upto_region 3 with fail
 go_loopw [5,6] (fun y x wr=>∃ (k:Nat) (zs:List RI),k≤l.length∧x=.int .i64 k∧OwnN w wr y zs∧zs.map valI=(l.take k).map (rngV p)∧∀ z∈zs,z.lo.vl=true∧z.hi.vl=true) (fun _ x _=>l.length-(intOf x).toNat)
 case atStart=>exact⟨0,[],by omega,rfl,OwnN.nil (Kp.refl _),rfl,fun z h=>by simp at h⟩
 case round =>
 obtain⟨k,zs,hk,rfl,hO,hm,hz⟩:=hrel
 have hkw:=hO.1
 have HO:=hid hO
 have HM:=hid (And.intro hm hz)
 have hzl:zs.length≤1000000:=by
   have:=congrArg List.length hm
   rw[List.length_map,List.length_map,List.length_take] at this
   omega
 by_cases hlt:k<l.length
 rotate_left
 · have hk2:k=l.length:=by omega
   subst hk2
   rw[List.take_length] at HM
   clear hO hkw hm hz
   go_wp2
   go_ret
   exact⟨_,zs,rfl,HO.out,HM.out.1,HM.out.2⟩
 obtain⟨d,hs⟩:∃ d,l[k]? = some d:=⟨_,List.getElem?_eq_getElem hlt⟩
 obtain⟨b,o,ha,_,hc⟩:=HR.out.kp hkw k d hs
 have HTk:=hid (take_map (rngV p) hs)
 have HI:=hid fun W (k:Kp w W)=>r16range_any d p W (HV.out d (List.mem_of_getElem? hs)) h0 h1 (HT.out.kp k)
 have q0:wr.cell? ⟨b,o+k*5,none⟩=some (.string d.name):=hc 0 _ rfl;have q1:=hc 1 _ rfl;have q2:=hc 2 _ rfl;have q3:=hc 3 _ rfl;have q4:=hc 4 _ rfl
 have Ha:=ha
 have HKW:=hid hkw
 have HO2:=hid hO
 have p1:=q1
 have p2:=q2
 have p3:=q3
 have p4:=q4
 clear hc hs hkw ha hO hm hz q0 q1 q2 q3 q4
 rw[Ha]
 go_wp2_with (first
   | (go_at_call 154; go_fit (HI.out _ HKW.out); rintro r v1 ⟨z, rfl, oz, ez, j1⟩
      have hownA:=HO2.out.kp (j1.alloc (.cells #[.bool z.lo.neg,.slice z.lo.a z.lo.xs.length z.lo.c,.int .i64 z.lo.e,.bool z.hi.neg,.slice z.hi.a z.hi.xs.length z.hi.c,.int .i64 z.hi.e,.bool z.all] 115))
      have hzA:=(show z.rd v1 from ⟨oz.1.1,oz.2.1⟩).kp ((Kp.refl v1).alloc (.cells #[.bool z.lo.neg,.slice z.lo.a z.lo.xs.length z.lo.c,.int .i64 z.lo.e,.bool z.hi.neg,.slice z.hi.a z.hi.xs.length z.hi.c,.int .i64 z.hi.e,.bool z.all] 115))
      have ZP:=hid (And.intro oz ez)
      clear oz ez)
   | (at_builtin;refine wpList_append_ivn rfl _ _ rfl w _ zs rfl hownA _ _ rfl z hzA (by simp) (by omega) ?_;intro a' c' w9 hown9 hgrow)
   | fail)
 go_roundw
 case measure=>simp only[intOf];omega
 case rel =>
 refine⟨k+1,zs++[z],by omega,by go_num,hown9,?_,?_⟩
 · rw[HTk.out,List.map_append,HM.out.1]
   show _++[valI z]=_
   rw[ZP.out.2]
 intro y hy
 rcases List.mem_append.1 hy with h | h
 · exact HM.out.2 y h
 simp only[List.mem_singleton] at h
 subst h
 exact⟨ZP.out.1.1.2,ZP.out.1.2.2⟩
end Go.Proofs.YteidgoldnllabaaGreatDoor
