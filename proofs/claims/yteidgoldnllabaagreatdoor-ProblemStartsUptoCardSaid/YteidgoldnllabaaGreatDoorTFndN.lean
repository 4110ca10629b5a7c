/-
  Walks: slices.IndexFunc at modes and equations: the first element that fits.
-/
import Derived.Test.YteidgoldnllabaaGreatDoorTEvdN
import Derived.Test.YteidgoldnllabaaGreatDoorTChkN
import Derived.Maps.OwnSet
import Derived.DeepKeys4
import Derived.Test.YteidgoldnllabaaGreatDoorTIdxX
import Derived.Deep.QuietTactic
import Derived.BigQuiet
import Derived.Lib.AppendZeros
import Derived.Maps.AppendAt
import Derived.Test.YteidgoldnllabaaGreatDoorTTail
set_option maxHeartbeats 8000000
set_option maxRecDepth 20000
namespace Go.Proofs.YteidgoldnllabaaGreatDoor
open Go.RowKit
open Lib (hid)
section
open Go.RowKit Go.Sort
theorem find_at {α:Type} {p:α→Bool}:∀ {zs:List α} {k:Nat} {s:α},zs[k]? = some s→p s=true→(∀ (i:Nat) (x:α),zs[i]? = some x→i<k→p x=false)→zs.find? p=some s
 | [],k,s,h,_,_=>by simp at h
 | z::t,0,s,h,hp,_=>by
  simp only[List.getElem?_cons_zero,Option.some.injEq] at h
  subst h
  simp[hp]
 | z::t,k+1,s,h,hp,hz=>by
  have h0:=hz 0 z (by simp) (by omega)
  rw[List.find?_cons,h0]
  exact find_at (k:=k) (by simpa using h) hp fun i x hx hi=>hz (i+1) x (by simpa using hx) (by omega)
theorem findM_any (a:Option Addr) (zs:List Mo) (c:Nat) (g:FuncId) (cap:Array Value) (w:World) (B:Nat) (p:Mo→Bool) (hm:zs.length≤1100000) (hrow:RowV Mo.cells 3 w B a zs) (hp:AnsV Mo.cells Tryz.prog g cap w zs p) :
  Calls Tryz.prog 74 #[.slice a zs.length c,.func (.func g) #[] cap] w fun e w'=>((∃ (k:Nat) (x:Mo),e=.returned (.int .i64 (k:Int))∧zs[k]? = some x∧zs.find? p=some x)∨(e=.returned (.int .i64 (-1))∧zs.find? p=none))∧Kp w w':=by
 have HR:=hid hrow
 have HP:=hid hp.2
 have hgo:∀ args w,(callFunc g args).run Tryz.prog w=.ok (.enter g args) w:=hp.1
 clear hrow hp
 go_enter Tryz.func74,Tryz.ntmps74
 go_wp2
 go_loopw [8] (fun x wr=>∃ k:Nat,k≤zs.length∧x=.int .i64 k∧(∀ (i:Nat) (s:Mo),zs[i]? = some s→i<k→p s=false)∧Kp w wr) (fun x _=>zs.length-(intOf x).toNat)
 case atStart=>exact⟨0,by omega,rfl,fun i s _ h=>absurd h (Nat.not_lt_zero _),.refl _⟩
 case round =>
 obtain⟨k,hk,rfl,hz,hkp⟩:=hrel
 have Hz:=hid hz
 have Hk:=hid hkp
 clear hz
 by_cases hlt:k<zs.length
 rotate_left
 ·have Ha:=hid (show zs.find? p=none from List.find?_eq_none.2 fun s hs=>by
   obtain⟨i,hi⟩:=List.getElem?_of_mem hs
   rw[Hz.out i s hi (by have:=(List.getElem?_eq_some_iff.1 hi).1;omega)];decide)
  clear hkp
  go_wp2
  go_ret
  exact⟨.inr ⟨rfl,Ha.out⟩,Hk.out⟩
 obtain⟨s,hs⟩:∃ s,zs[k]? = some s:=⟨_,List.getElem?_eq_getElem hlt⟩
 obtain⟨b,o,rfl,_,h0⟩:=HR.out.kp hkp k s hs
 have Hc:Calls Tryz.prog g (#[.agg #[.string s.name,.slice s.fa s.fs.length s.fc,.slice s.ea s.es.length s.ec]]++cap) wr fun e w2=>e=.returned (.bool (p s))∧Kp wr w2:=HP.out s (List.mem_of_getElem? hs) wr hkp
 have Hs:=hid hs
 have q0:wr.cell? ⟨b,o+k*3,none⟩=some (.string s.name):=h0 0 _ rfl;have q1:=h0 1 _ rfl;have q2:=h0 2 _ rfl
 clear hs hkp h0
 cases hq:p s with
 | true =>
  rw[hq] at Hc
  have Hc:=hid Hc
  have Ha:=hid (find_at Hs.out hq Hz.out)
  clear hq
  go_wp2_with (refine Hc.out.mono ?_;rintro e w2 ⟨rfl,k2⟩)
  go_ret
  exact⟨.inl ⟨k,s,rfl,Hs.out,Ha.out⟩,Hk.out.trans k2⟩
 | false =>
 rw[hq] at Hc
 have Hc:=hid Hc
 have Hq:=hid hq
 clear hq
 go_wp2_with (refine Hc.out.mono ?_;rintro e w2 ⟨rfl,k2⟩)
 go_roundw
 case measure=>simp only[intOf];omega
 case rel =>
 refine⟨k+1,by omega,by go_num,fun i s' hs' hi=>?_,Hk.out.trans k2⟩
 by_cases h:i=k
 ·subst h;rw[Hs.out] at hs';cases hs';exact Hq.out
 exact Hz.out i s' hs' (by omega)
theorem findQ_any (a:Option Addr) (zs:List Qe) (c:Nat) (g:FuncId) (cap:Array Value) (w:World) (B:Nat) (p:Qe→Bool) (hm:zs.length≤1100000) (hrow:RowV Qe.cells 7 w B a zs) (hp:AnsV Qe.cells Tryz.prog g cap w zs p) :
  Calls Tryz.prog 84 #[.slice a zs.length c,.func (.func g) #[] cap] w fun e w'=>((∃ (k:Nat) (x:Qe),e=.returned (.int .i64 (k:Int))∧zs[k]? = some x∧zs.find? p=some x)∨(e=.returned (.int .i64 (-1))∧zs.find? p=none))∧Kp w w':=by
 have HR:=hid hrow
 have HP:=hid hp.2
 have hgo:∀ args w,(callFunc g args).run Tryz.prog w=.ok (.enter g args) w:=hp.1
 clear hrow hp
 go_enter Tryz.func84,Tryz.ntmps84
 go_wp2
 go_loopw [8] (fun x wr=>∃ k:Nat,k≤zs.length∧x=.int .i64 k∧(∀ (i:Nat) (s:Qe),zs[i]? = some s→i<k→p s=false)∧Kp w wr) (fun x _=>zs.length-(intOf x).toNat)
 case atStart=>exact⟨0,by omega,rfl,fun i s _ h=>absurd h (Nat.not_lt_zero _),.refl _⟩
 case round =>
 obtain⟨k,hk,rfl,hz,hkp⟩:=hrel
 have Hz:=hid hz
 have Hk:=hid hkp
 clear hz
 by_cases hlt:k<zs.length
 rotate_left
 ·have Ha:=hid (show zs.find? p=none from List.find?_eq_none.2 fun s hs=>by
   obtain⟨i,hi⟩:=List.getElem?_of_mem hs
   rw[Hz.out i s hi (by have:=(List.getElem?_eq_some_iff.1 hi).1;omega)];decide)
  clear hkp
  go_wp2
  go_ret
  exact⟨.inr ⟨rfl,Ha.out⟩,Hk.out⟩
 obtain⟨s,hs⟩:∃ s,zs[k]? = some s:=⟨_,List.getElem?_eq_getElem hlt⟩
 obtain⟨b,o,rfl,_,h0⟩:=HR.out.kp hkp k s hs
 have Hc:Calls Tryz.prog g (#[.agg #[.string s.name,.int .i64 s.e.kind,.int .i64 s.e.rn,.int .i64 s.e.rd,.string s.e.name,.int .i64 s.e.pw,.slice s.e.a s.e.l.length s.e.c]]++cap) wr fun e w2=>e=.returned (.bool (p s))∧Kp wr w2:=HP.out s (List.mem_of_getElem? hs) wr hkp
 have Hs:=hid hs
 have q0:wr.cell? ⟨b,o+k*7,none⟩=some (.string s.name):=h0 0 _ rfl;have q1:=h0 1 _ rfl;have q2:=h0 2 _ rfl;have q3:=h0 3 _ rfl;have q4:=h0 4 _ rfl;have q5:=h0 5 _ rfl;have q6:=h0 6 _ rfl
 clear hs hkp h0
 cases hq:p s with
 | true =>
  rw[hq] at Hc
  have Hc:=hid Hc
  have Ha:=hid (find_at Hs.out hq Hz.out)
  clear hq
  go_wp2_with (refine Hc.out.mono ?_;rintro e w2 ⟨rfl,k2⟩)
  go_ret
  exact⟨.inl ⟨k,s,rfl,Hs.out,Ha.out⟩,Hk.out.trans k2⟩
 | false =>
 rw[hq] at Hc
 have Hc:=hid Hc
 have Hq:=hid hq
 clear hq
 go_wp2_with (refine Hc.out.mono ?_;rintro e w2 ⟨rfl,k2⟩)
 go_roundw
 case measure=>simp only[intOf];omega
 case rel =>
 refine⟨k+1,by omega,by go_num,fun i s' hs' hi=>?_,Hk.out.trans k2⟩
 by_cases h:i=k
 ·subst h;rw[Hs.out] at hs';cases hs';exact Hq.out
 exact Hz.out i s' hs' (by omega)
end
section
open Go.RowKit Go.Sort
def okF (p:Pr):Bool:=!(checkF p).isSome
theorem okF_prob {p:Pr} (h:okF p=true):probB p=true:=by
 cases hp:probB p with
 | true=>rfl
 | false =>
 have:checkF p=some (1,ByteArray.empty):=by rw[checkF_eq,hp];rfl
 unfold okF at h
 rw[this] at h
 cases h
theorem pvalid_any (p:Pr) (w:World) (B:Nat) (hat:p.at w B) (hB:B≤w.heap.size) :
  Calls Tryz.prog 17 #[.agg #[.slice p.sa p.ss.length p.sc,.slice p.pa p.ps.length p.pc,.slice p.ma p.ms.length p.mc,.int .i64 p.tn,.int .i64 p.td]] w fun r w'=>r=.returned (.bool (okF p))∧Kp w w':=by
 have k1:Kp w (w.alloc (.cells #[.slice p.sa p.ss.length p.sc,.slice p.pa p.ps.length p.pc,.slice p.ma p.ms.length p.mc,.int .i64 p.tn,.int .i64 p.td] 27)):=(Kp.refl w).alloc _
 have h0:BoxV (w.alloc (.cells #[.slice p.sa p.ss.length p.sc,.slice p.pa p.ps.length p.pc,.slice p.ma p.ms.length p.mc,.int .i64 p.tn,.int .i64 p.td] 27)) w.heap.size p.cells:=BoxV.new w p.cells _ _ rfl
 go_enter Tryz.func17,Tryz.ntmps17
 go_upto_region 1 with fail
 generalize w.alloc _=W at *
 have HC:=hid (check_any p W B (Pr.at_kp hat k1) (Nat.le_trans hB k1.size))
 have q0:=h0.cell 0 rfl
 have q1:=h0.cell 1 rfl
 have q2:=h0.cell 2 rfl
 have q3:=h0.cell 3 rfl
 have q4:=h0.cell 4 rfl
 have K1:=hid k1
 clear h0 k1 hat hB
 cases hf:checkF p with
 | some f =>
  rw[hf] at HC
  have HZ:=hid (show okF p=false by unfold okF;rw[hf];rfl)
  clear hf
  replace HC:=hid (show Calls Tryz.prog 15 #[.agg #[.slice p.sa p.ss.length p.sc,.slice p.pa p.ps.length p.pc,.slice p.ma p.ms.length p.mc,.int .i64 p.tn,.int .i64 p.td]] W fun r w'=>r=.returned (.tuple #[.agg #[.int .i64 f.1,.string f.2],.bool true])∧Kp W w' from HC.out)
  go_wp2_with (first | (go_at_call 15;go_fit HC.out;rintro r w2 ⟨rfl,k2⟩) | fail)
  go_ret
  exact⟨by rw[HZ.out];rfl,K1.out.trans (k2.alloc _)⟩
 | none =>
 rw[hf] at HC
 have HZ:=hid (show okF p=true by unfold okF;rw[hf];rfl)
 clear hf
 replace HC:=hid (show Calls Tryz.prog 15 #[.agg #[.slice p.sa p.ss.length p.sc,.slice p.pa p.ps.length p.pc,.slice p.ma p.ms.length p.mc,.int .i64 p.tn,.int .i64 p.td]] W fun r w'=>r=.returned (.tuple #[.agg #[.int .i64 0,.string ⟨#[]⟩],.bool false])∧Kp W w' from HC.out)
 go_wp2_with (first | (go_at_call 15;go_fit HC.out;rintro r w2 ⟨rfl,k2⟩) | fail)
 go_ret
 exact⟨by rw[HZ.out];rfl,K1.out.trans (k2.alloc _)⟩
theorem pnames_any (p:Pr) (w:World) (B:Nat) (hat:p.at w B) (h0:0<p.ss.length) (hsl:p.ss.length≤1000000) (hpl:p.ps.length≤1000000) :
  Calls Tryz.prog 77 #[.agg #[.slice p.sa p.ss.length p.sc,.slice p.pa p.ps.length p.pc,.slice p.ma p.ms.length p.mc,.int .i64 p.tn,.int .i64 p.td]] w fun r w'=>∃ v,r=.returned v∧OwnU w w' v (allN p):=by
 have k1:Kp w (w.alloc (.cells #[.slice p.sa p.ss.length p.sc,.slice p.pa p.ps.length p.pc,.slice p.ma p.ms.length p.mc,.int .i64 p.tn,.int .i64 p.td] 27)):=(Kp.refl w).alloc _
 have hb:BoxV (w.alloc (.cells #[.slice p.sa p.ss.length p.sc,.slice p.pa p.ps.length p.pc,.slice p.ma p.ms.length p.mc,.int .i64 p.tn,.int .i64 p.td] 27)) w.heap.size p.cells:=BoxV.new w p.cells _ _ rfl
 go_enter Tryz.func77,Tryz.ntmps77
 go_upto_region 2 with fail
 generalize w.alloc _=W at *
 have HAT:=hid (Pr.at_kp hat k1)
 have q0:=hb.cell 0 rfl
 have q1:=hb.cell 1 rfl
 have K1:=hid k1
 obtain⟨DD,hDD⟩:∃ DD,DD=p.ss++p.ps:=⟨_,rfl⟩
 have HDD:=hid (show allN p=DD.map De.name by rw[hDD,List.map_append];rfl)
 have hdl:DD.length≤2000000:=by rw[hDD,List.length_append];omega
 have kc:Kp W (W.alloc (.cells #[.slice p.sa p.ss.length p.sc,.slice p.pa p.ps.length p.pc] 22)):=(Kp.refl W).alloc _
 have bc:=BoxV.new W [.slice p.sa p.ss.length p.sc,.slice p.pa p.ps.length p.pc] 22 _ rfl
 have HCon:=hid (concatDe_any p.ss p.ps p.sa p.pa p.sc p.pc 2 B W.heap.size _ h0 (by omega) (by omega) (HAT.out.2.1.1.kp kc) (HAT.out.2.2.1.1.kp kc) ⟨bc.cell 0 rfl,bc.cell 1 rfl⟩)
 rw[← hDD] at HCon
 clear k1 hb bc hDD hat
 go_upto_region 3 with (first | (go_at_call 65;go_fit HCon.out;rintro r w8 ⟨v8,rfl,hO8,k8⟩;obtain⟨da,dc,rfl,_,hr8⟩:=hO8.row de_len de_one) | fail)
 have HR8:=hid hr8
 have HK8:=hid (K1.out.trans (kc.trans k8))
 clear hr8 hO8 k8 kc HCon q0 q1
 obtain⟨V3,hV⟩:∃ V:World,V=w8:=⟨_,rfl⟩
 subst hV
 go_loopw [3,13] (fun y z wr=>∃ k:Nat,k≤DD.length∧z=.int .i64 k∧OwnU V3 wr y ((DD.take k).map De.name)) (fun _ z _=>DD.length-(intOf z).toNat)
 case atStart=>exact⟨0,by omega,rfl,OwnU.nil (.refl _)⟩
 case round =>
 obtain⟨k,hk,rfl,hO⟩:=hrel
 have HO:=hid hO
 have hkw:=hO.1
 by_cases hlt:k<DD.length
 rotate_left
 ·have hk2:k=DD.length:=by omega
  subst hk2
  rw[List.take_length] at HO
  clear hO hkw
  go_wp2
  go_ret
  exact⟨_,rfl,by rw[HDD.out];exact HO.out.base HK8.out⟩
 obtain⟨d,hs⟩:∃ d,DD[k]? = some d:=⟨_,List.getElem?_eq_getElem hlt⟩
 obtain⟨b,o,ha,_,hc⟩:=HR8.out.kp hkw k d hs
 have HT:=hid (take_map De.name hs)
 have hnl:((DD.take k).map De.name).length≤3000000:=by rw[List.length_map,List.length_take];omega
 have k2:Kp wr (wr.alloc (.cells #[.string d.name,.int .i64 d.ln,.int .i64 d.ld,.int .i64 d.hn,.int .i64 d.hd] 68)):=(Kp.refl wr).alloc _
 have hb2:BoxV (wr.alloc (.cells #[.string d.name,.int .i64 d.ln,.int .i64 d.ld,.int .i64 d.hn,.int .i64 d.hd] 68)) wr.heap.size d.cells:=BoxV.new wr d.cells _ _ rfl
 have q0:wr.cell? ⟨b,o+k*5,none⟩=some (.string d.name):=hc 0 _ rfl;have q1:=hc 1 _ rfl;have q2:=hc 2 _ rfl;have q3:=hc 3 _ rfl;have q4:=hc 4 _ rfl
 have Ha:=ha
 generalize hnn:(DD.take k).map De.name=nn at *
 clear hc hs hkw hnn ha hO
 rw[Ha]
 go_upto_region 5 with fail
 generalize wr.alloc _=W2 at *
 have HO2:=hid (HO.out.kp k2)
 have p0:=hb2.cell 0 rfl
 clear hb2 q0 q1 q2 q3 q4
 go_wp2_with (at_builtin;refine wpList_append_us rfl _ _ rfl V3 _ nn rfl (HO2.out.kp ((Kp.refl _).alloc _)) ⟨W2.heap.size,0,none⟩ 1 [d.name] 1 rfl rfl (rowS_one _ _ _ (by simp)) (by simp only[List.length_cons,List.length_nil];omega) ?_;intro v' w5 hO5)
 go_roundw
 case measure=>simp only[intOf];omega
 case rel=>exact⟨k+1,by omega,by go_num,by rw[HT.out];exact hO5⟩
def modeO (p:Pr) (s:ByteArray):Option Mo:=if okF p=true then p.ms.find? (fun m=>decide (m.name=s)) else none
def Mo.zero:Mo:=⟨⟨#[]⟩,none,0,[],none,0,[]⟩
theorem mode1_any (m:Mo) (s:ByteArray) (nb:Nat) (w:World) (hn:w.cell? ⟨nb,0,none⟩=some (.string s)) :
  Calls Tryz.prog 75 #[.agg #[.string m.name,.slice m.fa m.fs.length m.fc,.slice m.ea m.es.length m.ec],.pointer (some ⟨nb,0,none⟩)] w fun r w'=>r=.returned (.bool (decide (m.name=s)))∧Kp w w':=by
 have k1:Kp w (w.alloc (.cells #[.string m.name,.slice m.fa m.fs.length m.fc,.slice m.ea m.es.length m.ec] 41)):=(Kp.refl w).alloc _
 have h0:BoxV (w.alloc (.cells #[.string m.name,.slice m.fa m.fs.length m.fc,.slice m.ea m.es.length m.ec] 41)) w.heap.size m.cells:=BoxV.new w m.cells _ _ rfl
 have hn2:=k1.cell hn
 have hs:=str_eq m.name s
 go_enter Tryz.func75,Tryz.ntmps75
 go_upto_region 1 with fail
 generalize w.alloc _=W at *
 have q0:=h0.cell 0 rfl
 clear h0 hn
 go_wp2
 go_ret
 exact⟨by simp,k1⟩
theorem pmode_any (p:Pr) (s:ByteArray) (w:World) (B:Nat) (hat:p.at w B) (hB:B≤w.heap.size) :
  Calls Tryz.prog 18 #[.agg #[.slice p.sa p.ss.length p.sc,.slice p.pa p.ps.length p.pc,.slice p.ma p.ms.length p.mc,.int .i64 p.tn,.int .i64 p.td],.string s] w fun r w'=>r=.returned (.tuple #[.agg #[.string ((modeO p s).getD Mo.zero).name,.slice ((modeO p s).getD Mo.zero).fa ((modeO p s).getD Mo.zero).fs.length ((modeO p s).getD Mo.zero).fc,.slice ((modeO p s).getD Mo.zero).ea ((modeO p s).getD Mo.zero).es.length ((modeO p s).getD Mo.zero).ec],.bool (modeO p s).isSome])∧Kp w w':=by
 have k1:Kp w (((w.alloc (.cells #[.slice p.sa p.ss.length p.sc,.slice p.pa p.ps.length p.pc,.slice p.ma p.ms.length p.mc,.int .i64 p.tn,.int .i64 p.td] 27)).alloc (.cells #[.string s] 9)).alloc (.cells #[.string ⟨#[]⟩,.slice none 0 0,.slice none 0 0] 41)):=(((Kp.refl w).alloc _).alloc _).alloc _
 have h0:BoxV (((w.alloc (.cells #[.slice p.sa p.ss.length p.sc,.slice p.pa p.ps.length p.pc,.slice p.ma p.ms.length p.mc,.int .i64 p.tn,.int .i64 p.td] 27)).alloc (.cells #[.string s] 9)).alloc (.cells #[.string ⟨#[]⟩,.slice none 0 0,.slice none 0 0] 41)) w.heap.size p.cells:=(BoxV.new w p.cells _ _ rfl).kp (((Kp.refl _).alloc _).alloc _)
 have h1:BoxV (((w.alloc (.cells #[.slice p.sa p.ss.length p.sc,.slice p.pa p.ps.length p.pc,.slice p.ma p.ms.length p.mc,.int .i64 p.tn,.int .i64 p.td] 27)).alloc (.cells #[.string s] 9)).alloc (.cells #[.string ⟨#[]⟩,.slice none 0 0,.slice none 0 0] 41)) (w.heap.size+1) [.string s]:=(BoxV.new _ [_] _ _ (by simp)).kp ((Kp.refl _).alloc _)
 have h2:BoxV (((w.alloc (.cells #[.slice p.sa p.ss.length p.sc,.slice p.pa p.ps.length p.pc,.slice p.ma p.ms.length p.mc,.int .i64 p.tn,.int .i64 p.td] 27)).alloc (.cells #[.string s] 9)).alloc (.cells #[.string ⟨#[]⟩,.slice none 0 0,.slice none 0 0] 41)) (w.heap.size+1+1) [.string ⟨#[]⟩,.slice none 0 0,.slice none 0 0]:=BoxV.new _ [_,_,_] _ _ (by simp)
 obtain⟨hsl,hpl,hml⟩:=hat.1
 go_enter Tryz.func18,Tryz.ntmps18
 go_upto_region 1 with fail
 generalize World.alloc _ _=W at *
 have HAT:=hid (Pr.at_kp hat k1)
 have HC:=hid (pvalid_any p W B HAT.out (Nat.le_trans hB k1.size))
 have H0:=hid h0
 have H1:=hid h1
 have H2:=hid h2
 have q0:=h0.cell 0 rfl
 have q1:=h0.cell 1 rfl
 have q2:=h0.cell 2 rfl
 have q3:=h0.cell 3 rfl
 have q4:=h0.cell 4 rfl
 have K1:=hid k1
 clear h0 h1 h2 k1 hat hB
 cases hf:okF p with
 | false =>
  rw[hf] at HC
  have HZ:=hid (show modeO p s=none by unfold modeO;rw[hf];rfl)
  clear hf
  go_wp2_with (first | (go_at_call 17;go_fit HC.out;rintro r w2 ⟨rfl,k2⟩;have hR:=H2.out.kp k2;have r0:=hR.cell 0 rfl;have r1:=hR.cell 1 rfl;have r2:=hR.cell 2 rfl;have f0:=hR.2.1 0;have f1:=hR.2.1 1;have f2:=hR.2.1 2;have HR:=hid hR;clear hR) | fail)
  have hF:=((HR.out.set (i:=0) (by simp) (.string ⟨#[]⟩)).set (i:=1) (by simp) (.slice none 0 0)).set (i:=2) (by simp) (.slice none 0 0)
  have hK:=(((K1.out.trans k2).set (show w.heap.size≤w.heap.size+1+1 by omega) (i:=0) (.string ⟨#[]⟩)).set (show w.heap.size≤w.heap.size+1+1 by omega) (i:=1) (.slice none 0 0)).set (show w.heap.size≤w.heap.size+1+1 by omega) (i:=2) (.slice none 0 0)
  generalize ((World.setCell _ _ _).setCell _ _).setCell _ _=W9 at *
  have s0:=hF.cell 0 rfl
  have s1:=hF.cell 1 rfl
  have s2:=hF.cell 2 rfl
  refine bodyPost_ret (v:=.tuple #[.agg #[.string Mo.zero.name,.slice Mo.zero.fa Mo.zero.fs.length Mo.zero.fc,.slice Mo.zero.ea Mo.zero.es.length Mo.zero.ec],.bool false]) (by simp[results,Tryz.results18,go_sem,s0,s1,s2,Mo.zero]) rfl ?_
  rw[HZ.out]
  exact⟨rfl,hK⟩
 | true =>
 rw[hf] at HC
 have hmo:modeO p s=p.ms.find? (fun m=>decide (m.name=s)):=by unfold modeO;rw[if_pos hf]
 have HI:=hid fun W' (k:Kp W W')=>findM_any p.ma p.ms p.mc 75 #[.pointer (some ⟨w.heap.size+1,0,none⟩)] W' B (fun m=>decide (m.name=s)) (by omega) (HAT.out.2.2.2.1.kp k)
  ⟨fun _ _=>by kernel_rfl,fun m hm w1 h1=>mode1_any m s (w.heap.size+1) w1 ((H1.out.kp (k.trans h1)).cell 0 rfl)⟩
 have hmf:∀ (fn:Fn) (first cap:Array Value) (w:World),(Instr.makeFunc fn first cap).run Tryz.prog w=.ok (.func fn first cap) w:=fun _ _ _ _=>rfl
 have HMO:=hid hmo
 clear hf hmo
 cases hfd:p.ms.find? (fun m=>decide (m.name=s)) with
 | none =>
  have HZ:=hid (show modeO p s=none by rw[HMO.out,hfd])
  have HJ:=hid fun W' (k:Kp W W')=>(HI.out W' k).mono (R':=fun e w'=>e=.returned (.int .i64 (-1))∧Kp W' w') fun e w' h=>And.intro (by
   rcases h.1 with ⟨k,x,_,_,h2⟩ | ⟨h1,_⟩
   ·rw[hfd] at h2;cases h2
   ·exact h1) h.2
  clear hfd HI HMO
  go_wp2_with (first
   | (go_at_call 17;go_fit HC.out;rintro r w2 ⟨rfl,k2⟩;clear q0 q1 q2 q3 q4;have q2:=(H0.out.kp k2).cell 2 rfl)
   | (go_at_call 74;go_fit (HJ.out _ k2);rintro r w3 ⟨rfl,k3⟩;have hR:=H2.out.kp (k2.trans k3);have r0:=hR.cell 0 rfl;have r1:=hR.cell 1 rfl;have r2:=hR.cell 2 rfl;have f0:=hR.2.1 0;have f1:=hR.2.1 1;have f2:=hR.2.1 2;have HR:=hid hR;clear hR)
   | fail)
  have hF:=((HR.out.set (i:=0) (by simp) (.string ⟨#[]⟩)).set (i:=1) (by simp) (.slice none 0 0)).set (i:=2) (by simp) (.slice none 0 0)
  have hK:=(((K1.out.trans (k2.trans k3)).set (show w.heap.size≤w.heap.size+1+1 by omega) (i:=0) (.string ⟨#[]⟩)).set (show w.heap.size≤w.heap.size+1+1 by omega) (i:=1) (.slice none 0 0)).set (show w.heap.size≤w.heap.size+1+1 by omega) (i:=2) (.slice none 0 0)
  generalize ((World.setCell _ _ _).setCell _ _).setCell _ _=W9 at *
  have s0:=hF.cell 0 rfl
  have s1:=hF.cell 1 rfl
  have s2:=hF.cell 2 rfl
  refine bodyPost_ret (v:=.tuple #[.agg #[.string Mo.zero.name,.slice Mo.zero.fa Mo.zero.fs.length Mo.zero.fc,.slice Mo.zero.ea Mo.zero.es.length Mo.zero.ec],.bool false]) (by simp[results,Tryz.results18,go_sem,s0,s1,s2,Mo.zero]) rfl ?_
  rw[HZ.out]
  exact⟨rfl,hK⟩
 | some x =>
 have HZ:=hid (show modeO p s=some x by rw[HMO.out,hfd])
 have HJ:=hid fun W' (k:Kp W W')=>(HI.out W' k).mono (R':=fun e w'=>(∃ k:Nat,e=.returned (.int .i64 (k:Int))∧p.ms[k]? = some x)∧Kp W' w') fun e w' h=>And.intro (by
  rcases h.1 with ⟨k,y,h1,h3,h2⟩ | ⟨_,h2⟩
  ·rw[hfd] at h2;cases h2;exact⟨k,h1,h3⟩
  ·rw[hfd] at h2;cases h2) h.2
 clear hfd HI HMO
 go_upto_region 6 with (first
  | (go_at_call 17;go_fit HC.out;rintro r w2 ⟨rfl,k2⟩;clear q0 q1 q2 q3 q4;have q2:=(H0.out.kp k2).cell 2 rfl)
  | (go_at_call 74;go_fit (HJ.out _ k2);rintro r w3 ⟨⟨k,rfl,hk⟩,k3⟩;have hk0:¬ (k:Int)<0:=by omega)
  | fail)
 have hR:=H2.out.kp (k2.trans k3)
 have r0:=hR.cell 0 rfl
 have r1:=hR.cell 1 rfl
 have r2:=hR.cell 2 rfl
 have f0:=hR.2.1 0
 have f1:=hR.2.1 1
 have f2:=hR.2.1 2
 have HR:=hid hR
 have KK:=hid (K1.out.trans (k2.trans k3))
 obtain⟨b,o,ha,_,hc⟩:=HAT.out.2.2.2.1.kp (k2.trans k3) k x hk
 have hkl:k<p.ms.length:=(List.getElem?_eq_some_iff.1 hk).1
 clear q2
 have q2:=(H0.out.kp (k2.trans k3)).cell 2 rfl
 have p0:w3.cell? ⟨b,o+k*3,none⟩=some (.string x.name):=hc 0 _ rfl;have p1:=hc 1 _ rfl;have p2:=hc 2 _ rfl
 rw[ha] at q2
 clear hR hc hk k2 k3 HJ HC
 go_wp2
 have hF:=((HR.out.set (i:=0) (by simp) (.string x.name)).set (i:=1) (by simp) (.slice x.fa x.fs.length x.fc)).set (i:=2) (by simp) (.slice x.ea x.es.length x.ec)
 have hK:=((KK.out.set (show w.heap.size≤w.heap.size+1+1 by omega) (i:=0) (.string x.name)).set (show w.heap.size≤w.heap.size+1+1 by omega) (i:=1) (.slice x.fa x.fs.length x.fc)).set (show w.heap.size≤w.heap.size+1+1 by omega) (i:=2) (.slice x.ea x.es.length x.ec)
 generalize ((World.setCell _ _ _).setCell _ _).setCell _ _=W9 at *
 have s0:=hF.cell 0 rfl
 have s1:=hF.cell 1 rfl
 have s2:=hF.cell 2 rfl
 refine bodyPost_ret (v:=.tuple #[.agg #[.string x.name,.slice x.fa x.fs.length x.fc,.slice x.ea x.es.length x.ec],.bool true]) (by simp[results,Tryz.results18,go_sem,s0,s1,s2]) rfl ?_
 rw[HZ.out]
 exact⟨rfl,hK⟩
end
section
open Go.RowKit Go.Sort Go.Maps
def Opn.cells (x:Opn):List Value:=[.int .i64 x.k,.int .i64 x.a,.int .i64 x.b,.int .i64 x.n,.int .i64 x.cn,.int .i64 x.cd]
theorem op_len (x:Opn):x.cells.length=6:=rfl
theorem op_one (x:Opn):∀ u∈x.cells,u.oneCell'=true:=by
 intro u hu
 simp only[Opn.cells,List.mem_cons,List.not_mem_nil,or_false] at hu
 rcases hu with rfl | rfl | rfl | rfl | rfl | rfl <;> rfl
abbrev OwnOp (wb w:World) (v:Value) (zs:List Opn):Prop:=OwnV Opn.cells 6 120 wb w v zs
def numC (n:Int):List Value:=[.int .i64 n]
theorem num_len (n:Int):(numC n).length=1:=rfl
theorem num_one (n:Int):∀ u∈numC n,u.oneCell'=true:=by
 intro u hu
 simp only[numC,List.mem_cons,List.not_mem_nil,or_false] at hu
 subst hu;rfl
abbrev OwnNm (wb w:World) (v:Value) (zs:List Int):Prop:=OwnV numC 1 3 wb w v zs
theorem infoOp:(Tryz.prog.info? 120).map (fun i=>(i.zero,i.size,i.bytes))=some (some (.agg #[.int .i64 0,.int .i64 0,.int .i64 0,.int .i64 0,.int .i64 0,.int .i64 0]),6,48):=by kernel_rfl
theorem infoInt:(Tryz.prog.info? 3).map (fun i=>(i.zero,i.size,i.bytes))=some (some (.int .i64 0),1,8):=by kernel_rfl
def wf64 (n:Int):Prop:=-9223372036854775808≤n∧n≤9223372036854775807
def Opn.wf (x:Opn):Prop:=wf64 x.k∧wf64 x.a∧wf64 x.b∧wf64 x.n∧wf64 x.cn∧wf64 x.cd
def opV (x:Opn):Value:=.agg #[.int .i64 x.k,.int .i64 x.a,.int .i64 x.b,.int .i64 x.n,.int .i64 x.cn,.int .i64 x.cd]
theorem opV_inj {x y:Opn} (h:opV x=opV y):x=y:=by
 unfold opV at h
 simp only[Value.agg.injEq,Array.mk.injEq,List.cons.injEq,Value.int.injEq,true_and,and_true] at h
 obtain⟨h1,h2,h3,h4,h5,h6⟩:=h
 cases x;cases y
 simp_all
theorem opKeyT:Tryz.prog.keyType 120=true:=by kernel_rfl
theorem opLay:laidOutB Tryz.prog=true:=by kernel_rfl
theorem opRow:120<Tryz.prog.types.size:=of_decide_eq_true (by kernel_rfl)
theorem opDeep:Tryz.prog.keyTypeAt 3 120=true:=by kernel_rfl
theorem opLaw:Keyed Tryz.prog 120:=Keyed.of_law (deep_law_laid opLay (m:=3) (by omega) opRow opDeep (by rw[Tryz.underlying120]))
theorem wf_lit {n:Int} (h:wf64 n):(Lit.int .i64 n).wf=true:=by
 unfold wf64 at h
 unfold Lit.wf
 simp only[Bool.and_eq_true,decide_eq_true_eq]
 exact h
theorem opKey (x:Opn) (h:x.wf):∃ l,keyOf Tryz.prog 120 (opV x)=some l:=by
 obtain⟨h1,h2,h3,h4,h5,h6⟩:=h
 have cs:Tryz.prog.cellsOf 120=6:=by kernel_rfl
 have ci:Tryz.prog.cellsOf 3=1:=by kernel_rfl
 have cr:Tryz.prog.cellsOf 25=2:=by kernel_rfl
 have f:(opV x).formed Tryz.prog 120=true:=by
  simp[opV,Value.formed,Tryz.underlying120,cs]
 obtain⟨m,hm⟩:∃ m,Tryz.prog.types.size+1=m+3:=⟨Tryz.prog.types.size-2,by have:=opRow;omega⟩
 unfold keyOf
 rw[Tryz.underlying120]
 simp only[opKeyT,f,hm]
 simp[Program.keyLits,Tryz.underlying120,Tryz.underlying3,Tryz.underlying25,cs,ci,cr,opV,Value.cells,wf_lit h1,wf_lit h2,wf_lit h3,wf_lit h4,wf_lit h5,wf_lit h6]
 rw[if_pos (by
  intro i hi
  match i,hi with
  | 0, _ => exact (by decide : ¬ ("N" : String) = "_")
  | 1, _ => exact (by decide : ¬ ("D" : String) = "_"))]
 exact⟨_,rfl⟩
end
section
open Go.RowKit Go.Sort Go.Maps
theorem findO_snoc (o x:Opn):∀ ops:List Opn,findO o (ops++[x])=match findO o ops with
  | some k=>some k
  | none=>if x=o then some ops.length else none
 | []=>by
  by_cases h:x=o <;> simp[findO,h]
 | y::t=>by
  have ih:=findO_snoc o x t
  rw[List.cons_append,findO,findO]
  by_cases h:y=o
  ·rw[if_pos h,if_pos h]
  ·rw[if_neg h,if_neg h,ih]
   cases findO o t with
   | some k=>rfl
   | none =>
    by_cases h2:x=o
    ·simp[h2]
    ·simp[h2]
theorem findO_self {o:Opn} {ops:List Opn} (h:findO o ops=none):findO o (ops++[o])=some ops.length:=by rw[findO_snoc,h];simp
theorem findO_other {o x:Opn} {ops:List Opn} (hn:x≠o):findO o (ops++[x])=findO o ops:=by
 rw[findO_snoc]
 cases findO o ops with
 | none=>simp[hn]
 | some k=>rfl
def MapO (w:World) (b n ins:Nat) (ops:List Opn):Prop :=
 ∃ D:DataW Value,w.ownsMap Tryz.prog 120 heldR b n D∧IsMap D∧∀ (o:Opn) (l:Lit),keyOf Tryz.prog 120 (opV o)=some l→Maps.has D l=(findO o ops).isSome∧∀ k,findO o ops=some k→∀ z,D.atKey l z=.held (.int .i64 ((ins+k:Nat):Int))
theorem MapO.made (w:World) (ins:Nat):MapO (w.alloc (.map #[] 0)) w.heap.size 0 ins [] :=
 ⟨.map [],World.ownsMap_made _ _ _ _,isMap_empty,fun o l _=>⟨rfl,fun k hk=>by cases hk⟩⟩
theorem MapO.same {w w':World} {b n ins:Nat} {ops:List Opn} (h:MapO w b n ins ops) (k:w'.heap[b]? = w.heap[b]?):MapO w' b n ins ops:=by
 obtain⟨D,⟨es,clock,hb,r⟩,h2⟩:=h
 exact⟨D,⟨es,clock,k.trans hb,r⟩,h2⟩
theorem MapO.kp {w w':World} {b n ins:Nat} {ops:List Opn} (h:MapO w b n ins ops) (k:Kp w w'):MapO w' b n ins ops:=by
 obtain⟨D,⟨es,clock,hb,r⟩,h2⟩:=h
 exact⟨D,⟨es,clock,k.heap hb,r⟩,h2⟩
theorem MapO.lt {w:World} {b n ins:Nat} {ops:List Opn} (h:MapO w b n ins ops):b<w.heap.size:=by
 obtain⟨D,h1,_⟩:=h
 exact h1.lt
theorem zeroInt (w:World):(zeroValue 3).run Tryz.prog w=.ok (.int .i64 0) w:=by kernel_rfl
def numO (ins:Nat) (o:Opn) (ops:List Opn):Int:=match findO o ops with
 | some k=>((ins+k:Nat):Int)
 | none=>0
theorem MapO.look {w:World} {b n ins:Nat} {ops:List Opn} (h:MapO w b n ins ops) (o:Opn) (ho:o.wf):(Instr.lookup 196 (.map (some b)) (opV o) true).run Tryz.prog w=.ok (.tuple #[.int .i64 (numO ins o ops),.bool (findO o ops).isSome]) w:=by
 obtain⟨D,h1,_,h2⟩:=h
 obtain⟨l,hl⟩:=opKey o ho
 obtain⟨h3,h4⟩:=h2 o l hl
 obtain⟨v,ps,hr,hv⟩:=h1.look_ok opLaw Tryz.underlying196 (zeroInt w) (zd:=.held (.int .i64 0)) (zp:=[]) rfl hl
 rw[hr,h3]
 have hv':v=.int .i64 (numO ins o ops):=by
  unfold heldR at hv
  simp only[Option.some.injEq,Prod.mk.injEq] at hv
  have hv:=hv.1
  unfold numO
  cases hf:findO o ops with
  | none =>
   rw[hf] at h3
   rw[atKey_of_not_has h3] at hv
   injection hv
  | some k =>
   rw[h4 k hf] at hv
   injection hv
 rw[hv']
theorem MapO.put {w:World} {b n ins:Nat} {ops:List Opn} (h:MapO w b n ins ops) (hn:n<maxLen) (o:Opn) (ho:o.wf) (hf:findO o ops=none) :
  ∃ w',(Instr.mapUpdate 196 (.map (some b)) (opV o) (.int .i64 ((ins+ops.length:Nat):Int))).run Tryz.prog w=.ok () w'∧MapO w' b (n+1) ins (ops++[o])∧Turn b w w'∧w.grownBy w' (some b)∧∀ g,g≠b→w'.heap[g]? = w.heap[g]?:=by
 obtain⟨D,h1,hI,h2⟩:=h
 obtain⟨l,hl⟩:=opKey o ho
 obtain⟨w',hrun,r1,r2⟩:=h1.store opLaw Tryz.underlying196 hn hl (val:=.int .i64 ((ins+ops.length:Nat):Int)) rfl
 have hk:WideAt.IsKeyLit l:=opLaw.key hl
 refine⟨w',hrun,⟨_,r1,hI.put _ _,fun o' l' hl'=>?_⟩,turn_of r2,r2.grown,fun g hg=>?_⟩
 ·by_cases e:o'=o
  ·subst e
   rw[hl] at hl'
   cases hl'
   rw[findO_self hf]
   exact⟨has_put_same hI hk _,fun k hk2 z=>by cases hk2;exact atKey_put_same hI hk _ z⟩
  have hne:l'≠l:=fun h3=>e (opV_inj (opLaw.inj hl' (h3▸hl)))
  rw[findO_other (fun h3=>e h3.symm)]
  obtain⟨h3,h4⟩:=h2 o' l' hl'
  exact⟨(has_put_other hne _).trans h3,fun k hk2 z=>(atKey_put_other hne _ z).trans (h4 k hk2 z)⟩
 obtain⟨es,clock,es',clock',hb,rfl⟩:=r2
 exact ChangeMaps.heap_setBlock_other hb (.map es' clock') hg
def KpX (X:Nat→Prop) (w w':World):Prop:=w.heap.size≤w'.heap.size∧∀ g,g<w.heap.size→¬ X g→w'.heap[g]? = w.heap[g]?
theorem KpX.of {X:Nat→Prop} {w w':World} (k:Kp w w'):KpX X w w':=⟨k.size,fun g hg _=>k.block g hg⟩
theorem KpX.trans {X Y:Nat→Prop} {w w1 w2:World} (h:KpX X w w1) (k:KpX Y w1 w2) (hY:∀ g,g<w.heap.size→Y g→X g):KpX X w w2 :=
 ⟨Nat.le_trans h.1 k.1,fun g hg hx=>(k.2 g (Nat.lt_of_lt_of_le hg h.1) (fun hy=>hx (hY g hg hy))).trans (h.2 g hg hx)⟩
theorem KpX.set {X:Nat→Prop} {w w1:World} (h:KpX X w w1) {g i:Nat} (hg:X g) (v:Value):KpX X w (w1.setCell ⟨g,i,none⟩ v) :=
 ⟨by simpa using h.1,fun b hb hx=>by rw[Below.heap_setCell _ _ _ _ (fun e=>hx (by rw[show b=g from e];exact hg))];exact h.2 b hb hx⟩
theorem BoxV.kpX {X:Nat→Prop} {w w':World} {g:Nat} {vs:List Value} (h:BoxV w g vs) (k:KpX X w w') (hx:¬ X g):BoxV w' g vs:=by
 have hb:=k.2 g h.2.2 hx
 refine⟨fun j x hj=>?_,fun i=>?_,Nat.lt_of_lt_of_le h.2.2 k.1⟩
 ·have:=h.1 j x hj
  unfold World.cell? at *
  rw[hb];exact this
 have:=h.2.1 i
 unfold World.frozen? at *
 rw[hb];exact this
theorem OwnV.box {α:Type} {cells:α→List Value} {k:Nat} {T:TypeId} {wb w:World} {v:Value} {zs:List α} (h:OwnV cells k T wb w v zs) {g i:Nat} (hg:wb.heap.size≤g) (hv:v.ownBlock≠some g) (y:Value):OwnV cells k T wb (w.setCell ⟨g,i,none⟩ y) v zs :=
 ⟨h.1.set hg y,ownsRow_setCell_other h.2 hv y⟩
theorem OwnV.new {α:Type} {cells:α→List Value} {k:Nat} {T:TypeId} {wb w:World} {v:Value} {zs:List α} (h:OwnV cells k T wb w v zs):∀ g,v.ownBlock=some g→g<w.heap.size:=fun g hg=>(h.2.lt g hg).2
theorem OwnV.lo {α:Type} {cells:α→List Value} {k:Nat} {T:TypeId} {wb w:World} {v:Value} {zs:List α} (h:OwnV cells k T wb w v zs):∀ g,v.ownBlock=some g→wb.heap.size≤g:=fun g hg=>(h.2.lt g hg).1
theorem OwnV.apart {α:Type} {cells:α→List Value} {k:Nat} {T:TypeId} {wb w w':World} {v u:Value} {zs:List α} (h:OwnV cells k T wb w u zs) (hap:apV v u) (hg:w.grownBy w' v.ownBlock) (q:Kp wb w'):OwnV cells k T wb w' u zs:=by
 refine⟨q,h.2.kept hg ?_⟩
 cases hu:u.ownBlock with
 | some g=>exact .inr fun e=>hap g e.symm hu
 | none=>exact .inl rfl
theorem OwnV.turned {α:Type} {cells:α→List Value} {k:Nat} {T:TypeId} {wb w w':World} {v:Value} {zs:List α} {b:Nat} (h:OwnV cells k T wb w v zs) (hv:v.ownBlock≠some b) (hg:w.grownBy w' (some b)) (q:Kp wb w'):OwnV cells k T wb w' v zs:=by
 refine⟨q,h.2.kept hg ?_⟩
 cases hu:v.ownBlock with
 | some g=>exact .inr fun e=>hv (by rw[hu,e])
 | none=>exact .inl rfl
structure WrX (wb w:World) (lb mb ins:Nat) (vo vu:Value) (ops:List Opn) (outs:List Int) (na:Option Addr) (nc:Nat) (nm:List ByteArray):Prop where
 box:BoxV w lb [.int .i64 (ins:Int),vo,vu,.slice na nm.length nc,.map (some mb)]
 oo:OwnOp wb w vo ops
 ou:OwnNm wb w vu outs
 mp:MapO w mb ops.length ins ops
 lb0:wb.heap.size≤lb
 mb0:wb.heap.size≤mb
 ne:lb≠mb
 ob:vo.ownBlock≠some lb
 om:vo.ownBlock≠some mb
 ub:vu.ownBlock≠some lb
 um:vu.ownBlock≠some mb
 ap:apV vo vu
theorem WrX.kp {wb w w':World} {lb mb ins:Nat} {vo vu:Value} {ops:List Opn} {outs:List Int} {na:Option Addr} {nc:Nat} {nm:List ByteArray} (h:WrX wb w lb mb ins vo vu ops outs na nc nm) (k:Kp w w'):WrX wb w' lb mb ins vo vu ops outs na nc nm :=
 ⟨h.box.kp k,h.oo.kp k,h.ou.kp k,h.mp.kp k,h.lb0,h.mb0,h.ne,h.ob,h.om,h.ub,h.um,h.ap⟩
def WrB (lb mb:Nat) (vo:Value) (g:Nat):Prop:=g=lb∨g=mb∨vo.ownBlock=some g
end
section
open Go.RowKit Go.Sort Go.Maps
def PutOut (wb w:World) (lb mb ins:Nat) (vo vu:Value) (ops':List Opn) (n:Int) (outs:List Int) (na:Option Addr) (nc:Nat) (nm:List ByteArray) (r:Ending) (w':World):Prop :=
 ∃ vo',r=.returned (.int .i64 n)∧WrX wb w' lb mb ins vo' vu ops' outs na nc nm∧KpX (WrB lb mb vo) w w'∧(vo'.ownBlock=vo.ownBlock∨∃ g,vo'.ownBlock=some g∧w.heap.size≤g)
theorem putF_some {ins:Nat} {ops:List Opn} {o:Opn} {k:Nat} (h:findO o ops=some k):putF ins ops o=(ops,((ins+k:Nat):Int)):=by unfold putF;rw[h]
theorem putF_none {ins:Nat} {ops:List Opn} {o:Opn} (h:findO o ops=none):putF ins ops o=(ops++[o],((ins+ops.length:Nat):Int)):=by unfold putF;rw[h]
theorem put_any (wb w:World) (lb mb ins:Nat) (vo vu:Value) (ops:List Opn) (outs:List Int) (na:Option Addr) (nc:Nat) (nm:List ByteArray) (h:WrX wb w lb mb ins vo vu ops outs na nc nm) (o:Opn) (ho:o.wf) (hol:ops.length≤100000) (hins:ins≤100000) :
  Calls Tryz.prog 187 #[.pointer (some ⟨lb,0,none⟩),.agg #[.int .i64 o.k,.int .i64 o.a,.int .i64 o.b,.int .i64 o.n,.int .i64 o.cn,.int .i64 o.cd]] w (PutOut wb w lb mb ins vo vu (putF ins ops o).1 (putF ins ops o).2 outs na nc nm):=by
 have k1:Kp w (w.alloc (.cells #[.int .i64 o.k,.int .i64 o.a,.int .i64 o.b,.int .i64 o.n,.int .i64 o.cn,.int .i64 o.cd] 120)):=(Kp.refl w).alloc _
 have hb:BoxV (w.alloc (.cells #[.int .i64 o.k,.int .i64 o.a,.int .i64 o.b,.int .i64 o.n,.int .i64 o.cn,.int .i64 o.cd] 120)) w.heap.size o.cells:=BoxV.new w o.cells _ _ rfl
 obtain⟨oa,oc,rfl,hoc,_⟩:=h.oo.row op_len op_one
 have hvo:=h.oo.new
 have hlt:=h.box.2.2
 have hmt:=h.mp.lt
 go_enter Tryz.func187,Tryz.ntmps187
 go_upto_region 1 with fail
 generalize w.alloc _=W at *
 have HW:=hid (h.kp k1)
 have hlk:∀ n:Nat,(Instr.lookup 196 (.map (some mb)) (.agg #[.int .i64 o.k,.int .i64 o.a,.int .i64 o.b,.int .i64 o.n,.int .i64 o.cn,.int .i64 o.cd]) true).run Tryz.prog (W.drewN n)=.ok (.tuple #[.int .i64 (numO ins o ops),.bool (findO o ops).isSome]) (W.drewN n) :=
  fun n=>(HW.out.mp.kp ((Kp.refl W).drewN n)).look o ho
 have q0:=hb.cell 0 rfl
 have q1:=hb.cell 1 rfl
 have q2:=hb.cell 2 rfl
 have q3:=hb.cell 3 rfl
 have q4:=hb.cell 4 rfl
 have q5:=hb.cell 5 rfl
 have b0:=HW.out.box.cell 0 rfl
 have b1:=HW.out.box.cell 1 rfl
 have b4:=HW.out.box.cell 4 rfl
 have K1:=hid k1
 have HB:=hid hb
 clear h k1 hb
 cases hf:findO o ops with
 | some k =>
  have HP:=hid (putF_some (ins:=ins) hf)
  have hn:numO ins o ops=((ins+k:Nat):Int):=by unfold numO;rw[hf]
  rw[hf,hn] at hlk
  clear hf hn
  go_quiet (fail)
  clear hlk
  go_wp2
  go_ret
  rw[HP.out]
  exact⟨_,by show _=Ending.returned (.int .i64 ((ins+k:Nat):Int));rw[Int.natCast_add];rfl,HW.out.kp ((Kp.refl _).drewN _),KpX.of (K1.out.drewN _),.inl rfl⟩
 | none =>
 have HP:=hid (putF_none (ins:=ins) hf)
 rw[hf] at hlk
 have HF:=hid hf
 clear hf
 go_quiet (fail)
 clear hlk
 go_upto_region 4 with fail
 have kV:Kp W (W.drewN nq):=(Kp.refl W).drewN nq
 have HWV:=hid (HW.out.kp kV)
 have HBV:=hid (HB.out.kp kV)
 have KV:=hid (K1.out.trans kV)
 clear q0 q1 q2 q3 q4 q5 b0 b1 b4 kV
 generalize W.drewN nq=V at *
 have b0:=HWV.out.box.cell 0 rfl
 have b1:=HWV.out.box.cell 1 rfl
 have hw:IntKind.i64.wrap ((ins:Int)+(ops.length:Int))=(ins:Int)+(ops.length:Int):=IntWalk.i64_in _ (by omega)
 go_quiet (fail)
 go_upto_region 5 with fail
 have kV2:Kp V (V.drewN nq):=(Kp.refl V).drewN nq
 have HWV2:=hid (HWV.out.kp kV2)
 have HBV2:=hid (HBV.out.kp kV2)
 have KV2:=hid (KV.out.trans kV2)
 clear b0 b1 kV2
 generalize V.drewN nq=V2 at *
 have hd:=(Kp.refl V2).drew
 have HW5:=hid (HWV2.out.kp hd)
 have HB5:=hid (HBV2.out.kp hd)
 have K5:=hid (KV2.out.trans hd)
 have hSd:V2.drew.cell? ⟨lb,1,none⟩=some (.slice oa ops.length oc)∧V2.drew.cell? ⟨w.heap.size,0,none⟩=some (.int .i64 o.k)∧V2.drew.cell? ⟨w.heap.size,1,none⟩=some (.int .i64 o.a)∧V2.drew.cell? ⟨w.heap.size,2,none⟩=some (.int .i64 o.b)∧V2.drew.cell? ⟨w.heap.size,3,none⟩=some (.int .i64 o.n)∧V2.drew.cell? ⟨w.heap.size,4,none⟩=some (.int .i64 o.cn)∧V2.drew.cell? ⟨w.heap.size,5,none⟩=some (.int .i64 o.cd) :=
  ⟨HW5.out.box.cell 1 rfl,HB5.out.cell 0 rfl,HB5.out.cell 1 rfl,HB5.out.cell 2 rfl,HB5.out.cell 3 rfl,HB5.out.cell 4 rfl,HB5.out.cell 5 rfl⟩
 refine wp_region_free (by kernel_rfl) (fun hHeld=>?_)
 refine wpAnyH_tail (z:=12) (f:=12) (fun w'=>w'.cell? ⟨lb,1,none⟩=some (.slice oa ops.length oc)∧w'.cell? ⟨w.heap.size,0,none⟩=some (.int .i64 o.k)∧w'.cell? ⟨w.heap.size,1,none⟩=some (.int .i64 o.a)∧w'.cell? ⟨w.heap.size,2,none⟩=some (.int .i64 o.b)∧w'.cell? ⟨w.heap.size,3,none⟩=some (.int .i64 o.n)∧w'.cell? ⟨w.heap.size,4,none⟩=some (.int .i64 o.cn)∧w'.cell? ⟨w.heap.size,5,none⟩=some (.int .i64 o.cd)) (by kernel_rfl) (by kernel_rfl) rfl hSd (fun hHeld=>?_)
 clear hd
 have HSd:=hid hSd
 clear hSd
 refine tk 0 ?_;refine tk 1 ?_;refine tk 2 ?_;refine tk 3 ?_;refine tk 4 ?_;refine tk 5 ?_;refine tk 6 ?_;(try simp only[aput])
 refine cm 7 (fun K hK=>?_)
 go_simp
 have kA:Kp V2 (V2.alloc (.cells #[.int .i64 o.k,.int .i64 o.a,.int .i64 o.b,.int .i64 o.n,.int .i64 o.cn,.int .i64 o.cd] 120)).drew:=((Kp.refl _).alloc _).drew
 have bA:BoxV (V2.alloc (.cells #[.int .i64 o.k,.int .i64 o.a,.int .i64 o.b,.int .i64 o.n,.int .i64 o.cn,.int .i64 o.cd] 120)).drew V2.heap.size o.cells:=(BoxV.new V2 o.cells _ _ rfl).kp (Kp.refl _).drew
 generalize (V2.alloc _).drew=VA at *
 have HWA:=hid (HWV2.out.kp kA)
 have HBA:=hid (HBV2.out.kp kA)
 have KA:=hid (KV2.out.trans kA)
 refine hK.out _ _ ⟨HWA.out.box.cell 1 rfl,HBA.out.cell 0 rfl,HBA.out.cell 1 rfl,HBA.out.cell 2 rfl,HBA.out.cell 3 rfl,HBA.out.cell 4 rfl,HBA.out.cell 5 rfl⟩ (fun hHeld=>?_)
 clear hK K
 obtain⟨i0,hi,hz0,hz1,hz2⟩:=info_parts infoOp
 have hcell:∀ (j:Nat) (u:Value),o.cells[j]? = some u→VA.cell? ((⟨V2.heap.size,0,none⟩:Addr).add j)=some u:=fun j u hj=>by
  rw[addr_add];exact bA.1 j u hj
 obtain⟨v',w5,hrun,g1,g2,_,g4⟩:=run_append_own_at (P:=Tryz.prog) VA wb.heap.size 54 54 120 i0 _ 6 48 Tryz.underlying54 hi hz0 hz1 hz2 rfl (by decide) _ ops.length (ops.flatMap Opn.cells) HWA.out.oo.2 ⟨V2.heap.size,0,none⟩ 1 1 o.cells rfl hcell (op_one o) (by unfold maxLen;omega) (by omega) HWA.out.oo.1.size
 have hO5:OwnOp wb w5 v' (ops++[o]):=by
  refine⟨Below.trans HWA.out.oo.1 ((Below.refl wb.heap.size VA).grown g2 HWA.out.oo.1.size (fun k hk=>(HWA.out.oo.2.lt k hk).1)),?_⟩
  rw[List.flatMap_append,List.length_append]
  simpa using g1
 obtain⟨a5,c5,rfl,hc5,_⟩:=hO5.row op_len op_one
 have hL5:=HWA.out.box.grown g2 HWA.out.ob
 have hB5:=HBA.out.grown g2 (fun e=>by have:=hvo _ e;omega)
 refine cm 8 (fun K hK=>?_)
 rw[if_pos (by kernel_rfl)]
 refine Lib.wp_append_run VA _ _ _ _ rfl _ _ rfl rfl _ w5 hrun ?_
 refine hK.out _ _ ⟨hL5.cell 1 rfl,hB5.cell 0 rfl,hB5.cell 1 rfl,hB5.cell 2 rfl,hB5.cell 3 rfl,hB5.cell 4 rfl,hB5.cell 5 rfl⟩ (fun hHeld=>?_)
 clear hK K
 refine tk 9 ?_;refine tk 10 ?_;refine tk 11 ?_;(try simp only[aput])
 refine wpAnyH_done (by kernel_rfl) ?_ _
 refine tailQ_held (k:=1) (by kernel_rfl) (fun hHeld=>?_)
 have l1:=hL5.cell 1 rfl
 have lf:=hL5.2.1 1
 have HL5:=hid hL5
 have HB5b:=hid hB5
 clear hB5 hL5
 refine cm 12 (fun K hK=>?_)
 go_simp
 simp only[List.length_append,List.length_cons,List.length_nil,Nat.zero_add] at hO5 g4
 have hlA:lb<VA.heap.size:=HWA.out.box.2.2
 have nb:=ownV_far HWA.out.ob g4 hlA
 have nm2:=ownV_far HWA.out.om g4 HWA.out.mp.lt
 have nap:=HWA.out.ap.far g4 HWA.out.ou.new
 have hO6:=hO5.box (i:=1) HWA.out.lb0 nb (.slice a5 (ops.length+1) c5)
 have hL6:=HL5.out.set (i:=1) (by simp) (.slice a5 (ops.length+1) c5)
 have hU6:=(HWA.out.ou.apart HWA.out.ap g2 hO5.1).box (i:=1) HWA.out.lb0 HWA.out.ub (.slice a5 (ops.length+1) c5)
 have hM6:MapO (w5.setCell ⟨lb,1,none⟩ (.slice a5 (ops.length+1) c5)) mb ops.length ins ops:=HWA.out.mp.same ((Below.heap_setCell _ _ _ _ (fun e=>HWA.out.ne (show mb=lb from e).symm)).trans (g2.block mb HWA.out.mp.lt (fun e=>HWA.out.om e.symm)))
 have hB6:=HB5b.out.other (k:=lb) (i:=1) (by omega) (.slice a5 (ops.length+1) c5)
 have hX6:KpX (WrB lb mb (.slice oa ops.length oc)) w (w5.setCell ⟨lb,1,none⟩ (.slice a5 (ops.length+1) c5)) :=
  ((KpX.of KA.out).trans (Y:=fun g=>(Value.slice oa ops.length oc).ownBlock=some g) ⟨g2.size,fun g hg hx=>g2.block g hg (fun e=>hx e.symm)⟩ (fun g _ hy=>.inr (.inr hy))).set (.inl rfl) _
 have hnew:(Value.slice a5 (ops.length+1) c5).ownBlock=(Value.slice oa ops.length oc).ownBlock∨∃ g,(Value.slice a5 (ops.length+1) c5).ownBlock=some g∧w.heap.size≤g:=by
  rcases g4 with g4 | g4
  ·exact .inl g4
  ·exact .inr ⟨_,g4,KA.out.size⟩
 generalize w5.setCell _ _=W6 at *
 refine hK.out _ _ trivial (fun hHeld=>?_)
 clear hK K
 refine wpAnyH_done (by kernel_rfl) ?_ _
 have HO6:=hid (And.intro hO6 (And.intro hL6 (And.intro hU6 (And.intro hM6 (And.intro hX6 hnew)))))
 have HN:=hid (And.intro nb (And.intro nm2 nap))
 have HB6:=hid hB6
 clear hO6 hL6 hU6 hM6 hX6 hnew nb nm2 nap hB6 hO5 g4 g2 g1 hrun HL5 HB5b l1 lf
 go_upto_region 6 with fail
 have kd:=(Kp.refl W6).drew
 have hLd:=HO6.out.2.1.kp kd
 have hBd:=HB6.out.kp kd
 have hSd:W6.drew.cell? ⟨lb,4,none⟩=some (.map (some mb))∧W6.drew.cell? ⟨w.heap.size,0,none⟩=some (.int .i64 o.k)∧W6.drew.cell? ⟨w.heap.size,1,none⟩=some (.int .i64 o.a)∧W6.drew.cell? ⟨w.heap.size,2,none⟩=some (.int .i64 o.b)∧W6.drew.cell? ⟨w.heap.size,3,none⟩=some (.int .i64 o.n)∧W6.drew.cell? ⟨w.heap.size,4,none⟩=some (.int .i64 o.cn)∧W6.drew.cell? ⟨w.heap.size,5,none⟩=some (.int .i64 o.cd) :=
  ⟨hLd.cell 4 rfl,hBd.cell 0 rfl,hBd.cell 1 rfl,hBd.cell 2 rfl,hBd.cell 3 rfl,hBd.cell 4 rfl,hBd.cell 5 rfl⟩
 obtain⟨w7,hrun,m1,m2,m3,m4⟩:=(HO6.out.2.2.2.1.kp kd).put (by unfold maxLen;omega) o ho HF.out
 rw[Int.natCast_add] at hrun
 unfold opV at hrun
 refine wp_region_held_drew (S:=fun w'=>w'.cell? ⟨lb,4,none⟩=some (.map (some mb))∧w'.cell? ⟨w.heap.size,0,none⟩=some (.int .i64 o.k)∧w'.cell? ⟨w.heap.size,1,none⟩=some (.int .i64 o.a)∧w'.cell? ⟨w.heap.size,2,none⟩=some (.int .i64 o.b)∧w'.cell? ⟨w.heap.size,3,none⟩=some (.int .i64 o.n)∧w'.cell? ⟨w.heap.size,4,none⟩=some (.int .i64 o.cn)∧w'.cell? ⟨w.heap.size,5,none⟩=some (.int .i64 o.cd)) (by kernel_rfl) hSd (fun hHeld=>?_)
 have HSd:=hid hSd
 have HHr:=hid hrun
 clear hSd hrun hLd hBd
 refine tk 0 ?_;refine tk 1 ?_;refine tk 2 ?_;refine tk 3 ?_;refine tk 4 ?_;refine tk 5 ?_;(try simp only[aput])
 refine cm 6 (fun K hK=>?_)
 have hrun:=HHr.out
 go_simp
 have hne1:lb≠mb:=HW.out.ne
 have hne2:w.heap.size≠mb:=by omega
 have c1:=m2.cell ⟨lb,4,none⟩ hne1
 have cB (j:Nat):=m2.cell ⟨w.heap.size,j,none⟩ hne2
 refine hK.out _ _ ⟨c1.trans HSd.out.1,(cB 0).trans HSd.out.2.1,(cB 1).trans HSd.out.2.2.1,(cB 2).trans HSd.out.2.2.2.1,(cB 3).trans HSd.out.2.2.2.2.1,(cB 4).trans HSd.out.2.2.2.2.2.1,(cB 5).trans HSd.out.2.2.2.2.2.2⟩ (fun hHeld=>?_)
 clear hK K
 refine wpAnyH_done (by kernel_rfl) ?_ _
 have kX:KpX (fun g=>g=mb) W6.drew w7:=⟨by rw[m2.size];exact Nat.le_refl _,fun g _ hx=>m4 g hx⟩
 have kwb:Kp wb w7:=m2.kp wb (HO6.out.1.1.trans kd) HW.out.mb0
 have hfin:WrX wb w7 lb mb ins (.slice a5 (ops.length+1) c5) vu (ops++[o]) outs na nc nm:=by
  refine⟨(HO6.out.2.1.kp kd).kpX kX hne1,(HO6.out.1.kp kd).turned HN.out.2.1 m3 kwb,(HO6.out.2.2.1.kp kd).turned HW.out.um m3 kwb,?_,HW.out.lb0,HW.out.mb0,hne1,HN.out.1,HN.out.2.1,HW.out.ub,HW.out.um,HN.out.2.2⟩
  rw[List.length_append,List.length_singleton]
  exact m1
 have hX7:KpX (WrB lb mb (.slice oa ops.length oc)) w w7:=(HO6.out.2.2.2.2.1.trans (KpX.of kd) (fun _ _ h=>h)).trans kX (fun g _ h=>.inr (.inl h))
 have HFin:=hid (And.intro hfin (And.intro hX7 HO6.out.2.2.2.2.2))
 clear hfin hX7 m1 m2 m3 m4 c1 cB kX kwb
 go_wp2
 go_ret
 rw[HP.out]
 exact⟨_,by show _=Ending.returned (.int .i64 ((ins+ops.length:Nat):Int));rw[Int.natCast_add];rfl,HFin.out.1,HFin.out.2.1,HFin.out.2.2⟩
end
section
mutual
def Ex.fin:Ex→Prop
 | .mk k r d _ p _ _ l=>(wf64 k∧wf64 r∧wf64 d∧wf64 p)∧Ex.finL l
def Ex.finL:List Ex→Prop
 | []=>True
 | x::t=>x.fin∧Ex.finL t
end
theorem Ex.finL_iff {l:List Ex}:Ex.finL l↔∀ x∈l,x.fin:=by
 induction l with
 | nil=>rw[Ex.finL];simp
 | cons x t ih =>
  rw[Ex.finL,ih]
  constructor
  ·rintro ⟨h1,h2⟩ y hy
   rcases List.mem_cons.1 hy with rfl | hy
   ·exact h1
   ·exact h2 y hy
  ·exact fun h=>⟨h x (.head _),fun y hy=>h y (.tail _ hy)⟩
theorem Ex.fin_iff {e:Ex}:e.fin↔(wf64 e.kind∧wf64 e.rn∧wf64 e.rd∧wf64 e.pw)∧∀ x∈e.l,x.fin:=by
 cases e
 rw[Ex.fin,Ex.finL_iff]
 exact Iff.rfl
theorem tapN_var {nm:List ByteArray} {ops:List Opn} {e:Ex} (h:e.kind=2):tapN nm ops e=(ops,placeF e.name nm):=by
 cases e with
 | mk k r d s p a c l =>
 rw[tapN]
 exact if_pos h
theorem tapN_op {nm:List ByteArray} {ops:List Opn} {e:Ex} (h:e.kind≠2):tapN nm ops e=putF nm.length (tapL nm ops e.l).1 ⟨e.kind,(tapL nm ops e.l).2.1,(tapL nm ops e.l).2.2,e.pw,e.rn,e.rd⟩:=by
 cases e with
 | mk k r d s p a c l =>
 rw[tapN]
 exact if_neg h
theorem findO_lt {o:Opn}:∀ {ops:List Opn} {k:Nat},findO o ops=some k→k<ops.length
 | [],k,h=>by cases h
 | x::t,k,h=>by
  by_cases hx:x=o
  ·simp[findO,hx] at h;subst h;simp
  ·simp only[findO,hx,if_false] at h
   obtain⟨j,hj,rfl⟩:=Option.map_eq_some_iff.1 h
   have:=findO_lt hj
   simp;omega
theorem putF_len (ins:Nat) (ops:List Opn) (o:Opn):(putF ins ops o).1.length≤ops.length+1∧ops.length≤(putF ins ops o).1.length∧0≤(putF ins ops o).2∧(putF ins ops o).2≤ins+ops.length:=by
 unfold putF
 cases h:findO o ops with
 | none=>simp only[List.length_append,List.length_singleton];omega
 | some k =>
 have:=findO_lt h
 simp only
 omega
theorem tapN_len (nm:List ByteArray):∀ (e:Ex) (ops:List Opn),(tapN nm ops e).1.length≤ops.length+e.size∧ops.length≤(tapN nm ops e).1.length∧-1≤(tapN nm ops e).2∧(tapN nm ops e).2≤nm.length+ops.length+e.size:=by
 refine Ex.ind fun e ih ops=>?_
 have hs:e.size=1+Ex.sizeL e.l:=by cases e;rw[Ex.size];rfl
 by_cases hk:e.kind=2
 ·rw[tapN_var hk]
  have h1:=placeF_lt e.name nm
  have h2:-1≤placeF e.name nm:=by
   by_cases hm:e.name∈nm
   ·obtain⟨k,_,h2,_⟩:=placeF_in hm
    omega
   ·rw[placeF_no hm];decide
  simp only
  omega
 rw[tapN_op hk]
 have key:(tapL nm ops e.l).1.length≤ops.length+Ex.sizeL e.l∧ops.length≤(tapL nm ops e.l).1.length:=by
  cases hl:e.l with
  | nil=>rw[tapL];simp
  | cons x t =>
   have hx:=ih x (by rw[hl];simp) ops
   have hsx:Ex.sizeL (x::t)=x.size+Ex.sizeL t:=by rw[Ex.sizeL]
   rw[tapL,hsx]
   cases t with
   | nil=>rw[tapM];simp only;omega
   | cons y s =>
    have hy:=ih y (by rw[hl];simp) (tapN nm ops x).1
    have hsy:Ex.sizeL (y::s)=y.size+Ex.sizeL s:=by rw[Ex.sizeL]
    rw[tapM,hsy];simp only;omega
 obtain⟨h1,h2,h3,h4⟩:=putF_len nm.length (tapL nm ops e.l).1 ⟨e.kind,(tapL nm ops e.l).2.1,(tapL nm ops e.l).2.2,e.pw,e.rn,e.rd⟩
 omega
theorem ok_fin:∀ e:Ex,e.allB=true→e.fin:=by
 refine Ex.ind fun e ih h=>?_
 have h1:nodeB e=true∧∀ x∈e.l,x.allB=true:=by
  cases e with
  | mk k r d s p a c l =>
   rw[Ex.allB] at h
   simp only[Bool.and_eq_true] at h
   refine⟨h.1,fun x hx=>?_⟩
   have h2:=h.2
   clear h ih
   change x∈l at hx
   induction l with
   | nil=>cases hx
   | cons y t ih2 =>
    rw[Ex.allL] at h2
    simp only[Bool.and_eq_true] at h2
    rcases List.mem_cons.1 hx with rfl | hx
    ·exact h2.1
    ·exact ih2 h2.2 hx
 refine Ex.fin_iff.2 ⟨?_,fun x hx=>ih x hx (h1.2 x hx)⟩
 have hn:=h1.1
 unfold nodeB at hn
 unfold wf64
 split at hn
 ·rename_i hk
  simp only[Bool.and_eq_true,decide_eq_true_eq] at hn
  obtain⟨a1,a2,a3,a4⟩:=ratB_parts hn.1
  omega
 split at hn
 ·simp only[Bool.and_eq_true,decide_eq_true_eq] at hn
  omega
 split at hn
 ·simp only[Bool.and_eq_true,decide_eq_true_eq] at hn
  omega
 simp only[Bool.and_eq_true,decide_eq_true_eq] at hn
 have h4:=hn.2.2.2
 unfold opsK at h4
 split at h4
 ·omega
 split at h4
 ·omega
 omega
end
section
open Go.RowKit Go.Sort Go.Maps
theorem wf0:wf64 0:=by unfold wf64;omega
theorem wf_small {n:Int} (h0:-1≤n) (h1:n≤1000000):wf64 n:=by unfold wf64;omega
theorem WrB_old {wb w:World} {lb mb ins:Nat} {vo vu:Value} {ops:List Opn} {outs:List Int} {na:Option Addr} {nc:Nat} {nm:List ByteArray} (h:WrX wb w lb mb ins vo vu ops outs na nc nm) {g:Nat} (hg:w.heap.size≤g):¬ WrB lb mb vo g:=by
 rintro (rfl | rfl | e)
 ·have:=h.box.2.2;omega
 ·have:=h.mp.lt;omega
 have:=h.oo.new _ e;omega
theorem WrB_far {lb mb:Nat} {vo vo':Value} {N:Nat} (hn:vo'.ownBlock=vo.ownBlock∨∃ g,vo'.ownBlock=some g∧N≤g):∀ g,g<N→WrB lb mb vo' g→WrB lb mb vo g:=by
 rintro g hg (h | h | h)
 ·exact .inl h
 ·exact .inr (.inl h)
 rcases hn with e | ⟨k,e,hk⟩
 ·exact .inr (.inr (e▸h))
 rw[e] at h;injection h with h;omega
theorem far_trans {vo vo1 vo2:Value} {N M:Nat} (h:vo1.ownBlock=vo.ownBlock∨∃ g,vo1.ownBlock=some g∧N≤g) (k:vo2.ownBlock=vo1.ownBlock∨∃ g,vo2.ownBlock=some g∧M≤g) (hM:N≤M):vo2.ownBlock=vo.ownBlock∨∃ g,vo2.ownBlock=some g∧N≤g:=by
 rcases k with e | ⟨g,e,hg⟩
 ·rw[e];exact h
 exact .inr ⟨g,e,by omega⟩
theorem WrX.set {wb w:World} {lb mb ins:Nat} {vo vu:Value} {ops:List Opn} {outs:List Int} {na:Option Addr} {nc:Nat} {nm:List ByteArray} (h:WrX wb w lb mb ins vo vu ops outs na nc nm) {g i:Nat} (h0:wb.heap.size≤g) (h1:g≠lb) (h2:g≠mb) (h3:vo.ownBlock≠some g) (h4:vu.ownBlock≠some g) (v:Value) :
  WrX wb (w.setCell ⟨g,i,none⟩ v) lb mb ins vo vu ops outs na nc nm :=
 ⟨h.box.other (Ne.symm h1) v,h.oo.box h0 h3 v,h.ou.box h0 h4 v,h.mp.same (Below.heap_setCell _ _ _ _ (fun e=>h2 (show mb=g from e).symm)),h.lb0,h.mb0,h.ne,h.ob,h.om,h.ub,h.um,h.ap⟩
theorem own_not {vo vo':Value} {N g:Nat} (hn:vo'.ownBlock=vo.ownBlock∨∃ k,vo'.ownBlock=some k∧N≤k) (hg:g<N) (ho:vo.ownBlock≠some g):vo'.ownBlock≠some g:=by
 rcases hn with e | ⟨k,e,hk⟩
 ·rw[e];exact ho
 rw[e];intro h;injection h with h;omega
theorem PutOut.after {wb w w1:World} {lb mb ins:Nat} {vo vo1 vu:Value} {ops':List Opn} {n:Int} {outs:List Int} {na:Option Addr} {nc:Nat} {nm:List ByteArray} {r:Ending} {w':World}
  (h:PutOut wb w1 lb mb ins vo1 vu ops' n outs na nc nm r w') (k:KpX (WrB lb mb vo) w w1) (hn:vo1.ownBlock=vo.ownBlock∨∃ g,vo1.ownBlock=some g∧w.heap.size≤g):PutOut wb w lb mb ins vo vu ops' n outs na nc nm r w':=by
 obtain⟨vo2,h1,h2,h3,h4⟩:=h
 exact⟨vo2,h1,h2,k.trans h3 (WrB_far hn),far_trans hn h4 k.1⟩
section
variable (wb:World) (lb mb:Nat) (vu:Value) (outs:List Int) (na:Option Addr) (nc:Nat) (nm:List ByteArray) (B:Nat)
theorem wnode_any (hnm:RowS wb na nm) (hnl:nm.length≤1000):∀ (e:Ex) (w:World) (vo:Value) (ops:List Opn),WrX wb w lb mb nm.length vo vu ops outs na nc nm→e.at wb B→e.fin→ops.length+e.size≤90000 →
  Calls Tryz.prog 139 #[.pointer (some ⟨lb,0,none⟩),.agg #[.int .i64 e.kind,.int .i64 e.rn,.int .i64 e.rd,.string e.name,.int .i64 e.pw,.slice e.a e.l.length e.c]] w (PutOut wb w lb mb nm.length vo vu (tapN nm ops e).1 (tapN nm ops e).2 outs na nc nm):=by
 refine Ex.ind fun e ih w vo ops h hat hfin hsz=>?_
 have hs:e.size=1+Ex.sizeL e.l:=by cases e;rw[Ex.size];rfl
 have k1:Kp w (w.alloc (.cells #[.int .i64 e.kind,.int .i64 e.rn,.int .i64 e.rd,.string e.name,.int .i64 e.pw,.slice e.a e.l.length e.c] 71)):=(Kp.refl w).alloc _
 have hb:BoxV (w.alloc (.cells #[.int .i64 e.kind,.int .i64 e.rn,.int .i64 e.rd,.string e.name,.int .i64 e.pw,.slice e.a e.l.length e.c] 71)) w.heap.size e.cells:=BoxV.new w e.cells _ _ rfl
 go_enter Tryz.func139,Tryz.ntmps139
 go_upto_region 1 with fail
 generalize w.alloc _=W at *
 have HW:=hid (h.kp k1)
 have K1:=hid k1
 have HB:=hid hb
 have H:=hid h
 have q0:=hb.cell 0 rfl
 clear k1 hb h
 by_cases hk:e.kind=2
 ·have hk2:(e.kind==2)=true:=by rw[hk];rfl
  have HP:=hid (tapN_var (nm:=nm) (ops:=ops) hk)
  clear hk
  go_upto_region 2 with fail
  have kd:=(Kp.refl W).drew
  have hSd:W.drew.cell? ⟨lb,3,none⟩=some (.slice na nm.length nc)∧W.drew.cell? ⟨w.heap.size,3,none⟩=some (.string e.name):=⟨(HW.out.box.kp kd).cell 3 rfl,(HB.out.kp kd).cell 3 rfl⟩
  have HI:=hid (indexS_any na nc nm e.name W.drew (hnm.kp (HW.out.oo.1.trans kd)) (by omega))
  refine wp_region_held_drew (S:=fun w'=>w'.cell? ⟨lb,3,none⟩=some (.slice na nm.length nc)∧w'.cell? ⟨w.heap.size,3,none⟩=some (.string e.name)) (by kernel_rfl) hSd (fun hHeld=>?_)
  have HSd:=hid hSd
  clear hSd
  refine tk 0 ?_;refine tk 1 ?_;refine tk 2 ?_;refine tk 3 ?_;refine tk 4 ?_;refine tk 5 ?_;(try simp only[aput])
  refine cm 6 (fun K hK=>?_)
  (go_simp;go_fit HI.out;rintro r w3 ⟨rfl,k3⟩)
  refine hK.out _ _ (keep2V k3 HSd.out) (fun hHeld=>?_);clear hK K
  refine tk 7 ?_;(try simp only[aput])
  refine wpAnyH_done (by kernel_rfl) ?_ _
  have HF:=hid (And.intro (HW.out.kp (kd.trans k3)) (KpX.of (X:=WrB lb mb vo) (K1.out.trans (kd.trans k3))))
  clear kd k3 q0
  go_wp2
  go_ret
  rw[HP.out]
  exact⟨vo,rfl,HF.out.1,HF.out.2,.inl rfl⟩
 have hk2:(e.kind==2)=false:=beq_eq_false_iff_ne.2 hk
 have HP:=hid (tapN_op (nm:=nm) (ops:=ops) hk)
 clear hk
 have q1:=HB.out.cell 1 rfl
 have q2:=HB.out.cell 2 rfl
 have q4:=HB.out.cell 4 rfl
 have q5:=HB.out.cell 5 rfl
 obtain⟨⟨f1,f2,f3,f4⟩,ff⟩:=Ex.fin_iff.1 hfin
 obtain⟨_,hrow,hats⟩:=Ex.at_iff.1 hat
 cases hl:e.l with
 | nil =>
  rw[hl] at q5 HP
  rw[tapL] at HP
  have ka:Kp W (W.alloc (.cells #[.int .i64 e.kind,.int .i64 0,.int .i64 0,.int .i64 e.pw,.int .i64 e.rn,.int .i64 e.rd] 120)):=(Kp.refl W).alloc _
  have bo:BoxV (W.alloc (.cells #[.int .i64 e.kind,.int .i64 0,.int .i64 0,.int .i64 e.pw,.int .i64 e.rn,.int .i64 e.rd] 120)) W.heap.size [.int .i64 e.kind,.int .i64 0,.int .i64 0,.int .i64 e.pw,.int .i64 e.rn,.int .i64 e.rd]:=BoxV.new W [_,_,_,_,_,_] _ _ rfl
  go_upto_region 4 with fail
  generalize W.alloc _=V at *
  have HV:=hid (HW.out.kp ka)
  have q5:=(HB.out.kp ka).cell 5 rfl
  rw[hl] at q5
  have o0:=bo.cell 0 rfl
  have o1:=bo.cell 1 rfl
  have o2:=bo.cell 2 rfl
  have o3:=bo.cell 3 rfl
  have o4:=bo.cell 4 rfl
  have o5:=bo.cell 5 rfl
  have HPt:=hid (put_any wb V lb mb nm.length vo vu ops outs na nc nm HV.out ⟨e.kind,0,0,e.pw,e.rn,e.rd⟩ ⟨f1,wf0,wf0,f4,f2,f3⟩ (by omega) (by omega))
  have HX:=hid (show KpX (WrB lb mb vo) w V from KpX.of (K1.out.trans ka))
  clear bo ka q0
  go_wp2_with (first | (go_at_call 187;go_fit HPt.out;rintro r w9 ⟨vo2,rfl,z1,z2,z3⟩) | fail)
  go_ret
  rw[HP.out]
  exact PutOut.after ⟨vo2,rfl,z1,z2,z3⟩ HX.out (.inl rfl)
 | cons x t =>
 rw[hl] at HP
 rw[tapL] at HP
 have hsx:Ex.sizeL e.l=x.size+Ex.sizeL t:=by rw[hl,Ex.sizeL]
 have hx0:e.l[0]? = some x:=by rw[hl];rfl
 have hxm:x∈e.l:=List.mem_of_getElem? hx0
 have HR:=hid hrow
 have HCx:=hid fun w' vo' h=>ih x hxm w' vo' ops h (hats x hxm) (ff x hxm) (by omega)
 obtain⟨l1,l2,l3,l4⟩:=tapN_len nm x ops
 have hxs:ops.length+x.size+Ex.sizeL t≤90000:=by omega
 have l5:(tapN nm ops x).2≤1000000:=by omega
 have hln:0<e.l.length:=by rw[hl];simp
 have ka:Kp W (W.alloc (.cells #[.int .i64 e.kind,.int .i64 0,.int .i64 0,.int .i64 e.pw,.int .i64 e.rn,.int .i64 e.rd] 120)):=(Kp.refl W).alloc _
 have bo:BoxV (W.alloc (.cells #[.int .i64 e.kind,.int .i64 0,.int .i64 0,.int .i64 e.pw,.int .i64 e.rn,.int .i64 e.rd] 120)) W.heap.size [.int .i64 e.kind,.int .i64 0,.int .i64 0,.int .i64 e.pw,.int .i64 e.rn,.int .i64 e.rd]:=BoxV.new W [_,_,_,_,_,_] _ _ rfl
 go_upto_region 4 with fail
 generalize W.alloc _=V at *
 have HV:=hid (HW.out.kp ka)
 have HBV:=hid (HB.out.kp ka)
 have HBo:=hid bo
 have q5:=HBV.out.cell 5 rfl
 have HX:=hid (show KpX (WrB lb mb vo) w V from KpX.of (K1.out.trans ka))
 have hgV:w.heap.size<W.heap.size:=HB.out.2.2
 have hoV:=bo.2.2
 obtain⟨b0,p0,hea,hb0,r0,r1,r2,r3,r4,r5⟩:=hrow.kp HV.out.oo.1 0 x hx0
 rw[hea] at q5
 rw[show p0+0*6=p0 by omega] at r0 r1 r2 r3 r4 r5
 generalize hTX:tapN nm ops x=TX at *
 clear bo ka q0 q1 q2 q4 hrow hTX
 have hlI:(0:Int)<(e.l.length:Int):=by omega
 go_upto_region 6 with (first | (go_at_call 139;go_fit (HCx.out _ _ HV.out);rintro r w3 ⟨vo1,rfl,z1,z2,z3⟩;have hBo:=HBo.out.kpX z2 (WrB_old HW.out (Nat.le_refl _));have c1:=hBo.cell 1 rfl;have f1':=hBo.2.1 1;have HZ1:=hid z1;have HZ2:=hid z2;have HZ3:=hid z3;have HBo3:=hid hBo;clear z1 z2 z3 hBo) | fail)
 have hov:vo.ownBlock≠some W.heap.size:=fun e=>by have:=HW.out.oo.new _ e;omega
 have huv:vu.ownBlock≠some W.heap.size:=fun e=>by have:=HW.out.ou.new _ e;omega
 have hlw:W.heap.size≠lb:=by have:=HW.out.box.2.2;omega
 have hmw:W.heap.size≠mb:=by have:=HW.out.mp.lt;omega
 have hwW:wb.heap.size≤W.heap.size:=HW.out.oo.1.size
 have hvo1:=own_not HZ3.out hoV hov
 have HW4:=hid (HZ1.out.set (i:=1) hwW hlw hmw hvo1 huv (.int .i64 TX.2))
 have HBo4:=hid (HBo3.out.set (i:=1) (by simp) (.int .i64 TX.2))
 have HBe4:=hid ((HBV.out.kpX HZ2.out (WrB_old H.out (Nat.le_refl _))).other (k:=W.heap.size) (i:=1) (by omega) (.int .i64 TX.2))
 have HX4:=hid ((HX.out.trans HZ2.out (fun _ _ h=>h)))
 have HX5:KpX (fun g=>WrB lb mb vo g∨g=W.heap.size) w (w3.setCell ⟨W.heap.size,1,none⟩ (.int .i64 TX.2)) :=
  KpX.set (X:=fun g=>WrB lb mb vo g∨g=W.heap.size) ⟨HX4.out.1,fun g hg hx=>HX4.out.2 g hg (fun h=>hx (.inl h))⟩ (.inr rfl) _
 have HX6:=hid (show KpX (WrB lb mb vo) w (w3.setCell ⟨W.heap.size,1,none⟩ (.int .i64 TX.2)) from ⟨HX5.1,fun g hg hx=>HX5.2 g hg (fun h=>by
  rcases h with h | h
  ·exact hx h
  ·omega)⟩)
 have HVs:=hid (show W.heap.size<(w3.setCell ⟨W.heap.size,1,none⟩ (.int .i64 TX.2)).heap.size from HBo4.out.2.2)
 have HFar:=hid (show vo1.ownBlock=vo.ownBlock∨∃ g,vo1.ownBlock=some g∧w.heap.size≤g from far_trans (.inl rfl) HZ3.out HX.out.1)
 clear c1 f1' HX5 HX4 HZ1 HZ2 HBo3 HX HV
 generalize w3.setCell _ _=V3 at *
 have q5:=HBe4.out.cell 5 rfl
 cases t with
 | nil =>
  rw[tapM] at HP
  have hl1:e.l.length=1:=by rw[hl];rfl
  have HPt:=hid (put_any wb V3 lb mb nm.length vo1 vu TX.1 outs na nc nm HW4.out ⟨e.kind,TX.2,0,e.pw,e.rn,e.rd⟩ ⟨f1,wf_small l3 l5,wf0,f4,f2,f3⟩ (by omega) (by omega))
  have o0:=HBo4.out.cell 0 rfl
  have o1:=HBo4.out.cell 1 rfl
  have o2:=HBo4.out.cell 2 rfl
  have o3:=HBo4.out.cell 3 rfl
  have o4:=HBo4.out.cell 4 rfl
  have o5:=HBo4.out.cell 5 rfl
  rw[hl1] at q5
  have HF:=hid hfin
  clear r0 r1 r2 r3 r4 r5 hl1 hlI hln hs hsx
  go_wp2_with (first | (go_at_call 187;go_fit HPt.out;rintro r w9 ⟨vo2,rfl,z1,z2,z3⟩) | fail)
  go_ret
  rw[HP.out]
  exact PutOut.after ⟨vo2,rfl,z1,z2,z3⟩ HX6.out HFar.out
 | cons y u =>
 rw[tapM] at HP
 have hsy:Ex.sizeL (y::u)=y.size+Ex.sizeL u:=by rw[Ex.sizeL]
 have hy1:e.l[1]? = some y:=by rw[hl];rfl
 have hym:y∈e.l:=List.mem_of_getElem? hy1
 have hl2:2≤e.l.length:=by rw[hl];simp
 have HCy:=hid fun w' vo' h=>ih y hym w' vo' TX.1 h (hats y hym) (ff y hym) (by omega)
 obtain⟨j1,j2,j3,j4⟩:=tapN_len nm y TX.1
 have j5:(tapN nm TX.1 y).2≤1000000:=by omega
 have j6:(tapN nm TX.1 y).1.length≤100000:=by omega
 obtain⟨b6,p6,hea2,hb6,s0,s1,s2,s3,s4,s5⟩:=HR.out.kp HW4.out.oo.1 1 y hy1
 rw[hea] at hea2
 cases hea2
 rw[show p0+1*6=p0+6 by omega] at s0 s1 s2 s3 s4 s5
 rw[hea] at q5
 have hl2I:(1:Int)<(e.l.length:Int):=by omega
 generalize hTY:tapN nm TX.1 y=TY at *
 clear r0 r1 r2 r3 r4 r5 hTY
 have HNX:=hid (show ¬ WrB lb mb vo1 W.heap.size from fun h=>by
  rcases h with e1 | e1 | e1
  ·exact hlw e1
  ·exact hmw e1
  ·exact hvo1 e1)
 go_upto_region 8 with (first | (go_at_call 139;go_fit (HCy.out _ _ HW4.out);rintro r w5 ⟨vo3,rfl,z1,z2,z3⟩;have hBo:=HBo4.out.kpX z2 HNX.out;have c2:=hBo.cell 2 rfl;have f2':=hBo.2.1 2;have HZ1:=hid z1;have HZ2:=hid z2;have HZ3b:=hid z3;have HBo5:=hid hBo;clear z1 z2 z3 hBo) | fail)
 have hvo3:=own_not HZ3b.out HVs.out hvo1
 have HW6:=hid (HZ1.out.set (i:=2) hwW hlw hmw hvo3 huv (.int .i64 TY.2))
 have HBo6:=hid (HBo5.out.set (i:=2) (by simp) (.int .i64 TY.2))
 have HX7:KpX (fun g=>WrB lb mb vo g∨g=W.heap.size) w (w5.setCell ⟨W.heap.size,2,none⟩ (.int .i64 TY.2)):=by
  have h1:=HX6.out.trans HZ2.out (WrB_far HFar.out)
  exact KpX.set (X:=fun g=>WrB lb mb vo g∨g=W.heap.size) ⟨h1.1,fun g hg hx=>h1.2 g hg (fun h=>hx (.inl h))⟩ (.inr rfl) _
 have HX8:=hid (show KpX (WrB lb mb vo) w (w5.setCell ⟨W.heap.size,2,none⟩ (.int .i64 TY.2)) from ⟨HX7.1,fun g hg hx=>HX7.2 g hg (fun h=>by
  rcases h with h | h
  ·exact hx h
  ·omega)⟩)
 have HFar2:=hid (far_trans HFar.out HZ3b.out HX6.out.1)
 clear c2 f2' HX7 HZ1 HZ2 HBo5
 generalize w5.setCell _ _=V5 at *
 have HPt:=hid (put_any wb V5 lb mb nm.length vo3 vu TY.1 outs na nc nm HW6.out ⟨e.kind,TX.2,TY.2,e.pw,e.rn,e.rd⟩ ⟨f1,wf_small l3 l5,wf_small j3 j5,f4,f2,f3⟩ j6 (by omega))
 have o0:=HBo6.out.cell 0 rfl
 have o1:=HBo6.out.cell 1 rfl
 have o2:=HBo6.out.cell 2 rfl
 have o3:=HBo6.out.cell 3 rfl
 have o4:=HBo6.out.cell 4 rfl
 have o5:=HBo6.out.cell 5 rfl
 clear s0 s1 s2 s3 s4 s5
 go_wp2_with (first | (go_at_call 187;go_fit HPt.out;rintro r w9 ⟨vo4,rfl,z1,z2,z3⟩) | fail)
 go_ret
 rw[HP.out]
 exact PutOut.after ⟨vo4,rfl,z1,z2,z3⟩ HX8.out HFar2.out
end
end
end Go.Proofs.YteidgoldnllabaaGreatDoor
