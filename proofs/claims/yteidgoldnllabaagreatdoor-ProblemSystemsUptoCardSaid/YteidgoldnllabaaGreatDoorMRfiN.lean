/-
  Walks: ref16.Mode, Names.
-/
import Derived.Test.YteidgoldnllabaaGreatDoorMRchN
import Derived.Test.YteidgoldnllabaaGreatDoorMIvlN
set_option maxHeartbeats 4000000
set_option maxRecDepth 20000
namespace Go.Proofs.YteidgoldnllabaaGreatDoor
open Go.RowKit
open Lib (hid)
section
open Go.RowKit Go.Sort
def mplF (s:ByteArray):List Mo→Int
 | []=>-1
 | m::r=>if m.name=s then 0 else if mplF s r<0 then -1 else mplF s r+1
theorem mplF_at {s:ByteArray}:∀ {l:List Mo} {k:Nat} {m:Mo},l[k]? = some m→m.name=s→(∀ (i:Nat) (x:Mo),l[i]? = some x→i<k→x.name≠s)→mplF s l=k
 | [],k,m,h,_,_=>by simp at h
 | x::r,0,m,h,hn,_=>by
  simp only[List.getElem?_cons_zero,Option.some.injEq] at h
  subst h
  unfold mplF
  rw[if_pos hn];rfl
 | x::r,k+1,m,h,hn,hz=>by
  have h0:x.name≠s:=hz 0 x (by simp) (by omega)
  have ih:=mplF_at (l:=r) (k:=k) (m:=m) (by simpa using h) hn (fun i y hy hi=>hz (i+1) y (by simpa using hy) (by omega))
  unfold mplF
  rw[if_neg h0,ih,if_neg (by omega)]
  omega
theorem mplF_no {s:ByteArray}:∀ {l:List Mo},(∀ m∈l,m.name≠s)→mplF s l=-1
 | [],_=>rfl
 | x::r,h=>by
  unfold mplF
  rw[if_neg (h x (by simp)),mplF_no (fun m hm=>h m (by simp[hm])),if_pos (by decide)]
def rmpF (p:Pr) (s:ByteArray):Int:=if okF p=true then mplF s p.ms else -1
theorem r16Mode_any (p:Pr) (s:ByteArray) (w:World) (B:Nat) (hat:p.at w B) :
  Calls Tryz.prog 19 #[.agg #[.slice p.sa p.ss.length p.sc,.slice p.pa p.ps.length p.pc,.slice p.ma p.ms.length p.mc,.int .i64 p.tn,.int .i64 p.td],.string s] w fun r w'=>r=.returned (.int .i64 (rmpF p s))∧Kp w w':=by
 have k1:Kp w (w.alloc (.cells #[.slice p.sa p.ss.length p.sc,.slice p.pa p.ps.length p.pc,.slice p.ma p.ms.length p.mc,.int .i64 p.tn,.int .i64 p.td] 27)):=(Kp.refl w).alloc _
 have h0:BoxV (w.alloc (.cells #[.slice p.sa p.ss.length p.sc,.slice p.pa p.ps.length p.pc,.slice p.ma p.ms.length p.mc,.int .i64 p.tn,.int .i64 p.td] 27)) w.heap.size p.cells:=BoxV.new w p.cells _ _ rfl
 have hml:=hat.1.2.2
 obtain⟨R,hR⟩:∃ R,rmpF p s=R:=⟨_,rfl⟩
 rw[hR]
 go_enter Tryz.func19,Tryz.ntmps19
 go_upto_region 1 with fail
 generalize w.alloc _=W at *
 have HAT:=hid (Pr.at_kp hat k1)
 have HRi:=hid fun W' (k:Kp W W')=>r16right_any p W' B (Pr.at_kp HAT.out k)
 have H0:=hid h0
 have K1:=hid k1
 have HR:=hid hR
 clear h0 k1 hat hR
 cases hf:okF p with
 | false =>
  rw[hf] at HRi
  have HZ:=hid (show R=-1 by rw[← HR.out];unfold rmpF;rw[hf];rfl)
  clear hf HR
  have hq:=H0.out
  have q0:=hq.cell 0 rfl;have q1:=hq.cell 1 rfl;have q2:=hq.cell 2 rfl;have q3:=hq.cell 3 rfl;have q4:=hq.cell 4 rfl
  clear hq
  go_upto_region 2 with fail
  go_loopw [5] (fun x wr=>x=.int .i64 0∧wr=W) (fun _ _=>0)
  case atStart=>exact⟨rfl,rfl⟩
  case round =>
  obtain⟨rfl,rfl⟩:=hrel
  by_cases hlt:(0:Int)<(p.ms.length:Int)
  ·go_wp2_with (first | (go_at_call 76;go_fit (HRi.out _ (Kp.refl _));rintro r w3 ⟨rfl,k3⟩) | fail)
   go_ret
   exact⟨by rw[HZ.out];rfl,K1.out.trans k3⟩
  go_wp2_with fail
  go_ret
  exact⟨by rw[HZ.out];rfl,K1.out⟩
 | true =>
 rw[hf] at HRi
 have HZ:=hid (show R=mplF s p.ms by rw[← HR.out];unfold rmpF;rw[hf];rfl)
 clear hf HR
 go_upto_region 2 with fail
 go_loopw [5] (fun x wr=>∃ k:Nat,k≤p.ms.length∧x=.int .i64 k∧(∀ (i:Nat) (m:Mo),p.ms[i]? = some m→i<k→m.name≠s)∧Kp W wr) (fun x _=>p.ms.length-(intOf x).toNat)
 case atStart=>exact⟨0,by omega,rfl,fun i m _ h=>absurd h (Nat.not_lt_zero _),.refl _⟩
 case round =>
 obtain⟨k,hk,rfl,hz,hkv⟩:=hrel
 have Hz:=hid hz
 have HK:=hid hkv
 clear hz
 have hq:=H0.out.kp hkv
 have q0:=hq.cell 0 rfl;have q1:=hq.cell 1 rfl;have q2:=hq.cell 2 rfl;have q3:=hq.cell 3 rfl;have q4:=hq.cell 4 rfl
 clear hq
 by_cases hlt:k<p.ms.length
 rotate_left
 ·have Ha:=hid (show mplF s p.ms=-1 from mplF_no fun m hm=>by
   obtain⟨i,hi⟩:=List.getElem?_of_mem hm
   exact Hz.out i m hi (by have:=(List.getElem?_eq_some_iff.1 hi).1;omega))
  clear hkv
  go_wp2_with fail
  go_ret
  exact⟨by rw[HZ.out,Ha.out];first | rfl | skip,K1.out.trans HK.out⟩
 obtain⟨m,hs⟩:∃ m,p.ms[k]? = some m:=⟨_,List.getElem?_eq_getElem hlt⟩
 have Hs:=hid hs
 clear hs hkv
 go_upto_region 4 with (first | (go_at_call 76;go_fit (HRi.out wr HK.out);rintro r w3 ⟨rfl,k3⟩) | fail)
 have HK3:=hid (HK.out.trans k3)
 obtain⟨b,o,ha,_,hc⟩:=HAT.out.2.2.2.1.kp HK3.out k m Hs.out
 have z0:w3.cell? ⟨b,o+k*3,none⟩=some (.string m.name):=hc 0 _ rfl
 have hq:=H0.out.kp HK3.out
 clear q0 q1 q2 q3 q4
 have q2:=hq.cell 2 rfl
 rw[ha] at q2
 clear hq hc ha k3
 by_cases hn:m.name=s
 ·have Ha:=hid (mplF_at Hs.out hn Hz.out)
  subst hn
  go_wp2_with fail
  go_ret
  exact⟨by rw[HZ.out,Ha.out];first | rfl | skip,K1.out.trans HK3.out⟩
 have hq3:(m.name.toList==s.toList)=false:=strNe hn
 have HNn:=hid hn
 clear hn
 go_wp2_with fail
 go_roundw
 case measure=>simp only[intOf];omega
 case rel =>
 refine⟨k+1,by omega,by go_num,fun i y hy hi=>?_,HK3.out⟩
 by_cases h:i=k
 ·subst h;rw[Hs.out] at hy;cases hy;exact HNn.out
 exact Hz.out i y hy (by omega)
end
section
def hitsF (s:ByteArray) (fs:List Qe):List Ex:=(fs.filter fun q=>decide (q.name=s)).map Qe.e
theorem hitsF_nil (s:ByteArray):hitsF s []=[]:=rfl
theorem hitsF_snoc (s:ByteArray) (fs:List Qe) (q:Qe):hitsF s (fs++[q])=hitsF s fs++(if q.name=s then [q.e] else []):=by
 unfold hitsF
 rw[List.filter_append,List.map_append]
 congr 1
 by_cases h:q.name=s
 ·rw[if_pos h];simp[h]
 rw[if_neg h];simp[h]
theorem flow_nd {st all:List ByteArray}:∀ {fs:List Qe} {before:List ByteArray},flowF st all before fs=none→(∀ q∈fs,q.name ∉ before)∧(fs.map Qe.name).Nodup
 | [],_,_=>⟨fun q h=>(by cases h),List.nodup_nil⟩
 | q::r,before,h=>by
  rw[flowF] at h
  obtain⟨h1,h2⟩:=orF_none_iff.1 h
  obtain⟨i1,i2⟩:=flow_nd h2
  unfold givenF at h1
  have h3:=needF_none (orF_none_iff.1 (orF_none_iff.1 h1).2).1
  have h4:q.name ∉ before:=fun hm=>by
   have:=inS_iff.2 hm
   unfold isIn at h3
   rw[this] at h3
   cases h3
  refine⟨fun x hx=>?_,?_⟩
  ·rcases List.mem_cons.1 hx with rfl | hx
   ·exact h4
   ·exact fun hm=>i1 x hx (List.mem_append_left _ hm)
  ·rw[List.map_cons,List.nodup_cons]
   refine⟨fun hm=>?_,i2⟩
   obtain⟨x,hx,e⟩:=List.mem_map.1 hm
   exact i1 x hx (by rw[e];simp)
theorem hits_none {s:ByteArray}:∀ {fs:List Qe},(∀ q∈fs,q.name≠s)→hitsF s fs=[]
 | [],_=>rfl
 | q::r,h=>by
  unfold hitsF
  rw[List.filter_cons_of_neg (by simpa using h q (by simp))]
  exact hits_none fun x hx=>h x (by simp[hx])
theorem hits_one {s:ByteArray} {q:Qe}:∀ {fs:List Qe},(fs.map Qe.name).Nodup→fs.find? (fun q=>decide (q.name=s))=some q→hitsF s fs=[q.e]
 | [],_,h=>by cases h
 | x::r,hn,h=>by
  rw[List.map_cons,List.nodup_cons] at hn
  by_cases hx:x.name=s
  ·rw[List.find?_cons_of_pos (by simpa using hx)] at h
   cases h
   unfold hitsF
   rw[List.filter_cons_of_pos (by simpa using hx),List.map_cons]
   congr 1
   exact hits_none fun y hy e=>hn.1 (by rw[hx,← e];exact List.mem_map_of_mem hy)
  ·rw[List.find?_cons_of_neg (by simpa using hx)] at h
   unfold hitsF
   rw[List.filter_cons_of_neg (by simpa using hx)]
   exact hits_one hn.2 h
theorem hits_side {p:Pr} {m:Mo} (h:okF p=true) (hm:m∈p.ms) {d:De} (hd:d∈p.ss):hitsF d.name m.fs=[sideE m d]:=by
 obtain⟨q,hq⟩:=side_some h hm hd
 have h1:=modesF_none (okF_modes h) m hm
 unfold modeF at h1
 rw[sideE_some hq]
 exact hits_one (flow_nd (orF_none_iff.1 h1).1).2 hq
end
end Go.Proofs.YteidgoldnllabaaGreatDoor
