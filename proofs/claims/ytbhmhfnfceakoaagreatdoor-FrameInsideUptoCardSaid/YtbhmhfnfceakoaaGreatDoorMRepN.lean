/-
  Walks: bits.Mul of 1 and a small number; slices.Repeat of one interval.
-/
import Derived.Test.YtbhmhfnfceakoaaGreatDoorMRepM
namespace Go.Proofs.YtbhmhfnfceakoaaGreatDoor
open Go.RowKit
open Lib (hid)
theorem mul64_one (n:Nat) (w:World) (h1:1≤n) (h8:n≤8) :
  Calls Tryz.prog 240 #[.int .u64 1,.int .u64 (n:Int)] w fun e w'=>e=.returned (.tuple #[.int .u64 0,.int .u64 (n:Int)])∧w=w':=by
 obtain rfl | rfl | rfl | rfl | rfl | rfl | rfl | rfl:n=1∨n=2∨n=3∨n=4∨n=5∨n=6∨n=7∨n=8:=by omega
 all_goals
  go_enter Tryz.func240,Tryz.ntmps240
  go_wp2_with fail
  refine bodyPost_ret (by simp[results,Tryz.results240,go_sem];rfl) rfl ?_
  exact⟨by kernel_rfl,rfl⟩
theorem bmul_one (n:Nat) (w:World) (h1:1≤n) (h8:n≤8) :
  Calls Tryz.prog 225 #[.int .u64 1,.int .u64 (n:Int)] w fun e w'=>e=.returned (.tuple #[.int .u64 0,.int .u64 (n:Int)])∧w=w':=by
 go_enter Tryz.func225,Tryz.ntmps225
 go_wp2_with fail
 go_fit (mul64_one n w h1 h8)
 rintro e w1 ⟨rfl,rfl⟩
 go_wp2_with fail
 refine bodyPost_ret (v:=.tuple #[.int .u64 0,.int .u64 (n:Int)]) (by simp[results,Tryz.results225,go_sem]) rfl ?_
 exact⟨rfl,rfl⟩
set_option maxRecDepth 100000 in
set_option maxHeartbeats 4000000 in
theorem repeat_any (y:RI) (b c n:Nat) (w:World) (hy:y.rd w) (hS:w.cell? ⟨b,0,none⟩=some (.bool y.lo.neg)∧w.cell? ⟨b,1,none⟩=some (.slice y.lo.a y.lo.xs.length y.lo.c)∧w.cell? ⟨b,2,none⟩=some (.int .i64 y.lo.e)∧w.cell? ⟨b,3,none⟩=some (.bool y.hi.neg)∧w.cell? ⟨b,4,none⟩=some (.slice y.hi.a y.hi.xs.length y.hi.c)∧w.cell? ⟨b,5,none⟩=some (.int .i64 y.hi.e)∧w.cell? ⟨b,6,none⟩=some (.bool y.all)) (h1:1≤n) (h8:n≤8) :
  Calls Tryz.prog 196 #[.slice (some ⟨b,0,none⟩) 1 c,.int .i64 (n:Int)] w fun e w'=>∃ g:Nat,e=.returned (.slice (some ⟨g,0,none⟩) n n)∧RowI w' (some ⟨g,0,none⟩) (List.replicate n y)∧Kp w w'∧w.heap.size≤g∧g<w'.heap.size:=by
 have HY:=hid hy
 have hn0:¬ (n:Int)<0:=by omega
 have hnb:¬ (9223372036854775807<(n:Int)):=by omega
 have hmk:=make_ivs (n:Int) n rfl (by omega)
 have HSY:=hid (fun (W:World) (k:Kp w W) (j:Nat) (hj:j<1*7)=>show W.cell? ((⟨b,0,none⟩:Addr).add j)=some (y.cells.getD (j % 7) (.bool false)) from by
  obtain⟨s0,s1,s2,s3,s4,s5,s6⟩:=keep7 k hS
  match j,hj with
  | 0,_=>simpa [Addr.add,RI.cells] using s0
  | 1,_=>simpa [Addr.add,RI.cells] using s1
  | 2,_=>simpa [Addr.add,RI.cells] using s2
  | 3,_=>simpa [Addr.add,RI.cells] using s3
  | 4,_=>simpa [Addr.add,RI.cells] using s4
  | 5,_=>simpa [Addr.add,RI.cells] using s5
  | 6,_=>simpa [Addr.add,RI.cells] using s6
  | j+7,hj=>omega)
 clear hy hS
 go_enter Tryz.func196,Tryz.ntmps196
 go_wp2_with fail
 go_fit (bmul_one n w h1 h8)
 rintro e w1 ⟨rfl,rfl⟩
 go_upto_region 7 with fail
 have hS0:=RepS.made w n 44 y
 generalize hW:w.alloc _=W at *
 have kW:Kp w W:=hW▸(Kp.refl w).alloc _
 have hrun:=run_copy_7 (P:=Tryz.prog) W 24 24 3 44 w.heap.size 0 n n ⟨b,0,none⟩ 1 c 1 (repC y 1) Tryz.underlying24 infoIvl7 (show Nat.min 1 n=1 from Nat.min_eq_left h1) (repC_len y 1)
  (fun j v hj=>by obtain⟨h1,h2⟩:=repC_at hj;rw[h2];exact HSY.out W kW j h1) (fun j hj=>hS0.2.2.2.1 _ (by rw[repC_len] at hj;omega)) (fun j _=>hS0.2.2.1 _) (fun v hv=>by
   obtain⟨j,hj⟩:=List.getElem?_of_mem hv
   rw[(repC_at hj).2];exact cells7_one y j)
 have hS1:=hS0.more (m:=1) (by omega)
 rw[Nat.zero_mul,Nat.zero_add] at hS1
 generalize hX:W.setCells _ _ _=X at *
 have HS1:=hid hS1
 clear hW hmk hX hS0 hS1
 go_wp2_with fail
 clear hrun
 go_loopg [8] (n-1) (fun q v wr=>∃ k:Nat,k+q=n∧1≤k∧v=.int .i64 (k:Int)∧RepS w wr w.heap.size n k y)
 case atStart=>exact⟨1,by omega,by omega,rfl,HS1.out⟩
 case round =>
 obtain⟨k,hkq,hk1,rfl,hS⟩:=hrel
 have HS:=hid hS
 clear hS HS1
 by_cases hlt:k<n
 rotate_left
 ·have hke:k=n:=by omega
  have HR:=hid hke
  go_wp2_with fail
  go_ret
  refine⟨w.heap.size,rfl,?_,HS.out.1,Nat.le_refl _,HS.out.2.1.2.1⟩
  have hS:=HS.out
  rw[HR.out] at hS
  exact hS.row HY.out
 have hi0:(0:Int)≤(k:Int):=by omega
 have hi1:(k:Int)≤(n:Int):=by omega
 have hi2:¬ (k=n):=by omega
 have hi3:¬ (n=k):=by omega
 have hS9:=HS.out.kp (Kp.refl wr).drew
 obtain⟨m,hmin,hm1,hfit,hmk⟩:∃ m,Nat.min k (n-k)=m∧1≤m∧k+m≤n∧m≤k:=⟨min k (n-k),rfl,by omega,by omega,by omega⟩
 have HMN:=hid hmin
 clear hmin
 go_upto_region 9 with fail
 go_region_law (first
  | (refine step_copy7 (by rfl) _ _ (by rfl) w y w.heap.size n k m _ _ _ _ _ ⟨w.heap.size,0,none⟩ (by rfl) (by rfl) hS9 (by simp) HMN.out hfit (hS9.src hmk) ?_;intro w9 hS10)
  | fail)
 all_goals
  go_wp2_with fail
  go_roundg (gk-m)
  case measure=>omega
  case rel=>exact⟨k+m,by omega,by omega,by rw[IntWalk.i64_in _ (by omega),Int.natCast_add],hS10⟩
end Go.Proofs.YtbhmhfnfceakoaaGreatDoor
