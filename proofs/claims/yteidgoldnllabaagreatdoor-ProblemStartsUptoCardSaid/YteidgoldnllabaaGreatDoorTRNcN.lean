/-
  Walks: ref13.node.
-/
import Derived.Deep.QuietTactic
import Derived.BigQuiet
import Derived.Test.YteidgoldnllabaaGreatDoorTAwkT
set_option maxHeartbeats 2000000
set_option maxRecDepth 20000
namespace Go.Proofs.YteidgoldnllabaaGreatDoor
open Go.RowKit Go.Sort
theorem argsK_1:argsK 1=0:=rfl
theorem argsK_2:argsK 2=0:=rfl
theorem argsK_8:argsK 8=1:=rfl
theorem argsK_k {k:Int} (h1:(k==1)=false) (h2:(k==2)=false):argsK k=opsK k:=by
 have a:=beq_eq_false_iff_ne.1 h1
 have b:=beq_eq_false_iff_ne.1 h2
 unfold argsK
 rw[if_neg (by omega)]
theorem bne_nat (n:Nat) (k:Int):((n:Int)==k)=!((n:Int) != k):=by rw[bne,Bool.not_not]
theorem pow_range (p:Int):(decide (0≤p)&&decide (p≤16))=((p==0)||((decide (0<p))&&decide (p≤16))):=by
 rw[beq_dec]
 by_cases h1:p=0
 ·subst h1;rfl
 rw[decide_eq_false h1,Bool.false_or]
 by_cases h2:0<p
 ·rw[decide_eq_true h2,decide_eq_true (by omega:0≤p)]
 rw[decide_eq_false h2,decide_eq_false (by omega:¬ 0≤p)]
theorem rnodeF_1 (r d:Int) (s:ByteArray) (p:Int) (n:Nat):nodeF 1 r d s p n=(!((n:Int) != argsK 1)&&(ratB r d&&(s.toList.isEmpty&&(p==0)))):=by
 rw[nodeF_1,argsK_1,← bne_nat]
 cases ratB r d <;> cases s.toList.isEmpty <;> cases (p==0) <;> cases ((n:Int)==0) <;> rfl
theorem rnodeF_2 (r d:Int) (s:ByteArray) (p:Int) (n:Nat):nodeF 2 r d s p n=(!((n:Int) != argsK 2)&&(decide (r=0∧d=0)&&(nameB s&&(p==0)))):=by
 rw[nodeF_2,argsK_2,← bne_nat]
 cases decide (r=0∧d=0) <;> cases nameB s <;> cases (p==0) <;> cases ((n:Int)==0) <;> rfl
theorem rnodeF_8 (r d:Int) (s:ByteArray) (p:Int) (n:Nat):nodeF 8 r d s p n=(!((n:Int) != argsK 8)&&(decide (r=0∧d=0)&&(s.toList.isEmpty&&((p==0)||((decide (0<p))&&decide (p≤16)))))):=by
 rw[nodeF_8,argsK_8,← bne_nat,pow_range]
 cases decide (r=0∧d=0) <;> cases s.toList.isEmpty <;> cases ((p==0)||((decide (0<p))&&decide (p≤16))) <;> cases ((n:Int)==1) <;> rfl
theorem rnodeF_k (k r d:Int) (s:ByteArray) (p:Int) (n:Nat) (h1:(k==1)=false) (h2:(k==2)=false) (h8:(k==8)=false):nodeF k r d s p n=(!((n:Int) != argsK k)&&(decide (r=0∧d=0)&&(s.toList.isEmpty&&(p==0)))):=by
 rw[nodeF_k k r d s p n h1 h2 h8,argsK_k h1 h2,← bne_nat]
 cases decide (r=0∧d=0) <;> cases s.toList.isEmpty <;> cases (p==0) <;> cases ((n:Int)==opsK k) <;> rfl
-- GEN
theorem rnode1C (r d:Int) (s:ByteArray) (p:Int) (a:Option Addr) (n c:Nat) (w:World) (_hl:n≤1100000) (_hs:s.size≤maxLen):Calls Tryz.prog 196 #[.agg #[.int .i64 1,.int .i64 r,.int .i64 d,.string s,.int .i64 p,.slice a n c]] w fun e w'=>e=.returned (.bool (nodeF 1 r d s p n))∧Kp w w':=by
 have k1:Kp w (w.alloc (.cells #[.int .i64 1,.int .i64 r,.int .i64 d,.string s,.int .i64 p,.slice a n c] 71)):=(Kp.refl w).alloc _
 have hS:(w.alloc (.cells #[.int .i64 1,.int .i64 r,.int .i64 d,.string s,.int .i64 p,.slice a n c] 71)).cell? ⟨w.heap.size,0,none⟩=some (.int .i64 1)∧(w.alloc (.cells #[.int .i64 1,.int .i64 r,.int .i64 d,.string s,.int .i64 p,.slice a n c] 71)).cell? ⟨w.heap.size,1,none⟩=some (.int .i64 r)∧(w.alloc (.cells #[.int .i64 1,.int .i64 r,.int .i64 d,.string s,.int .i64 p,.slice a n c] 71)).cell? ⟨w.heap.size,2,none⟩=some (.int .i64 d)∧(w.alloc (.cells #[.int .i64 1,.int .i64 r,.int .i64 d,.string s,.int .i64 p,.slice a n c] 71)).cell? ⟨w.heap.size,3,none⟩=some (.string s)∧(w.alloc (.cells #[.int .i64 1,.int .i64 r,.int .i64 d,.string s,.int .i64 p,.slice a n c] 71)).cell? ⟨w.heap.size,4,none⟩=some (.int .i64 p)∧(w.alloc (.cells #[.int .i64 1,.int .i64 r,.int .i64 d,.string s,.int .i64 p,.slice a n c] 71)).cell? ⟨w.heap.size,5,none⟩=some (.slice a n c):=by simp
 have hn:=Lib.hid (rnodeF_1 r d s p n)
 generalize nodeF 1 r d s p n=B at *
 have HA:=Lib.hid (args_any 1)
 have HV:=fun W=>Lib.hid (r4valid_any r d W)
 go_enter Tryz.func196,Tryz.ntmps196
 go_upto_region 1 with fail
 generalize w.alloc _=W at *
 have HK:=Lib.hid k1
 clear k1
 obtain⟨s0,s1,s2,s3,s4,s5⟩:=hS
 cases hl:((n:Int) != argsK 1) with
 | true =>
  have hn2:=hn.out
  rw[hl] at hn2
  have Hn:=Lib.hid hn2
  clear hn2
  go_quiet (first | (go_at_call 240;exact Calls.quiet_of_same (HA.out _)) | fail)
  go_wp2_with fail
  go_ret
  exact⟨ret_bool (by rw[Hn.out];rfl),HK.out.drewN _⟩
 | false =>
 have hn2:=hn.out
 rw[hl] at hn2
 have Hn:=Lib.hid hn2
 clear hn2
 go_quiet (first | (go_at_call 240;exact Calls.quiet_of_same (HA.out _)) | fail)
 clear hl
 cases hv:ratB r d with
 | false =>
  have hn2:=Hn.out
  rw[hv] at hn2
  have Hn:=Lib.hid hn2
  rw[hv] at HV
  clear hv hn2
  go_wp2_with (go_at_call 27;go_fit (HV _).out;rintro e w2 ⟨rfl,k2⟩)
  go_ret
  exact⟨ret_bool (by rw[Hn.out];rfl),(HK.out.drewN _).trans k2⟩
 | true =>
 have hn2:=Hn.out
 rw[hv] at hn2
 have Hn:=Lib.hid hn2
 rw[hv] at HV
 clear hv hn2
 cases he:s.toList.isEmpty <;> cases hp:(p==0)
 all_goals
  have hn2:=Hn.out
  rw[he,hp] at hn2
  have Hn:=Lib.hid hn2
  clear hn2
  go_wp2_with (go_at_call 27;go_fit (HV _).out;rintro e w2 ⟨rfl,k2⟩;obtain⟨q0,q1,q2,q3,q4,q5⟩:=keepE6 (((Kp.refl W).drewN _).trans k2) ⟨s0,s1,s2,s3,s4,s5⟩)
  go_ret
  exact⟨ret_bool (by rw[Hn.out];rfl),(HK.out.drewN _).trans k2⟩
theorem rnode2A (s:ByteArray) (p:Int) (a:Option Addr) (n c:Nat) (w:World) (_hl:n≤1100000) (_hs:s.size≤maxLen):Calls Tryz.prog 196 #[.agg #[.int .i64 2,.int .i64 0,.int .i64 0,.string s,.int .i64 p,.slice a n c]] w fun e w'=>e=.returned (.bool (nodeF 2 0 0 s p n))∧Kp w w':=by
 have k1:Kp w (w.alloc (.cells #[.int .i64 2,.int .i64 0,.int .i64 0,.string s,.int .i64 p,.slice a n c] 71)):=(Kp.refl w).alloc _
 have hS:(w.alloc (.cells #[.int .i64 2,.int .i64 0,.int .i64 0,.string s,.int .i64 p,.slice a n c] 71)).cell? ⟨w.heap.size,0,none⟩=some (.int .i64 2)∧(w.alloc (.cells #[.int .i64 2,.int .i64 0,.int .i64 0,.string s,.int .i64 p,.slice a n c] 71)).cell? ⟨w.heap.size,1,none⟩=some (.int .i64 0)∧(w.alloc (.cells #[.int .i64 2,.int .i64 0,.int .i64 0,.string s,.int .i64 p,.slice a n c] 71)).cell? ⟨w.heap.size,2,none⟩=some (.int .i64 0)∧(w.alloc (.cells #[.int .i64 2,.int .i64 0,.int .i64 0,.string s,.int .i64 p,.slice a n c] 71)).cell? ⟨w.heap.size,3,none⟩=some (.string s)∧(w.alloc (.cells #[.int .i64 2,.int .i64 0,.int .i64 0,.string s,.int .i64 p,.slice a n c] 71)).cell? ⟨w.heap.size,4,none⟩=some (.int .i64 p)∧(w.alloc (.cells #[.int .i64 2,.int .i64 0,.int .i64 0,.string s,.int .i64 p,.slice a n c] 71)).cell? ⟨w.heap.size,5,none⟩=some (.slice a n c):=by simp
 have hn:=Lib.hid (rnodeF_2 0 0 s p n)
 generalize nodeF 2 0 0 s p n=B at *
 have HA:=Lib.hid (args_any 2)
 have hz:=Lib.hid zeroA
 have HM:=fun W=>Lib.hid (r12name_any s W _hs)
 go_enter Tryz.func196,Tryz.ntmps196
 go_upto_region 1 with fail
 generalize w.alloc _=W at *
 have HK:=Lib.hid k1
 clear k1
 obtain⟨s0,s1,s2,s3,s4,s5⟩:=hS
 cases hl:((n:Int) != argsK 2) with
 | true =>
  have hn2:=hn.out
  rw[hl] at hn2
  have Hn:=Lib.hid hn2
  clear hn2
  go_quiet (first | (go_at_call 240;exact Calls.quiet_of_same (HA.out _)) | fail)
  go_wp2_with fail
  go_ret
  exact⟨ret_bool (by rw[Hn.out];rfl),HK.out.drewN _⟩
 | false =>
 have hn2:=hn.out
 rw[hl,hz.out] at hn2
 have Hn:=Lib.hid hn2
 clear hn2
 go_quiet (first | (go_at_call 240;exact Calls.quiet_of_same (HA.out _)) | fail)
 clear hl
 cases hv:nameB s with
 | true =>
  have hn2:=Hn.out
  rw[hv] at hn2
  have Hn:=Lib.hid hn2
  rw[hv] at HM
  clear hv hn2
  go_wp2_with (go_at_call 184;go_fit (HM _).out;rintro e w2 ⟨rfl,k2⟩;obtain⟨q0,q1,q2,q3,q4,q5⟩:=keepE6 (((Kp.refl W).drewN _).trans k2) ⟨s0,s1,s2,s3,s4,s5⟩)
  all_goals go_ret
  all_goals exact⟨ret_bool (by rw[Hn.out];simp[*]),(HK.out.drewN _).trans k2⟩
 | false =>
 have hn2:=Hn.out
 rw[hv] at hn2
 have Hn:=Lib.hid hn2
 rw[hv] at HM
 clear hv hn2
 go_wp2_with (go_at_call 184;go_fit (HM _).out;rintro e w2 ⟨rfl,k2⟩;obtain⟨q0,q1,q2,q3,q4,q5⟩:=keepE6 (((Kp.refl W).drewN _).trans k2) ⟨s0,s1,s2,s3,s4,s5⟩)
 all_goals go_ret
 all_goals exact⟨ret_bool (by rw[Hn.out];simp[*]),(HK.out.drewN _).trans k2⟩
theorem rnode2B (d:Int) (s:ByteArray) (p:Int) (a:Option Addr) (n c:Nat) (w:World) (_hl:n≤1100000) (_hs:s.size≤maxLen) (hd:¬ d=0):Calls Tryz.prog 196 #[.agg #[.int .i64 2,.int .i64 0,.int .i64 d,.string s,.int .i64 p,.slice a n c]] w fun e w'=>e=.returned (.bool (nodeF 2 0 d s p n))∧Kp w w':=by
 have k1:Kp w (w.alloc (.cells #[.int .i64 2,.int .i64 0,.int .i64 d,.string s,.int .i64 p,.slice a n c] 71)):=(Kp.refl w).alloc _
 have hS:(w.alloc (.cells #[.int .i64 2,.int .i64 0,.int .i64 d,.string s,.int .i64 p,.slice a n c] 71)).cell? ⟨w.heap.size,0,none⟩=some (.int .i64 2)∧(w.alloc (.cells #[.int .i64 2,.int .i64 0,.int .i64 d,.string s,.int .i64 p,.slice a n c] 71)).cell? ⟨w.heap.size,1,none⟩=some (.int .i64 0)∧(w.alloc (.cells #[.int .i64 2,.int .i64 0,.int .i64 d,.string s,.int .i64 p,.slice a n c] 71)).cell? ⟨w.heap.size,2,none⟩=some (.int .i64 d)∧(w.alloc (.cells #[.int .i64 2,.int .i64 0,.int .i64 d,.string s,.int .i64 p,.slice a n c] 71)).cell? ⟨w.heap.size,3,none⟩=some (.string s)∧(w.alloc (.cells #[.int .i64 2,.int .i64 0,.int .i64 d,.string s,.int .i64 p,.slice a n c] 71)).cell? ⟨w.heap.size,4,none⟩=some (.int .i64 p)∧(w.alloc (.cells #[.int .i64 2,.int .i64 0,.int .i64 d,.string s,.int .i64 p,.slice a n c] 71)).cell? ⟨w.heap.size,5,none⟩=some (.slice a n c):=by simp
 have hn:=Lib.hid (rnodeF_2 0 d s p n)
 generalize nodeF 2 0 d s p n=B at *
 have HA:=Lib.hid (args_any 2)
 have hz:=Lib.hid (zeroB hd)
 have nd:(d != 0)=true:=bne_iff_ne.2 hd
 have HM:=fun W=>Lib.hid (r12name_any s W _hs)
 go_enter Tryz.func196,Tryz.ntmps196
 go_upto_region 1 with fail
 generalize w.alloc _=W at *
 have HK:=Lib.hid k1
 clear k1
 obtain⟨s0,s1,s2,s3,s4,s5⟩:=hS
 cases hl:((n:Int) != argsK 2) with
 | true =>
  have hn2:=hn.out
  rw[hl] at hn2
  have Hn:=Lib.hid hn2
  clear hn2
  go_quiet (first | (go_at_call 240;exact Calls.quiet_of_same (HA.out _)) | fail)
  go_wp2_with fail
  go_ret
  exact⟨ret_bool (by rw[Hn.out];rfl),HK.out.drewN _⟩
 | false =>
 have hn2:=hn.out
 rw[hl,hz.out] at hn2
 have Hn:=Lib.hid hn2
 clear hn2
 go_quiet (first | (go_at_call 240;exact Calls.quiet_of_same (HA.out _)) | fail)
 clear hl
 go_wp2_with fail
 go_ret
 exact⟨ret_bool (by rw[Hn.out];rfl),HK.out.drewN _⟩
theorem rnode2C (r d:Int) (s:ByteArray) (p:Int) (a:Option Addr) (n c:Nat) (w:World) (_hl:n≤1100000) (_hs:s.size≤maxLen) (hr:¬ r=0):Calls Tryz.prog 196 #[.agg #[.int .i64 2,.int .i64 r,.int .i64 d,.string s,.int .i64 p,.slice a n c]] w fun e w'=>e=.returned (.bool (nodeF 2 r d s p n))∧Kp w w':=by
 have k1:Kp w (w.alloc (.cells #[.int .i64 2,.int .i64 r,.int .i64 d,.string s,.int .i64 p,.slice a n c] 71)):=(Kp.refl w).alloc _
 have hS:(w.alloc (.cells #[.int .i64 2,.int .i64 r,.int .i64 d,.string s,.int .i64 p,.slice a n c] 71)).cell? ⟨w.heap.size,0,none⟩=some (.int .i64 2)∧(w.alloc (.cells #[.int .i64 2,.int .i64 r,.int .i64 d,.string s,.int .i64 p,.slice a n c] 71)).cell? ⟨w.heap.size,1,none⟩=some (.int .i64 r)∧(w.alloc (.cells #[.int .i64 2,.int .i64 r,.int .i64 d,.string s,.int .i64 p,.slice a n c] 71)).cell? ⟨w.heap.size,2,none⟩=some (.int .i64 d)∧(w.alloc (.cells #[.int .i64 2,.int .i64 r,.int .i64 d,.string s,.int .i64 p,.slice a n c] 71)).cell? ⟨w.heap.size,3,none⟩=some (.string s)∧(w.alloc (.cells #[.int .i64 2,.int .i64 r,.int .i64 d,.string s,.int .i64 p,.slice a n c] 71)).cell? ⟨w.heap.size,4,none⟩=some (.int .i64 p)∧(w.alloc (.cells #[.int .i64 2,.int .i64 r,.int .i64 d,.string s,.int .i64 p,.slice a n c] 71)).cell? ⟨w.heap.size,5,none⟩=some (.slice a n c):=by simp
 have hn:=Lib.hid (rnodeF_2 r d s p n)
 generalize nodeF 2 r d s p n=B at *
 have HA:=Lib.hid (args_any 2)
 have hz:=Lib.hid (zeroC (d:=d) hr)
 have nr:(r != 0)=true:=bne_iff_ne.2 hr
 have HM:=fun W=>Lib.hid (r12name_any s W _hs)
 go_enter Tryz.func196,Tryz.ntmps196
 go_upto_region 1 with fail
 generalize w.alloc _=W at *
 have HK:=Lib.hid k1
 clear k1
 obtain⟨s0,s1,s2,s3,s4,s5⟩:=hS
 cases hl:((n:Int) != argsK 2) with
 | true =>
  have hn2:=hn.out
  rw[hl] at hn2
  have Hn:=Lib.hid hn2
  clear hn2
  go_quiet (first | (go_at_call 240;exact Calls.quiet_of_same (HA.out _)) | fail)
  go_wp2_with fail
  go_ret
  exact⟨ret_bool (by rw[Hn.out];rfl),HK.out.drewN _⟩
 | false =>
 have hn2:=hn.out
 rw[hl,hz.out] at hn2
 have Hn:=Lib.hid hn2
 clear hn2
 go_quiet (first | (go_at_call 240;exact Calls.quiet_of_same (HA.out _)) | fail)
 clear hl
 go_wp2_with fail
 go_ret
 exact⟨ret_bool (by rw[Hn.out];rfl),HK.out.drewN _⟩
theorem rnode8A (s:ByteArray) (p:Int) (a:Option Addr) (n c:Nat) (w:World) (_hl:n≤1100000) (_hs:s.size≤maxLen):Calls Tryz.prog 196 #[.agg #[.int .i64 8,.int .i64 0,.int .i64 0,.string s,.int .i64 p,.slice a n c]] w fun e w'=>e=.returned (.bool (nodeF 8 0 0 s p n))∧Kp w w':=by
 have k1:Kp w (w.alloc (.cells #[.int .i64 8,.int .i64 0,.int .i64 0,.string s,.int .i64 p,.slice a n c] 71)):=(Kp.refl w).alloc _
 have hS:(w.alloc (.cells #[.int .i64 8,.int .i64 0,.int .i64 0,.string s,.int .i64 p,.slice a n c] 71)).cell? ⟨w.heap.size,0,none⟩=some (.int .i64 8)∧(w.alloc (.cells #[.int .i64 8,.int .i64 0,.int .i64 0,.string s,.int .i64 p,.slice a n c] 71)).cell? ⟨w.heap.size,1,none⟩=some (.int .i64 0)∧(w.alloc (.cells #[.int .i64 8,.int .i64 0,.int .i64 0,.string s,.int .i64 p,.slice a n c] 71)).cell? ⟨w.heap.size,2,none⟩=some (.int .i64 0)∧(w.alloc (.cells #[.int .i64 8,.int .i64 0,.int .i64 0,.string s,.int .i64 p,.slice a n c] 71)).cell? ⟨w.heap.size,3,none⟩=some (.string s)∧(w.alloc (.cells #[.int .i64 8,.int .i64 0,.int .i64 0,.string s,.int .i64 p,.slice a n c] 71)).cell? ⟨w.heap.size,4,none⟩=some (.int .i64 p)∧(w.alloc (.cells #[.int .i64 8,.int .i64 0,.int .i64 0,.string s,.int .i64 p,.slice a n c] 71)).cell? ⟨w.heap.size,5,none⟩=some (.slice a n c):=by simp
 have hn:=Lib.hid (rnodeF_8 0 0 s p n)
 generalize nodeF 8 0 0 s p n=B at *
 have HA:=Lib.hid (args_any 8)
 have hz:=Lib.hid zeroA
 go_enter Tryz.func196,Tryz.ntmps196
 go_upto_region 1 with fail
 generalize w.alloc _=W at *
 have HK:=Lib.hid k1
 clear k1
 obtain⟨s0,s1,s2,s3,s4,s5⟩:=hS
 cases hl:((n:Int) != argsK 8) with
 | true =>
  have hn2:=hn.out
  rw[hl] at hn2
  have Hn:=Lib.hid hn2
  clear hn2
  go_quiet (first | (go_at_call 240;exact Calls.quiet_of_same (HA.out _)) | fail)
  go_wp2_with fail
  go_ret
  exact⟨ret_bool (by rw[Hn.out];rfl),HK.out.drewN _⟩
 | false =>
 have hn2:=hn.out
 rw[hl,hz.out] at hn2
 have Hn:=Lib.hid hn2
 clear hn2
 go_quiet (first | (go_at_call 240;exact Calls.quiet_of_same (HA.out _)) | fail)
 clear hl
 cases he:s.toList.isEmpty
 ·have hn2:=Hn.out
  rw[he] at hn2
  have Hn:=Lib.hid hn2
  clear hn2
  go_wp2_with fail
  go_ret
  exact⟨ret_bool (by rw[Hn.out];rfl),HK.out.drewN _⟩
 cases hp:(p==0)
 rotate_left
 ·have hn2:=Hn.out
  rw[he,hp] at hn2
  have Hn:=Lib.hid hn2
  clear hn2
  go_wp2_with fail
  go_ret
  exact⟨ret_bool (by rw[Hn.out];rfl),HK.out.drewN _⟩
 by_cases hp1:0<p
 rotate_left
 ·have hn2:=Hn.out
  rw[he,hp,decide_eq_false hp1] at hn2
  have Hn:=Lib.hid hn2
  clear hn2
  go_wp2_with fail
  go_ret
  exact⟨ret_bool (by rw[Hn.out];rfl),HK.out.drewN _⟩
 by_cases hp2:p≤16
 ·have hn2:=Hn.out
  rw[he,hp,decide_eq_true hp1,decide_eq_true hp2] at hn2
  have Hn:=Lib.hid hn2
  clear hn2
  go_wp2_with fail
  go_ret
  exact⟨ret_bool (by rw[Hn.out];rfl),HK.out.drewN _⟩
 have hn2:=Hn.out
 rw[he,hp,decide_eq_true hp1,decide_eq_false hp2] at hn2
 have Hn:=Lib.hid hn2
 clear hn2
 go_wp2_with fail
 go_ret
 exact⟨ret_bool (by rw[Hn.out];rfl),HK.out.drewN _⟩
theorem rnode8B (d:Int) (s:ByteArray) (p:Int) (a:Option Addr) (n c:Nat) (w:World) (_hl:n≤1100000) (_hs:s.size≤maxLen) (hd:¬ d=0):Calls Tryz.prog 196 #[.agg #[.int .i64 8,.int .i64 0,.int .i64 d,.string s,.int .i64 p,.slice a n c]] w fun e w'=>e=.returned (.bool (nodeF 8 0 d s p n))∧Kp w w':=by
 have k1:Kp w (w.alloc (.cells #[.int .i64 8,.int .i64 0,.int .i64 d,.string s,.int .i64 p,.slice a n c] 71)):=(Kp.refl w).alloc _
 have hS:(w.alloc (.cells #[.int .i64 8,.int .i64 0,.int .i64 d,.string s,.int .i64 p,.slice a n c] 71)).cell? ⟨w.heap.size,0,none⟩=some (.int .i64 8)∧(w.alloc (.cells #[.int .i64 8,.int .i64 0,.int .i64 d,.string s,.int .i64 p,.slice a n c] 71)).cell? ⟨w.heap.size,1,none⟩=some (.int .i64 0)∧(w.alloc (.cells #[.int .i64 8,.int .i64 0,.int .i64 d,.string s,.int .i64 p,.slice a n c] 71)).cell? ⟨w.heap.size,2,none⟩=some (.int .i64 d)∧(w.alloc (.cells #[.int .i64 8,.int .i64 0,.int .i64 d,.string s,.int .i64 p,.slice a n c] 71)).cell? ⟨w.heap.size,3,none⟩=some (.string s)∧(w.alloc (.cells #[.int .i64 8,.int .i64 0,.int .i64 d,.string s,.int .i64 p,.slice a n c] 71)).cell? ⟨w.heap.size,4,none⟩=some (.int .i64 p)∧(w.alloc (.cells #[.int .i64 8,.int .i64 0,.int .i64 d,.string s,.int .i64 p,.slice a n c] 71)).cell? ⟨w.heap.size,5,none⟩=some (.slice a n c):=by simp
 have hn:=Lib.hid (rnodeF_8 0 d s p n)
 generalize nodeF 8 0 d s p n=B at *
 have HA:=Lib.hid (args_any 8)
 have hz:=Lib.hid (zeroB hd)
 have nd:(d != 0)=true:=bne_iff_ne.2 hd
 go_enter Tryz.func196,Tryz.ntmps196
 go_upto_region 1 with fail
 generalize w.alloc _=W at *
 have HK:=Lib.hid k1
 clear k1
 obtain⟨s0,s1,s2,s3,s4,s5⟩:=hS
 cases hl:((n:Int) != argsK 8) with
 | true =>
  have hn2:=hn.out
  rw[hl] at hn2
  have Hn:=Lib.hid hn2
  clear hn2
  go_quiet (first | (go_at_call 240;exact Calls.quiet_of_same (HA.out _)) | fail)
  go_wp2_with fail
  go_ret
  exact⟨ret_bool (by rw[Hn.out];rfl),HK.out.drewN _⟩
 | false =>
 have hn2:=hn.out
 rw[hl,hz.out] at hn2
 have Hn:=Lib.hid hn2
 clear hn2
 go_quiet (first | (go_at_call 240;exact Calls.quiet_of_same (HA.out _)) | fail)
 clear hl
 go_wp2_with fail
 go_ret
 exact⟨ret_bool (by rw[Hn.out];rfl),HK.out.drewN _⟩
theorem rnode8C (r d:Int) (s:ByteArray) (p:Int) (a:Option Addr) (n c:Nat) (w:World) (_hl:n≤1100000) (_hs:s.size≤maxLen) (hr:¬ r=0):Calls Tryz.prog 196 #[.agg #[.int .i64 8,.int .i64 r,.int .i64 d,.string s,.int .i64 p,.slice a n c]] w fun e w'=>e=.returned (.bool (nodeF 8 r d s p n))∧Kp w w':=by
 have k1:Kp w (w.alloc (.cells #[.int .i64 8,.int .i64 r,.int .i64 d,.string s,.int .i64 p,.slice a n c] 71)):=(Kp.refl w).alloc _
 have hS:(w.alloc (.cells #[.int .i64 8,.int .i64 r,.int .i64 d,.string s,.int .i64 p,.slice a n c] 71)).cell? ⟨w.heap.size,0,none⟩=some (.int .i64 8)∧(w.alloc (.cells #[.int .i64 8,.int .i64 r,.int .i64 d,.string s,.int .i64 p,.slice a n c] 71)).cell? ⟨w.heap.size,1,none⟩=some (.int .i64 r)∧(w.alloc (.cells #[.int .i64 8,.int .i64 r,.int .i64 d,.string s,.int .i64 p,.slice a n c] 71)).cell? ⟨w.heap.size,2,none⟩=some (.int .i64 d)∧(w.alloc (.cells #[.int .i64 8,.int .i64 r,.int .i64 d,.string s,.int .i64 p,.slice a n c] 71)).cell? ⟨w.heap.size,3,none⟩=some (.string s)∧(w.alloc (.cells #[.int .i64 8,.int .i64 r,.int .i64 d,.string s,.int .i64 p,.slice a n c] 71)).cell? ⟨w.heap.size,4,none⟩=some (.int .i64 p)∧(w.alloc (.cells #[.int .i64 8,.int .i64 r,.int .i64 d,.string s,.int .i64 p,.slice a n c] 71)).cell? ⟨w.heap.size,5,none⟩=some (.slice a n c):=by simp
 have hn:=Lib.hid (rnodeF_8 r d s p n)
 generalize nodeF 8 r d s p n=B at *
 have HA:=Lib.hid (args_any 8)
 have hz:=Lib.hid (zeroC (d:=d) hr)
 have nr:(r != 0)=true:=bne_iff_ne.2 hr
 go_enter Tryz.func196,Tryz.ntmps196
 go_upto_region 1 with fail
 generalize w.alloc _=W at *
 have HK:=Lib.hid k1
 clear k1
 obtain⟨s0,s1,s2,s3,s4,s5⟩:=hS
 cases hl:((n:Int) != argsK 8) with
 | true =>
  have hn2:=hn.out
  rw[hl] at hn2
  have Hn:=Lib.hid hn2
  clear hn2
  go_quiet (first | (go_at_call 240;exact Calls.quiet_of_same (HA.out _)) | fail)
  go_wp2_with fail
  go_ret
  exact⟨ret_bool (by rw[Hn.out];rfl),HK.out.drewN _⟩
 | false =>
 have hn2:=hn.out
 rw[hl,hz.out] at hn2
 have Hn:=Lib.hid hn2
 clear hn2
 go_quiet (first | (go_at_call 240;exact Calls.quiet_of_same (HA.out _)) | fail)
 clear hl
 go_wp2_with fail
 go_ret
 exact⟨ret_bool (by rw[Hn.out];rfl),HK.out.drewN _⟩
theorem rnodekA (k:Int) (s:ByteArray) (p:Int) (a:Option Addr) (n c:Nat) (w:World) (_hl:n≤1100000) (_hs:s.size≤maxLen) (h1:(k==1)=false) (h2:(k==2)=false) (h8:(k==8)=false):Calls Tryz.prog 196 #[.agg #[.int .i64 k,.int .i64 0,.int .i64 0,.string s,.int .i64 p,.slice a n c]] w fun e w'=>e=.returned (.bool (nodeF k 0 0 s p n))∧Kp w w':=by
 have k1:Kp w (w.alloc (.cells #[.int .i64 k,.int .i64 0,.int .i64 0,.string s,.int .i64 p,.slice a n c] 71)):=(Kp.refl w).alloc _
 have hS:(w.alloc (.cells #[.int .i64 k,.int .i64 0,.int .i64 0,.string s,.int .i64 p,.slice a n c] 71)).cell? ⟨w.heap.size,0,none⟩=some (.int .i64 k)∧(w.alloc (.cells #[.int .i64 k,.int .i64 0,.int .i64 0,.string s,.int .i64 p,.slice a n c] 71)).cell? ⟨w.heap.size,1,none⟩=some (.int .i64 0)∧(w.alloc (.cells #[.int .i64 k,.int .i64 0,.int .i64 0,.string s,.int .i64 p,.slice a n c] 71)).cell? ⟨w.heap.size,2,none⟩=some (.int .i64 0)∧(w.alloc (.cells #[.int .i64 k,.int .i64 0,.int .i64 0,.string s,.int .i64 p,.slice a n c] 71)).cell? ⟨w.heap.size,3,none⟩=some (.string s)∧(w.alloc (.cells #[.int .i64 k,.int .i64 0,.int .i64 0,.string s,.int .i64 p,.slice a n c] 71)).cell? ⟨w.heap.size,4,none⟩=some (.int .i64 p)∧(w.alloc (.cells #[.int .i64 k,.int .i64 0,.int .i64 0,.string s,.int .i64 p,.slice a n c] 71)).cell? ⟨w.heap.size,5,none⟩=some (.slice a n c):=by simp
 have hn:=Lib.hid (rnodeF_k k 0 0 s p n h1 h2 h8)
 generalize nodeF k 0 0 s p n=B at *
 have HA:=Lib.hid (args_any k)
 have e1:(k != 1)=true:=by rw[bne,h1];rfl
 have e2:(k != 2)=true:=by rw[bne,h2];rfl
 have hz:=Lib.hid zeroA
 go_enter Tryz.func196,Tryz.ntmps196
 go_upto_region 1 with fail
 generalize w.alloc _=W at *
 have HK:=Lib.hid k1
 clear k1
 obtain⟨s0,s1,s2,s3,s4,s5⟩:=hS
 cases hl:((n:Int) != argsK k) with
 | true =>
  have hn2:=hn.out
  rw[hl] at hn2
  have Hn:=Lib.hid hn2
  clear hn2
  go_quiet (first | (go_at_call 240;exact Calls.quiet_of_same (HA.out _)) | fail)
  go_wp2_with fail
  go_ret
  exact⟨ret_bool (by rw[Hn.out];rfl),HK.out.drewN _⟩
 | false =>
 have hn2:=hn.out
 rw[hl,hz.out] at hn2
 have Hn:=Lib.hid hn2
 clear hn2
 go_quiet (first | (go_at_call 240;exact Calls.quiet_of_same (HA.out _)) | fail)
 clear hl
 cases he:s.toList.isEmpty <;> cases hp:(p==0)
 all_goals
  have hn2:=Hn.out
  rw[he,hp] at hn2
  have Hn:=Lib.hid hn2
  clear hn2
  go_wp2_with fail
  go_ret
  exact⟨ret_bool (by rw[Hn.out];rfl),HK.out.drewN _⟩
theorem rnodekB (k:Int) (d:Int) (s:ByteArray) (p:Int) (a:Option Addr) (n c:Nat) (w:World) (_hl:n≤1100000) (_hs:s.size≤maxLen) (h1:(k==1)=false) (h2:(k==2)=false) (h8:(k==8)=false) (hd:¬ d=0):Calls Tryz.prog 196 #[.agg #[.int .i64 k,.int .i64 0,.int .i64 d,.string s,.int .i64 p,.slice a n c]] w fun e w'=>e=.returned (.bool (nodeF k 0 d s p n))∧Kp w w':=by
 have k1:Kp w (w.alloc (.cells #[.int .i64 k,.int .i64 0,.int .i64 d,.string s,.int .i64 p,.slice a n c] 71)):=(Kp.refl w).alloc _
 have hS:(w.alloc (.cells #[.int .i64 k,.int .i64 0,.int .i64 d,.string s,.int .i64 p,.slice a n c] 71)).cell? ⟨w.heap.size,0,none⟩=some (.int .i64 k)∧(w.alloc (.cells #[.int .i64 k,.int .i64 0,.int .i64 d,.string s,.int .i64 p,.slice a n c] 71)).cell? ⟨w.heap.size,1,none⟩=some (.int .i64 0)∧(w.alloc (.cells #[.int .i64 k,.int .i64 0,.int .i64 d,.string s,.int .i64 p,.slice a n c] 71)).cell? ⟨w.heap.size,2,none⟩=some (.int .i64 d)∧(w.alloc (.cells #[.int .i64 k,.int .i64 0,.int .i64 d,.string s,.int .i64 p,.slice a n c] 71)).cell? ⟨w.heap.size,3,none⟩=some (.string s)∧(w.alloc (.cells #[.int .i64 k,.int .i64 0,.int .i64 d,.string s,.int .i64 p,.slice a n c] 71)).cell? ⟨w.heap.size,4,none⟩=some (.int .i64 p)∧(w.alloc (.cells #[.int .i64 k,.int .i64 0,.int .i64 d,.string s,.int .i64 p,.slice a n c] 71)).cell? ⟨w.heap.size,5,none⟩=some (.slice a n c):=by simp
 have hn:=Lib.hid (rnodeF_k k 0 d s p n h1 h2 h8)
 generalize nodeF k 0 d s p n=B at *
 have HA:=Lib.hid (args_any k)
 have e1:(k != 1)=true:=by rw[bne,h1];rfl
 have e2:(k != 2)=true:=by rw[bne,h2];rfl
 have hz:=Lib.hid (zeroB hd)
 have nd:(d != 0)=true:=bne_iff_ne.2 hd
 go_enter Tryz.func196,Tryz.ntmps196
 go_upto_region 1 with fail
 generalize w.alloc _=W at *
 have HK:=Lib.hid k1
 clear k1
 obtain⟨s0,s1,s2,s3,s4,s5⟩:=hS
 cases hl:((n:Int) != argsK k) with
 | true =>
  have hn2:=hn.out
  rw[hl] at hn2
  have Hn:=Lib.hid hn2
  clear hn2
  go_quiet (first | (go_at_call 240;exact Calls.quiet_of_same (HA.out _)) | fail)
  go_wp2_with fail
  go_ret
  exact⟨ret_bool (by rw[Hn.out];rfl),HK.out.drewN _⟩
 | false =>
 have hn2:=hn.out
 rw[hl,hz.out] at hn2
 have Hn:=Lib.hid hn2
 clear hn2
 go_quiet (first | (go_at_call 240;exact Calls.quiet_of_same (HA.out _)) | fail)
 clear hl
 go_wp2_with fail
 go_ret
 exact⟨ret_bool (by rw[Hn.out];rfl),HK.out.drewN _⟩
theorem rnodekC (k:Int) (r d:Int) (s:ByteArray) (p:Int) (a:Option Addr) (n c:Nat) (w:World) (_hl:n≤1100000) (_hs:s.size≤maxLen) (h1:(k==1)=false) (h2:(k==2)=false) (h8:(k==8)=false) (hr:¬ r=0):Calls Tryz.prog 196 #[.agg #[.int .i64 k,.int .i64 r,.int .i64 d,.string s,.int .i64 p,.slice a n c]] w fun e w'=>e=.returned (.bool (nodeF k r d s p n))∧Kp w w':=by
 have k1:Kp w (w.alloc (.cells #[.int .i64 k,.int .i64 r,.int .i64 d,.string s,.int .i64 p,.slice a n c] 71)):=(Kp.refl w).alloc _
 have hS:(w.alloc (.cells #[.int .i64 k,.int .i64 r,.int .i64 d,.string s,.int .i64 p,.slice a n c] 71)).cell? ⟨w.heap.size,0,none⟩=some (.int .i64 k)∧(w.alloc (.cells #[.int .i64 k,.int .i64 r,.int .i64 d,.string s,.int .i64 p,.slice a n c] 71)).cell? ⟨w.heap.size,1,none⟩=some (.int .i64 r)∧(w.alloc (.cells #[.int .i64 k,.int .i64 r,.int .i64 d,.string s,.int .i64 p,.slice a n c] 71)).cell? ⟨w.heap.size,2,none⟩=some (.int .i64 d)∧(w.alloc (.cells #[.int .i64 k,.int .i64 r,.int .i64 d,.string s,.int .i64 p,.slice a n c] 71)).cell? ⟨w.heap.size,3,none⟩=some (.string s)∧(w.alloc (.cells #[.int .i64 k,.int .i64 r,.int .i64 d,.string s,.int .i64 p,.slice a n c] 71)).cell? ⟨w.heap.size,4,none⟩=some (.int .i64 p)∧(w.alloc (.cells #[.int .i64 k,.int .i64 r,.int .i64 d,.string s,.int .i64 p,.slice a n c] 71)).cell? ⟨w.heap.size,5,none⟩=some (.slice a n c):=by simp
 have hn:=Lib.hid (rnodeF_k k r d s p n h1 h2 h8)
 generalize nodeF k r d s p n=B at *
 have HA:=Lib.hid (args_any k)
 have e1:(k != 1)=true:=by rw[bne,h1];rfl
 have e2:(k != 2)=true:=by rw[bne,h2];rfl
 have hz:=Lib.hid (zeroC (d:=d) hr)
 have nr:(r != 0)=true:=bne_iff_ne.2 hr
 go_enter Tryz.func196,Tryz.ntmps196
 go_upto_region 1 with fail
 generalize w.alloc _=W at *
 have HK:=Lib.hid k1
 clear k1
 obtain⟨s0,s1,s2,s3,s4,s5⟩:=hS
 cases hl:((n:Int) != argsK k) with
 | true =>
  have hn2:=hn.out
  rw[hl] at hn2
  have Hn:=Lib.hid hn2
  clear hn2
  go_quiet (first | (go_at_call 240;exact Calls.quiet_of_same (HA.out _)) | fail)
  go_wp2_with fail
  go_ret
  exact⟨ret_bool (by rw[Hn.out];rfl),HK.out.drewN _⟩
 | false =>
 have hn2:=hn.out
 rw[hl,hz.out] at hn2
 have Hn:=Lib.hid hn2
 clear hn2
 go_quiet (first | (go_at_call 240;exact Calls.quiet_of_same (HA.out _)) | fail)
 clear hl
 go_wp2_with fail
 go_ret
 exact⟨ret_bool (by rw[Hn.out];rfl),HK.out.drewN _⟩
theorem rnode_any (x:Ex) (w:World) (hl:x.l.length≤1100000) (hs:x.name.size≤maxLen):Calls Tryz.prog 196 #[.agg #[.int .i64 x.kind,.int .i64 x.rn,.int .i64 x.rd,.string x.name,.int .i64 x.pw,.slice x.a x.l.length x.c]] w fun e w'=>e=.returned (.bool (nodeB x))∧Kp w w':=by
 rw[nodeB_F]
 obtain⟨k,r,d,s,p,a,c,l⟩:=x
 show Calls Tryz.prog 196 #[.agg #[.int .i64 k,.int .i64 r,.int .i64 d,.string s,.int .i64 p,.slice a l.length c]] w fun e w'=>e=.returned (.bool (nodeF k r d s p l.length))∧Kp w w'
 replace hl:l.length≤1100000:=hl
 replace hs:s.size≤maxLen:=hs
 by_cases h1:k=1
 ·subst h1
  exact rnode1C r d s p a l.length c w hl hs
 by_cases h2:k=2
 ·subst h2
  by_cases hr:r=0
  ·subst hr
   by_cases hd:d=0
   ·subst hd;exact rnode2A s p a l.length c w hl hs
   exact rnode2B d s p a l.length c w hl hs hd
  exact rnode2C r d s p a l.length c w hl hs hr
 by_cases h8:k=8
 ·subst h8
  by_cases hr:r=0
  ·subst hr
   by_cases hd:d=0
   ·subst hd;exact rnode8A s p a l.length c w hl hs
   exact rnode8B d s p a l.length c w hl hs hd
  exact rnode8C r d s p a l.length c w hl hs hr
 have b1:(k==1)=false:=beq_eq_false_iff_ne.2 h1
 have b2:(k==2)=false:=beq_eq_false_iff_ne.2 h2
 have b8:(k==8)=false:=beq_eq_false_iff_ne.2 h8
 by_cases hr:r=0
 ·subst hr
  by_cases hd:d=0
  ·subst hd;exact rnodekA k s p a l.length c w hl hs b1 b2 b8
  exact rnodekB k d s p a l.length c w hl hs b1 b2 b8 hd
 exact rnodekC k r d s p a l.length c w hl hs b1 b2 b8 hr
end Go.Proofs.YteidgoldnllabaaGreatDoor
