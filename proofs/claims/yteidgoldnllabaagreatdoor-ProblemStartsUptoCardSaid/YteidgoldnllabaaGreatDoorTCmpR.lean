/-
  Walks: ratio.Cmp, ref04.Cmp of valid ratios.
-/
import Derived.Deep.QuietTactic
import Derived.BigQuiet
import Derived.Test.YteidgoldnllabaaGreatDoorTPrbN
import Derived.Test.YteidgoldnllabaaGreatDoorTPrbR
import Derived.Test.YteidgoldnllabaaGreatDoorTBoxV
set_option maxHeartbeats 4000000
namespace Go.Proofs.YteidgoldnllabaaGreatDoor
open Go.RowKit Go.Sort
theorem ratB_parts {n d:Int} (h:ratB n d=true):1≤d∧d≤1073741824∧-1073741824≤n∧n≤1073741824:=by
 rw[ratB_iff] at h
 simp only[Bool.and_eq_true,decide_eq_true_eq] at h
 exact⟨h.1.1,h.1.2,h.2.1.1,h.2.1.2⟩
theorem mul_range {a b:Int} (h0:-1073741824≤a) (h1:a≤1073741824) (h2:1≤b) (h3:b≤1073741824):-1152921504606846976≤a*b∧a*b≤1152921504606846976:=by
 constructor
 ·have h4:-1073741824*b≤a*b:=Int.mul_le_mul_of_nonneg_right h0 (by omega)
  omega
 have h4:a*b≤1073741824*b:=Int.mul_le_mul_of_nonneg_right h1 (by omega)
 omega
def ordZ (x y:Int):Int:=if x<y then -1 else if y<x then 1 else 0
theorem rcmp_any (an ad bn bd:Int) (w:World) (ha:ratB an ad=true) (hb:ratB bn bd=true) :
  Calls Tryz.prog 66 #[.agg #[.int .i64 an,.int .i64 ad],.agg #[.int .i64 bn,.int .i64 bd]] w fun e w'=>e=.returned (.int .i64 (ordZ (an*bd) (bn*ad)))∧Kp w w':=by
 obtain⟨a1,a2,a3,a4⟩:=ratB_parts ha
 obtain⟨b1,b2,b3,b4⟩:=ratB_parts hb
 have m1:=mul_range a3 a4 b1 b2
 have m2:=mul_range b3 b4 a1 a2
 have HV1:=Lib.hid fun W'=>rvalid_any an ad W'
 have HV2:=Lib.hid fun W'=>rvalid_any bn bd W'
 rw[ha] at HV1
 rw[hb] at HV2
 have k1:Kp w ((w.alloc (.cells #[.int .i64 an,.int .i64 ad] 25)).alloc (.cells #[.int .i64 bn,.int .i64 bd] 25)):=((Kp.refl w).alloc _).alloc _
 have hA:BoxV ((w.alloc (.cells #[.int .i64 an,.int .i64 ad] 25)).alloc (.cells #[.int .i64 bn,.int .i64 bd] 25)) w.heap.size [.int .i64 an,.int .i64 ad]:=(BoxV.new w [_,_] _ _ rfl).kp ((Kp.refl _).alloc _)
 have hB:BoxV ((w.alloc (.cells #[.int .i64 an,.int .i64 ad] 25)).alloc (.cells #[.int .i64 bn,.int .i64 bd] 25)) (w.heap.size+1) [.int .i64 bn,.int .i64 bd]:=BoxV.new _ [_,_] _ _ (by simp)
 have w1:IntKind.i64.wrap (an*bd)=an*bd:=IntWalk.i64_in _ (by omega)
 have w2:IntKind.i64.wrap (bn*ad)=bn*ad:=IntWalk.i64_in _ (by omega)
 clear ha hb a1 a2 a3 a4 b1 b2 b3 b4
 go_enter Tryz.func66,Tryz.ntmps66
 go_upto_region 1 with fail
 generalize World.alloc _ _=W at *
 have K1:=Lib.hid k1
 have HA:=Lib.hid hA
 have HB:=Lib.hid hB
 have p0:=hA.cell 0 rfl
 have p1:=hA.cell 1 rfl
 have q0:=hB.cell 0 rfl
 have q1:=hB.cell 1 rfl
 clear k1 hA hB
 go_upto_region 3 with (first | (go_at_call 119;go_fit (HV1.out _);rintro r u1 ⟨rfl,j1⟩;clear q0 q1;have q0:=(HB.out.kp j1).cell 0 rfl;have q1:=(HB.out.kp j1).cell 1 rfl) | (go_at_call 119;go_fit (HV2.out _);rintro r u2 ⟨rfl,j2⟩) | fail)
 have hA2:=HA.out.kp (j1.trans j2)
 have hB2:=HB.out.kp (j1.trans j2)
 clear p0 p1 q0 q1
 have p0:=hA2.cell 0 rfl
 have p1:=hA2.cell 1 rfl
 have q0:=hB2.cell 0 rfl
 have q1:=hB2.cell 1 rfl
 have KK:=Lib.hid (K1.out.trans (j1.trans j2))
 clear hA2 hB2 j1 j2
 by_cases h1:an*bd<bn*ad
 ·have HZ:=Lib.hid (show ordZ (an*bd) (bn*ad)=-1 by unfold ordZ;rw[if_pos h1])
  go_quiet (fail)
  go_wp2
  go_ret
  exact⟨by rw[HZ.out];rfl,KK.out.drewN _⟩
 by_cases h2:bn*ad<an*bd
 ·have HZ:=Lib.hid (show ordZ (an*bd) (bn*ad)=1 by unfold ordZ;rw[if_neg h1,if_pos h2])
  go_quiet (fail)
  go_wp2
  go_ret
  exact⟨by rw[HZ.out];rfl,KK.out.drewN _⟩
 have HZ:=Lib.hid (show ordZ (an*bd) (bn*ad)=0 by unfold ordZ;rw[if_neg h1,if_neg h2])
 go_quiet (fail)
 go_wp2
 go_ret
 exact⟨by rw[HZ.out];rfl,KK.out.drewN _⟩
theorem r4order_any (x y:Int) (w:World):Calls Tryz.prog 134 #[.int .i64 x,.int .i64 y] w fun e w'=>e=.returned (.int .i64 (ordZ x y))∧w'=w:=by
 by_cases h1:x<y
 ·have HZ:=Lib.hid (show ordZ x y=-1 by unfold ordZ;rw[if_pos h1])
  go_enter Tryz.func134,Tryz.ntmps134
  go_wp2
  go_ret
  exact⟨by rw[HZ.out];rfl,rfl⟩
 by_cases h2:y<x
 ·have HZ:=Lib.hid (show ordZ x y=1 by unfold ordZ;rw[if_neg h1,if_pos h2])
  go_enter Tryz.func134,Tryz.ntmps134
  go_wp2
  go_ret
  exact⟨by rw[HZ.out];rfl,rfl⟩
 have HZ:=Lib.hid (show ordZ x y=0 by unfold ordZ;rw[if_neg h1,if_neg h2])
 go_enter Tryz.func134,Tryz.ntmps134
 go_wp2
 go_ret
 exact⟨by rw[HZ.out];rfl,rfl⟩
theorem r4cmp_any (an ad bn bd:Int) (w:World) (ha:ratB an ad=true) (hb:ratB bn bd=true) :
  Calls Tryz.prog 72 #[.agg #[.int .i64 an,.int .i64 ad],.agg #[.int .i64 bn,.int .i64 bd]] w fun e w'=>e=.returned (.int .i64 (ordZ (an*bd) (bn*ad)))∧Kp w w':=by
 obtain⟨a1,a2,a3,a4⟩:=ratB_parts ha
 obtain⟨b1,b2,b3,b4⟩:=ratB_parts hb
 have m1:=mul_range a3 a4 b1 b2
 have m2:=mul_range b3 b4 a1 a2
 have HV1:=Lib.hid fun W'=>r4valid_any an ad W'
 have HV2:=Lib.hid fun W'=>r4valid_any bn bd W'
 rw[ha] at HV1
 rw[hb] at HV2
 have k1:Kp w ((w.alloc (.cells #[.int .i64 an,.int .i64 ad] 25)).alloc (.cells #[.int .i64 bn,.int .i64 bd] 25)):=((Kp.refl w).alloc _).alloc _
 have hA:BoxV ((w.alloc (.cells #[.int .i64 an,.int .i64 ad] 25)).alloc (.cells #[.int .i64 bn,.int .i64 bd] 25)) w.heap.size [.int .i64 an,.int .i64 ad]:=(BoxV.new w [_,_] _ _ rfl).kp ((Kp.refl _).alloc _)
 have hB:BoxV ((w.alloc (.cells #[.int .i64 an,.int .i64 ad] 25)).alloc (.cells #[.int .i64 bn,.int .i64 bd] 25)) (w.heap.size+1) [.int .i64 bn,.int .i64 bd]:=BoxV.new _ [_,_] _ _ (by simp)
 have w1:IntKind.i64.wrap (an*bd)=an*bd:=IntWalk.i64_in _ (by omega)
 have w2:IntKind.i64.wrap (bn*ad)=bn*ad:=IntWalk.i64_in _ (by omega)
 clear ha hb a1 a2 a3 a4 b1 b2 b3 b4
 go_enter Tryz.func72,Tryz.ntmps72
 go_upto_region 1 with fail
 generalize World.alloc _ _=W at *
 have K1:=Lib.hid k1
 have HA:=Lib.hid hA
 have HB:=Lib.hid hB
 have p0:=hA.cell 0 rfl
 have p1:=hA.cell 1 rfl
 have q0:=hB.cell 0 rfl
 have q1:=hB.cell 1 rfl
 clear k1 hA hB
 go_upto_region 3 with (first | (go_at_call 27;go_fit (HV1.out _);rintro r u1 ⟨rfl,j1⟩;clear q0 q1;have q0:=(HB.out.kp j1).cell 0 rfl;have q1:=(HB.out.kp j1).cell 1 rfl) | (go_at_call 27;go_fit (HV2.out _);rintro r u2 ⟨rfl,j2⟩) | fail)
 have hA2:=HA.out.kp (j1.trans j2)
 have hB2:=HB.out.kp (j1.trans j2)
 clear p0 p1 q0 q1
 have p0:=hA2.cell 0 rfl
 have p1:=hA2.cell 1 rfl
 have q0:=hB2.cell 0 rfl
 have q1:=hB2.cell 1 rfl
 have KK:=Lib.hid (K1.out.trans (j1.trans j2))
 clear hA2 hB2 j1 j2
 go_wp2_with (first | (go_at_call 134;go_fit (r4order_any _ _ _);rintro r u3 ⟨rfl,rfl⟩) | fail)
 go_ret
 exact⟨rfl,KK.out⟩
end Go.Proofs.YteidgoldnllabaaGreatDoor
