/-
  Walks: the fifth reference's Point, the seventh reference's Identity.
  Walks: matrix.entrywise, Add, Sub.
  Walks: matrix.entrywise, Add, Sub.
-/
import Derived.Deep.LoopGhost
import Derived.Deep.DeepFit
import Derived.Test.YtdidocdpjiiedaaGreatDoorMIncP
import Derived.Test.YtdidocdpjiiedaaGreatDoorMRoAdd
import Derived.Test.YtdidocdpjiiedaaGreatDoorMEchM
import Derived.Test.YtdidocdpjiiedaaGreatDoorMNrmP
import Derived.Test.YtdidocdpjiiedaaGreatDoorMIvMl
import Derived.Deep.RegionHeld3
import Derived.Test.YtdidocdpjiiedaaGreatDoorMIvS
section
namespace Go.Proofs.YtdidocdpjiiedaaGreatDoor
open Go.RowKit

set_option maxHeartbeats 4000000 in
theorem r5point_any (d : RD) (w : World) (_hy : d.ok w) :
    Calls Tryz.prog 149 #[.agg #[.bool d.neg, .slice d.a d.xs.length d.c, .int .i64 d.e]] w fun e w' => e = .returned (.agg #[.bool (ptI d).lo.neg, .slice (ptI d).lo.a (ptI d).lo.xs.length (ptI d).lo.c, .int .i64 (ptI d).lo.e, .bool (ptI d).hi.neg, .slice (ptI d).hi.a (ptI d).hi.xs.length (ptI d).hi.c, .int .i64 (ptI d).hi.e, .bool (ptI d).all]) ∧ Kp w w' := by
  go_enter Tryz.func149, Tryz.ntmps149
  go_upto_region 1 with fail
  generalize hW : ((w.alloc _).alloc _) = W at *
  have hk : Kp w W := hW ▸ ((Kp.refl w).alloc _).alloc _
  obtain ⟨s0, s1, s2⟩ : W.cell? ⟨w.heap.size, 0, none⟩ = some (.bool d.neg) ∧ W.cell? ⟨w.heap.size, 1, none⟩ = some (.slice d.a d.xs.length d.c) ∧ W.cell? ⟨w.heap.size, 2, none⟩ = some (.int .i64 d.e) := by rw [← hW]; simp
  have hV : Var7 W (w.heap.size + 1) := by
    rw [← hW]
    have := Var7.new (w.alloc (.cells #[.bool d.neg, .slice d.a d.xs.length d.c, .int .i64 d.e] 28)) 43
    rwa [World.size_alloc] at this
  clear hW
  obtain ⟨⟨q0, q1, q2, q3, q4, q5, q6⟩, f0, f1, f2, f3, f4, f5, f6⟩ := hV
  go_wp2_with fail
  generalize hW9 : ((((((W.setCell _ _).setCell _ _).setCell _ _).setCell _ _).setCell _ _).setCell _ _).setCell _ _ = W9
  obtain ⟨⟨s0, s1, s2, s3, s4, s5, s6⟩, hU⟩ := stored7 (show Box7 W _ _ _ _ _ _ _ _ from ⟨q0, q1, q2, q3, q4, q5, q6⟩) (fun _ h => by cases h) (fun _ h => by cases h) (fun _ h => by cases h) (fun _ h => by cases h) (fun _ h => by cases h) (fun _ h => by cases h) (fun _ h => by cases h) _ _ _ _ _ _ _ hW9
  clear hW9 q0 q1 q2 q3 q4 q5 q6 f0 f1 f2 f3 f4 f5 f6
  refine bodyPost_ret (v := .agg #[.bool (ptI d).lo.neg, .slice (ptI d).lo.a (ptI d).lo.xs.length (ptI d).lo.c, .int .i64 (ptI d).lo.e, .bool (ptI d).hi.neg, .slice (ptI d).hi.a (ptI d).hi.xs.length (ptI d).hi.c, .int .i64 (ptI d).hi.e, .bool (ptI d).all]) (by simp [results, Tryz.results149, go_sem, s0, s1, s2, s3, s4, s5, s6, ptI]) rfl ?_
  exact ⟨rfl, hU.2.2.1 _ hk (by omega)⟩
/-- the number one, as the call makes it -/
def oneD (g : Nat) : RD := ⟨false, some ⟨g, 0, none⟩, [1], 1, 0⟩
theorem oneD_dy (g : Nat) : (oneD g).dy = intD 1 := by
  have hb : bits 1 ≤ 1 := bits_le.2 (by decide)
  refine intD_eqs (.inr ⟨rfl, by show bits 1 ≤ 4096; omega, by show (-16384 : Int) ≤ 0; decide, by show (0 : Int) ≤ 16384; decide, by show (bits 1 : Int) + 0 ≤ 16384; omega⟩) (by decide) ?_
  show (⟨false, 1, 0⟩ : Dy).iv = _
  rw [iv_sg]; rfl
theorem oneD_ok {w : World} {g : Nat} (h : Rd w (some ⟨g, 0, none⟩) [1]) : (oneD g).ok w :=
  ⟨⟨h, Nat.le_refl 1, by show 1 ≤ maxLen; decide, by show 1 ≤ 1100000; decide, by show I64 0; unfold I64; omega⟩, by show vld false [1] 0 = true; decide⟩
def zeroD : RD := ⟨false, none, [], 0, 0⟩
theorem zeroD_dy : zeroD.dy = intD 0 := by unfold intD; rw [show ((0 : Int).natAbs) = 0 from rfl, canon_zero]; rfl
theorem zeroD_ok (w : World) : zeroD.ok w := ⟨⟨Rd.nil _ _, by decide, by decide, by decide, by show I64 0; unfold I64; omega⟩, by show vld false [] 0 = true; decide⟩
set_option maxRecDepth 100000 in
set_option maxHeartbeats 8000000 in
theorem r7idn_any (n : Nat) (w : World) (h1 : 1 ≤ n) (h8 : n ≤ 8) :
    Calls Tryz.prog 103 #[.int .i64 n] w (MatV w (tabM n n idP)) := by
  have hn1 : ¬ ((n : Int) < 1) := by omega
  have hn8 : ¬ (8 < (n : Int)) := by omega
  obtain ⟨F, hF⟩ : ∃ F : Nat → Nat → PI, F = idP := ⟨_, rfl⟩
  have HF := Lib.hid hF
  rw [← hF]
  clear hF
  go_enter Tryz.func103, Tryz.ntmps103
  go_wp2_with fail
  clear hn1 hn8
  go_loopg [3, 4] n (fun z v x wr => ∃ (R : List (List RI)) (us : List Value), R.length + z = n ∧ x = .int .i64 (R.length : Int) ∧ OwnM w wr v us R ∧ plM R = tabM R.length n F ∧ okM R)
  case atStart => exact ⟨[], [], by simp, rfl, OwnM.nil (Kp.refl _), rfl, fun r h => by simp at h⟩
  case round =>
    obtain ⟨R, us, hRq, rfl, hO, hpl, hok⟩ := hrel
    have HH := Lib.hid (And.intro hpl hok)
    have HO := Lib.hid hO
    have hkr := hO.1
    clear hpl hok hO
    by_cases hlt : R.length < n
    · have Hlt := Lib.hid (And.intro hlt hRq)
      clear hRq
      have hk1 : (0 : Int) ≤ (R.length : Int) := by omega
      go_wp2_with fail
      obtain ⟨gk1, hgk1⟩ : ∃ x : Nat, x = gk := ⟨_, rfl⟩
      subst hgk1
      obtain ⟨wi, hwi⟩ : ∃ x : World, x = wr := ⟨_, rfl⟩
      subst hwi
      have HKI := Lib.hid hkr
      clear hkr
      go_loopg [5, 6] n (fun z u x wr => ∃ cur : List RI, cur.length + z = n ∧ x = .int .i64 (cur.length : Int) ∧ OwnN wi wr u cur ∧ plR cur = rowF cur.length (F R.length) ∧ ∀ x ∈ cur, x.vl = true)
      case atStart => exact ⟨[], by simp, rfl, OwnN.nil (Kp.refl _), rfl, fun x h => by simp at h⟩
      case round =>
        obtain ⟨cur, hcq, rfl, hown0, hpc, hvc⟩ := hrel
        by_cases hlt2 : cur.length < n
        · have HPC := Lib.hid (And.intro hpc (And.intro hvc (And.intro hcq hlt2)))
          have hcl : cur.length + 1 ≤ 9000000 := by omega
          have HOW := Lib.hid hown0
          clear hpc hvc hcq hown0
          by_cases hij : R.length = cur.length
          · have heq : ((R.length : Int) == (cur.length : Int)) = true := by rw [hij]; simp
            have HP := Lib.hid (show pnI 1 1 = F R.length cur.length by rw [HF.out]; show _ = idP _ _; unfold idP; rw [if_pos hij])
            clear hij
            go_upto_region 13 with fail
            have kz := (Kp.refl wr).alloc (.cells #[.bool false, .slice none 0 0, .int .i64 0] 28)
            have hB := Box3.new wr (.bool false) (.slice none 0 0) (.int .i64 0) 28
            have hsz : (wr.alloc (.cells #[.bool false, .slice none 0 0, .int .i64 0] 28)).heap.size = wr.heap.size + 1 := by rw [World.size_alloc]
            generalize wr.alloc _ = WZ at *
            obtain ⟨hM0, hU⟩ := Box3.setM hB (fun _ h => by cases h) (.slice (some ⟨wr.heap.size + 1, 0, none⟩) 1 1)
            have hRd := rd_one (WZ.setCell ⟨wr.heap.size, 1, none⟩ (.slice (some ⟨wr.heap.size + 1, 0, none⟩) 1 1))
            rw [show (WZ.setCell ⟨wr.heap.size, 1, none⟩ (.slice (some ⟨wr.heap.size + 1, 0, none⟩) 1 1)).heap.size = wr.heap.size + 1 by simp [hsz]] at hRd
            have HY := Lib.hid (oneD_ok hRd)
            have HK := Lib.hid ((hU.2.2.1 _ kz (Nat.le_refl _)).alloc (.cells #[.int .u32 1] 88))
            have hM := hM0.kp ((Kp.refl _).alloc (.cells #[.int .u32 1] 88))
            obtain ⟨q0, q1, q2, f0, f1, f2⟩ := id hB
            clear hB hM0 hRd kz hU
            go_upto_region 14 with fail
            generalize (WZ.setCell _ _).alloc _ = W9 at *
            clear q0 q1 q2 f0 f1 f2
            obtain ⟨q0, q1, q2, _⟩ := id hM
            go_wp2_with fail
            go_fit (r5point_any (oneD (wr.heap.size + 1)) _ HY.out)
            rintro e v2 ⟨rfl, j2⟩
            have kY := j2.alloc (.cells #[.bool (ptI (oneD (wr.heap.size + 1))).lo.neg, .slice (ptI (oneD (wr.heap.size + 1))).lo.a (ptI (oneD (wr.heap.size + 1))).lo.xs.length (ptI (oneD (wr.heap.size + 1))).lo.c, .int .i64 (ptI (oneD (wr.heap.size + 1))).lo.e, .bool (ptI (oneD (wr.heap.size + 1))).hi.neg, .slice (ptI (oneD (wr.heap.size + 1))).hi.a (ptI (oneD (wr.heap.size + 1))).hi.xs.length (ptI (oneD (wr.heap.size + 1))).hi.c, .int .i64 (ptI (oneD (wr.heap.size + 1))).hi.e, .bool (ptI (oneD (wr.heap.size + 1))).all] 43)
            have hown := HOW.out.kp (HK.out.trans kY)
            have hzA := ptI_rd (HY.out.kp kY).1
            have HZ := Lib.hid (And.intro (show (ptI (oneD (wr.heap.size + 1))).pl = pnI 1 1 by show PI.mk (oneD (wr.heap.size + 1)).dy (oneD (wr.heap.size + 1)).dy false = _; rw [oneD_dy]; rfl) (ptI_ok HY.out).2.2)
            clear kY q0 q1 q2
            go_wp2_with (at_builtin; refine wpList_append_ivg rfl _ _ rfl wi _ cur rfl hown _ _ rfl (ptI (oneD (wr.heap.size + 1))) hzA (by simp [ptI, oneD]) hcl ?_; intro a' c' w9 hown9 hgrow hblk)
            go_roundg (gk - 1)
            case measure => have := HPC.out.2.2; omega
            case rel =>
              refine ⟨cur ++ [ptI (oneD (wr.heap.size + 1))], by have := HPC.out.2.2; rw [List.length_append, List.length_singleton]; omega, by rw [List.length_append, List.length_singleton]; go_num, by simpa using hown9, ?_, ok_snoc HPC.out.2.1 HZ.out.2⟩
              rw [plR_snoc, HPC.out.1, List.length_append, List.length_singleton, rowF_snoc, HZ.out.1, HP.out]
          · have heq : ((R.length : Int) == (cur.length : Int)) = false := beq_eq_false_iff_ne.2 (by omega)
            have HP := Lib.hid (show pnI 0 0 = F R.length cur.length by rw [HF.out]; show _ = idP _ _; unfold idP; rw [if_neg hij])
            clear hij
            go_upto_region 14 with fail
            have kz := (Kp.refl wr).alloc (.cells #[.bool false, .slice none 0 0, .int .i64 0] 28)
            have hB := Box3.new wr (.bool false) (.slice none 0 0) (.int .i64 0) 28
            have HY := Lib.hid (zeroD_ok (wr.alloc (.cells #[.bool false, .slice none 0 0, .int .i64 0] 28)))
            have HK := Lib.hid kz
            generalize wr.alloc _ = W9 at *
            obtain ⟨q0, q1, q2, _⟩ := id hB
            clear kz
            go_wp2_with fail
            go_fit (r5point_any zeroD _ HY.out)
            rintro e v2 ⟨rfl, j2⟩
            have kY := j2.alloc (.cells #[.bool (ptI zeroD).lo.neg, .slice (ptI zeroD).lo.a (ptI zeroD).lo.xs.length (ptI zeroD).lo.c, .int .i64 (ptI zeroD).lo.e, .bool (ptI zeroD).hi.neg, .slice (ptI zeroD).hi.a (ptI zeroD).hi.xs.length (ptI zeroD).hi.c, .int .i64 (ptI zeroD).hi.e, .bool (ptI zeroD).all] 43)
            have hown := HOW.out.kp (HK.out.trans kY)
            have hzA := ptI_rd (HY.out.kp kY).1
            have HZ := Lib.hid (And.intro (show (ptI zeroD).pl = pnI 0 0 by show PI.mk zeroD.dy zeroD.dy false = _; rw [zeroD_dy]; rfl) (ptI_ok HY.out).2.2)
            clear kY q0 q1 q2
            go_wp2_with (at_builtin; refine wpList_append_ivg rfl _ _ rfl wi _ cur rfl hown _ _ rfl (ptI zeroD) hzA (by simp [ptI, zeroD]) hcl ?_; intro a' c' w9 hown9 hgrow hblk)
            go_roundg (gk - 1)
            case measure => have := HPC.out.2.2; omega
            case rel =>
              refine ⟨cur ++ [ptI zeroD], by have := HPC.out.2.2; rw [List.length_append, List.length_singleton]; omega, by rw [List.length_append, List.length_singleton]; go_num, by simpa using hown9, ?_, ok_snoc HPC.out.2.1 HZ.out.2⟩
              rw [plR_snoc, HPC.out.1, List.length_append, List.length_singleton, rowF_snoc, HZ.out.1, HP.out]
        · have hce : cur.length = n := by omega
          obtain ⟨ua, uc, rfl, huc, hum, hurow⟩ := hown0.value
          have kA := (Kp.refl wr).alloc (.cells #[.slice ua cur.length uc] 40)
          have HOA := HO.out.kp (hown0.1.trans kA)
          have hoff := OwnN.off (w' := wr.alloc (.cells #[.slice ua cur.length uc] 40)) hown0 rfl HO.out.new kA.size
          have hrowA := hurow.kp kA
          have HPC := Lib.hid (And.intro hpc (And.intro hvc hce))
          have hcl2 : cur.length ≤ 1100000 := by omega
          have hRl : R.length + 1 ≤ 9000000 := by omega
          clear hpc hvc hcq hown0 huc hum hurow kA hce
          go_wp2_with (at_builtin; refine wpList_append_rowi rfl _ _ rfl w _ us R rfl HOA _ _ rfl ua uc cur hrowA hoff hcl2 (by simp) hRl ?_; intro v' us' w9 hM9)
          go_roundg (gk1 - 1)
          case measure => have := Hlt.out; omega
          case rel =>
            refine ⟨R ++ [cur], us', by have := Hlt.out; rw [List.length_append, List.length_singleton]; omega, by rw [List.length_append, List.length_singleton]; go_num, hM9, ?_, okM_snoc HH.out.2 HPC.out.2.1⟩
            rw [plM_snoc, HH.out.1, List.length_append, List.length_singleton, tabM_snoc, HPC.out.1, HPC.out.2.2]
    · have hRe : R.length = n := by omega
      obtain ⟨va, vc, rfl, hvc1, hvc2, hrm⟩ := HO.out.value
      have HRe := Lib.hid (And.intro hRe hrm)
      clear hRe hRq hrm
      go_wp2_with fail
      refine bodyPost_ret (v := .slice va R.length vc) (by simp [results, Tryz.results103, go_sem]) rfl ?_
      refine ⟨va, R, vc, rfl, HRe.out.2, ?_, HH.out.2, by have := HRe.out.1; omega, hkr⟩
      rw [HH.out.1, HRe.out.1]
end Go.Proofs.YtdidocdpjiiedaaGreatDoor
end

section
namespace Go.Proofs.YtdidocdpjiiedaaGreatDoor
open Go.RowKit

end Go.Proofs.YtdidocdpjiiedaaGreatDoor
end

section
namespace Go.Proofs.YtdidocdpjiiedaaGreatDoor
open Go.RowKit

end Go.Proofs.YtdidocdpjiiedaaGreatDoor
end
