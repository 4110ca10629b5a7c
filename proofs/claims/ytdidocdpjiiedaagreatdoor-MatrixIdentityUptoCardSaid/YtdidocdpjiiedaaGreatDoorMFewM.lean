/-
  Walks: dyadic.Bits; the law's closures that ask for few bits.
-/
import Derived.Deep.DeepFit
import Derived.Test.YtdidocdpjiiedaaGreatDoorMPub
import Derived.Test.YtdidocdpjiiedaaGreatDoorMIdxT
import Derived.Test.YtdidocdpjiiedaaGreatDoorMOwnD
import Derived.Test.YtdidocdpjiiedaaGreatDoorMEqfR
import Derived.Deep.RegionWith
namespace Go.Proofs.YtdidocdpjiiedaaGreatDoor
open Go.RowKit

theorem Bits_rd (x : RD) (w : World) (h : x.rd w) (hv : x.vl = true) : Calls Tryz.prog 46 #[.agg #[.bool x.neg, .slice x.a x.xs.length x.c, .int .i64 x.e]] w fun e w' => e = .returned (.int .i64 (bits x.dy.m)) ∧ Kp w w' := by
  have := Bits_ok x.dy x.a x.c w (RD.at h hv)
  rwa [RD.limbs h hv] at this
theorem keepF8 {w w' : World} (k : Kp w w') {p0 p1 p2 p3 p4 p5 p6 p7 : Addr} {u0 u1 u2 u3 u4 u5 u6 u7 : Value} (h : (w.cell? p0 = some u0 ∧ w.cell? p1 = some u1 ∧ w.cell? p2 = some u2 ∧ w.cell? p3 = some u3 ∧ w.cell? p4 = some u4 ∧ w.cell? p5 = some u5 ∧ w.cell? p6 = some u6) ∧ w.cell? p7 = some u7) : (w'.cell? p0 = some u0 ∧ w'.cell? p1 = some u1 ∧ w'.cell? p2 = some u2 ∧ w'.cell? p3 = some u3 ∧ w'.cell? p4 = some u4 ∧ w'.cell? p5 = some u5 ∧ w'.cell? p6 = some u6) ∧ w'.cell? p7 = some u7 := ⟨keep7 k h.1, k.cell h.2⟩
/-- has an interval no ends, or one of more than p bits? -/
def manyI (p : Nat) (x : RI) : Bool := x.all || (decide (p < bits x.lo.dy.m) || decide (p < bits x.hi.dy.m))
set_option maxHeartbeats 4000000 in
theorem few1_any (x : RI) (p b : Nat) (w : World) (hx : x.rd w) (hv : x.vl = true) (hb : w.cell? ⟨b, 0, none⟩ = some (.int .i64 (p : Int))) :
    Calls Tryz.prog 45 #[.agg #[.bool x.lo.neg, .slice x.lo.a x.lo.xs.length x.lo.c, .int .i64 x.lo.e, .bool x.hi.neg, .slice x.hi.a x.hi.xs.length x.hi.c, .int .i64 x.hi.e, .bool x.all], .pointer (some ⟨b, 0, none⟩)] w fun e w' => e = .returned (.bool (manyI p x)) ∧ Kp w w' := by
  have k1 := (Kp.refl w).alloc (.cells #[.bool x.lo.neg, .slice x.lo.a x.lo.xs.length x.lo.c, .int .i64 x.lo.e, .bool x.hi.neg, .slice x.hi.a x.hi.xs.length x.hi.c, .int .i64 x.hi.e, .bool x.all] 43)
  have hb1 := k1.cell hb
  cases ha : x.all with
  | true =>
    have H := Lib.hid (show manyI p x = true by unfold manyI; rw [ha]; rfl)
    rw [ha] at k1 hb1
    clear hx hv ha hb
    go_enter Tryz.func45, Tryz.ntmps45
    go_upto_region 1 with fail
    generalize hW : w.alloc _ = W at *
    obtain ⟨s0, s1, s2, s3, s4, s5, s6⟩ : W.cell? ⟨w.heap.size, 0, none⟩ = some (.bool x.lo.neg) ∧ W.cell? ⟨w.heap.size, 1, none⟩ = some (.slice x.lo.a x.lo.xs.length x.lo.c) ∧ W.cell? ⟨w.heap.size, 2, none⟩ = some (.int .i64 x.lo.e) ∧ W.cell? ⟨w.heap.size, 3, none⟩ = some (.bool x.hi.neg) ∧ W.cell? ⟨w.heap.size, 4, none⟩ = some (.slice x.hi.a x.hi.xs.length x.hi.c) ∧ W.cell? ⟨w.heap.size, 5, none⟩ = some (.int .i64 x.hi.e) ∧ W.cell? ⟨w.heap.size, 6, none⟩ = some (.bool true) := by rw [← hW]; simp
    clear hW
    go_region
    all_goals
      go_wp2_with fail
      go_ret
      exact ⟨ret_bool H.out.symm, k1.drew⟩
  | false =>
    have o := ok_of hx hv ha
    have o1 := o.kp k1
    have HL := Lib.hid (And.intro (o1.1.1.kp (Kp.refl _).drew) (And.intro (o1.1.2.kp (Kp.refl _).drew) (And.intro o.parts.1 o.parts.2.1)))
    obtain ⟨n1, hn1⟩ : ∃ n, n = bits x.lo.dy.m := ⟨_, rfl⟩
    obtain ⟨n2, hn2⟩ : ∃ n, n = bits x.hi.dy.m := ⟨_, rfl⟩
    have H := Lib.hid (show manyI p x = (decide (p < n1) || decide (p < n2)) by unfold manyI; rw [ha, hn1, hn2]; rfl)
    have HB1 := Lib.hid (fun (W : World) (h : x.lo.rd W) => Bits_rd x.lo W h o.parts.1)
    have HB2 := Lib.hid (fun (W : World) (h : x.hi.rd W) => Bits_rd x.hi W h o.parts.2.1)
    rw [← hn1] at HB1
    rw [← hn2] at HB2
    have hS : ((w.alloc (.cells #[.bool x.lo.neg, .slice x.lo.a x.lo.xs.length x.lo.c, .int .i64 x.lo.e, .bool x.hi.neg, .slice x.hi.a x.hi.xs.length x.hi.c, .int .i64 x.hi.e, .bool false] 43)).cell? ⟨w.heap.size, 0, none⟩ = some (.bool x.lo.neg) ∧ (w.alloc (.cells #[.bool x.lo.neg, .slice x.lo.a x.lo.xs.length x.lo.c, .int .i64 x.lo.e, .bool x.hi.neg, .slice x.hi.a x.hi.xs.length x.hi.c, .int .i64 x.hi.e, .bool false] 43)).cell? ⟨w.heap.size, 1, none⟩ = some (.slice x.lo.a x.lo.xs.length x.lo.c) ∧ (w.alloc (.cells #[.bool x.lo.neg, .slice x.lo.a x.lo.xs.length x.lo.c, .int .i64 x.lo.e, .bool x.hi.neg, .slice x.hi.a x.hi.xs.length x.hi.c, .int .i64 x.hi.e, .bool false] 43)).cell? ⟨w.heap.size, 2, none⟩ = some (.int .i64 x.lo.e) ∧ (w.alloc (.cells #[.bool x.lo.neg, .slice x.lo.a x.lo.xs.length x.lo.c, .int .i64 x.lo.e, .bool x.hi.neg, .slice x.hi.a x.hi.xs.length x.hi.c, .int .i64 x.hi.e, .bool false] 43)).cell? ⟨w.heap.size, 3, none⟩ = some (.bool x.hi.neg) ∧ (w.alloc (.cells #[.bool x.lo.neg, .slice x.lo.a x.lo.xs.length x.lo.c, .int .i64 x.lo.e, .bool x.hi.neg, .slice x.hi.a x.hi.xs.length x.hi.c, .int .i64 x.hi.e, .bool false] 43)).cell? ⟨w.heap.size, 4, none⟩ = some (.slice x.hi.a x.hi.xs.length x.hi.c) ∧ (w.alloc (.cells #[.bool x.lo.neg, .slice x.lo.a x.lo.xs.length x.lo.c, .int .i64 x.lo.e, .bool x.hi.neg, .slice x.hi.a x.hi.xs.length x.hi.c, .int .i64 x.hi.e, .bool false] 43)).cell? ⟨w.heap.size, 5, none⟩ = some (.int .i64 x.hi.e) ∧ (w.alloc (.cells #[.bool x.lo.neg, .slice x.lo.a x.lo.xs.length x.lo.c, .int .i64 x.lo.e, .bool x.hi.neg, .slice x.hi.a x.hi.xs.length x.hi.c, .int .i64 x.hi.e, .bool false] 43)).cell? ⟨w.heap.size, 6, none⟩ = some (.bool false)) := by simp
    rw [ha] at k1 hb1 HL
    clear hx hv ha hb o o1 hn1 hn2
    go_enter Tryz.func45, Tryz.ntmps45
    go_upto_region 1 with fail
    generalize w.alloc _ = W at *
    have kd := (Kp.refl W).drew
    have hk := k1.trans kd
    have hSS := keepF8 kd ⟨hS, hb1⟩
    clear hS hb1 k1
    by_cases hp1 : p < n1
    · have H1 := Lib.hid (show manyI p x = true by rw [H.out, decide_eq_true hp1]; rfl)
      clear H HB2
      first
        | go_region_with
            (first
              | (go_at_call 46; go_fit (HB1.out _ HL.out.1); rintro e w1 ⟨rfl, hk4⟩; have hS4 := keepF8 hk4 hSS)
              | fail)
        | fail
      all_goals
        go_wp2_with fail
        go_ret
        exact ⟨ret_bool H1.out.symm, hk.trans hk4⟩
    · have H1 := Lib.hid (show manyI p x = decide (p < n2) by rw [H.out, decide_eq_false hp1]; rfl)
      clear H
      first
        | go_region_with
            (first
              | (go_at_call 46; go_fit (HB1.out _ HL.out.1); rintro e w1 ⟨rfl, hk4⟩; have hS4 := keepF8 hk4 hSS)
              | (go_at_call 46; go_fit (HB2.out _ (HL.out.2.1.kp hk4)); rintro e w2 ⟨rfl, hk5⟩; have hS5 := keepF8 hk5 hS4)
              | fail)
        | fail
      all_goals
        go_wp2_with fail
        go_ret
        exact ⟨ret_bool H1.out.symm, (hk.trans hk4).trans hk5⟩
/-- the rows' closure -/
theorem few_any (r : List RI) (a : Option Addr) (c p b : Nat) (w : World) (hr : RowI w a r) (hl : r.length ≤ 1100000) (hv : ∀ x ∈ r, x.vl = true) (hb : w.cell? ⟨b, 0, none⟩ = some (.int .i64 (p : Int))) :
    Calls Tryz.prog 44 #[.slice a r.length c, .pointer (some ⟨b, 0, none⟩)] w fun e w' => e = .returned (.bool (r.any (manyI p))) ∧ Kp w w' := by
  have hp : AnsI Tryz.prog 45 #[.pointer (some ⟨b, 0, none⟩)] w r (manyI p) := ⟨fun _ _ => by kernel_rfl, fun x hx w1 k => few1_any x p b w1 ((hr.rdI hx).kp k) (hv x hx) (k.cell hb)⟩
  have HC := Lib.hid (containsI a r c _ _ w _ hl hr hp)
  clear hp hr hv
  go_enter Tryz.func44, Tryz.ntmps44
  go_wp2_with fail
  go_fit HC.out
  rintro e w1 ⟨rfl, k1⟩
  go_wp2_with fail
  go_ret
  exact ⟨rfl, k1⟩
end Go.Proofs.YtdidocdpjiiedaaGreatDoor
