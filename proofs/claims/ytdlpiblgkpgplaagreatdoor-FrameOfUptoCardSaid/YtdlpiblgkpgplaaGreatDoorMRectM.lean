/-
  Walks: matrix.precise, rectangular, Valid.
-/
import Derived.Deep.DeepFit
import Derived.Laws.EntriesVeiled
import Derived.Test.YtdlpiblgkpgplaaGreatDoorMSpare
import Derived.Test.YtdlpiblgkpgplaaGreatDoorMRoAdd
import Derived.Test.YtdlpiblgkpgplaaGreatDoorMDyD
namespace Go.Proofs.YtdlpiblgkpgplaaGreatDoor
open Go.RowKit

theorem mprecise_any (p : Int) (w : World) :
    Calls Tryz.prog 73 #[.int .i64 p] w fun e w' => e = .returned (.bool (preB p)) ∧ w = w' := by
  by_cases h1 : 8 ≤ p
  · by_cases h2 : p ≤ 512
    · have H := Lib.hid (show preB p = true from decide_eq_true ⟨h1, h2⟩)
      go_enter Tryz.func73, Tryz.ntmps73
      go_wp2_with fail
      go_ret
      exact ⟨ret_bool (by first | exact H.out.symm | (rw [H.out]; simp; omega)), rfl⟩
    · have H := Lib.hid (show preB p = false from decide_eq_false (by omega))
      go_enter Tryz.func73, Tryz.ntmps73
      go_wp2_with fail
      go_ret
      exact ⟨ret_bool (by first | exact H.out.symm | (rw [H.out]; simp; omega)), rfl⟩
  · have H := Lib.hid (show preB p = false from decide_eq_false (by omega))
    go_enter Tryz.func73, Tryz.ntmps73
    go_wp2_with fail
    go_ret
    exact ⟨ret_bool (by first | exact H.out.symm | (rw [H.out]; simp; omega)), rfl⟩
theorem enters_IValid : Enters Tryz.prog 43 := fun _ _ => by kernel_rfl
theorem storeF (a : Addr) (f : Fn) (ts cap : Array Value) (m : Mode) (w : World) : (store a (.func f ts cap) m).run Tryz.prog w = Go.stored Tryz.prog w a (.func f ts cap) m := run_store _ w a _ m rfl
set_option maxHeartbeats 2000000 in
theorem rect11_any (x : RI) (b : Nat) (w : World) (hx : x.rd w) (hf : w.cell? ⟨b, 0, none⟩ = some (.func (.func 43) #[] #[])) :
    Calls Tryz.prog 141 #[.agg #[.bool x.lo.neg, .slice x.lo.a x.lo.xs.length x.lo.c, .int .i64 x.lo.e, .bool x.hi.neg, .slice x.hi.a x.hi.xs.length x.hi.c, .int .i64 x.hi.e, .bool x.all], .pointer (some ⟨b, 0, none⟩)] w fun e w' => e = .returned (.bool (!x.vl)) ∧ Kp w w' := by
  have hgo : ∀ args w, (callFunc 43 args).run Tryz.prog w = .ok (.enter 43 args) w := enters_IValid
  have k1 := (Kp.refl w).alloc (.cells #[.bool x.lo.neg, .slice x.lo.a x.lo.xs.length x.lo.c, .int .i64 x.lo.e, .bool x.hi.neg, .slice x.hi.a x.hi.xs.length x.hi.c, .int .i64 x.hi.e, .bool x.all] 35)
  have hf1 := k1.cell hf
  have hlt := World.block_lt_of_cell? w _ hf
  clear hf
  go_enter Tryz.func141, Tryz.ntmps141
  go_wp2_with fail
  go_fit (IValid_raw x _ (hx.kp k1))
  rintro e w1 ⟨rfl, k2⟩
  cases hv : x.vl with
  | true =>
    go_wp2_with fail
    go_ret
    exact ⟨ret_bool (by rw [hv]; rfl), k1.trans k2⟩
  | false =>
    go_wp2_with fail
    go_ret
    exact ⟨ret_bool (by rw [hv]; rfl), k1.trans k2⟩
/-- a row that a valid matrix cannot have -/
def badR (m : List (List RI)) (r : List RI) : Bool := decide (r.length ≠ colsM m) || r.any fun x => !x.vl
theorem vlM_any (m : List (List RI)) : vlM m = (decide (1 ≤ m.length ∧ m.length ≤ 8) && (decide (1 ≤ colsM m ∧ colsM m ≤ 8) && !m.any (badR m))) := by
  unfold vlM
  congr 2
  rw [List.not_any_eq_all_not]
  congr 1
  funext r
  unfold badR
  rw [Bool.not_or, List.not_any_eq_all_not]
  simp
set_option maxHeartbeats 4000000 in
theorem rect1_any (m : List (List RI)) (r : List RI) (a ra : Option Addr) (c rc bm bo : Nat) (w : World) (hm : RowM w a m) (hm0 : 0 < m.length) (hl : m.length ≤ 1100000) (hr : RowI w ra r) (hrl : r.length ≤ 1100000)
    (h1 : w.cell? ⟨bm, 0, none⟩ = some (.slice a m.length c)) (h2 : w.cell? ⟨bo, 0, none⟩ = some (.func (.func 43) #[] #[])) :
    Calls Tryz.prog 140 #[.slice ra r.length rc, .pointer (some ⟨bm, 0, none⟩), .pointer (some ⟨bo, 0, none⟩)] w fun e w' => e = .returned (.bool (badR m r)) ∧ Kp w w' := by
  obtain ⟨r0, h0⟩ : ∃ r0, m[0]? = some r0 := ⟨_, List.getElem?_eq_getElem hm0⟩
  have hc0 : colsM m = r0.length := by
    unfold colsM
    cases m with
    | nil => simp at hm0
    | cons x t => simp at h0; subst h0; rfl
  obtain ⟨b, o, ra0, rc0, rfl, hcell, _, hl0⟩ := hm 0 r0 h0
  rw [Nat.add_zero] at hcell
  have HB := Lib.hid (show badR m r = (decide (r.length ≠ r0.length) || r.any fun x => !x.vl) by unfold badR; rw [hc0])
  have hp : AnsI Tryz.prog 141 #[.pointer (some ⟨bo, 0, none⟩)] w r (fun x => !x.vl) := ⟨fun _ _ => by kernel_rfl, fun x hx w1 k => rect11_any x bo w1 ((hr.rdI hx).kp k) (k.cell h2)⟩
  have hcn := containsI ra r rc _ _ w _ hrl hr hp
  have HC := Lib.hid hcn
  have hi0 : (0 : Int) < (m.length : Int) := by omega
  clear hm hm0 hc0 h0 hp hcn hr
  by_cases hlen : r.length = r0.length
  · have hne : ((r.length : Int) != (r0.length : Int)) = false := by rw [hlen]; simp
    have HB2 := Lib.hid (show badR m r = r.any (fun x => !x.vl) by rw [HB.out, decide_eq_false (by simpa using hlen)]; rfl)
    clear hlen HB
    go_enter Tryz.func140, Tryz.ntmps140
    go_wp2_with fail
    go_fit HC.out
    rintro e w1 ⟨rfl, k1⟩
    go_wp2_with fail
    go_ret
    exact ⟨ret_bool HB2.out.symm, k1⟩
  · have hne : ((r.length : Int) != (r0.length : Int)) = true := by simpa using (by omega : ¬ (r.length : Int) = (r0.length : Int))
    have HB2 := Lib.hid (show badR m r = true by rw [HB.out, decide_eq_true (by simpa using hlen)]; rfl)
    clear hlen HB
    go_enter Tryz.func140, Tryz.ntmps140
    go_wp2_with fail
    go_ret
    exact ⟨ret_bool HB2.out.symm, .refl _⟩
set_option maxHeartbeats 4000000 in
theorem rect_any (a : Option Addr) (m : List (List RI)) (c : Nat) (w : World) (hm : RowM w a m) (hl : m.length ≤ 1100000) :
    Calls Tryz.prog 105 #[.slice a m.length c, .func (.func 43) #[] #[]] w fun e w' => e = .returned (.bool (vlM m)) ∧ Kp w w' := by
  have HV := Lib.hid (vlM_any m)
  have hsf := storeF
  rcases Nat.eq_zero_or_pos m.length with hz | hpos
  · have H := Lib.hid (show vlM m = false by rw [HV.out, hz]; rfl)
    rw [hz]
    clear hz HV
    go_enter Tryz.func105, Tryz.ntmps105
    go_wp2_with fail
    go_ret
    exact ⟨ret_bool H.out.symm, ((Kp.refl w).alloc _).alloc _⟩
  · have hn1 : ¬ (m.length : Int) < 1 := by omega
    by_cases h8 : 8 < m.length
    · have H := Lib.hid (show vlM m = false by rw [HV.out, decide_eq_false (by omega)]; rfl)
      have hn2 : (8 : Int) < (m.length : Int) := by omega
      clear h8 HV hpos
      go_enter Tryz.func105, Tryz.ntmps105
      go_wp2_with fail
      go_ret
      exact ⟨ret_bool H.out.symm, ((Kp.refl w).alloc _).alloc _⟩
    · have hn2 : ¬ (8 : Int) < (m.length : Int) := by omega
      have hn3 : (0 : Int) < (m.length : Int) := by omega
      obtain ⟨r0, h0⟩ : ∃ r0, m[0]? = some r0 := ⟨_, List.getElem?_eq_getElem hpos⟩
      have hc0 : colsM m = r0.length := by
        unfold colsM
        cases m with
        | nil => simp at hpos
        | cons x t => simp at h0; subst h0; rfl
      obtain ⟨b, o, ra0, rc0, rfl, hcell, _, hl0⟩ := hm 0 r0 h0
      rw [Nat.add_zero] at hcell
      have HV1 := Lib.hid (show vlM m = (decide (1 ≤ r0.length ∧ r0.length ≤ 8) && !m.any (badR m)) by rw [HV.out, hc0, decide_eq_true (by omega)]; rfl)
      have hk2 := ((Kp.refl w).alloc (.cells #[.slice (some ⟨b, o, none⟩) m.length c] 60)).alloc (.cells #[.func (.func 43) #[] #[]] 57)
      have hcl := hk2.cell hcell
      have hlt := World.block_lt_of_cell? w _ hcell
      by_cases hz : r0.length = 0
      · have H := Lib.hid (show vlM m = false by rw [HV1.out, decide_eq_false (by omega)]; rfl)
        have g1 : (r0.length : Int) < 1 := by omega
        clear HV HV1 h0 hc0 hm hpos h8 hz
        go_enter Tryz.func105, Tryz.ntmps105
        go_wp2_with fail
        go_ret
        exact ⟨ret_bool H.out.symm, ((Kp.refl w).alloc _).alloc _⟩
      · have g1 : ¬ (r0.length : Int) < 1 := by omega
        by_cases h9 : 8 < r0.length
        · have H := Lib.hid (show vlM m = false by rw [HV1.out, decide_eq_false (by omega)]; rfl)
          have g2 : (8 : Int) < (r0.length : Int) := by omega
          clear HV HV1 h0 hc0 hm hpos h8 hz h9
          go_enter Tryz.func105, Tryz.ntmps105
          go_wp2_with fail
          go_ret
          exact ⟨ret_bool H.out.symm, ((Kp.refl w).alloc _).alloc _⟩
        · have g2 : ¬ (8 : Int) < (r0.length : Int) := by omega
          have H := Lib.hid (show vlM m = !m.any (badR m) by rw [HV1.out, decide_eq_true (by omega)]; rfl)
          have HM := Lib.hid hm
          have Hpos := Lib.hid hpos
          clear HV HV1 h0 hc0 hpos h8 hz h9 hm
          go_enter Tryz.func105, Tryz.ntmps105
          go_wp2_with fail
          have hA : AnsR Tryz.prog 140 #[.pointer (some ⟨w.heap.size, 0, none⟩), .pointer (some ⟨w.heap.size + 1, 0, none⟩)] ((w.alloc (.cells #[.slice (some ⟨b, o, none⟩) m.length c] 60)).alloc (.cells #[.func (.func 43) #[] #[]] 57)) m (badR m) := ⟨fun _ _ => by kernel_rfl, fun r hr ra rc w1 k hrow => rect1_any m r _ ra c rc _ _ w1 ((HM.out.kp hk2).kp k) Hpos.out hl hrow.1 hrow.2 (k.cell (by simp)) (k.cell (by simp))⟩
          go_fit (containsR _ m c _ _ _ (badR m) hl (HM.out.kp hk2) hA)
          rintro e w1 ⟨rfl, k1⟩
          go_wp2_with fail
          go_ret
          exact ⟨ret_bool H.out.symm, hk2.trans k1⟩
set_option maxHeartbeats 1000000 in
/-- matrix.Valid -/
theorem mvalid_any (a : Option Addr) (m : List (List RI)) (c : Nat) (w : World) (hm : RowM w a m) (hl : m.length ≤ 1100000) :
    Calls Tryz.prog 71 #[.slice a m.length c] w fun e w' => e = .returned (.bool (vlM m)) ∧ Kp w w' := by
  have H := Lib.hid (rect_any a m c w hm hl)
  clear hm
  go_enter Tryz.func71, Tryz.ntmps71
  go_wp2_with fail
  go_fit H.out
  rintro e w1 ⟨rfl, k1⟩
  go_wp2_with fail
  go_ret
  exact ⟨rfl, k1⟩
end Go.Proofs.YtdlpiblgkpgplaaGreatDoor
