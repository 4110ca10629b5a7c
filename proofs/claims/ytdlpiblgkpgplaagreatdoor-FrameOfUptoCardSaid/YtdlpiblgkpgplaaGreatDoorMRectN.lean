/-
  Walks: matrix.rectangular of numbers.
-/
import Derived.Deep.DeepFit
import Derived.Laws.EntriesVeiled
import Derived.Test.YtdlpiblgkpgplaaGreatDoorMIvF
import Derived.Test.YtdlpiblgkpgplaaGreatDoorMCmpD
import Derived.Test.YtdlpiblgkpgplaaGreatDoorMDyD
namespace Go.Proofs.YtdlpiblgkpgplaaGreatDoor
open Go.RowKit

/-- the columns of a matrix of numbers -/
def colsN (m : List (List RD)) : Nat := (m.headD []).length
/-- a valid matrix of numbers -/
def vlN (m : List (List RD)) : Bool := decide (1 ≤ m.length ∧ m.length ≤ 8) && (decide (1 ≤ colsN m ∧ colsN m ≤ 8) && m.all fun r => decide (r.length = colsN m) && r.all RD.vl)
theorem vlN_iff {m : List (List RD)} : vlN m = true ↔ (1 ≤ m.length ∧ m.length ≤ 8) ∧ (1 ≤ colsN m ∧ colsN m ≤ 8) ∧ ∀ r ∈ m, r.length = colsN m ∧ ∀ x ∈ r, x.vl = true := by
  unfold vlN
  simp only [Bool.and_eq_true, decide_eq_true_eq, List.all_eq_true]
theorem enters_DValid : Enters Tryz.prog 24 := fun _ _ => by kernel_rfl
theorem storeFN (a : Addr) (f : Fn) (ts cap : Array Value) (m : Mode) (w : World) : (store a (.func f ts cap) m).run Tryz.prog w = Go.stored Tryz.prog w a (.func f ts cap) m := run_store _ w a _ m rfl
set_option maxHeartbeats 2000000 in
theorem recn11_any (x : RD) (b : Nat) (w : World) (hx : x.rd w) (hf : w.cell? ⟨b, 0, none⟩ = some (.func (.func 24) #[] #[])) :
    Calls Tryz.prog 108 #[.agg #[.bool x.neg, .slice x.a x.xs.length x.c, .int .i64 x.e], .pointer (some ⟨b, 0, none⟩)] w fun e w' => e = .returned (.bool (!x.vl)) ∧ Kp w w' := by
  have hgo : ∀ args w, (callFunc 24 args).run Tryz.prog w = .ok (.enter 24 args) w := enters_DValid
  have k1 := (Kp.refl w).alloc (.cells #[.bool x.neg, .slice x.a x.xs.length x.c, .int .i64 x.e] 33)
  have hf1 := k1.cell hf
  have hlt := World.block_lt_of_cell? w _ hf
  clear hf
  go_enter Tryz.func108, Tryz.ntmps108
  go_wp2_with fail
  go_fit (Valid_raw x _ (hx.kp k1))
  rintro e w1 ⟨rfl, k2⟩
  cases hv : x.vl with
  | true =>
    go_wp2_with fail
    go_ret
    exact ⟨ret_bool (by rw [hv]; rfl), k1.trans k2⟩
  | false =>
    go_wp2_with fail
    go_ret
    exact ⟨ret_bool (by rw [hv]; rfl), k1.trans k2⟩
/-- a row that a valid matrix cannot have -/
def badN (m : List (List RD)) (r : List RD) : Bool := decide (r.length ≠ colsN m) || r.any fun x => !x.vl
theorem vlN_any (m : List (List RD)) : vlN m = (decide (1 ≤ m.length ∧ m.length ≤ 8) && (decide (1 ≤ colsN m ∧ colsN m ≤ 8) && !m.any (badN m))) := by
  unfold vlN
  congr 2
  rw [List.not_any_eq_all_not]
  congr 1
  funext r
  unfold badN
  rw [Bool.not_or, List.not_any_eq_all_not]
  simp
set_option maxHeartbeats 4000000 in
theorem recn1_any (m : List (List RD)) (r : List RD) (a ra : Option Addr) (c rc bm bo : Nat) (w : World) (hm : RowN w a m) (hm0 : 0 < m.length) (hl : m.length ≤ 1100000) (hr : RowD w ra r) (hrl : r.length ≤ 1100000)
    (h1 : w.cell? ⟨bm, 0, none⟩ = some (.slice a m.length c)) (h2 : w.cell? ⟨bo, 0, none⟩ = some (.func (.func 24) #[] #[])) :
    Calls Tryz.prog 107 #[.slice ra r.length rc, .pointer (some ⟨bm, 0, none⟩), .pointer (some ⟨bo, 0, none⟩)] w fun e w' => e = .returned (.bool (badN m r)) ∧ Kp w w' := by
  obtain ⟨r0, h0⟩ : ∃ r0, m[0]? = some r0 := ⟨_, List.getElem?_eq_getElem hm0⟩
  have hc0 : colsN m = r0.length := by
    unfold colsN
    cases m with
    | nil => simp at hm0
    | cons x t => simp at h0; subst h0; rfl
  obtain ⟨b, o, ra0, rc0, rfl, hcell, _, hl0⟩ := hm 0 r0 h0
  rw [Nat.add_zero] at hcell
  have HB := Lib.hid (show badN m r = (decide (r.length ≠ r0.length) || r.any fun x => !x.vl) by unfold badN; rw [hc0])
  have hp : AnsD Tryz.prog 108 #[.pointer (some ⟨bo, 0, none⟩)] w r (fun x => !x.vl) := ⟨fun _ _ => by kernel_rfl, fun x hx w1 k => recn11_any x bo w1 ((hr.rd hx).kp k) (k.cell h2)⟩
  have hcn := containsD ra r rc _ _ w _ hrl hr hp
  have HC := Lib.hid hcn
  have hi0 : (0 : Int) < (m.length : Int) := by omega
  clear hm hm0 hc0 h0 hp hcn hr
  by_cases hlen : r.length = r0.length
  · have hne : ((r.length : Int) != (r0.length : Int)) = false := by rw [hlen]; simp
    have HB2 := Lib.hid (show badN m r = r.any (fun x => !x.vl) by rw [HB.out, decide_eq_false (by simpa using hlen)]; rfl)
    clear hlen HB
    go_enter Tryz.func107, Tryz.ntmps107
    go_wp2_with fail
    go_fit HC.out
    rintro e w1 ⟨rfl, k1⟩
    go_wp2_with fail
    go_ret
    exact ⟨ret_bool HB2.out.symm, k1⟩
  · have hne : ((r.length : Int) != (r0.length : Int)) = true := by simpa using (by omega : ¬ (r.length : Int) = (r0.length : Int))
    have HB2 := Lib.hid (show badN m r = true by rw [HB.out, decide_eq_true (by simpa using hlen)]; rfl)
    clear hlen HB
    go_enter Tryz.func107, Tryz.ntmps107
    go_wp2_with fail
    go_ret
    exact ⟨ret_bool HB2.out.symm, .refl _⟩
set_option maxHeartbeats 4000000 in
theorem recn_any (a : Option Addr) (m : List (List RD)) (c : Nat) (w : World) (hm : RowN w a m) (hl : m.length ≤ 1100000) :
    Calls Tryz.prog 76 #[.slice a m.length c, .func (.func 24) #[] #[]] w fun e w' => e = .returned (.bool (vlN m)) ∧ Kp w w' := by
  have HV := Lib.hid (vlN_any m)
  have hsf := storeFN
  rcases Nat.eq_zero_or_pos m.length with hz | hpos
  · have H := Lib.hid (show vlN m = false by rw [HV.out, hz]; rfl)
    rw [hz]
    clear hz HV
    go_enter Tryz.func76, Tryz.ntmps76
    go_wp2_with fail
    go_ret
    exact ⟨ret_bool H.out.symm, ((Kp.refl w).alloc _).alloc _⟩
  · have hn1 : ¬ (m.length : Int) < 1 := by omega
    by_cases h8 : 8 < m.length
    · have H := Lib.hid (show vlN m = false by rw [HV.out, decide_eq_false (by omega)]; rfl)
      have hn2 : (8 : Int) < (m.length : Int) := by omega
      clear h8 HV hpos
      go_enter Tryz.func76, Tryz.ntmps76
      go_wp2_with fail
      go_ret
      exact ⟨ret_bool H.out.symm, ((Kp.refl w).alloc _).alloc _⟩
    · have hn2 : ¬ (8 : Int) < (m.length : Int) := by omega
      have hn3 : (0 : Int) < (m.length : Int) := by omega
      obtain ⟨r0, h0⟩ : ∃ r0, m[0]? = some r0 := ⟨_, List.getElem?_eq_getElem hpos⟩
      have hc0 : colsN m = r0.length := by
        unfold colsN
        cases m with
        | nil => simp at hpos
        | cons x t => simp at h0; subst h0; rfl
      obtain ⟨b, o, ra0, rc0, rfl, hcell, _, hl0⟩ := hm 0 r0 h0
      rw [Nat.add_zero] at hcell
      have HV1 := Lib.hid (show vlN m = (decide (1 ≤ r0.length ∧ r0.length ≤ 8) && !m.any (badN m)) by rw [HV.out, hc0, decide_eq_true (by omega)]; rfl)
      have hk2 := ((Kp.refl w).alloc (.cells #[.slice (some ⟨b, o, none⟩) m.length c] 23)).alloc (.cells #[.func (.func 24) #[] #[]] 53)
      have hcl := hk2.cell hcell
      have hlt := World.block_lt_of_cell? w _ hcell
      by_cases hz : r0.length = 0
      · have H := Lib.hid (show vlN m = false by rw [HV1.out, decide_eq_false (by omega)]; rfl)
        have g1 : (r0.length : Int) < 1 := by omega
        clear HV HV1 h0 hc0 hm hpos h8 hz
        go_enter Tryz.func76, Tryz.ntmps76
        go_wp2_with fail
        go_ret
        exact ⟨ret_bool H.out.symm, ((Kp.refl w).alloc _).alloc _⟩
      · have g1 : ¬ (r0.length : Int) < 1 := by omega
        by_cases h9 : 8 < r0.length
        · have H := Lib.hid (show vlN m = false by rw [HV1.out, decide_eq_false (by omega)]; rfl)
          have g2 : (8 : Int) < (r0.length : Int) := by omega
          clear HV HV1 h0 hc0 hm hpos h8 hz h9
          go_enter Tryz.func76, Tryz.ntmps76
          go_wp2_with fail
          go_ret
          exact ⟨ret_bool H.out.symm, ((Kp.refl w).alloc _).alloc _⟩
        · have g2 : ¬ (8 : Int) < (r0.length : Int) := by omega
          have H := Lib.hid (show vlN m = !m.any (badN m) by rw [HV1.out, decide_eq_true (by omega)]; rfl)
          have HM := Lib.hid hm
          have Hpos := Lib.hid hpos
          clear HV HV1 h0 hc0 hpos h8 hz h9 hm
          go_enter Tryz.func76, Tryz.ntmps76
          go_wp2_with fail
          have hA : AnsN Tryz.prog 107 #[.pointer (some ⟨w.heap.size, 0, none⟩), .pointer (some ⟨w.heap.size + 1, 0, none⟩)] ((w.alloc (.cells #[.slice (some ⟨b, o, none⟩) m.length c] 23)).alloc (.cells #[.func (.func 24) #[] #[]] 53)) m (badN m) := ⟨fun _ _ => by kernel_rfl, fun r hr ra rc w1 k hrow => recn1_any m r _ ra c rc _ _ w1 ((HM.out.kp hk2).kp k) Hpos.out hl hrow.1 hrow.2 (k.cell (by simp)) (k.cell (by simp))⟩
          go_fit (containsN _ m c _ _ _ (badN m) hl (HM.out.kp hk2) hA)
          rintro e w1 ⟨rfl, k1⟩
          go_wp2_with fail
          go_ret
          exact ⟨ret_bool H.out.symm, hk2.trans k1⟩
end Go.Proofs.YtdlpiblgkpgplaaGreatDoor
