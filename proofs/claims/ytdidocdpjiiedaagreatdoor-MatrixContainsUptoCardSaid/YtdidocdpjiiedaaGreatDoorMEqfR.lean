/-
  Walks: slices.EqualFunc at [][]api.Interval, [][]api.Interval.
  Walks: the law's same.
  Plain: what a table's rows and cells are; sums of products of equal terms; no program in sight.
-/
import Derived.Test.YtdidocdpjiiedaaGreatDoorMIvE
import Derived.Test.YtdidocdpjiiedaaGreatDoorMIncP
import Derived.Test.YtdidocdpjiiedaaGreatDoorMIvMl
import Derived.Test.YtdidocdpjiiedaaGreatDoorMSpare
import Derived.Test.YtdidocdpjiiedaaGreatDoorMRoAdd
section
namespace Go.Proofs.YtdidocdpjiiedaaGreatDoor
open Go.RowKit

/-- equally long, and alike by p -/
def allRR (p : List RI → List RI → Bool) (zs : List (List RI)) (ys : List (List RI)) : Bool := decide (zs.length = ys.length) && (zs.zip ys).all fun q => p q.1 q.2
theorem allRR_true {p : List RI → List RI → Bool} {zs : List (List RI)} {ys : List (List RI)} : allRR p zs ys = true ↔ zs.length = ys.length ∧ ∀ (i : Nat) (x : List RI) (y : List RI), zs[i]? = some x → ys[i]? = some y → p x y = true := by
  unfold allRR
  rw [Bool.and_eq_true, decide_eq_true_eq, List.all_eq_true]
  refine and_congr_right fun hl => ⟨fun h i x y hx hy => ?_, fun h q hq => ?_⟩
  · refine h (x, y) (List.mem_of_getElem? (i := i) ?_)
    rw [List.getElem?_zip_eq_some]; exact ⟨hx, hy⟩
  · obtain ⟨i, hi⟩ := List.getElem?_of_mem hq
    have hi2 := List.getElem?_zip_eq_some.1 hi
    exact h i _ _ hi2.1 hi2.2
theorem allRR_false {p : List RI → List RI → Bool} {zs : List (List RI)} {ys : List (List RI)} {i : Nat} {x : List RI} {y : List RI} (hx : zs[i]? = some x) (hy : ys[i]? = some y) (h : p x y = false) : allRR p zs ys = false := by
  cases ha : allRR p zs ys with
  | false => rfl
  | true => rw [(allRR_true.1 ha).2 i x y hx hy] at h; cases h
/-- the function g answers p at each two elements, in whatever later world, and keeps all that was there -/
def AnsRR (P : Program) (g : FuncId) (cap : Array Value) (w : World) (zs : List (List RI)) (ys : List (List RI)) (p : List RI → List RI → Bool) : Prop :=
  Enters P g ∧ ∀ x, x ∈ zs → ∀ y, y ∈ ys → ∀ a c a2 c2 w1, Kp w w1 → (RowI w1 a x ∧ x.length ≤ 1100000) → (RowI w1 a2 y ∧ y.length ≤ 1100000) → Calls P g (#[.slice a x.length c, .slice a2 y.length c2] ++ cap) w1 fun e w2 => e = .returned (.bool (p x y)) ∧ Kp w1 w2

set_option maxHeartbeats 4000000 in
theorem eqfRR (a b' : Option Addr) (zs : List (List RI)) (ys : List (List RI)) (c d : Nat) (g : FuncId) (cap : Array Value) (w : World) (p : List RI → List RI → Bool) (hm : zs.length ≤ 1100000) (h : RowM w a zs) (h' : RowM w b' ys) (hp : AnsRR Tryz.prog g cap w zs ys p) :
    Calls Tryz.prog 68 #[.slice a zs.length c, .slice b' ys.length d, .func (.func g) #[] cap] w fun e w' => e = .returned (.bool (allRR p zs ys)) ∧ Kp w w' := by
  go_enter Tryz.func68, Tryz.ntmps68
  by_cases hlen : zs.length = ys.length
  · have Hlen := Lib.hid hlen
    rw [← hlen]
    clear hlen
    go_wp2
    go_loopw [17] (fun x wr => ∃ k : Nat, k ≤ zs.length ∧ x = .int .i64 k ∧ (∀ (i : Nat) (x : List RI) (y : List RI), zs[i]? = some x → ys[i]? = some y → i < k → p x y = true) ∧ Kp w wr) (fun x _ => zs.length - (intOf x).toNat)
    case atStart => exact ⟨0, by omega, rfl, fun i x y _ _ h1 => by omega, .refl _⟩
    case round =>
      obtain ⟨k, hk, rfl, hz, hkp⟩ := hrel
      have Hz := Lib.hid hz; clear hz
      by_cases hlt : k < zs.length
      · have hlt2 : k < ys.length := by have := Hlen.out; omega
        obtain ⟨b, o, ra, rc, rfl, h0, hrow⟩ := (h.kp hkp) k (zs[k]) (List.getElem?_eq_getElem hlt)
        obtain ⟨b2, o2, ra2, rc2, rfl, j0, hrow2⟩ := (h'.kp hkp) k (ys[k]) (List.getElem?_eq_getElem hlt2)
        have Hg := Lib.hid (List.getElem?_eq_getElem hlt)
        have Hg2 := Lib.hid (List.getElem?_eq_getElem hlt2)
        have hgo : ∀ args w, (callFunc g args).run Tryz.prog w = .ok (.enter g args) w := hp.1
        have hcall := hp.2 _ (List.getElem_mem hlt) _ (List.getElem_mem hlt2) ra rc ra2 rc2 wr hkp hrow hrow2
        clear hp h h' hrow hrow2
        generalize zs[k] = x at *
        generalize ys[k] = y at *
        clear hlt2
        cases hq : p x y with
        | true =>
          rw [hq] at hcall
          have Hc := Lib.hid hcall
          have Hq := Lib.hid hq
          clear hcall hq
          go_wp2_with (refine Hc.out.mono ?_; rintro e w2 ⟨rfl, hk2⟩)
          go_roundw
          case rel =>
            refine ⟨k + 1, by omega, by go_num, fun i x' y' hx hy hi => ?_, hkp.trans hk2⟩
            by_cases h : i = k
            · subst h; rw [Hg.out] at hx; rw [Hg2.out] at hy; cases hx; cases hy; exact Hq.out
            · exact Hz.out i x' y' hx hy (by omega)
          case measure => simp [intOf]; omega
        | false =>
          rw [hq] at hcall
          have Hc := Lib.hid hcall
          have Hq := Lib.hid (allRR_false Hg.out Hg2.out hq)
          clear hcall hq
          go_wp2_with (refine Hc.out.mono ?_; rintro e w2 ⟨rfl, hk2⟩)
          go_ret
          exact ⟨ret_bool Hq.out.symm, hkp.trans hk2⟩
      · have Hthis := Lib.hid (allRR_true.2 ⟨Hlen.out, fun i x y hx hy => Hz.out i x y hx hy (by have := (List.getElem?_eq_some_iff.1 hx).1; omega)⟩)
        go_wp2
        go_ret
        exact ⟨ret_bool Hthis.out.symm, hkp⟩
  · have hl2 : ((zs.length : Int) == (ys.length : Int)) = false := beq_eq_false_iff_ne.2 (by omega)
    have H := Lib.hid (show allRR p zs ys = false by unfold allRR; rw [decide_eq_false hlen]; rfl)
    clear hlen
    go_wp2
    go_ret
    exact ⟨ret_bool H.out.symm, .refl _⟩
end Go.Proofs.YtdidocdpjiiedaaGreatDoor
end

section
namespace Go.Proofs.YtdidocdpjiiedaaGreatDoor
open Go.RowKit

set_option maxHeartbeats 1000000 in
theorem same7row_any (zs ys : List RI) (a b : Option Addr) (c d : Nat) (w : World) (hz : RowI w a zs) (hy : RowI w b ys) (hl : zs.length ≤ 1100000) :
    Calls Tryz.prog 69 #[.slice a zs.length c, .slice b ys.length d] w fun e w' => e = .returned (.bool (allII oneR zs ys)) ∧ Kp w w' := by
  have hp : AnsII Tryz.prog 25 #[] w zs ys oneR :=
    ⟨fun _ _ => by kernel_rfl, fun x hx y hy' w1 k => one7_any x y w1 ((hz.rdI hx).kp k) ((hy.rdI hy').kp k)⟩
  have HC := Lib.hid (eqfII a b zs ys c d _ _ w oneR hl hz hy hp)
  clear hp hz hy
  go_enter Tryz.func69, Tryz.ntmps69
  go_wp2_with fail
  go_fit HC.out
  rintro e w1 ⟨rfl, k1⟩
  go_wp2_with fail
  go_ret
  exact ⟨rfl, k1⟩
/-- equal elements -/
def sameM (m n : List (List RI)) : Bool := allRR (allII oneR) m n
set_option maxHeartbeats 1000000 in
theorem same7mat_any (m n : List (List RI)) (a b : Option Addr) (c d : Nat) (w : World) (hm : RowM w a m) (hn : RowM w b n) (hl : m.length ≤ 1100000) :
    Calls Tryz.prog 19 #[.slice a m.length c, .slice b n.length d] w fun e w' => e = .returned (.bool (sameM m n)) ∧ Kp w w' := by
  have hp : AnsRR Tryz.prog 69 #[] w m n (allII oneR) :=
    ⟨fun _ _ => by kernel_rfl, fun x hx y hy a1 c1 a2 c2 w1 k h1 h2 => same7row_any x y a1 a2 c1 c2 w1 h1.1 h2.1 h1.2⟩
  have HC := Lib.hid (eqfRR a b m n c d _ _ w (allII oneR) hl hm hn hp)
  clear hp hm hn
  go_enter Tryz.func19, Tryz.ntmps19
  go_wp2_with fail
  go_fit HC.out
  rintro e w1 ⟨rfl, k1⟩
  go_wp2_with fail
  go_ret
  exact ⟨rfl, k1⟩
/-- matrices of the same numbers, all valid, have equal elements -/
theorem sameM_pl {w w' : World} {a b : Option Addr} {m n : List (List RI)} (hm : RowM w a m) (hn : RowM w' b n) (om : okM m) (on : okM n) (h : plM m = plM n) : sameM m n = true := by
  have hl : m.length = n.length := by have := congrArg List.length h; simpa [plM] using this
  refine allRR_true.2 ⟨hl, fun i x y hx hy => ?_⟩
  obtain ⟨_, _, _, _, _, _, rx, _⟩ := hm i x hx
  obtain ⟨_, _, _, _, _, _, ry, _⟩ := hn i y hy
  have hr : plR x = plR y := by
    have h1 : (plM m)[i]? = (plM n)[i]? := by rw [h]
    simpa [plM, hx, hy] using h1
  have hl2 : x.length = y.length := by have := congrArg List.length hr; simpa [plR] using this
  refine allII_true.2 ⟨hl2, fun j u v hu hv => ?_⟩
  have hp : u.pl = v.pl := by
    have h1 : (plR x)[j]? = (plR y)[j]? := by rw [hr]
    simpa [plR, hu, hv] using h1
  exact oneR_pl (rx.rdI (List.mem_of_getElem? hu)) (ry.rdI (List.mem_of_getElem? hv)) (om x (List.mem_of_getElem? hx) u (List.mem_of_getElem? hu)) (on y (List.mem_of_getElem? hy) v (List.mem_of_getElem? hv)) hp
end Go.Proofs.YtdidocdpjiiedaaGreatDoor
end

section
namespace Go.Proofs.YtdidocdpjiiedaaGreatDoor
open Go.RowKit

theorem tab_len {Z : List (List RI)} {r c : Nat} {F : Nat → Nat → PI} (h : plM Z = tabM r c F) : Z.length = r := by
  have := congrArg List.length h; simpa [plM, tabM] using this
theorem tab_row {Z : List (List RI)} {r c : Nat} {F : Nat → Nat → PI} (h : plM Z = tabM r c F) {i : Nat} (hi : i < r) : ∃ x, Z[i]? = some x ∧ plR x = rowF c (F i) := by
  have hl := tab_len h
  have hi2 : i < Z.length := by omega
  refine ⟨_, List.getElem?_eq_getElem hi2, ?_⟩
  have := congrArg (fun l => l[i]?) h
  simpa [plM, tabM, List.getElem?_eq_getElem hi2, hi] using this
theorem tab_cell {Z : List (List RI)} {r c : Nat} {F : Nat → Nat → PI} (h : plM Z = tabM r c F) {i j : Nat} (hi : i < r) (hj : j < c) : ∃ x y, Z[i]? = some x ∧ x.length = c ∧ x[j]? = some y ∧ y.pl = F i j := by
  obtain ⟨x, hx, hp⟩ := tab_row h hi
  have hl : x.length = c := by have := congrArg List.length hp; simpa [plR, rowF] using this
  have hj2 : j < x.length := by omega
  refine ⟨x, _, hx, hl, List.getElem?_eq_getElem hj2, ?_⟩
  have := congrArg (fun l => l[j]?) hp
  simpa [plR, rowF, List.getElem?_eq_getElem hj2, hj] using this
theorem atP_tab {Z : List (List RI)} {r c : Nat} {F : Nat → Nat → PI} (h : plM Z = tabM r c F) {i j : Nat} (hi : i < r) (hj : j < c) : atP Z i j = F i j := by
  obtain ⟨x, y, hx, _, hy, hp⟩ := tab_cell h hi hj
  rw [atP_eq hx hy, hp]
theorem colsM_tab {Z : List (List RI)} {r c : Nat} {F : Nat → Nat → PI} (h : plM Z = tabM r c F) (hr : 1 ≤ r) : colsM Z = c := by
  obtain ⟨x, hx, hp⟩ := tab_row h (i := 0) (by omega)
  have hl : x.length = c := by have := congrArg List.length hp; simpa [plR, rowF] using this
  unfold colsM
  cases Z with
  | nil => simp at hx
  | cons z Z => simp at hx; subst hx; simpa using hl
theorem tabM_congr {r c : Nat} {F G : Nat → Nat → PI} (h : ∀ i j, i < r → j < c → F i j = G i j) : tabM r c F = tabM r c G := by
  unfold tabM rowF
  refine List.map_congr_left fun i hi => List.map_congr_left fun j hj => h i j (List.mem_range.1 hi) (List.mem_range.1 hj)
theorem dotF_congr {p : Nat} {f f' g g' : Nat → PI} : ∀ n, (∀ t, t ≤ n → f t = f' t ∧ g t = g' t) → dotF p f g n = dotF p f' g' n
  | 0, h => by
    show pMul _ _ p = pMul _ _ p
    rw [(h 0 (Nat.le_refl 0)).1, (h 0 (Nat.le_refl 0)).2]
  | n + 1, h => by
    show pAdd _ _ p = pAdd _ _ p
    rw [dotF_congr n fun t ht => h t (by omega), (h (n + 1) (Nat.le_refl _)).1, (h (n + 1) (Nat.le_refl _)).2]
end Go.Proofs.YtdidocdpjiiedaaGreatDoor
end
