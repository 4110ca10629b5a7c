/-
  Walks: the law MatrixNorms.
  Walks: slices.EqualFunc at [][]api.Interval, [][]api.Interval.
  Walks: the law's same.
  Plain: what a table's rows and cells are; sums of products of equal terms; no program in sight.
  Walks: interval.Inside of any valid intervals, matrix.Inside.
  Plain: powers of a square matrix of intervals; no program in sight.
  Walks: matrix.Pow.
-/
import Derived.Test.YtdidocdpjiiedaaGreatDoorMAwk7
import Derived.Test.YtdidocdpjiiedaaGreatDoorMR7N
import Derived.Test.YtdidocdpjiiedaaGreatDoorMIvF
import Derived.Test.YtdidocdpjiiedaaGreatDoorMIncP
import Derived.Test.YtdidocdpjiiedaaGreatDoorMIvMl
import Derived.Test.YtdidocdpjiiedaaGreatDoorMSpare
import Derived.Test.YtdidocdpjiiedaaGreatDoorMRoAdd
import Derived.Test.YtdidocdpjiiedaaGreatDoorMCmpD
import Derived.Test.YtdidocdpjiiedaaGreatDoorMRectM
import Derived.Test.YtdidocdpjiiedaaGreatDoorMIvS
import Derived.Test.YtdidocdpjiiedaaGreatDoorMR7V
import Derived.Test.YtdidocdpjiiedaaGreatDoorMMulN
import Derived.Deep.LoopGhost
import Derived.Deep.DeepFit
import Derived.Test.YtdidocdpjiiedaaGreatDoorMEchM
import Derived.Test.YtdidocdpjiiedaaGreatDoorMIvH
section
namespace Go.Proofs.YtdidocdpjiiedaaGreatDoor
open Go.RowKit

theorem rowT_one {w : World} {a : Option Addr} {m : List (List RI)} {c : Nat} (h : RowM w a m) (hl : m.length ≤ 1100000) (t : TypeId) : RowT (w.alloc (.cells #[.slice a m.length c] t)) (some ⟨w.heap.size, 0, none⟩) [m] := by
  intro i r hi
  match i with
  | 0 =>
    simp only [List.getElem?_cons_zero, Option.some.injEq] at hi
    subst hi
    exact ⟨_, 0, a, c, rfl, by simp, h.kp ((Kp.refl w).alloc _), hl⟩
  | i + 1 => simp at hi
end Go.Proofs.YtdidocdpjiiedaaGreatDoor
end

section
namespace Go.Proofs.YtdidocdpjiiedaaGreatDoor
open Go.RowKit

/-- equally long, and alike by p -/
def allRR (p : List RI → List RI → Bool) (zs : List (List RI)) (ys : List (List RI)) : Bool := decide (zs.length = ys.length) && (zs.zip ys).all fun q => p q.1 q.2
theorem allRR_true {p : List RI → List RI → Bool} {zs : List (List RI)} {ys : List (List RI)} : allRR p zs ys = true ↔ zs.length = ys.length ∧ ∀ (i : Nat) (x : List RI) (y : List RI), zs[i]? = some x → ys[i]? = some y → p x y = true := by
  unfold allRR
  rw [Bool.and_eq_true, decide_eq_true_eq, List.all_eq_true]
  refine and_congr_right fun hl => ⟨fun h i x y hx hy => ?_, fun h q hq => ?_⟩
  · refine h (x, y) (List.mem_of_getElem? (i := i) ?_)
    rw [List.getElem?_zip_eq_some]; exact ⟨hx, hy⟩
  · obtain ⟨i, hi⟩ := List.getElem?_of_mem hq
    have hi2 := List.getElem?_zip_eq_some.1 hi
    exact h i _ _ hi2.1 hi2.2
theorem allRR_false {p : List RI → List RI → Bool} {zs : List (List RI)} {ys : List (List RI)} {i : Nat} {x : List RI} {y : List RI} (hx : zs[i]? = some x) (hy : ys[i]? = some y) (h : p x y = false) : allRR p zs ys = false := by
  cases ha : allRR p zs ys with
  | false => rfl
  | true => rw [(allRR_true.1 ha).2 i x y hx hy] at h; cases h
/-- the function g answers p at each two elements, in whatever later world, and keeps all that was there -/
def AnsRR (P : Program) (g : FuncId) (cap : Array Value) (w : World) (zs : List (List RI)) (ys : List (List RI)) (p : List RI → List RI → Bool) : Prop :=
  Enters P g ∧ ∀ x, x ∈ zs → ∀ y, y ∈ ys → ∀ a c a2 c2 w1, Kp w w1 → (RowI w1 a x ∧ x.length ≤ 1100000) → (RowI w1 a2 y ∧ y.length ≤ 1100000) → Calls P g (#[.slice a x.length c, .slice a2 y.length c2] ++ cap) w1 fun e w2 => e = .returned (.bool (p x y)) ∧ Kp w1 w2

set_option maxHeartbeats 4000000 in
theorem eqfRR (a b' : Option Addr) (zs : List (List RI)) (ys : List (List RI)) (c d : Nat) (g : FuncId) (cap : Array Value) (w : World) (p : List RI → List RI → Bool) (hm : zs.length ≤ 1100000) (h : RowM w a zs) (h' : RowM w b' ys) (hp : AnsRR Tryz.prog g cap w zs ys p) :
    Calls Tryz.prog 68 #[.slice a zs.length c, .slice b' ys.length d, .func (.func g) #[] cap] w fun e w' => e = .returned (.bool (allRR p zs ys)) ∧ Kp w w' := by
  go_enter Tryz.func68, Tryz.ntmps68
  by_cases hlen : zs.length = ys.length
  · have Hlen := Lib.hid hlen
    rw [← hlen]
    clear hlen
    go_wp2
    go_loopw [17] (fun x wr => ∃ k : Nat, k ≤ zs.length ∧ x = .int .i64 k ∧ (∀ (i : Nat) (x : List RI) (y : List RI), zs[i]? = some x → ys[i]? = some y → i < k → p x y = true) ∧ Kp w wr) (fun x _ => zs.length - (intOf x).toNat)
    case atStart => exact ⟨0, by omega, rfl, fun i x y _ _ h1 => by omega, .refl _⟩
    case round =>
      obtain ⟨k, hk, rfl, hz, hkp⟩ := hrel
      have Hz := Lib.hid hz; clear hz
      by_cases hlt : k < zs.length
      · have hlt2 : k < ys.length := by have := Hlen.out; omega
        obtain ⟨b, o, ra, rc, rfl, h0, hrow⟩ := (h.kp hkp) k (zs[k]) (List.getElem?_eq_getElem hlt)
        obtain ⟨b2, o2, ra2, rc2, rfl, j0, hrow2⟩ := (h'.kp hkp) k (ys[k]) (List.getElem?_eq_getElem hlt2)
        have Hg := Lib.hid (List.getElem?_eq_getElem hlt)
        have Hg2 := Lib.hid (List.getElem?_eq_getElem hlt2)
        have hgo : ∀ args w, (callFunc g args).run Tryz.prog w = .ok (.enter g args) w := hp.1
        have hcall := hp.2 _ (List.getElem_mem hlt) _ (List.getElem_mem hlt2) ra rc ra2 rc2 wr hkp hrow hrow2
        clear hp h h' hrow hrow2
        generalize zs[k] = x at *
        generalize ys[k] = y at *
        clear hlt2
        cases hq : p x y with
        | true =>
          rw [hq] at hcall
          have Hc := Lib.hid hcall
          have Hq := Lib.hid hq
          clear hcall hq
          go_wp2_with (refine Hc.out.mono ?_; rintro e w2 ⟨rfl, hk2⟩)
          go_roundw
          case rel =>
            refine ⟨k + 1, by omega, by go_num, fun i x' y' hx hy hi => ?_, hkp.trans hk2⟩
            by_cases h : i = k
            · subst h; rw [Hg.out] at hx; rw [Hg2.out] at hy; cases hx; cases hy; exact Hq.out
            · exact Hz.out i x' y' hx hy (by omega)
          case measure => simp [intOf]; omega
        | false =>
          rw [hq] at hcall
          have Hc := Lib.hid hcall
          have Hq := Lib.hid (allRR_false Hg.out Hg2.out hq)
          clear hcall hq
          go_wp2_with (refine Hc.out.mono ?_; rintro e w2 ⟨rfl, hk2⟩)
          go_ret
          exact ⟨ret_bool Hq.out.symm, hkp.trans hk2⟩
      · have Hthis := Lib.hid (allRR_true.2 ⟨Hlen.out, fun i x y hx hy => Hz.out i x y hx hy (by have := (List.getElem?_eq_some_iff.1 hx).1; omega)⟩)
        go_wp2
        go_ret
        exact ⟨ret_bool Hthis.out.symm, hkp⟩
  · have hl2 : ((zs.length : Int) == (ys.length : Int)) = false := beq_eq_false_iff_ne.2 (by omega)
    have H := Lib.hid (show allRR p zs ys = false by unfold allRR; rw [decide_eq_false hlen]; rfl)
    clear hlen
    go_wp2
    go_ret
    exact ⟨ret_bool H.out.symm, .refl _⟩
end Go.Proofs.YtdidocdpjiiedaaGreatDoor
end

section
namespace Go.Proofs.YtdidocdpjiiedaaGreatDoor
open Go.RowKit

set_option maxHeartbeats 1000000 in
theorem same7row_any (zs ys : List RI) (a b : Option Addr) (c d : Nat) (w : World) (hz : RowI w a zs) (hy : RowI w b ys) (hl : zs.length ≤ 1100000) :
    Calls Tryz.prog 69 #[.slice a zs.length c, .slice b ys.length d] w fun e w' => e = .returned (.bool (allII oneR zs ys)) ∧ Kp w w' := by
  have hp : AnsII Tryz.prog 25 #[] w zs ys oneR :=
    ⟨fun _ _ => by kernel_rfl, fun x hx y hy' w1 k => one7_any x y w1 ((hz.rdI hx).kp k) ((hy.rdI hy').kp k)⟩
  have HC := Lib.hid (eqfII a b zs ys c d _ _ w oneR hl hz hy hp)
  clear hp hz hy
  go_enter Tryz.func69, Tryz.ntmps69
  go_wp2_with fail
  go_fit HC.out
  rintro e w1 ⟨rfl, k1⟩
  go_wp2_with fail
  go_ret
  exact ⟨rfl, k1⟩
/-- equal elements -/
def sameM (m n : List (List RI)) : Bool := allRR (allII oneR) m n
set_option maxHeartbeats 1000000 in
theorem same7mat_any (m n : List (List RI)) (a b : Option Addr) (c d : Nat) (w : World) (hm : RowM w a m) (hn : RowM w b n) (hl : m.length ≤ 1100000) :
    Calls Tryz.prog 19 #[.slice a m.length c, .slice b n.length d] w fun e w' => e = .returned (.bool (sameM m n)) ∧ Kp w w' := by
  have hp : AnsRR Tryz.prog 69 #[] w m n (allII oneR) :=
    ⟨fun _ _ => by kernel_rfl, fun x hx y hy a1 c1 a2 c2 w1 k h1 h2 => same7row_any x y a1 a2 c1 c2 w1 h1.1 h2.1 h1.2⟩
  have HC := Lib.hid (eqfRR a b m n c d _ _ w (allII oneR) hl hm hn hp)
  clear hp hm hn
  go_enter Tryz.func19, Tryz.ntmps19
  go_wp2_with fail
  go_fit HC.out
  rintro e w1 ⟨rfl, k1⟩
  go_wp2_with fail
  go_ret
  exact ⟨rfl, k1⟩
/-- matrices of the same numbers, all valid, have equal elements -/
theorem sameM_pl {w w' : World} {a b : Option Addr} {m n : List (List RI)} (hm : RowM w a m) (hn : RowM w' b n) (om : okM m) (on : okM n) (h : plM m = plM n) : sameM m n = true := by
  have hl : m.length = n.length := by have := congrArg List.length h; simpa [plM] using this
  refine allRR_true.2 ⟨hl, fun i x y hx hy => ?_⟩
  obtain ⟨_, _, _, _, _, _, rx, _⟩ := hm i x hx
  obtain ⟨_, _, _, _, _, _, ry, _⟩ := hn i y hy
  have hr : plR x = plR y := by
    have h1 : (plM m)[i]? = (plM n)[i]? := by rw [h]
    simpa [plM, hx, hy] using h1
  have hl2 : x.length = y.length := by have := congrArg List.length hr; simpa [plR] using this
  refine allII_true.2 ⟨hl2, fun j u v hu hv => ?_⟩
  have hp : u.pl = v.pl := by
    have h1 : (plR x)[j]? = (plR y)[j]? := by rw [hr]
    simpa [plR, hu, hv] using h1
  exact oneR_pl (rx.rdI (List.mem_of_getElem? hu)) (ry.rdI (List.mem_of_getElem? hv)) (om x (List.mem_of_getElem? hx) u (List.mem_of_getElem? hu)) (on y (List.mem_of_getElem? hy) v (List.mem_of_getElem? hv)) hp
end Go.Proofs.YtdidocdpjiiedaaGreatDoor
end

section
namespace Go.Proofs.YtdidocdpjiiedaaGreatDoor
open Go.RowKit

theorem tab_len {Z : List (List RI)} {r c : Nat} {F : Nat → Nat → PI} (h : plM Z = tabM r c F) : Z.length = r := by
  have := congrArg List.length h; simpa [plM, tabM] using this
theorem tab_row {Z : List (List RI)} {r c : Nat} {F : Nat → Nat → PI} (h : plM Z = tabM r c F) {i : Nat} (hi : i < r) : ∃ x, Z[i]? = some x ∧ plR x = rowF c (F i) := by
  have hl := tab_len h
  have hi2 : i < Z.length := by omega
  refine ⟨_, List.getElem?_eq_getElem hi2, ?_⟩
  have := congrArg (fun l => l[i]?) h
  simpa [plM, tabM, List.getElem?_eq_getElem hi2, hi] using this
theorem tab_cell {Z : List (List RI)} {r c : Nat} {F : Nat → Nat → PI} (h : plM Z = tabM r c F) {i j : Nat} (hi : i < r) (hj : j < c) : ∃ x y, Z[i]? = some x ∧ x.length = c ∧ x[j]? = some y ∧ y.pl = F i j := by
  obtain ⟨x, hx, hp⟩ := tab_row h hi
  have hl : x.length = c := by have := congrArg List.length hp; simpa [plR, rowF] using this
  have hj2 : j < x.length := by omega
  refine ⟨x, _, hx, hl, List.getElem?_eq_getElem hj2, ?_⟩
  have := congrArg (fun l => l[j]?) hp
  simpa [plR, rowF, List.getElem?_eq_getElem hj2, hj] using this
theorem atP_tab {Z : List (List RI)} {r c : Nat} {F : Nat → Nat → PI} (h : plM Z = tabM r c F) {i j : Nat} (hi : i < r) (hj : j < c) : atP Z i j = F i j := by
  obtain ⟨x, y, hx, _, hy, hp⟩ := tab_cell h hi hj
  rw [atP_eq hx hy, hp]
theorem colsM_tab {Z : List (List RI)} {r c : Nat} {F : Nat → Nat → PI} (h : plM Z = tabM r c F) (hr : 1 ≤ r) : colsM Z = c := by
  obtain ⟨x, hx, hp⟩ := tab_row h (i := 0) (by omega)
  have hl : x.length = c := by have := congrArg List.length hp; simpa [plR, rowF] using this
  unfold colsM
  cases Z with
  | nil => simp at hx
  | cons z Z => simp at hx; subst hx; simpa using hl
theorem dotF_congr {p : Nat} {f f' g g' : Nat → PI} : ∀ n, (∀ t, t ≤ n → f t = f' t ∧ g t = g' t) → dotF p f g n = dotF p f' g' n
  | 0, h => by
    show pMul _ _ p = pMul _ _ p
    rw [(h 0 (Nat.le_refl 0)).1, (h 0 (Nat.le_refl 0)).2]
  | n + 1, h => by
    show pAdd _ _ p = pAdd _ _ p
    rw [dotF_congr n fun t ht => h t (by omega), (h (n + 1) (Nat.le_refl _)).1, (h (n + 1) (Nat.le_refl _)).2]
end Go.Proofs.YtdidocdpjiiedaaGreatDoor
end

section
namespace Go.Proofs.YtdidocdpjiiedaaGreatDoor
open Go.RowKit

/-- a table of valid intervals is a valid matrix -/
theorem vlM_tab {m : List (List RI)} {r c : Nat} {F : Nat → Nat → PI} (hm : plM m = tabM r c F) (ho : okM m) (hr : 1 ≤ r ∧ r ≤ 8) (hc : 1 ≤ c ∧ c ≤ 8) : vlM m = true := by
  have l1 : m.length = r := by have := congrArg List.length hm; simpa [plM, tabM] using this
  have lr : ∀ (i : Nat) x, m[i]? = some x → x.length = c := fun i x hx => by
    have hi : i < r := by rw [← l1]; exact (List.getElem?_eq_some_iff.1 hx).1
    have px : plR x = rowF c (F i) := by
      have h1 : (plM m)[i]? = (tabM r c F)[i]? := by rw [hm]
      simpa [plM, tabM, hx, hi] using h1
    have := congrArg List.length px; simpa [plR, rowF] using this
  have hcm : colsM m = c := by
    have h0 : 0 < m.length := by omega
    rw [colsM_eq (List.getElem?_eq_getElem h0)]
    exact lr 0 _ (List.getElem?_eq_getElem h0)
  rw [vlM_iff]
  refine ⟨by omega, by omega, fun x hx => ?_⟩
  obtain ⟨i, hi⟩ := List.getElem?_of_mem hx
  exact ⟨by rw [hcm]; exact lr i x hi, ho x hx⟩
end Go.Proofs.YtdidocdpjiiedaaGreatDoor
end

section
namespace Go.Proofs.YtdidocdpjiiedaaGreatDoor
open Go.RowKit

def atQ (L : List (List PI)) (i j : Nat) : PI := (L.getD i []).getD j .whole
theorem atP_atQ (Z : List (List RI)) (i j : Nat) : atP Z i j = atQ (plM Z) i j := by
  unfold atP atR atQ plM
  have h1 : (Z.map plR).getD i [] = plR (Z.getD i []) := by
    rw [List.getD_eq_getElem?_getD, List.getD_eq_getElem?_getD, List.getElem?_map]
    cases Z[i]? <;> rfl
  rw [h1]
  generalize Z.getD i [] = r
  show (r.getD j wholeR).pl = (r.map RI.pl).getD j .whole
  rw [List.getD_eq_getElem?_getD, List.getD_eq_getElem?_getD (l := r.map RI.pl), List.getElem?_map]
  cases r[j]? <;> rfl
/-- the power k + 1 -/
def powM (m : List (List RI)) (q : Nat) : Nat → List (List PI)
  | 0 => plM m
  | k + 1 => tabM m.length (colsM m) fun i j => dotF q (atQ (powM m q k) i) (fun t => atP m t j) (colsM m - 1)
theorem powM_tab {m : List (List RI)} (hm : vlM m = true) (q k : Nat) : ∃ F, powM m q k = tabM m.length (colsM m) F := by
  cases k with
  | zero => exact ⟨_, plM_of hm⟩
  | succ k => exact ⟨_, rfl⟩
theorem powM_vl {m Z : List (List RI)} {q k : Nat} (hm : vlM m = true) (hZ : plM Z = powM m q k) (oZ : okM Z) : vlM Z = true := by
  obtain ⟨F, hF⟩ := powM_tab hm q k
  exact vlM_tab (hZ.trans hF) oZ (vlM_iff.1 hm).1 (vlM_iff.1 hm).2.1
theorem mulC_pow {m Z : List (List RI)} {q k : Nat} (hm : vlM m = true) (sq : m.length = colsM m) (h8 : 8 ≤ q) (hq : q ≤ 512) (hZ : plM Z = powM m q k) (oZ : okM Z) : mulC Z m q = (powM m q (k + 1), 0) := by
  have vZ := powM_vl hm hZ oZ
  obtain ⟨F, hF⟩ := powM_tab hm q k
  have hl := tab_len (hZ.trans hF)
  have hc := colsM_tab (hZ.trans hF) (vlM_iff.1 hm).1.1
  have hat : ∀ i, atP Z i = atQ (powM m q k) i := fun i => funext fun j => by rw [atP_atQ, hZ]
  unfold mulC
  rw [vZ, hm, preB_iff.2 ⟨by omega, by omega⟩, if_neg (by decide), if_neg (by decide), if_neg (by omega)]
  unfold mulF
  rw [hl, hc]
  simp only [hat]
  rfl
/-- a power, or the error -/
def powC (m : List (List RI)) (n p : Int) : List (List PI) × Int :=
  if vlM m = false then ([], 1) else if preB p = false ∨ n < 0 ∨ 16 < n then ([], 2) else if m.length ≠ colsM m then ([], 3) else if n = 0 then (tabM m.length m.length idP, 0) else (powM m p.toNat (n.toNat - 1), 0)
end Go.Proofs.YtdidocdpjiiedaaGreatDoor
end

section
namespace Go.Proofs.YtdidocdpjiiedaaGreatDoor
open Go.RowKit

theorem zr_dyP {y : RD} (h : y.zr = true) : y.dy = .zero := by
  unfold RD.zr at h
  simp only [Bool.and_eq_true, Bool.not_eq_true', decide_eq_true_eq] at h
  obtain ⟨h1, h2, h3⟩ := h
  unfold RD.dy
  rw [h1, h3, List.eq_nil_of_length_eq_zero h2]; rfl
theorem hullR_selfP {x : RI} (h : x.vl = true) : (hullR x x).pl = x.pl ∧ (hullR x x).vl = true ∧ ∀ w, x.rd w → (hullR x x).rd w := by
  unfold hullR
  cases ha : x.all with
  | false =>
    have : hullI x x = x := by
      obtain ⟨l, u, b⟩ := x
      cases ha
      simp [hullI, lessR, moreR]
    rw [if_neg (by decide), this]
    exact ⟨rfl, h, fun _ h => h⟩
  | true =>
    rw [if_pos (by decide)]
    refine ⟨?_, rfl, fun w _ => wholeR_rd w⟩
    unfold RI.vl at h
    rw [ha, if_pos rfl, Bool.and_eq_true] at h
    unfold RI.pl
    rw [zr_dyP h.1, zr_dyP h.2, ha]; rfl
set_option maxRecDepth 100000 in
set_option maxHeartbeats 8000000 in
theorem pw1_any (x : RI) (i j : Nat) (w : World) (hx : x.rd w) (vx : x.vl = true) :
    Calls Tryz.prog 102 #[.int .i64 (i : Int), .int .i64 (j : Int), .agg #[.bool x.lo.neg, .slice x.lo.a x.lo.xs.length x.lo.c, .int .i64 x.lo.e, .bool x.hi.neg, .slice x.hi.a x.hi.xs.length x.hi.c, .int .i64 x.hi.e, .bool x.all]] w (IvOut w x.pl) := by
  have k2 := Lib.hid (((Kp.refl w).alloc (.cells #[.bool x.lo.neg, .slice x.lo.a x.lo.xs.length x.lo.c, .int .i64 x.lo.e, .bool x.hi.neg, .slice x.hi.a x.hi.xs.length x.hi.c, .int .i64 x.hi.e, .bool x.all] 43)).alloc (.cells #[.bool false, .slice none 0 0, .int .i64 0, .bool false, .slice none 0 0, .int .i64 0, .bool false] 43))
  have HX := Lib.hid (And.intro (hx.kp k2.out) vx)
  have HH := Lib.hid (hullR_selfP vx)
  clear hx vx
  go_enter Tryz.func102, Tryz.ntmps102
  go_upto_region 1 with fail
  generalize hW : (w.alloc _).alloc _ = W at *
  obtain ⟨t0, t1, t2, t3, t4, t5, t6⟩ : W.cell? ⟨w.heap.size, 0, none⟩ = some (.bool x.lo.neg) ∧ W.cell? ⟨w.heap.size, 1, none⟩ = some (.slice x.lo.a x.lo.xs.length x.lo.c) ∧ W.cell? ⟨w.heap.size, 2, none⟩ = some (.int .i64 x.lo.e) ∧ W.cell? ⟨w.heap.size, 3, none⟩ = some (.bool x.hi.neg) ∧ W.cell? ⟨w.heap.size, 4, none⟩ = some (.slice x.hi.a x.hi.xs.length x.hi.c) ∧ W.cell? ⟨w.heap.size, 5, none⟩ = some (.int .i64 x.hi.e) ∧ W.cell? ⟨w.heap.size, 6, none⟩ = some (.bool x.all) := by rw [← hW]; simp
  have hV : Var7 W (w.heap.size + 1) := by rw [← hW]; exact Var7.new1 _ _ _
  clear hW
  go_wp2_with fail
  go_fit (IHull_any x x _ HX.out.1 HX.out.1 HX.out.2 HX.out.2)
  rintro e w1 ⟨rfl, j1⟩
  have HZ := Lib.hid (And.intro (HH.out.2.2 _ (HX.out.1.kp j1)) (And.intro HH.out.1 HH.out.2.1))
  have kE := k2.out.trans j1
  obtain ⟨⟨q0, q1, q2, q3, q4, q5, q6⟩, f0, f1, f2, f3, f4, f5, f6⟩ := hV.kp j1
  clear t0 t1 t2 t3 t4 t5 t6 hV HH
  generalize hullR x x = z at *
  go_wp2_with fail
  generalize hW9 : ((((((w1.setCell _ _).setCell _ _).setCell _ _).setCell _ _).setCell _ _).setCell _ _).setCell _ _ = W9
  obtain ⟨⟨s0, s1, s2, s3, s4, s5, s6⟩, hU⟩ := stored7 (show Box7 w1 _ _ _ _ _ _ _ _ from ⟨q0, q1, q2, q3, q4, q5, q6⟩) (fun _ h => by cases h) (fun _ h => by cases h) (fun _ h => by cases h) (fun _ h => by cases h) (fun _ h => by cases h) (fun _ h => by cases h) (fun _ h => by cases h) _ _ _ _ _ _ _ hW9
  clear hW9 q0 q1 q2 q3 q4 q5 q6 f0 f1 f2 f3 f4 f5 f6
  refine bodyPost_ret (v := .agg #[.bool z.lo.neg, .slice z.lo.a z.lo.xs.length z.lo.c, .int .i64 z.lo.e, .bool z.hi.neg, .slice z.hi.a z.hi.xs.length z.hi.c, .int .i64 z.hi.e, .bool z.all]) (by simp [results, Tryz.results102, go_sem, s0, s1, s2, s3, s4, s5, s6]) rfl ?_
  exact ⟨z, rfl, hU.rdI HZ.out.1, HZ.out.2.1, HZ.out.2.2, hU.2.2.1 _ kE (by omega)⟩
set_option maxRecDepth 100000 in
set_option maxHeartbeats 8000000 in
theorem mpow_any (a : Option Addr) (m : List (List RI)) (c : Nat) (n p : Int) (w : World) (hm : RowM w a m) (hl : m.length ≤ 1100000) (hT : Tab w) :
    Calls Tryz.prog 47 #[.slice a m.length c, .int .i64 n, .int .i64 p] w (MatE w (powC m n p).1 (powC m n p).2) := by
  have HM := Lib.hid hm
  have HT := Lib.hid hT
  obtain ⟨D, hD⟩ : ∃ D, D = powC m n p := ⟨_, rfl⟩
  have HD := Lib.hid hD
  rw [← hD]
  clear hm hT hD
  go_enter Tryz.func47, Tryz.ntmps47
  go_wp2_with fail
  go_fit (mvalid_any a m c _ HM.out hl)
  rintro e w1 ⟨rfl, hk1⟩
  cases hvm : vlM m with
  | false =>
    have HE := Lib.hid (show D = ([], 1) by rw [HD.out]; unfold powC; rw [if_pos hvm])
    clear hvm
    go_wp2_with fail
    rw [HE.out]
    refine bodyPost_ret (v := .tuple #[.slice none 0 0, .int .i64 1]) (by simp [results, Tryz.results47, go_sem]) rfl ?_
    exact matE_nil rfl hk1
  | true =>
    have HVM := Lib.hid hvm
    clear hvm
    go_wp2_with fail
    go_fit (mprecise_any p _)
    rintro e w2 ⟨rfl, rfl⟩
    cases hp : preB p with
    | false =>
      have HE := Lib.hid (show D = ([], 2) by rw [HD.out]; unfold powC; rw [HVM.out, if_neg (by decide), if_pos (.inl hp)])
      clear hp
      go_wp2_with fail
      rw [HE.out]
      refine bodyPost_ret (v := .tuple #[.slice none 0 0, .int .i64 2]) (by simp [results, Tryz.results47, go_sem]) rfl ?_
      exact matE_nil rfl hk1
    | true =>
      have HP := Lib.hid hp
      clear hp
      by_cases hn0 : n < 0
      · have HE := Lib.hid (show D = ([], 2) by rw [HD.out]; unfold powC; rw [HVM.out, if_neg (by decide), if_pos (.inr (.inl hn0))])
        go_wp2_with fail
        rw [HE.out]
        refine bodyPost_ret (v := .tuple #[.slice none 0 0, .int .i64 2]) (by simp [results, Tryz.results47, go_sem]) rfl ?_
        exact matE_nil rfl hk1
      · by_cases hn16 : 16 < n
        · have HE := Lib.hid (show D = ([], 2) by rw [HD.out]; unfold powC; rw [HVM.out, if_neg (by decide), if_pos (.inr (.inr hn16))])
          go_wp2_with fail
          rw [HE.out]
          refine bodyPost_ret (v := .tuple #[.slice none 0 0, .int .i64 2]) (by simp [results, Tryz.results47, go_sem]) rfl ?_
          exact matE_nil rfl hk1
        · have HNB := Lib.hid (show ¬ (preB p = false ∨ n < 0 ∨ 16 < n) from fun h => by
            rcases h with h | h | h
            · rw [HP.out] at h; cases h
            · exact hn0 h
            · exact hn16 h)
          obtain ⟨r0, hr0, hc0⟩ := vlM_row0 HVM.out
          have hml := (vlM_iff.1 HVM.out).1
          have hmc := (vlM_iff.1 HVM.out).2.1
          obtain ⟨ba, oa, ra, rc, rfl, hrow, _⟩ := HM.out 0 r0 hr0
          rw [Nat.add_zero] at hrow
          have hi1 : (0 : Int) < (m.length : Int) := by omega
          have HC0 := Lib.hid hc0
          have hbr := hk1.cell hrow
          have hlr : r0.length ≤ 8 := by omega
          have HML := Lib.hid (And.intro hml hmc)
          have HK1 := Lib.hid hk1
          clear hr0 hrow hc0 hml hmc hk1
          by_cases hne : m.length = r0.length
          · have hne1 : ((m.length : Int) != (r0.length : Int)) = false := by rw [hne]; simp
            have HSQ := Lib.hid (show m.length = colsM m by have := HC0.out; omega)
            clear hne
            by_cases hz : n = 0
            · have HE := Lib.hid (show D = (tabM m.length m.length idP, 0) by rw [HD.out]; unfold powC; rw [HVM.out, if_neg (by decide), if_neg HNB.out, if_neg (by have := HSQ.out; omega), if_pos hz])
              have hz1 : (n == 0) = true := beq_iff_eq.2 hz
              clear hz
              go_wp2_with fail
              clear hne1 hbr
              go_fit (midn_any m.length _ HML.out.1.1 HML.out.1.2 (HT.out.kp HK1.out))
              rintro e w3 ⟨a1, Z, c1, rfl, r1, p1, o1, l1, j1⟩
              have H1 := Lib.hid (And.intro r1 (And.intro p1 (And.intro o1 l1)))
              have K1 := Lib.hid (HK1.out.trans j1)
              clear r1 p1 o1 l1 j1
              go_wp2_with fail
              rw [HE.out]
              refine bodyPost_ret (v := .tuple #[.slice a1 Z.length c1, .int .i64 0]) (by simp [results, Tryz.results47, go_sem]) rfl ?_
              exact ⟨a1, Z, c1, rfl, H1.out.1, H1.out.2.1, H1.out.2.2.1, H1.out.2.2.2, K1.out⟩
            · have hz1 : (n == 0) = false := beq_eq_false_iff_ne.2 hz
              obtain ⟨q, hq⟩ : ∃ q : Nat, q = p.toNat := ⟨_, rfl⟩
              have hpq : p = (q : Int) := by have := preB_iff.1 HP.out; omega
              have HQ := Lib.hid (show 8 ≤ q ∧ q ≤ 512 by have := preB_iff.1 HP.out; omega)
              obtain ⟨N, hN⟩ : ∃ N : Nat, N = n.toNat - 1 := ⟨_, rfl⟩
              have HE := Lib.hid (show D = (powM m q N, 0) by rw [HD.out]; unfold powC; rw [HVM.out, if_neg (by decide), if_neg HNB.out, if_neg (by have := HSQ.out; omega), if_neg hz, hq, hN])
              obtain rfl : n = (N : Int) + 1 := by omega
              have hN16 : (N : Int) ≤ 15 := by omega
              rw [hpq]
              clear hpq hq hN hz hn0 hn16
              go_wp2_with fail
              clear hne1 hbr
              go_fit (each_any (some ⟨ba, oa, none⟩) m c 102 #[] (fun i j => atP m i j) w1 (HM.out.kp HK1.out) HVM.out
                ⟨fun _ _ => by kernel_rfl, fun i j r y hr hy w4 k4 hyr => by
                  have := pw1_any y i j w4 hyr ((vlM_row HVM.out hr).2 y (List.mem_of_getElem? hy))
                  rw [← atP_eq hr hy] at this
                  exact this⟩)
              rintro e w3 ⟨a0, Z0, c0, rfl, r1, p1, o1, l1, j1⟩
              have K3 := Lib.hid (HK1.out.trans j1)
              have H0 := Lib.hid (And.intro r1 (And.intro (show plM Z0 = powM m q 0 from p1.trans (plM_of HVM.out).symm) (And.intro o1 l1)))
              clear r1 p1 o1 l1 j1
              go_wp2_with fail
              go_loopg [8, 43] N (fun z v t wr => ∃ (k : Nat) (az : Option Addr) (Z : List (List RI)) (cz : Nat), k + z = N ∧ t = .int .i64 k ∧ v = .slice az Z.length cz ∧ RowM wr az Z ∧ plM Z = powM m q k ∧ okM Z ∧ Z.length ≤ 1100000 ∧ Kp w3 wr)
              case atStart => exact ⟨0, a0, Z0, c0, by omega, rfl, rfl, H0.out.1, H0.out.2.1, H0.out.2.2.1, H0.out.2.2.2, .refl _⟩
              case round =>
                obtain ⟨k, az, Z, cz, hkz, rfl, rfl, hrz, hpz, hoz, hlz, hkr⟩ := hrel
                clear H0
                by_cases hlt : k < N
                · have hlt1 : (k : Int) < (N : Int) := by omega
                  have HC := Lib.hid (mmul_any az (some ⟨ba, oa, none⟩) Z m cz c (q : Int) wr hrz (HM.out.kp (K3.out.trans hkr)) hlz hl (HT.out.kp (K3.out.trans hkr)))
                  rw [mulC_pow HVM.out HSQ.out HQ.out.1 HQ.out.2 hpz hoz] at HC
                  have HKR := Lib.hid hkr
                  clear hrz hpz hoz hlz hkr
                  go_wp2_with fail
                  go_fit HC.out
                  rintro e w5 ⟨a2, Y, c2, rfl, r2, p2, o2, l2, j2⟩
                  have H2 := Lib.hid (And.intro r2 (And.intro p2 (And.intro o2 (And.intro l2 j2))))
                  clear r2 p2 o2 l2 j2
                  go_wp2_with fail
                  go_roundg (gk - 1)
                  case measure => omega
                  case rel => exact ⟨k + 1, a2, Y, c2, by omega, by go_num, rfl, H2.out.1, H2.out.2.1, H2.out.2.2.1, H2.out.2.2.2.1, HKR.out.trans H2.out.2.2.2.2⟩
                · have hkN : k = N := by omega
                  have H2 := Lib.hid (And.intro hrz (And.intro (hkN ▸ hpz) (And.intro hoz (And.intro hlz (K3.out.trans hkr)))))
                  clear hrz hpz hoz hlz hkr hkz
                  subst hkN
                  go_wp2_with fail
                  rw [HE.out]
                  refine bodyPost_ret (v := .tuple #[.slice az Z.length cz, .int .i64 0]) (by simp [results, Tryz.results47, go_sem]) rfl ?_
                  exact ⟨az, Z, cz, rfl, H2.out.1, H2.out.2.1, H2.out.2.2.1, H2.out.2.2.2.1, H2.out.2.2.2.2⟩
          · have hne1 : ((m.length : Int) != (r0.length : Int)) = true := by simpa using (by omega : ¬ (m.length : Int) = (r0.length : Int))
            have HE := Lib.hid (show D = ([], 3) by rw [HD.out]; unfold powC; rw [HVM.out, if_neg (by decide), if_neg HNB.out, if_pos (by have := HC0.out; omega)])
            clear hne
            go_wp2_with fail
            rw [HE.out]
            refine bodyPost_ret (v := .tuple #[.slice none 0 0, .int .i64 3]) (by simp [results, Tryz.results47, go_sem]) rfl ?_
            exact matE_nil rfl HK1.out
end Go.Proofs.YtdidocdpjiiedaaGreatDoor
end
