/-
  Walks: interval.Inside of any valid intervals, matrix.Inside.
-/
import Derived.Test.YtdidocdpjiiedaaGreatDoorMSign
import Derived.Test.YtdidocdpjiiedaaGreatDoorMIncP
import Derived.Test.YtdidocdpjiiedaaGreatDoorMRectM
import Derived.Test.YtdidocdpjiiedaaGreatDoorMIvMl
import Derived.Test.YtdidocdpjiiedaaGreatDoorMEqfR
import Derived.Test.YtdidocdpjiiedaaGreatDoorMNum7
import Derived.Test.YtdidocdpjiiedaaGreatDoorMR5A
namespace Go.Proofs.YtdidocdpjiiedaaGreatDoor
open Go.RowKit

/-- is X inside of Y? -/
def insX (X Y : PI) : Bool := Y.all || (!X.all && (decide (Y.lo.iv ≤ X.lo.iv) && decide (X.hi.iv ≤ Y.hi.iv)))
theorem insX_of {X Y : PI} (h : insP X Y) : insX X Y = true := by
  unfold insX
  rcases h with h | ⟨h1, h2, h3, h4⟩
  · rw [h]; rfl
  · rw [h1, decide_eq_true h3, decide_eq_true h4]; simp
theorem IInside_vl (x y : RI) (w : World) (hx : x.rd w) (hy : y.rd w) (vx : x.vl = true) (vy : y.vl = true) :
    Calls Tryz.prog 83 #[.agg #[.bool x.lo.neg, .slice x.lo.a x.lo.xs.length x.lo.c, .int .i64 x.lo.e, .bool x.hi.neg, .slice x.hi.a x.hi.xs.length x.hi.c, .int .i64 x.hi.e, .bool x.all], .agg #[.bool y.lo.neg, .slice y.lo.a y.lo.xs.length y.lo.c, .int .i64 y.lo.e, .bool y.hi.neg, .slice y.hi.a y.hi.xs.length y.hi.c, .int .i64 y.hi.e, .bool y.all]] w fun e w' => e = .returned (.bool (insX x.pl y.pl)) ∧ Kp w w' := by
  cases hya : y.all with
  | true =>
    have H := Lib.hid (show insX x.pl y.pl = true by unfold insX; rw [show y.pl.all = true from hya]; rfl)
    have C1 := Lib.hid (fun (W : World) (k : Kp w W) => IValid_raw x W (hx.kp k))
    have C2 := Lib.hid (fun (W : World) (k : Kp w W) => IValid_raw y W (hy.kp k))
    rw [vx] at C1
    rw [vy, hya] at C2
    clear hx hy vx vy hya
    go_enter Tryz.func83, Tryz.ntmps83
    go_wp2_with fail
    generalize hW : ((w.alloc _).alloc _) = W at *
    have hk : Kp w W := hW ▸ ((Kp.refl w).alloc _).alloc _
    have hS : (W.cell? ⟨w.heap.size, 0, none⟩ = some (.bool x.lo.neg) ∧ W.cell? ⟨w.heap.size, 1, none⟩ = some (.slice x.lo.a x.lo.xs.length x.lo.c) ∧ W.cell? ⟨w.heap.size, 2, none⟩ = some (.int .i64 x.lo.e) ∧ W.cell? ⟨w.heap.size, 3, none⟩ = some (.bool x.hi.neg) ∧ W.cell? ⟨w.heap.size, 4, none⟩ = some (.slice x.hi.a x.hi.xs.length x.hi.c) ∧ W.cell? ⟨w.heap.size, 5, none⟩ = some (.int .i64 x.hi.e) ∧ W.cell? ⟨w.heap.size, 6, none⟩ = some (.bool x.all)) ∧ W.cell? ⟨w.heap.size + 1, 0, none⟩ = some (.bool y.lo.neg) ∧ W.cell? ⟨w.heap.size + 1, 1, none⟩ = some (.slice y.lo.a y.lo.xs.length y.lo.c) ∧ W.cell? ⟨w.heap.size + 1, 2, none⟩ = some (.int .i64 y.lo.e) ∧ W.cell? ⟨w.heap.size + 1, 3, none⟩ = some (.bool y.hi.neg) ∧ W.cell? ⟨w.heap.size + 1, 4, none⟩ = some (.slice y.hi.a y.hi.xs.length y.hi.c) ∧ W.cell? ⟨w.heap.size + 1, 5, none⟩ = some (.int .i64 y.hi.e) ∧ W.cell? ⟨w.heap.size + 1, 6, none⟩ = some (.bool true) := by rw [← hW]; exact keep77 (Kp.refl _) (by simp)
    clear hW
    go_fit (C1.out _ hk)
    rintro e w1 ⟨rfl, k1⟩
    have hS1 := keep77 k1 hS
    have hk1 := hk.trans k1
    obtain ⟨⟨s0, s1, s2, s3, s4, s5, s6⟩, t0, t1, t2, t3, t4, t5, t6⟩ := id hS1
    go_wp2_with fail
    go_fit (C2.out _ hk1)
    rintro e w2 ⟨rfl, k2⟩
    clear s0 s1 s2 s3 s4 s5 s6 t0 t1 t2 t3 t4 t5 t6
    obtain ⟨⟨s0, s1, s2, s3, s4, s5, s6⟩, t0, t1, t2, t3, t4, t5, t6⟩ := keep77 k2 hS1
    have hk2 := hk1.trans k2
    go_wp2_with fail
    go_ret
    exact ⟨ret_bool H.out.symm, hk2⟩
  | false =>
    cases hxa : x.all with
    | true =>
      have H := Lib.hid (show insX x.pl y.pl = false by unfold insX; rw [show y.pl.all = false from hya, show x.pl.all = true from hxa]; rfl)
      have C1 := Lib.hid (fun (W : World) (k : Kp w W) => IValid_raw x W (hx.kp k))
      have C2 := Lib.hid (fun (W : World) (k : Kp w W) => IValid_raw y W (hy.kp k))
      rw [vx, hxa] at C1
      rw [vy, hya] at C2
      clear hx hy vx vy hya hxa
      go_enter Tryz.func83, Tryz.ntmps83
      go_wp2_with fail
      generalize hW : ((w.alloc _).alloc _) = W at *
      have hk : Kp w W := hW ▸ ((Kp.refl w).alloc _).alloc _
      have hS : (W.cell? ⟨w.heap.size, 0, none⟩ = some (.bool x.lo.neg) ∧ W.cell? ⟨w.heap.size, 1, none⟩ = some (.slice x.lo.a x.lo.xs.length x.lo.c) ∧ W.cell? ⟨w.heap.size, 2, none⟩ = some (.int .i64 x.lo.e) ∧ W.cell? ⟨w.heap.size, 3, none⟩ = some (.bool x.hi.neg) ∧ W.cell? ⟨w.heap.size, 4, none⟩ = some (.slice x.hi.a x.hi.xs.length x.hi.c) ∧ W.cell? ⟨w.heap.size, 5, none⟩ = some (.int .i64 x.hi.e) ∧ W.cell? ⟨w.heap.size, 6, none⟩ = some (.bool true)) ∧ W.cell? ⟨w.heap.size + 1, 0, none⟩ = some (.bool y.lo.neg) ∧ W.cell? ⟨w.heap.size + 1, 1, none⟩ = some (.slice y.lo.a y.lo.xs.length y.lo.c) ∧ W.cell? ⟨w.heap.size + 1, 2, none⟩ = some (.int .i64 y.lo.e) ∧ W.cell? ⟨w.heap.size + 1, 3, none⟩ = some (.bool y.hi.neg) ∧ W.cell? ⟨w.heap.size + 1, 4, none⟩ = some (.slice y.hi.a y.hi.xs.length y.hi.c) ∧ W.cell? ⟨w.heap.size + 1, 5, none⟩ = some (.int .i64 y.hi.e) ∧ W.cell? ⟨w.heap.size + 1, 6, none⟩ = some (.bool false) := by rw [← hW]; exact keep77 (Kp.refl _) (by simp)
      clear hW
      go_fit (C1.out _ hk)
      rintro e w1 ⟨rfl, k1⟩
      have hS1 := keep77 k1 hS
      have hk1 := hk.trans k1
      obtain ⟨⟨s0, s1, s2, s3, s4, s5, s6⟩, t0, t1, t2, t3, t4, t5, t6⟩ := id hS1
      go_wp2_with fail
      go_fit (C2.out _ hk1)
      rintro e w2 ⟨rfl, k2⟩
      clear s0 s1 s2 s3 s4 s5 s6 t0 t1 t2 t3 t4 t5 t6
      obtain ⟨⟨s0, s1, s2, s3, s4, s5, s6⟩, t0, t1, t2, t3, t4, t5, t6⟩ := keep77 k2 hS1
      have hk2 := hk1.trans k2
      go_wp2_with fail
      go_ret
      exact ⟨ret_bool H.out.symm, hk2⟩
    | false =>
      have ox : x.ok w := ok_of hx vx hxa
      have oy : y.ok w := ok_of hy vy hya
      refine (Inside_ok x y w ox oy).mono ?_
      rintro e w' ⟨rfl, k⟩
      refine ⟨?_, k⟩
      congr 2
      unfold insX insI
      rw [show y.pl.all = false from hya, show x.pl.all = false from hxa]
      simp only [Bool.false_or, Bool.not_false, Bool.true_and]
      rfl
/-- the elements that Inside looks at -/
def insXR (x y : RI) : Bool := insX x.pl y.pl
set_option maxHeartbeats 1000000 in
theorem ins7row_any (zs ys : List RI) (a b : Option Addr) (c d : Nat) (w : World) (hz : RowI w a zs) (hy : RowI w b ys) (hl : zs.length ≤ 1100000) (vz : ∀ x ∈ zs, x.vl = true) (vy : ∀ x ∈ ys, x.vl = true) :
    Calls Tryz.prog 82 #[.slice a zs.length c, .slice b ys.length d] w fun e w' => e = .returned (.bool (allII insXR zs ys)) ∧ Kp w w' := by
  have hp : AnsII Tryz.prog 83 #[] w zs ys insXR :=
    ⟨fun _ _ => by kernel_rfl, fun x hx y hy' w1 k => IInside_vl x y w1 ((hz.rdI hx).kp k) ((hy.rdI hy').kp k) (vz x hx) (vy y hy')⟩
  have HC := Lib.hid (eqfII a b zs ys c d _ _ w insXR hl hz hy hp)
  clear hp hz hy
  go_enter Tryz.func82, Tryz.ntmps82
  go_wp2_with fail
  go_fit HC.out
  rintro e w1 ⟨rfl, k1⟩
  go_wp2_with fail
  go_ret
  exact ⟨rfl, k1⟩
/-- is each element inside? -/
def insXM (m n : List (List RI)) : Bool := allRR (allII insXR) m n
set_option maxHeartbeats 1000000 in
theorem minside_any (m n : List (List RI)) (a b : Option Addr) (c d : Nat) (w : World) (hm : RowM w a m) (hn : RowM w b n) (hl : m.length ≤ 1100000) (hl2 : n.length ≤ 1100000) (vm : vlM m = true) (vn : vlM n = true) :
    Calls Tryz.prog 31 #[.slice a m.length c, .slice b n.length d] w fun e w' => e = .returned (.bool (insXM m n)) ∧ Kp w w' := by
  have hp : ∀ W, Kp w W → AnsRR Tryz.prog 82 #[] W m n (allII insXR) := fun W _ =>
    ⟨fun _ _ => by kernel_rfl, fun x hx y hy a1 c1 a2 c2 w1 k h1 h2 => ins7row_any x y a1 a2 c1 c2 w1 h1.1 h2.1 h1.2 ((vlM_iff.1 vm).2.2 x hx).2 ((vlM_iff.1 vn).2.2 y hy).2⟩
  have HC := Lib.hid (fun (W : World) (k : Kp w W) => eqfRR a b m n c d _ _ W (allII insXR) hl (hm.kp k) (hn.kp k) (hp W k))
  have HM := Lib.hid (And.intro hm (And.intro hn (And.intro vm vn)))
  clear hp hm hn vm vn
  go_enter Tryz.func31, Tryz.ntmps31
  go_wp2_with fail
  go_fit (mvalid_any a m c _ HM.out.1 hl)
  rw [HM.out.2.2.1]
  rintro e w1 ⟨rfl, k1⟩
  go_wp2_with fail
  go_fit (mvalid_any b n d _ (HM.out.2.1.kp k1) hl2)
  rw [HM.out.2.2.2]
  rintro e w2 ⟨rfl, k2⟩
  have hk2 := k1.trans k2
  go_wp2_with fail
  go_fit (HC.out _ hk2)
  rintro e w3 ⟨rfl, k3⟩
  have hk3 := hk2.trans k3
  go_wp2_with fail
  go_ret
  exact ⟨rfl, hk3⟩
/-- equally many rows and columns, each element inside -/
theorem insXM_of {m n : List (List RI)} (hl : m.length = n.length) (h : ∀ (i : Nat) (r s : List RI), m[i]? = some r → n[i]? = some s → r.length = s.length ∧ ∀ (j : Nat) (x y : RI), r[j]? = some x → s[j]? = some y → insP x.pl y.pl) : insXM m n = true := by
  refine allRR_true.2 ⟨hl, fun i r s hr hs => ?_⟩
  obtain ⟨h1, h2⟩ := h i r s hr hs
  exact allII_true.2 ⟨h1, fun j x y hx hy => insX_of (h2 j x y hx hy)⟩
/-- by their numbers -/
theorem insXM_tab {m n : List (List RI)} {r c : Nat} {F G : Nat → Nat → PI} (hm : plM m = tabM r c F) (hn : plM n = tabM r c G) (h : ∀ i j, i < r → j < c → insP (F i j) (G i j)) : insXM m n = true := by
  have l1 : m.length = r := by have := congrArg List.length hm; simpa [plM, tabM] using this
  have l2 : n.length = r := by have := congrArg List.length hn; simpa [plM, tabM] using this
  refine insXM_of (l1.trans l2.symm) fun i x y hx hy => ?_
  have hi : i < r := by rw [← l1]; exact (List.getElem?_eq_some_iff.1 hx).1
  have px : plR x = rowF c (F i) := by
    have h1 : (plM m)[i]? = (tabM r c F)[i]? := by rw [hm]
    simpa [plM, tabM, hx, hi] using h1
  have py : plR y = rowF c (G i) := by
    have h1 : (plM n)[i]? = (tabM r c G)[i]? := by rw [hn]
    simpa [plM, tabM, hy, hi] using h1
  have lx : x.length = c := by have := congrArg List.length px; simpa [plR, rowF] using this
  have ly : y.length = c := by have := congrArg List.length py; simpa [plR, rowF] using this
  refine ⟨lx.trans ly.symm, fun j u v hu hv => ?_⟩
  have hj : j < c := by rw [← lx]; exact (List.getElem?_eq_some_iff.1 hu).1
  have pu : u.pl = F i j := by
    have h1 : (plR x)[j]? = (rowF c (F i))[j]? := by rw [px]
    simpa [plR, rowF, hu, hj] using h1
  have pv : v.pl = G i j := by
    have h1 : (plR y)[j]? = (rowF c (G i))[j]? := by rw [py]
    simpa [plR, rowF, hv, hj] using h1
  rw [pu, pv]; exact h i j hi hj
/-- a table of valid intervals is a valid matrix -/
theorem vlM_tab {m : List (List RI)} {r c : Nat} {F : Nat → Nat → PI} (hm : plM m = tabM r c F) (ho : okM m) (hr : 1 ≤ r ∧ r ≤ 8) (hc : 1 ≤ c ∧ c ≤ 8) : vlM m = true := by
  have l1 : m.length = r := by have := congrArg List.length hm; simpa [plM, tabM] using this
  have lr : ∀ (i : Nat) x, m[i]? = some x → x.length = c := fun i x hx => by
    have hi : i < r := by rw [← l1]; exact (List.getElem?_eq_some_iff.1 hx).1
    have px : plR x = rowF c (F i) := by
      have h1 : (plM m)[i]? = (tabM r c F)[i]? := by rw [hm]
      simpa [plM, tabM, hx, hi] using h1
    have := congrArg List.length px; simpa [plR, rowF] using this
  have hcm : colsM m = c := by
    have h0 : 0 < m.length := by omega
    rw [colsM_eq (List.getElem?_eq_getElem h0)]
    exact lr 0 _ (List.getElem?_eq_getElem h0)
  rw [vlM_iff]
  refine ⟨by omega, by omega, fun x hx => ?_⟩
  obtain ⟨i, hi⟩ := List.getElem?_of_mem hx
  exact ⟨by rw [hcm]; exact lr i x hi, ho x hx⟩
end Go.Proofs.YtdidocdpjiiedaaGreatDoor
