/-
  Memory: three slices that grow inside a struct's box: numbers, rows, intervals.
  Walks: the fifth reference's Prec, Whole, made, known.
  Walks: the first reference's Trim, at, Bits.
  Walks: the first reference's Shr, Shl.
  Walks: the first reference's Cmp; the second one's times.
  Walks: the first reference's Add, Sub.
-/
import Derived.Test.YtdlpiblgkpgplaaGreatDoorMOfB
import Derived.Test.YtdlpiblgkpgplaaGreatDoorMRoD
import Derived.Test.YtdlpiblgkpgplaaGreatDoorMR5A
import Derived.Test.YtdlpiblgkpgplaaGreatDoorMR2B
import Derived.Test.YtdlpiblgkpgplaaGreatDoorMMul
section
namespace Go.Proofs.YtdlpiblgkpgplaaGreatDoor
open Go.RowKit

theorem RowDs.other {S : Nat} {w : World} {a : Option Addr} {zs : List RD} (h : RowDs S w a zs) {g i : Nat} {u : Value} (ha : ∀ p, a = some p → p.block ≠ g) (hc : w.cell? ⟨g, i, none⟩ = some u) (hu : NoU u) (y : Value) : RowDs S (w.setCell ⟨g, i, none⟩ y) a zs := by
  refine ⟨fun j x hj => ?_, h.2⟩
  obtain ⟨b, o, e, hr, h0, h1, h2⟩ := h.1 j x hj
  have hb := ha _ e
  have d (k : Nat) : (⟨g, i, none⟩ : Addr) ≠ ⟨b, k, none⟩ := fun e => hb (by injection e with e1; exact e1.symm)
  refine ⟨b, o, e, RD.rd.set hr hc hu y, ?_, ?_, ?_⟩ <;> (rw [cell_set_ne (d _)]; assumption)
/-- the rows lie neither in v's own block nor in block g -/
def Rows (us : List Value) (v : Value) (g : Nat) (w : World) : Prop := ∀ (i : Nat) (ra : Option Addr) (l c : Nat), us[i]? = some (Value.slice ra l c) → Off v ra w ∧ ∀ p, ra = some p → p.block ≠ g
theorem Rows.kp {us : List Value} {v : Value} {g : Nat} {w w' : World} (h : Rows us v g w) (k : w.heap.size ≤ w'.heap.size) : Rows us v g w' := fun i ra l c hi => ⟨(h i ra l c hi).1.kp k, (h i ra l c hi).2⟩
theorem Rows.far {us : List Value} {v v' : Value} {g : Nat} {w w' : World} (h : Rows us v g w) (k : w.heap.size ≤ w'.heap.size) (hn : v.ownBlock = v'.ownBlock ∨ v'.ownBlock = some w.heap.size) : Rows us v' g w' := fun i ra l c hi => ⟨(h i ra l c hi).1.far k hn, (h i ra l c hi).2⟩
theorem Rows.snoc {us : List Value} {v : Value} {g : Nat} {w : World} (h : Rows us v g w) {ra : Option Addr} {l c : Nat} (ho : Off v ra w) (hg : ∀ p, ra = some p → p.block ≠ g) : Rows (us ++ [.slice ra l c]) v g w := by
  intro i ra2 l2 c2 hi
  by_cases hi2 : i < us.length
  · rw [List.getElem?_append_left hi2] at hi
    exact h i ra2 l2 c2 hi
  · rw [List.getElem?_append_right (by omega)] at hi
    have hi3 : i = us.length := by
      have := (List.getElem?_eq_some_iff.1 hi).1
      simp at this; omega
    subst hi3
    simp at hi
    obtain ⟨rfl, _, _⟩ := hi
    exact ⟨ho, hg⟩
theorem OwnX.apart {S : Nat} {wb w w' : World} {v u : Value} {us : List Value} {R : List (List RD)} {g : Nat} (h : OwnX S wb w u us R) (hn : AllC NoU w v) (hap : ∀ g, v.ownBlock = some g → u.ownBlock ≠ some g) (hr : Rows us v g w) (hg : w.grownBy w' v.ownBlock) (k : Kp wb w') : OwnX S wb w' u us R := by
  obtain ⟨h1, h2, h3, h4, h5⟩ := h
  have hne : u.ownBlock = none ∨ u.ownBlock ≠ v.ownBlock := by
    cases hu : u.ownBlock with
    | none => exact .inl rfl
    | some g => exact .inr fun e => hap g e.symm hu
  refine ⟨⟨k, h1.2⟩, h2.kept hg hne, ?_, h4, fun i r hi => ?_⟩
  · intro g hg' j val hc
    have hlt := (h2.lt g hg').2
    have hne2 : some g ≠ v.ownBlock := fun e => hap g e.symm hg'
    exact h3 g hg' j val (by rw [← hg.cell_far ⟨g, j, none⟩ hlt hne2]; exact hc)
  · obtain ⟨q1, ra, rc, q2, q3, q4⟩ := h5 i r hi
    exact ⟨q1, ra, rc, q2, q3.far hg hn (hr i _ _ _ q2).1, q4.kp hg.size⟩
theorem OwnX.store {S : Nat} {wb w : World} {v x : Value} {us : List Value} {R : List (List RD)} {g i : Nat} (h : OwnX S wb w v us R) {u : Value} (hg : wb.heap.size ≤ g) (hc : w.cell? ⟨g, i, none⟩ = some u) (hu : NoU u) (hv : v.ownBlock ≠ some g) (hr : Rows us x g w) (y : Value) : OwnX S wb (w.setCell ⟨g, i, none⟩ y) v us R := by
  obtain ⟨h1, h2, h3, h4, h5⟩ := h
  refine ⟨⟨h1.1.set hg y, h1.2⟩, ownsRow_setCell_other h2 hv y, fun b hb j z hz => ?_, h4, fun j r hj => ?_⟩
  · rw [cell_set_ne (fun e => by injection e with e1; subst e1; exact hv hb)] at hz
    exact h3 b hb j z hz
  · obtain ⟨q1, ra, rc, q2, q3, q4⟩ := h5 j r hj
    exact ⟨q1, ra, rc, q2, q3.other (hr j _ _ _ q2).2 hc hu y, q4.kp (by simp)⟩
theorem OwnX.noU {S : Nat} {wb w : World} {v : Value} {us : List Value} {R : List (List RD)} (h : OwnX S wb w v us R) : NoU v := by
  obtain ⟨a, c, e, _⟩ := h.value
  subst e; exact sl_noU
theorem Box3.set1 {w : World} {g : Nat} {x0 x1 x2 : Value} (h : Box3 w g x0 x1 x2) (v : Value) : Box3 (w.setCell ⟨g, 1, none⟩ v) g x0 v x2 := by
  obtain ⟨h0, h1, h2, f0, f1, f2⟩ := h
  exact ⟨set_at (by decide) h0, cell_set_eq h1, set_at (by decide) h2, by simpa using f0, by simpa using f1, by simpa using f2⟩
def apt (v u : Value) : Prop := ∀ b, v.ownBlock = some b → u.ownBlock ≠ some b
theorem apt.sym {v u : Value} (h : apt v u) : apt u v := fun b hb e => h b e hb
theorem apt.far {v v' u : Value} {N : Nat} (h : apt v u) (hn : v.ownBlock = v'.ownBlock ∨ v'.ownBlock = some N) (hu : ∀ g, u.ownBlock = some g → g < N) : apt v' u := fun b hb => by
  rcases hn with e | e
  · exact h b (by rw [e]; exact hb)
  · rw [e] at hb; injection hb with hb; intro e2; have := hu _ e2; omega
theorem own_far {v v' : Value} {g N : Nat} (h : v.ownBlock ≠ some g) (hn : v.ownBlock = v'.ownBlock ∨ v'.ownBlock = some N) (hg : g < N) : v'.ownBlock ≠ some g := by
  rcases hn with e | e
  · rw [← e]; exact h
  · rw [e]; intro e; injection e with e; omega
/-- the box of a struct whose three slices grow, above wb -/
structure OfX (S : Nat) (wb w : World) (v1 va v2 : Value) (C : List RD) (us : List Value) (A : List (List RD)) (R : List RI) : Prop where
  box : Box3 w wb.heap.size v1 va v2
  lt : wb.heap.size < w.heap.size
  oc : OwnE wb w v1 C
  oa : OwnX S wb w va us A
  oi : OwnN wb w v2 R
  n1 : v1.ownBlock ≠ some wb.heap.size
  na : va.ownBlock ≠ some wb.heap.size
  n2 : v2.ownBlock ≠ some wb.heap.size
  d1 : apt v1 va
  d2 : apt v1 v2
  d3 : apt va v2
  r1 : Rows us v1 wb.heap.size w
  r2 : Rows us v2 wb.heap.size w
theorem OfX.kp {S : Nat} {wb w w' : World} {v1 va v2 : Value} {C : List RD} {us : List Value} {A : List (List RD)} {R : List RI} (h : OfX S wb w v1 va v2 C us A R) (k : Kp w w') : OfX S wb w' v1 va v2 C us A R :=
  ⟨h.box.kp k, by have := k.size; have := h.lt; omega, h.oc.kp k, h.oa.kp k, h.oi.kp k, h.n1, h.na, h.n2, h.d1, h.d2, h.d3, h.r1.kp k.size, h.r2.kp k.size⟩
theorem OfX.new (S : Nat) (wb : World) (t : TypeId) (hS : S ≤ wb.heap.size) : OfX S wb (wb.alloc (.cells #[.slice none 0 0, .slice none 0 0, .slice none 0 0] t)) (.slice none 0 0) (.slice none 0 0) (.slice none 0 0) [] [] [] [] :=
  ⟨Box3.new _ _ _ _ _, by simp, OwnE.nil ((Kp.refl _).alloc _), OwnX.nil ((Kp.refl _).alloc _) hS, OwnN.nil ((Kp.refl _).alloc _), by simp [Value.ownBlock], by simp [Value.ownBlock], by simp [Value.ownBlock], fun b h => by simp [Value.ownBlock] at h, fun b h => by simp [Value.ownBlock] at h, fun b h => by simp [Value.ownBlock] at h, fun i ra l c h => by simp at h, fun i ra l c h => by simp at h⟩
theorem OfX.c {S : Nat} {wb w w' : World} {v1 va v2 v1' : Value} {C C' : List RD} {us : List Value} {A : List (List RD)} {R : List RI} (h : OfX S wb w v1 va v2 C us A R) (ho : OwnE wb w' v1' C') (hg : w.grownBy w' v1.ownBlock) (hn : v1.ownBlock = v1'.ownBlock ∨ v1'.ownBlock = some w.heap.size) :
    OfX S wb (w'.setCell ⟨wb.heap.size, 0, none⟩ v1') v1' va v2 C' us A R := by
  have hB := h.box.grown hg h.n1 h.lt
  have hs := hg.size
  have hsz : w.heap.size ≤ (w'.setCell ⟨wb.heap.size, 0, none⟩ v1').heap.size := by simpa using hs
  have hA := h.oa.apart h.oc.2.2.1 h.d1 h.r1 hg ho.1
  have hR := h.oi.apart h.oc.2.2.1 h.d2 hg ho.1
  exact ⟨hB.set0 _, by have := h.lt; omega, ho.store (Nat.le_refl _) hB.1 h.oc.noU (own_far h.n1 hn h.lt) _, hA.store (Nat.le_refl _) hB.1 h.oc.noU h.na (h.r1.kp hs) _, hR.store (Nat.le_refl _) hB.1 h.oc.noU h.n2 _, own_far h.n1 hn h.lt, h.na, h.n2, h.d1.far hn h.oa.new, h.d2.far hn h.oi.new, h.d3, h.r1.far hsz hn, h.r2.kp hsz⟩
theorem OfX.r {S : Nat} {wb w w' : World} {v1 va v2 v2' : Value} {C : List RD} {us : List Value} {A : List (List RD)} {R R' : List RI} (h : OfX S wb w v1 va v2 C us A R) (ho : OwnN wb w' v2' R') (hg : w.grownBy w' v2.ownBlock) (hn : v2.ownBlock = v2'.ownBlock ∨ v2'.ownBlock = some w.heap.size) :
    OfX S wb (w'.setCell ⟨wb.heap.size, 2, none⟩ v2') v1 va v2' C us A R' := by
  have hB := h.box.grown hg h.n2 h.lt
  have hs := hg.size
  have hsz : w.heap.size ≤ (w'.setCell ⟨wb.heap.size, 2, none⟩ v2').heap.size := by simpa using hs
  have hA := h.oa.apart h.oi.2.2.1 h.d3.sym h.r2 hg ho.1
  have hC := h.oc.apart h.oi.2.2.1 h.d2.sym hg ho.1
  exact ⟨hB.set2 _, by have := h.lt; omega, hC.store (Nat.le_refl _) hB.2.2.1 h.oi.noUv h.n1 _, hA.store (Nat.le_refl _) hB.2.2.1 h.oi.noUv h.na (h.r1.kp hs) _, ho.store (Nat.le_refl _) hB.2.2.1 h.oi.noUv (own_far h.n2 hn h.lt) _, h.n1, h.na, own_far h.n2 hn h.lt, h.d1, (h.d2.sym.far hn h.oc.new).sym, (h.d3.sym.far hn h.oa.new).sym, h.r1.kp hsz, h.r2.far hsz hn⟩
theorem OfX.a {S : Nat} {wb w w' : World} {v1 va v2 va' : Value} {C : List RD} {us : List Value} {A A' : List (List RD)} {R : List RI} {ra : Option Addr} {l c : Nat} (h : OfX S wb w v1 va v2 C us A R) (ho : OwnX S wb w' va' (us ++ [.slice ra l c]) A') (hg : w.grownBy w' va.ownBlock) (hn : va.ownBlock = va'.ownBlock ∨ va'.ownBlock = some w.heap.size)
    (o1 : Off v1 ra w) (o2 : Off v2 ra w) (hra : ∀ p, ra = some p → p.block ≠ wb.heap.size) :
    OfX S wb (w'.setCell ⟨wb.heap.size, 1, none⟩ va') v1 va' v2 C (us ++ [.slice ra l c]) A' R := by
  have hB := h.box.grown hg h.na h.lt
  have hs := hg.size
  have hsz : w.heap.size ≤ (w'.setCell ⟨wb.heap.size, 1, none⟩ va').heap.size := by simpa using hs
  have hC := h.oc.apart h.oa.2.2.1 h.d1.sym hg ho.1.1
  have hR := h.oi.apart h.oa.2.2.1 h.d3 hg ho.1.1
  have R1 := (h.r1.snoc (l := l) (c := c) o1 hra)
  have R2 := (h.r2.snoc (l := l) (c := c) o2 hra)
  exact ⟨hB.set1 _, by have := h.lt; omega, hC.store (Nat.le_refl _) hB.2.1 h.oa.noU h.n1 _, ho.store (Nat.le_refl _) hB.2.1 h.oa.noU (own_far h.na hn h.lt) (R1.kp hs) _, hR.store (Nat.le_refl _) hB.2.1 h.oa.noU h.n2 _, h.n1, own_far h.na hn h.lt, h.n2, (h.d1.sym.far hn h.oc.new).sym, h.d2, h.d3.far hn h.oi.new, R1.kp hsz, R2.kp hsz⟩
theorem keep33v {w w' : World} (k : Kp w w') {p0 p1 p2 q0 q1 q2 : Addr} {v0 v1 v2 u0 u1 u2 : Value}
    (h : (w.cell? p0 = some v0 ∧ w.cell? p1 = some v1 ∧ w.cell? p2 = some v2) ∧ w.cell? q0 = some u0 ∧ w.cell? q1 = some u1 ∧ w.cell? q2 = some u2) :
    (w'.cell? p0 = some v0 ∧ w'.cell? p1 = some v1 ∧ w'.cell? p2 = some v2) ∧ w'.cell? q0 = some u0 ∧ w'.cell? q1 = some u1 ∧ w'.cell? q2 = some u2 := ⟨keep3 k h.1, keep3 k h.2⟩
theorem set33y {w : World} {g b o0 o1 o2 b2 p0 p1 p2 : Nat} (n : b ≠ g) (n2 : b2 ≠ g) {v0 v1 v2 v3 v4 v5 x0 x1 x2 : Value}
    (h : (w.cell? ⟨b, o0, none⟩ = some v0 ∧ w.cell? ⟨b, o1, none⟩ = some v1 ∧ w.cell? ⟨b, o2, none⟩ = some v2) ∧ w.cell? ⟨b2, p0, none⟩ = some v3 ∧ w.cell? ⟨b2, p1, none⟩ = some v4 ∧ w.cell? ⟨b2, p2, none⟩ = some v5) :
    (fun W : World => (W.cell? ⟨b, o0, none⟩ = some v0 ∧ W.cell? ⟨b, o1, none⟩ = some v1 ∧ W.cell? ⟨b, o2, none⟩ = some v2) ∧ W.cell? ⟨b2, p0, none⟩ = some v3 ∧ W.cell? ⟨b2, p1, none⟩ = some v4 ∧ W.cell? ⟨b2, p2, none⟩ = some v5)
      (((w.setCell ⟨g, 0, none⟩ x0).setCell ⟨g, 1, none⟩ x1).setCell ⟨g, 2, none⟩ x2) := by
  have ne (i j : Nat) : (⟨g, i, none⟩ : Addr) ≠ ⟨b, j, none⟩ := fun e => n (by injection e with e1; exact e1.symm)
  have ne2 (i j : Nat) : (⟨g, i, none⟩ : Addr) ≠ ⟨b2, j, none⟩ := fun e => n2 (by injection e with e1; exact e1.symm)
  have key (j : Nat) : (((w.setCell ⟨g, 0, none⟩ x0).setCell ⟨g, 1, none⟩ x1).setCell ⟨g, 2, none⟩ x2).cell? ⟨b, j, none⟩ = w.cell? ⟨b, j, none⟩ := by
    rw [cell_set_ne (ne 2 j), cell_set_ne (ne 1 j), cell_set_ne (ne 0 j)]
  have key2 (j : Nat) : (((w.setCell ⟨g, 0, none⟩ x0).setCell ⟨g, 1, none⟩ x1).setCell ⟨g, 2, none⟩ x2).cell? ⟨b2, j, none⟩ = w.cell? ⟨b2, j, none⟩ := by
    rw [cell_set_ne (ne2 2 j), cell_set_ne (ne2 1 j), cell_set_ne (ne2 0 j)]
  simp only [key, key2]
  exact h
/-- the number 1 in a slice of its own -/
def oneU (b : Nat) : RD := ⟨false, some ⟨b, 0, none⟩, [1], 1, 0⟩
theorem oneU_dy (b : Nat) : (oneU b).dy = intD 1 := by
  show (⟨false, val [1], 0⟩ : Dy) = intD 1
  rw [show val [1] = 1 from rfl]
  unfold intD canon
  simp [tz]
  unfold oddp
  simp [tz]
theorem oneU_vl (b : Nat) : (oneU b).vl = true := by unfold RD.vl; show vld false [1] 0 = true; decide
theorem oneU_rd (w : World) : (oneU w.heap.size).rd (w.alloc (.cells #[.int .u32 1] 73)) := ⟨rd_one w, Nat.le_refl _, by show 1 ≤ maxLen; decide, by show 1 ≤ 1100000; decide, by show I64 0; unfold I64; omega⟩
end Go.Proofs.YtdlpiblgkpgplaaGreatDoor
end

section
namespace Go.Proofs.YtdlpiblgkpgplaaGreatDoor
open Go.RowKit

theorem r5prec_any (p : Int) (w : World) :
    Calls Tryz.prog 97 #[.int .i64 p] w fun e w' => e = .returned (.bool (preB p)) ∧ w = w' := by
  by_cases h1 : 8 ≤ p
  · by_cases h2 : p ≤ 512
    · have H := Lib.hid (show preB p = true from decide_eq_true ⟨h1, h2⟩)
      go_enter Tryz.func97, Tryz.ntmps97
      go_wp2_with fail
      go_ret
      exact ⟨ret_bool (by first | exact H.out.symm | (rw [H.out]; simp; omega)), rfl⟩
    · have H := Lib.hid (show preB p = false from decide_eq_false (by omega))
      go_enter Tryz.func97, Tryz.ntmps97
      go_wp2_with fail
      go_ret
      exact ⟨ret_bool (by first | exact H.out.symm | (rw [H.out]; simp; omega)), rfl⟩
  · have H := Lib.hid (show preB p = false from decide_eq_false (by omega))
    go_enter Tryz.func97, Tryz.ntmps97
    go_wp2_with fail
    go_ret
    exact ⟨ret_bool (by first | exact H.out.symm | (rw [H.out]; simp; omega)), rfl⟩
set_option maxHeartbeats 2000000 in
theorem r5known_any (x : RI) (w : World) (hx : x.rd w) :
    Calls Tryz.prog 98 #[.agg #[.bool x.lo.neg, .slice x.lo.a x.lo.xs.length x.lo.c, .int .i64 x.lo.e, .bool x.hi.neg, .slice x.hi.a x.hi.xs.length x.hi.c, .int .i64 x.hi.e, .bool x.all]] w fun e w' => e = .returned (.bool (goodI x)) ∧ Kp w w' := by
  have H := Lib.hid (show goodI x = (!x.all && x.vl) from rfl)
  go_enter Tryz.func98, Tryz.ntmps98
  go_wp2_with fail
  generalize hW : (w.alloc _) = W at *
  have hk : Kp w W := hW ▸ (Kp.refl w).alloc _
  have hS : W.cell? ⟨w.heap.size, 0, none⟩ = some (.bool x.lo.neg) ∧ W.cell? ⟨w.heap.size, 1, none⟩ = some (.slice x.lo.a x.lo.xs.length x.lo.c) ∧ W.cell? ⟨w.heap.size, 2, none⟩ = some (.int .i64 x.lo.e) ∧ W.cell? ⟨w.heap.size, 3, none⟩ = some (.bool x.hi.neg) ∧ W.cell? ⟨w.heap.size, 4, none⟩ = some (.slice x.hi.a x.hi.xs.length x.hi.c) ∧ W.cell? ⟨w.heap.size, 5, none⟩ = some (.int .i64 x.hi.e) ∧ W.cell? ⟨w.heap.size, 6, none⟩ = some (.bool x.all) := by rw [← hW]; simp
  clear hW
  go_fit (r5Valid_raw x _ (hx.kp hk))
  rintro e w1 ⟨rfl, hk1⟩
  obtain ⟨s0, s1, s2, s3, s4, s5, s6⟩ := keep7 hk1 hS
  cases hv : x.vl with
  | false =>
    go_wp2_with fail
    go_ret
    exact ⟨ret_bool (by rw [H.out, hv]; simp), hk.trans hk1⟩
  | true =>
    go_wp2_with fail
    go_ret
    exact ⟨ret_bool (by rw [H.out, hv]; simp), hk.trans hk1⟩
end Go.Proofs.YtdlpiblgkpgplaaGreatDoor
end

section
namespace Go.Proofs.YtdlpiblgkpgplaaGreatDoor
open Go.RowKit

set_option maxHeartbeats 1000000 in
theorem r1trim_any (a : Option Addr) (xs : List Nat) (c : Nat) (w : World) (h : Rd w a xs) (hc : xs.length ≤ c) (hm : c ≤ maxLen) (hl : xs.length ≤ 1100000) :
    Calls Tryz.prog 161 #[.slice a xs.length c] w (NatOut w (val xs)) := by
  have hm' := hm
  unfold maxLen at hm
  have hll := limbs_len_le h.lt32
  go_enter Tryz.func161, Tryz.ntmps161
  go_wp2
  go_loop [3] (fun x => ∃ n : Nat, n ≤ xs.length ∧ x = .int .i64 n ∧ ∀ i, n ≤ i → i < xs.length → nth xs i = 0) (fun x => (intOf x).toNat)
  case atStart => exact ⟨xs.length, Nat.le_refl _, rfl, fun i h1 h2 => by omega⟩
  case round =>
    obtain ⟨n, hn, rfl, hz⟩ := hrel
    have Hz := Lib.hid hz; clear hz
    by_cases h0 : n = 0
    · have htop := trim_top h.lt32 hn Hz.out (by omega)
      have hlen : (limbs (val xs)).length = n := by rw [← htop, List.length_take, Nat.min_eq_left hn]
      have hr := h.limbs.kp ((Kp.refl w).alloc (.cells #[] 73))
      have Hlen := Lib.hid hlen
      clear htop hlen
      subst h0
      go_wp2_with (at_builtin; refine wpList_append_u32s rfl _ _ rfl w.heap.size _ [] rfl (Own.empty w _ (Nat.le_refl _)) a (limbs (val xs)) c (by rw [Hlen.out]; rfl) hr (by simp; omega) (by simp) ?_; intro a2 c2 w2 hown2 hb2)
      go_ret
      obtain ⟨h5, h6, h7, h8⟩ := hown2.rd
      rw [List.nil_append] at h6 h8
      exact ⟨a2, c2, by simp, h6, h7, h8, ((Kp.refl w).alloc _).below.trans hb2⟩
    · obtain ⟨b, o, rfl, hcell⟩ := h.some (i := n - 1) (by omega)
      have hk := hcell (n - 1) (by omega)
      clear hcell
      by_cases hx : nth xs (n - 1) = 0
      · have hx2 : ((nth xs (n - 1) : Int) == 0) = true := by simp [hx]
        have Hx := Lib.hid hx; clear hx
        go_wp2
        go_round
        case rel =>
          refine ⟨n - 1, by omega, by congr 1; omega, fun i h1 h2 => ?_⟩
          by_cases hi : i = n - 1
          · rw [hi]; exact Hx.out
          · exact Hz.out i (by omega) h2
        case measure => simp [intOf]; omega
      · have hx2 : ((nth xs (n - 1) : Int) == 0) = false := by simp; omega
        have htop := trim_top h.lt32 hn Hz.out (fun _ => hx)
        have hlen : (limbs (val xs)).length = n := by rw [← htop, List.length_take, Nat.min_eq_left hn]
        have hr := h.limbs.kp ((Kp.refl w).alloc (.cells #[] 73))
        have Hlen := Lib.hid hlen
        clear htop hlen
        go_wp2_with (at_builtin; refine wpList_append_u32s rfl _ _ rfl w.heap.size _ [] rfl (Own.empty w _ (Nat.le_refl _)) (some ⟨b, o, none⟩) (limbs (val xs)) c (by rw [Hlen.out]; rfl) hr (by simp; omega) (by simp) ?_; intro a2 c2 w2 hown2 hb2)
        go_ret
        obtain ⟨h5, h6, h7, h8⟩ := hown2.rd
        rw [List.nil_append] at h6 h8
        exact ⟨a2, c2, by simp, h6, h7, h8, ((Kp.refl w).alloc _).below.trans hb2⟩
theorem r1at_any (a : Option Addr) (xs : List Nat) (c i : Nat) (w : World) (h : Rd w a xs) :
    Calls Tryz.prog 175 #[.slice a xs.length c, .int .i64 (i : Nat)] w fun e w' => e = .returned (.int .u64 (nth xs i : Nat)) ∧ w = w' := by
  by_cases hi : i < xs.length
  · obtain ⟨b, o, rfl, hc⟩ := h.some hi
    have hx := hc i hi
    have hb := h.lt32.nth i
    have hi0 : (0 : Int) ≤ (i : Int) := by omega
    have hi1 : (i : Int) < (xs.length : Int) := by omega
    clear hc
    go_enter Tryz.func175, Tryz.ntmps175
    go_wp2_with fail
    go_ret
    exact ⟨rfl, rfl⟩
  · have H0 := Lib.hid (nth_ge (xs := xs) (i := i) (by omega))
    have hi1 : ¬ (i : Int) < (xs.length : Int) := by omega
    clear hi
    go_enter Tryz.func175, Tryz.ntmps175
    go_wp2_with fail
    go_ret
    exact ⟨by rw [H0.out]; rfl, rfl⟩
theorem bits_at {xs : List Nat} {n : Nat} (h : Lt32 xs) (hn : n < xs.length) (hz : ∀ i, n + 1 ≤ i → i < xs.length → nth xs i = 0) (h0 : nth xs n ≠ 0) : bits (val xs) = 32 * n + bits (nth xs n) := by
  have ht := trim_top h (show n + 1 ≤ xs.length from hn) hz (fun _ => h0)
  have hlen : (limbs (val xs)).length = n + 1 := by rw [← ht, List.length_take, Nat.min_eq_left hn]
  have hv : val xs ≠ 0 := fun k => by rw [k, limbs_zero] at hlen; cases hlen
  obtain ⟨hb, _⟩ := bits_top hv
  rw [hlen, Nat.add_sub_cancel, ← ht] at hb
  rw [hb]
  congr 2
  rw [nth_eq (by rw [List.length_take]; omega), nth_eq hn, List.getElem_take]
theorem val_zero_of {xs : List Nat} (h : Lt32 xs) (hz : ∀ i, 0 ≤ i → i < xs.length → nth xs i = 0) : val xs = 0 := by
  have ht := trim_top h (Nat.zero_le xs.length) hz (fun k => absurd k (by omega))
  rw [List.take_zero] at ht
  have := val_limbs (val xs)
  rw [← ht] at this
  exact this.symm
set_option maxHeartbeats 2000000 in
theorem r1bits_any (a : Option Addr) (xs : List Nat) (c : Nat) (w : World) (h : Rd w a xs) (hl : xs.length ≤ 1100000) :
    Calls Tryz.prog 162 #[.slice a xs.length c] w fun e w' => e = .returned (.int .i64 (bits (val xs))) ∧ w = w' := by
  go_enter Tryz.func162, Tryz.ntmps162
  go_wp2_with fail
  go_loop [3] (fun x => ∃ n : Nat, n ≤ xs.length ∧ x = .int .i64 ((n : Int) - 1) ∧ ∀ i, n ≤ i → i < xs.length → nth xs i = 0) (fun x => (intOf x + 1).toNat)
  case atStart => exact ⟨xs.length, Nat.le_refl _, rfl, fun i h1 h2 => by omega⟩
  case round =>
    obtain ⟨n, hn, rfl, hz⟩ := hrel
    have Hz := Lib.hid hz; clear hz
    rcases n with _ | k
    · rw [show (((0 : Nat) : Int) - 1) = -1 from rfl]
      have HB := Lib.hid (show bits (val xs) = 0 by rw [val_zero_of h.lt32 Hz.out, bits_zero])
      go_wp2_with fail
      go_ret
      rw [HB.out]
      exact ⟨rfl, rfl⟩
    · rw [show (((k + 1 : Nat) : Int) - 1) = (k : Int) from by omega]
      obtain ⟨b, o, rfl, hcell⟩ := h.some (i := k) (by omega)
      have hx := hcell k (by omega)
      have hnt := h.lt32.nth k
      clear hcell
      by_cases h0 : nth xs k = 0
      · have hx2 : ((nth xs k : Int) != 0) = false := by simp [h0]
        have H0 := Lib.hid h0
        clear h0
        go_wp2_with fail
        go_round
        case rel =>
          refine ⟨k, by omega, rfl, fun i h1 h2 => ?_⟩
          by_cases hi : i = k
          · rw [hi]; exact H0.out
          · exact Hz.out i (by omega) h2
        case measure => simp [intOf]
      · have hx2 : ((nth xs k : Int) != 0) = true := by simp [h0]
        have HB := Lib.hid (bits_at h.lt32 (show k < xs.length by omega) Hz.out h0)
        have hbt : bits (nth xs k) ≤ 32 := bits_le.2 hnt
        clear h0
        go_wp2_with fail
        go_loop [4, 5] (fun v x => ∃ (y j : Nat), x = .int .u32 y ∧ v = .int .i64 ((32 * k + j : Nat) : Int) ∧ j + bits y = bits (nth xs k) ∧ y < 4294967296) (fun _ x => (intOf x).toNat)
        case atStart => exact ⟨nth xs k, 0, rfl, by congr 1 <;> omega, by omega, hnt⟩
        case round =>
          obtain ⟨y, j, rfl, rfl, hj, hy⟩ := hrel
          by_cases hy0 : y = 0
          · subst hy0
            rw [bits_zero] at hj
            have HB2 := Lib.hid (show bits (val xs) = 32 * k + j by rw [HB.out]; omega)
            go_wp2_with fail
            go_ret
            rw [HB2.out]
            exact ⟨rfl, rfl⟩
          · have h2 := bits_half hy0
            have h3 : 0 < y := by omega
            go_wp2_with fail
            go_round
            case rel => exact ⟨y / 2, j + 1, by go_num, by congr 1 <;> omega, by omega, by omega⟩
            case measure => simp [intOf]; omega
end Go.Proofs.YtdlpiblgkpgplaaGreatDoor
end

section
namespace Go.Proofs.YtdlpiblgkpgplaaGreatDoor
open Go.RowKit

theorem r1at_int (a : Option Addr) (xs : List Nat) (c : Nat) (j : Int) (i : Nat) (w : World) (h : Rd w a xs) (hj : j = i) :
    Calls Tryz.prog 175 #[.slice a xs.length c, .int .i64 j] w fun e w' => e = .returned (.int .u64 (nth xs i : Nat)) ∧ w = w' := by
  subst hj; exact r1at_any a xs c i w h
theorem nth_drp (xs : List Nat) (q k : Nat) : nth (xs.drop q) k = nth xs (q + k) := by
  unfold nth; rw [List.getD_eq_getElem?_getD, List.getD_eq_getElem?_getD, List.getElem?_drop]
theorem val_drop (xs : List Nat) (q : Nat) (h : Lt32 xs) : val (xs.drop q) = val xs / 4294967296 ^ q := by
  by_cases hq : q ≤ xs.length
  · have e := val_take_drop xs q hq
    have b := val_lt (h.take q)
    rw [List.length_take, Nat.min_eq_left hq] at b
    rw [e, Nat.add_mul_div_left _ _ (Nat.pow_pos (by decide)), Nat.div_eq_of_lt b, Nat.zero_add]
  · rw [List.drop_of_length_le (by omega), Nat.div_eq_of_lt]
    · rfl
    · exact Nat.lt_of_lt_of_le (val_lt h) (Nat.pow_le_pow_right (by decide) (by omega))
set_option maxHeartbeats 2000000 in
set_option maxRecDepth 100000 in
theorem r1shr_any (a : Option Addr) (xs : List Nat) (c n : Nat) (w : World) (h1 : Rd w a xs) (hxl : xs.length ≤ 1000000) (hn : n ≤ 40000000) :
    Calls Tryz.prog 163 #[.slice a xs.length c, .int .i64 (n : Nat)] w (NatOut w (val xs / 2 ^ n)) := by
  have hfin : val xs / 2 ^ n = val (xs.drop (n / 32)) / 2 ^ (n % 32) := by rw [val_drop _ _ h1.lt32, Nat.div_div_eq_div_mul, pow_split]
  rw [hfin]
  clear hfin
  have hvl : (xs.drop (n / 32)).length = xs.length - n / 32 := List.length_drop
  have hnth := nth_drp xs (n / 32)
  have hv32 : Lt32 (xs.drop (n / 32)) := h1.lt32.drop _
  generalize xs.drop (n / 32) = vs at *
  have hr : n % 32 < 32 := Nat.mod_lt _ (by decide)
  have Hvl := Lib.hid hvl
  have Hnth := Lib.hid hnth
  have H32 := Lib.hid hv32
  clear hvl hnth hv32
  go_enter Tryz.func163, Tryz.ntmps163
  go_wp2_with fail
  go_loopw [5, 6] (fun v ix wr => ∃ (k : Nat) (zs : List Nat), k ≤ xs.length - n / 32 ∧ ix = .int .i64 ((n / 32 + k : Nat) : Int) ∧ zs.length = k ∧ Own wr w.heap.size v zs ∧
    val zs * 2 ^ (n % 32) + nth vs 0 % 2 ^ (n % 32) = val (vs.take k) + 4294967296 ^ k * (nth vs k % 2 ^ (n % 32)) ∧ Kp w wr) (fun _ ix _ => xs.length - (intOf ix).toNat)
  case atStart => exact ⟨0, [], Nat.zero_le _, by go_num, rfl, Own.nil _ _, by simp [val], .refl _⟩
  case round =>
    obtain ⟨k, zs, hk, rfl, hzl, hown, hvz, hkp⟩ := hrel
    have Hvz := Lib.hid hvz
    have Hzl := Lib.hid hzl
    have hzl2 : zs.length + 1 ≤ 9000000 := by omega
    clear hvz
    by_cases hlt : n / 32 + k < xs.length
    · have bx := h1.lt32.nth (n / 32 + k)
      have bx2 := h1.lt32.nth (n / 32 + k + 1)
      have Hst := Lib.hid (fun z => right_step (z := z) Hzl.out Hvz.out)
      have Hl := Lib.hid (shr_limb (y := nth xs (n / 32 + k + 1)) bx hr)
      have hcl := Lib.hid (show Go.bits BinOp.and IntKind.u64 (((nth xs (n / 32 + k) : Int) + (nth xs (n / 32 + k + 1) : Int) * 4294967296) / 2 ^ (n % 32)) 4294967295 % 4294967296 = (((nth xs (n / 32 + k) + 4294967296 * nth xs (n / 32 + k + 1)) / 2 ^ (n % 32) % 4294967296 : Nat) : Int) by
        have := cell_low (r := n % 32) bx bx2
        rwa [Int.mul_comm 4294967296] at this)
      clear hzl
      go_wp2_with fail
      refine (r1at_int a xs c _ (n / 32 + k) _ (h1.kp hkp) (by omega)).mono ?_
      rintro e w1 ⟨rfl, rfl⟩
      go_wp2_with fail
      refine (r1at_int a xs c _ (n / 32 + k + 1) _ (h1.kp hkp) (by omega)).mono ?_
      rintro e w1 ⟨rfl, rfl⟩
      go_wp2_with (at_builtin; refine wpList_append_u32 rfl _ _ rfl w.heap.size _ _ rfl (hown.alloc _) _ _ rfl (World.cell?_alloc_new _ _ _ _) ((nth xs (n / 32 + k) + 4294967296 * nth xs (n / 32 + k + 1)) / 2 ^ (n % 32) % 4294967296) hcl.out (Nat.mod_lt _ (by decide)) hzl2 (by have := hkp.size; simp; omega) ?_; intro a2 c2 w2 hown2 hb2)
      go_roundw
      case rel => exact ⟨k + 1, _, by omega, by go_num, by simp [Hzl.out], hown2, Hst.out _ (by rw [Hnth.out, Hnth.out]; exact Hl.out), (hkp.alloc _).below.trans hb2⟩
      case measure => simp [intOf]; omega
    · have e2 := Hvz.out
      have h0 : nth vs k = 0 := nth_ge (by rw [Hvl.out]; omega)
      rw [h0, Nat.zero_mod, Nat.mul_zero, Nat.add_zero, List.take_of_length_le (by rw [Hvl.out]; omega)] at e2
      have hlt3 := Nat.mod_lt (nth vs 0) (two_pow_pos (n % 32))
      have e3 : val zs = val vs / 2 ^ (n % 32) := by
        rw [← e2, Nat.mul_comm, Nat.mul_add_div (two_pow_pos _), Nat.div_eq_of_lt hlt3, Nat.add_zero]
      obtain ⟨a5, c5, e5, l5, m5, r5⟩ := hown.value
      subst e5
      have E3 := Lib.hid e3
      have hT := Lib.hid (r1trim_any a5 zs c5 wr r5 l5 m5 (by have := Hzl.out; omega))
      have hkk := Lib.hid hkp
      clear e2 e3 h0 hlt3 hkp hown hzl
      go_wp2_with fail
      refine hT.out.mono ?_
      rintro e w7 ⟨a6, c6, rfl, l6, m6, r6, k6⟩
      go_wp2_with fail
      go_ret
      rw [← E3.out]
      exact ⟨a6, c6, rfl, l6, m6, r6, hkk.out.trans k6⟩
theorem lshl_step {zs : List Nat} {j x r : Nat} (hj : j + 1 < zs.length) (h0 : nth zs (j + 1) = 0) :
    val ((zs.set j (nth zs j + x * 2 ^ r % 4294967296)).set (j + 1) (x * 2 ^ r / 4294967296)) = val zs + 4294967296 ^ j * (x * 2 ^ r) := by
  have h1 := val_set (xs := zs) (i := j) (x := nth zs j + x * 2 ^ r % 4294967296) (by omega)
  have h2 := val_set (xs := zs.set j (nth zs j + x * 2 ^ r % 4294967296)) (i := j + 1) (x := x * 2 ^ r / 4294967296) (by simpa using hj)
  rw [nth_set_ne (by omega), h0, Nat.mul_zero, Nat.add_zero] at h2
  rw [Nat.pow_succ, Nat.mul_assoc] at h2
  rw [h2]
  generalize 4294967296 ^ j = P at *
  generalize x * 2 ^ r = s at *
  have e : P * (s % 4294967296) + P * (4294967296 * (s / 4294967296)) = P * s := by
    rw [← Nat.mul_add]; congr 1; omega
  rw [Nat.mul_add] at h1
  omega
theorem lshl_or {x r o : Nat} (hx : x < 4294967296) (hr : r < 32) (ho : o < 2 ^ r) :
    IntKind.u64.wrap ((x : Int) * 2 ^ r) = ((x * 2 ^ r : Nat) : Int) ∧ Go.bits BinOp.and IntKind.u64 ((x * 2 ^ r : Nat) : Int) 4294967295 % 4294967296 = ((x * 2 ^ r % 4294967296 : Nat) : Int) ∧
    Go.bits BinOp.or IntKind.u32 (o : Int) ((x * 2 ^ r % 4294967296 : Nat) : Int) = ((o + x * 2 ^ r % 4294967296 : Nat) : Int) ∧ o + x * 2 ^ r % 4294967296 < 4294967296 ∧ x * 2 ^ r / 4294967296 < 2 ^ r ∧ x * 2 ^ r < 9223372036854775808 := by
  have h1 : 2 ^ r ≤ 2 ^ 31 := Nat.pow_le_pow_right (by decide) (by omega)
  have h2 : x * 2 ^ r ≤ 4294967295 * 2 ^ r := Nat.mul_le_mul_right _ (by omega)
  obtain ⟨C, hC⟩ : ∃ C, 4294967296 = 2 ^ r * C := ⟨2 ^ (32 - r), by rw [← Nat.pow_add, show r + (32 - r) = 32 from by omega]⟩
  have hm : x * 2 ^ r % 4294967296 % 2 ^ r = 0 := by
    conv => lhs; lhs; rw [hC]
    rw [Nat.mod_mul_right_mod, Nat.mul_mod_left]
  have hlt : x * 2 ^ r % 4294967296 < 4294967296 := Nat.mod_lt _ (by decide)
  have hor : o ||| x * 2 ^ r % 4294967296 = o + x * 2 ^ r % 4294967296 := by rw [Nat.or_comm, nat_join r _ _ hm ho, Nat.add_comm]
  refine ⟨?_, and_lowI rfl (by omega), ?_, ?_, ?_, by omega⟩
  · rw [show (x : Int) * 2 ^ r = ((x * 2 ^ r : Nat) : Int) from by push_cast; rfl, IntKind.wrap_u64]
    omega
  · rw [u32_or_nat _ _ (by omega) hlt, hor]
  · rw [← hor]; exact lt_or32 (by omega) hlt
  · exact (Nat.div_lt_iff_lt_mul (by decide)).2 (by rw [Nat.mul_comm (2 ^ r)]; exact Nat.mul_lt_mul_of_pos_right hx (two_pow_pos r))
set_option maxHeartbeats 2000000 in
set_option maxRecDepth 100000 in
theorem r1shl_any (a : Option Addr) (xs : List Nat) (c n : Nat) (w : World) (h1 : Rd w a xs) (hxc : xs.length ≤ c) (hc : c ≤ maxLen) (hxl : xs.length ≤ 100000) (hn : n ≤ 20000000) :
    Calls Tryz.prog 165 #[.slice a xs.length c, .int .i64 (n : Nat)] w (NatOut w (val xs * 2 ^ n)) := by
  have hll := limbs_len_le h1.lt32
  have HT := Lib.hid (r1trim_any a xs c w h1 hxc hc (by omega))
  have Hfin := Lib.hid (show val xs * 2 ^ n = 4294967296 ^ (n / 32) * (val (limbs (val xs)) * 2 ^ (n % 32)) by rw [val_limbs, ← pow_split n, Nat.mul_left_comm])
  clear h1
  go_enter Tryz.func165, Tryz.ntmps165
  go_wp2_with fail
  refine HT.out.mono ?_
  rintro e w1 ⟨a1, c1, rfl, l1, m1, r1, k1⟩
  clear HT
  have h32 := limbs_lt32 (val xs)
  generalize limbs (val xs) = ls at *
  have hr : n % 32 < 32 := Nat.mod_lt _ (by decide)
  have hmk := make_u32 ((n : Int) / 32 + ls.length + 1) (n / 32 + ls.length + 1) (by omega) (by omega)
  go_wp2_with fail
  clear hmk
  go_loopw [6] (fun ix wr => ∃ (i : Nat) (zs : List Nat), i ≤ ls.length ∧ ix = .int .i64 i ∧ zs.length = n / 32 + ls.length + 1 ∧ Blk wr w1.heap.size zs ∧ Lt32 zs ∧
    val zs = 4294967296 ^ (n / 32) * (val (ls.take i) * 2 ^ (n % 32)) ∧ nth zs (i + n / 32) < 2 ^ (n % 32) ∧ (∀ j, i + n / 32 < j → nth zs j = 0) ∧ Kp w1 wr) (fun ix _ => ls.length - (intOf ix).toNat)
  case atStart => exact ⟨0, _, Nat.zero_le _, rfl, by simp, Blk.made _ _, .replicate _, by simp [val, val_replicate], by rw [nth_replicate]; exact two_pow_pos _, fun j _ => nth_replicate _ _, (Kp.refl _).alloc _⟩
  case round =>
    obtain ⟨i, zs, hi, rfl, hzl, hb, hz32, hvz, hzt, hz0, hkp⟩ := hrel
    have Hvz := Lib.hid hvz
    have Hzl := Lib.hid hzl
    have Hz0 := Lib.hid hz0
    have Hzt := Lib.hid hzt
    clear hvz hz0 hzt
    by_cases hlt : i < ls.length
    · obtain ⟨b1, o1, rfl, hcx⟩ := (r1.kp hkp).some hlt
      have hx1 := hcx i hlt
      have bx := h32.nth i
      clear hcx
      obtain ⟨q1, q2, q3, q4, q5, q6⟩ := lshl_or bx hr Hzt.out
      have hs1 := hb.cell (i := i + n / 32) (by omega)
      have hs2 := hb.frozen (i + n / 32)
      have hs3 := hb.cell (i := i + n / 32 + 1) (by omega)
      have hs4 := hb.frozen (i + n / 32 + 1)
      have HQ := Lib.hid (And.intro q2 q3)
      have HC := Lib.hid (show ((nth ls i : Nat) : Int) * 2 ^ (n % 32) = ((nth ls i * 2 ^ (n % 32) : Nat) : Int) by push_cast; rfl)
      have HF1 := Lib.hid q4
      have HF2 := Lib.hid q5
      have HST := Lib.hid (lshl_step (zs := zs) (j := i + n / 32) (x := nth ls i) (r := n % 32) (by omega) (Hz0.out _ (by omega)))
      have hne1 : (⟨w1.heap.size, i + n / 32, none⟩ : Addr) ≠ ⟨w1.heap.size, i + n / 32 + 1, none⟩ := fun e => by injection e with _ e2; omega
      clear q2 q3 q4 q5
      go_wp2_with fail
      go_roundw
      case rel =>
        refine ⟨i + 1, (zs.set (i + n / 32) (nth zs (i + n / 32) + nth ls i * 2 ^ (n % 32) % 4294967296)).set (i + n / 32 + 1) (nth ls i * 2 ^ (n % 32) / 4294967296), by omega, by go_num, by simp [Hzl.out], (hb.put ?_).put ?_, (hz32.set _ _ HF1.out).set _ _ (Nat.lt_of_lt_of_le HF2.out (Nat.le_trans (Nat.pow_le_pow_right (by decide) (by omega : n % 32 ≤ 31)) (by decide))), ?_, ?_, fun j hj => ?_, (hkp.set (Nat.le_refl _) _).set (Nat.le_refl _) _⟩
        · rw [HC.out, HQ.out.1, HQ.out.2]
        · rw [HC.out]
          have := HF2.out
          have h2 : 2 ^ (n % 32) ≤ 2 ^ 31 := Nat.pow_le_pow_right (by decide) (by omega)
          omega
        · rw [HST.out, Hvz.out, val_take_step ls, Nat.add_mul, Nat.mul_add, Nat.add_comm i, Nat.pow_add, Nat.mul_assoc, Nat.mul_assoc]
        · rw [show i + 1 + n / 32 = i + n / 32 + 1 by omega, nth_set_eq (by simp; omega)]; exact HF2.out
        · rw [nth_set_ne (by omega), nth_set_ne (by omega)]; exact Hz0.out j (by omega)
      case measure => simp [intOf]; omega
    · have e2 := Hvz.out
      rw [List.take_of_length_le (by omega)] at e2
      have E2 := Lib.hid e2
      have HT := Lib.hid (r1trim_any (some ⟨w1.heap.size, 0, none⟩) zs (n / 32 + ls.length + 1) wr (hb.rd hz32) (by omega) (by unfold maxLen; omega) (by omega))
      rw [hzl] at HT
      have hkk := Lib.hid (k1.trans hkp)
      clear e2 hb hkp
      go_wp2_with fail
      with_reducible refine HT.out.mono ?_
      rintro e w7 ⟨a6, c6, rfl, l6, m6, r6, k6⟩
      go_wp2_with fail
      go_ret
      rw [Hfin.out.trans E2.out.symm]
      exact ⟨a6, c6, rfl, l6, m6, r6, hkk.out.trans k6⟩
end Go.Proofs.YtdlpiblgkpgplaaGreatDoor
end

section
namespace Go.Proofs.YtdlpiblgkpgplaaGreatDoor
open Go.RowKit

theorem val_ext {xs ys : List Nat} (h : ∀ i, nth xs i = nth ys i) : val xs = val ys := by
  induction xs generalizing ys with
  | nil =>
    induction ys with
    | nil => rfl
    | cons y ys ih =>
      have h0 := h 0
      rw [nth_cons_zero] at h0
      have h1 : val ([] : List Nat) = val ys := ih (fun i => by
        have := h (i + 1)
        rw [nth_cons_succ] at this
        rw [← this, nth_ge (by simp), nth_ge (by simp)])
      rw [val_cons, ← h1, ← h0]; rfl
  | cons x xs ih =>
    cases ys with
    | nil =>
      have h0 := h 0
      rw [nth_cons_zero] at h0
      have h1 : val xs = val ([] : List Nat) := ih (fun i => by
        have := h (i + 1)
        rw [nth_cons_succ] at this
        rw [this, nth_ge (by simp), nth_ge (by simp)])
      rw [val_cons, h1, h0]; rfl
    | cons y ys =>
      have h0 := h 0
      rw [nth_cons_zero, nth_cons_zero] at h0
      have h1 : val xs = val ys := ih (fun i => by
        have := h (i + 1)
        rwa [nth_cons_succ, nth_cons_succ] at this)
      rw [val_cons, val_cons, h1, h0]
theorem val_low_lt {xs : List Nat} (h : Lt32 xs) (j : Nat) : val (xs.take j) < 4294967296 ^ j := by
  have := val_lt (h.take j)
  refine Nat.lt_of_lt_of_le this (Nat.pow_le_pow_right (by decide) ?_)
  rw [List.length_take]; omega
theorem val_split (xs : List Nat) (j : Nat) : val xs = val (xs.take j) + 4294967296 ^ j * nth xs j + 4294967296 ^ (j + 1) * val (xs.drop (j + 1)) := by
  have h1 := val_take_step xs j
  by_cases h : j + 1 ≤ xs.length
  · have h2 := val_take_drop xs (j + 1) h
    rw [h1] at h2
    exact h2
  · have e1 : xs.take (j + 1) = xs := List.take_of_length_le (by omega)
    have e2 : xs.drop (j + 1) = [] := List.drop_of_length_le (by omega)
    rw [e1] at h1
    have e3 : val ([] : List Nat) = 0 := rfl
    rw [e2, e3, Nat.mul_zero, Nat.add_zero]
    exact h1
theorem val_lt_nth {xs ys : List Nat} {j : Nat} (hx : Lt32 xs) (he : ∀ i, j < i → nth xs i = nth ys i) (hlt : nth xs j < nth ys j) : val xs < val ys := by
  rw [val_split xs j, val_split ys j]
  have h1 : val (xs.drop (j + 1)) = val (ys.drop (j + 1)) := val_ext fun i => by rw [nth_drp, nth_drp]; exact he _ (by omega)
  have h2 := val_low_lt hx j
  rw [h1]
  have h3 : 4294967296 ^ j * (nth xs j + 1) ≤ 4294967296 ^ j * nth ys j := Nat.mul_le_mul_left _ hlt
  rw [Nat.mul_add, Nat.mul_one] at h3
  omega
set_option maxHeartbeats 2000000 in
theorem r1cmp_any (a b : Option Addr) (xs ys : List Nat) (c d : Nat) (w : World) (h1 : Rd w a xs) (h2 : Rd w b ys) (hxl : xs.length ≤ 1100000) (hyl : ys.length ≤ 1100000) :
    Calls Tryz.prog 164 #[.slice a xs.length c, .slice b ys.length d] w fun e w' => e = .returned (.int .i64 (cmpN (val xs) (val ys))) ∧ w = w' := by
  obtain ⟨L, hL⟩ : ∃ L : Nat, (L : Int) = max (xs.length : Int) ys.length := ⟨max xs.length ys.length, by omega⟩
  have hL2 : xs.length ≤ L ∧ ys.length ≤ L ∧ L ≤ 1100000 := by omega
  obtain ⟨hL3, hL4, hL5⟩ := hL2
  have hst : max (xs.length : Int) ys.length - 1 = (L : Int) - 1 := by omega
  go_enter Tryz.func164, Tryz.ntmps164
  go_wp2_with fail
  go_loopw [5] (fun ix wr => ∃ k : Nat, k ≤ L ∧ ix = .int .i64 ((k : Int) - 1) ∧ (∀ i, k ≤ i → nth xs i = nth ys i) ∧ w = wr) (fun ix _ => (intOf ix + 1).toNat)
  case atStart => exact ⟨L, Nat.le_refl _, by congr 1 <;> omega, fun i hi => by rw [nth_ge (by omega), nth_ge (by omega)], rfl⟩
  case round =>
    obtain ⟨k, hk, rfl, hz, rfl⟩ := hrel
    have Hz := Lib.hid hz
    clear hz
    rcases k with _ | j
    · rw [show (((0 : Nat) : Int) - 1) = -1 from rfl]
      have HE := Lib.hid (cmpN_eq (val_ext (fun i => Hz.out i (Nat.zero_le _))))
      go_wp2_with fail
      go_ret
      exact ⟨ret_int HE.out.symm, rfl⟩
    · rw [show (((j + 1 : Nat) : Int) - 1) = (j : Int) from by omega]
      rcases Nat.lt_trichotomy (nth xs j) (nth ys j) with hd1 | hd1 | hd1
      · have HR := Lib.hid (cmpN_lt (val_lt_nth h1.lt32 (fun i hi => Hz.out i hi) hd1))
        go_wp2_with fail
        refine (r1at_any a xs c j _ h1).mono ?_
        rintro e w1 ⟨rfl, rfl⟩
        go_wp2_with fail
        refine (r1at_any b ys d j _ h2).mono ?_
        rintro e w1 ⟨rfl, rfl⟩
        go_wp2_with fail
        go_ret
        exact ⟨ret_int HR.out.symm, rfl⟩
      · have hd2 : ¬ nth xs j < nth ys j := by omega
        have hd3 : ¬ nth ys j < nth xs j := by omega
        have Hd1 := Lib.hid hd1
        clear hd1
        go_wp2_with fail
        refine (r1at_any a xs c j _ h1).mono ?_
        rintro e w1 ⟨rfl, rfl⟩
        go_wp2_with fail
        refine (r1at_any b ys d j _ h2).mono ?_
        rintro e w1 ⟨rfl, rfl⟩
        go_wp2_with fail
        refine (r1at_any a xs c j _ h1).mono ?_
        rintro e w1 ⟨rfl, rfl⟩
        go_wp2_with fail
        refine (r1at_any b ys d j _ h2).mono ?_
        rintro e w1 ⟨rfl, rfl⟩
        go_wp2_with fail
        go_roundw
        case rel =>
          refine ⟨j, by omega, rfl, fun i hi => ?_, by first | rfl | trivial⟩
          by_cases hij : i = j
          · rw [hij]; exact Hd1.out
          · exact Hz.out i (by omega)
        case measure => simp [intOf]
      · have hd2 : ¬ nth xs j < nth ys j := by omega
        have HR := Lib.hid (cmpN_gt (val_lt_nth h2.lt32 (fun i hi => (Hz.out i hi).symm) hd1))
        go_wp2_with fail
        refine (r1at_any a xs c j _ h1).mono ?_
        rintro e w1 ⟨rfl, rfl⟩
        go_wp2_with fail
        refine (r1at_any b ys d j _ h2).mono ?_
        rintro e w1 ⟨rfl, rfl⟩
        go_wp2_with fail
        refine (r1at_any a xs c j _ h1).mono ?_
        rintro e w1 ⟨rfl, rfl⟩
        go_wp2_with fail
        refine (r1at_any b ys d j _ h2).mono ?_
        rintro e w1 ⟨rfl, rfl⟩
        go_wp2_with fail
        go_ret
        exact ⟨ret_int HR.out.symm, rfl⟩
end Go.Proofs.YtdlpiblgkpgplaaGreatDoor
end

section
namespace Go.Proofs.YtdlpiblgkpgplaaGreatDoor
open Go.RowKit

set_option maxHeartbeats 2000000 in
set_option maxRecDepth 100000 in
theorem r1add_any (a b : Option Addr) (xs ys : List Nat) (c d : Nat) (w : World) (h1 : Rd w a xs) (h2 : Rd w b ys) (hxl : xs.length ≤ 1000000) (hyl : ys.length ≤ 1000000) :
    Calls Tryz.prog 166 #[.slice a xs.length c, .slice b ys.length d] w (NatOut w (val xs + val ys)) := by
  obtain ⟨L, hL⟩ : ∃ L : Nat, (L : Int) = max (xs.length : Int) ys.length := ⟨max xs.length ys.length, by omega⟩
  have hL2 : xs.length ≤ L ∧ ys.length ≤ L ∧ L ≤ 1000000 := by omega
  obtain ⟨hL3, hL4, hL5⟩ := hL2
  go_enter Tryz.func166, Tryz.ntmps166
  go_wp2_with fail
  go_loopw [5, 6, 7] (fun v cy ix wr => ∃ (k q : Nat) (zs : List Nat), k ≤ L + 1 ∧ q ≤ 1 ∧ (k = L + 1 → q = 0) ∧ cy = .int .u64 q ∧ ix = .int .i64 k ∧ zs.length = k ∧ Own wr w.heap.size v zs ∧
      val zs + 4294967296 ^ k * q = val (xs.take k) + val (ys.take k) ∧ Kp w wr) (fun _ _ ix _ => L + 1 - (intOf ix).toNat)
  case atStart => exact ⟨0, 0, [], by omega, by decide, fun _ => rfl, rfl, rfl, rfl, Own.nil _ _, by simp [val], .refl _⟩
  case round =>
    obtain ⟨k, q, zs, hk, hq, hkq, rfl, rfl, hzl, hown, hvz, hkp⟩ := hrel
    have Hvz := Lib.hid hvz
    have Hzl := Lib.hid hzl
    have Hkq := Lib.hid hkq
    have hzl2 : zs.length + 1 ≤ 9000000 := by omega
    clear hvz hkq
    rcases (show k < L ∨ (L ≤ k ∧ q = 1) ∨ (L ≤ k ∧ q = 0) by omega) with hlt | ⟨hge, hq1⟩ | ⟨hge, hq0⟩
    · have ht : (k : Int) < max (xs.length : Int) ys.length := by omega
      clear hzl
      have Hst := Lib.hid (fun z c' => plus_step (z := z) (c' := c') Hzl.out Hvz.out)
      have bx := h1.lt32.nth k
      have by' := h2.lt32.nth k
      have hcl := Lib.hid (and_lowI (x := (nth xs k : Int) + nth ys k + q) (s := nth xs k + nth ys k + q) (by omega) (by omega))
      go_wp2_with fail
      refine (r1at_any a xs c k _ (h1.kp hkp)).mono ?_
      rintro e w1 ⟨rfl, rfl⟩
      go_wp2_with fail
      refine (r1at_any b ys d k _ (h2.kp hkp)).mono ?_
      rintro e w1 ⟨rfl, rfl⟩
      go_wp2_with (at_builtin; refine wpList_append_u32 rfl _ _ rfl w.heap.size _ _ rfl (hown.alloc _) _ _ rfl (World.cell?_alloc_new _ _ _ _) ((nth xs k + nth ys k + q) % 4294967296) hcl.out (Nat.mod_lt _ (by decide)) hzl2 (by have := hkp.size; simp; omega) ?_; intro a2 c2 w2 hown2 hb2)
      go_roundw
      case rel => exact ⟨k + 1, (nth xs k + nth ys k + q) / 4294967296, _, by omega, by omega, (fun h => absurd h (by omega)), by go_num, by go_num, by simp [Hzl.out], hown2, Hst.out _ _ (by omega), (hkp.alloc _).below.trans hb2⟩
      case measure => simp [intOf]; omega
    · have ht : ¬ (k : Int) < max (xs.length : Int) ys.length := by omega
      have hk' : k = L := by
        have := Hkq.out
        rcases Nat.lt_or_ge L k with h | h
        · exact absurd (this (by omega)) (by omega)
        · omega
      have hq2 : (0 : Int) < (q : Int) := by omega
      have hX0 := Lib.hid (nth_ge (xs := xs) (i := k) (by omega))
      have hY0 := Lib.hid (nth_ge (xs := ys) (i := k) (by omega))
      have Hq1 := Lib.hid hq1
      have Hk := Lib.hid hk'
      clear hzl hge hq1 hk'
      have Hst := Lib.hid (fun z c' => plus_step (z := z) (c' := c') Hzl.out Hvz.out)
      have bx := h1.lt32.nth k
      have by' := h2.lt32.nth k
      have hcl := Lib.hid (and_lowI (x := (nth xs k : Int) + nth ys k + q) (s := nth xs k + nth ys k + q) (by omega) (by omega))
      go_wp2_with fail
      refine (r1at_any a xs c k _ (h1.kp hkp)).mono ?_
      rintro e w1 ⟨rfl, rfl⟩
      go_wp2_with fail
      refine (r1at_any b ys d k _ (h2.kp hkp)).mono ?_
      rintro e w1 ⟨rfl, rfl⟩
      go_wp2_with (at_builtin; refine wpList_append_u32 rfl _ _ rfl w.heap.size _ _ rfl (hown.alloc _) _ _ rfl (World.cell?_alloc_new _ _ _ _) ((nth xs k + nth ys k + q) % 4294967296) hcl.out (Nat.mod_lt _ (by decide)) hzl2 (by have := hkp.size; simp; omega) ?_; intro a2 c2 w2 hown2 hb2)
      go_roundw
      case rel => exact ⟨k + 1, (nth xs k + nth ys k + q) / 4294967296, _, by have := Hk.out; omega, by omega, fun _ => by have := Hq1.out; rw [hX0.out, hY0.out]; omega, by go_num, by go_num, by simp [Hzl.out], hown2, Hst.out _ _ (by omega), (hkp.alloc _).below.trans hb2⟩
      case measure => have := Hk.out; simp [intOf]; omega
    · have ht : ¬ (k : Int) < max (xs.length : Int) ys.length := by omega
      have hq2 : ¬ (0 : Int) < (q : Int) := by omega
      obtain ⟨a5, c5, e5, l5, m5, r5⟩ := hown.value
      subst e5
      have e3 := Lib.hid (show val zs = val xs + val ys by
        have e := Hvz.out
        rw [List.take_of_length_le (by omega), List.take_of_length_le (by omega), hq0, Nat.mul_zero, Nat.add_zero] at e
        exact e)
      have hT := Lib.hid (r1trim_any a5 zs c5 wr r5 l5 m5 (by omega))
      have hkk := Lib.hid hkp
      clear hkp hown hzl hq0 hge
      go_wp2_with fail
      refine hT.out.mono ?_
      rintro e w7 ⟨a6, c6, rfl, l6, m6, r6, k6⟩
      go_wp2_with fail
      go_ret
      rw [← e3.out]
      exact ⟨a6, c6, rfl, l6, m6, r6, hkk.out.trans k6⟩
set_option maxHeartbeats 2000000 in
set_option maxRecDepth 100000 in
theorem r1sub_any (a b : Option Addr) (xs ys : List Nat) (c d : Nat) (w : World) (h1 : Rd w a xs) (h2 : Rd w b ys) (hxl : xs.length ≤ 1000000) (hyl : ys.length ≤ xs.length) (hle : val ys ≤ val xs) :
    Calls Tryz.prog 176 #[.slice a xs.length c, .slice b ys.length d] w (NatOut w (val xs - val ys)) := by
  have Hle := Lib.hid hle
  clear hle
  go_enter Tryz.func176, Tryz.ntmps176
  go_wp2_with fail
  go_loopw [5, 6, 7] (fun v cy ix wr => ∃ (k q : Nat) (zs : List Nat), k ≤ xs.length ∧ q ≤ 1 ∧ cy = .int .u64 q ∧ ix = .int .i64 k ∧ zs.length = k ∧ Own wr w.heap.size v zs ∧
      val zs + val (ys.take k) = val (xs.take k) + 4294967296 ^ k * q ∧ Kp w wr) (fun _ _ ix _ => xs.length - (intOf ix).toNat)
  case atStart => exact ⟨0, 0, [], Nat.zero_le _, by decide, rfl, rfl, rfl, Own.nil _ _, by simp [val], .refl _⟩
  case round =>
    obtain ⟨k, q, zs, hk, hq, rfl, rfl, hzl, hown, hvz, hkp⟩ := hrel
    have Hvz := Lib.hid hvz
    have Hzl := Lib.hid hzl
    have hzl2 : zs.length + 1 ≤ 9000000 := by omega
    clear hvz
    by_cases hlx : k < xs.length
    · have bx := h1.lt32.nth k
      have by' := h2.lt32.nth k
      clear hzl
      have Hst := Lib.hid (fun z c' => minus_step (z := z) (c' := c') Hzl.out Hvz.out)
      have hcl := Lib.hid (and_lowI (x := (nth xs k : Int) + 4294967296 - (nth ys k : Int) - (q : Int)) (s := nth xs k + 4294967296 - (q + nth ys k)) (by omega) (by omega))
      go_wp2_with fail
      refine (r1at_any a xs c k _ (h1.kp hkp)).mono ?_
      rintro e w1 ⟨rfl, rfl⟩
      go_wp2_with fail
      refine (r1at_any b ys d k _ (h2.kp hkp)).mono ?_
      rintro e w1 ⟨rfl, rfl⟩
      go_wp2_with (at_builtin; refine wpList_append_u32 rfl _ _ rfl w.heap.size _ _ rfl (hown.alloc _) _ _ rfl (World.cell?_alloc_new _ _ _ _) ((nth xs k + 4294967296 - (q + nth ys k)) % 4294967296) hcl.out (Nat.mod_lt _ (by decide)) hzl2 (by have := hkp.size; simp; omega) ?_; intro a2 c2 w2 hown2 hb2)
      go_roundw
      case rel => exact ⟨k + 1, 1 - (nth xs k + 4294967296 - (q + nth ys k)) / 4294967296, _, by omega, by omega, by congr 1; omega, by go_num, by simp [Hzl.out], hown2, Hst.out _ _ (by omega), (hkp.alloc _).below.trans hb2⟩
      case measure => simp [intOf]; omega
    · obtain ⟨a5, c5, e5, l5, m5, r5⟩ := hown.value
      subst e5
      have e3 := Lib.hid (show val zs = val xs - val ys by
        have e := Hvz.out
        have hl := Hle.out
        have hb := val_lt r5.lt32
        rw [hzl] at hb
        rw [List.take_of_length_le (by omega), List.take_of_length_le (by omega)] at e
        generalize 4294967296 ^ k = P at *
        have hq2 : q = 0 ∨ q = 1 := by omega
        rcases hq2 with rfl | rfl <;> omega)
      have hT := Lib.hid (r1trim_any a5 zs c5 wr r5 l5 m5 (by omega))
      have hkk := Lib.hid hkp
      clear hkp hown hzl
      go_wp2_with fail
      refine hT.out.mono ?_
      rintro e w7 ⟨a6, c6, rfl, l6, m6, r6, k6⟩
      go_wp2_with fail
      go_ret
      rw [← e3.out]
      exact ⟨a6, c6, rfl, l6, m6, r6, hkk.out.trans k6⟩
end Go.Proofs.YtdlpiblgkpgplaaGreatDoor
end
