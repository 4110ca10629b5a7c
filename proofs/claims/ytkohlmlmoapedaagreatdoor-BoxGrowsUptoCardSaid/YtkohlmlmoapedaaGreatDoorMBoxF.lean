/-
  Walks: box.Meet.
  Plain: the order of boxes, their hull and meet; no program in sight.
-/
import Derived.Test.YtkohlmlmoapedaaGreatDoorMBoxE
section
namespace Go.Proofs.YtkohlmlmoapedaaGreatDoor
open Go.RowKit

theorem meetI_rd {w : World} {x y : RI} (hx : x.rd w) (hy : y.rd w) : (meetI x y).rd w := by
  refine ⟨?_, ?_⟩
  · show (moreR x.lo y.lo).rd w
    unfold moreR; split
    · exact hx.1
    · exact hy.1
  · show (lessR x.hi y.hi).rd w
    unfold lessR; split
    · exact hx.2
    · exact hy.2
theorem set77x {w : World} {g b1 b2 : Nat} (n1 : b1 ≠ g) (n2 : b2 ≠ g) {p0 p1 p2 p3 p4 p5 p6 q0 q1 q2 q3 q4 q5 q6 : Nat} {v0 v1 v2 v3 v4 v5 v6 u0 u1 u2 u3 u4 u5 u6 x0 x1 x2 x3 x4 x5 x6 : Value}
    (h : (w.cell? ⟨b1, p0, none⟩ = some v0 ∧ w.cell? ⟨b1, p1, none⟩ = some v1 ∧ w.cell? ⟨b1, p2, none⟩ = some v2 ∧ w.cell? ⟨b1, p3, none⟩ = some v3 ∧ w.cell? ⟨b1, p4, none⟩ = some v4 ∧ w.cell? ⟨b1, p5, none⟩ = some v5 ∧ w.cell? ⟨b1, p6, none⟩ = some v6) ∧ w.cell? ⟨b2, q0, none⟩ = some u0 ∧ w.cell? ⟨b2, q1, none⟩ = some u1 ∧ w.cell? ⟨b2, q2, none⟩ = some u2 ∧ w.cell? ⟨b2, q3, none⟩ = some u3 ∧ w.cell? ⟨b2, q4, none⟩ = some u4 ∧ w.cell? ⟨b2, q5, none⟩ = some u5 ∧ w.cell? ⟨b2, q6, none⟩ = some u6) :
    ((((((((w.setCell ⟨g, 0, none⟩ x0).setCell ⟨g, 1, none⟩ x1).setCell ⟨g, 2, none⟩ x2).setCell ⟨g, 3, none⟩ x3).setCell ⟨g, 4, none⟩ x4).setCell ⟨g, 5, none⟩ x5).setCell ⟨g, 6, none⟩ x6).cell? ⟨b1, p0, none⟩ = some v0 ∧ (((((((w.setCell ⟨g, 0, none⟩ x0).setCell ⟨g, 1, none⟩ x1).setCell ⟨g, 2, none⟩ x2).setCell ⟨g, 3, none⟩ x3).setCell ⟨g, 4, none⟩ x4).setCell ⟨g, 5, none⟩ x5).setCell ⟨g, 6, none⟩ x6).cell? ⟨b1, p1, none⟩ = some v1 ∧ (((((((w.setCell ⟨g, 0, none⟩ x0).setCell ⟨g, 1, none⟩ x1).setCell ⟨g, 2, none⟩ x2).setCell ⟨g, 3, none⟩ x3).setCell ⟨g, 4, none⟩ x4).setCell ⟨g, 5, none⟩ x5).setCell ⟨g, 6, none⟩ x6).cell? ⟨b1, p2, none⟩ = some v2 ∧ (((((((w.setCell ⟨g, 0, none⟩ x0).setCell ⟨g, 1, none⟩ x1).setCell ⟨g, 2, none⟩ x2).setCell ⟨g, 3, none⟩ x3).setCell ⟨g, 4, none⟩ x4).setCell ⟨g, 5, none⟩ x5).setCell ⟨g, 6, none⟩ x6).cell? ⟨b1, p3, none⟩ = some v3 ∧ (((((((w.setCell ⟨g, 0, none⟩ x0).setCell ⟨g, 1, none⟩ x1).setCell ⟨g, 2, none⟩ x2).setCell ⟨g, 3, none⟩ x3).setCell ⟨g, 4, none⟩ x4).setCell ⟨g, 5, none⟩ x5).setCell ⟨g, 6, none⟩ x6).cell? ⟨b1, p4, none⟩ = some v4 ∧ (((((((w.setCell ⟨g, 0, none⟩ x0).setCell ⟨g, 1, none⟩ x1).setCell ⟨g, 2, none⟩ x2).setCell ⟨g, 3, none⟩ x3).setCell ⟨g, 4, none⟩ x4).setCell ⟨g, 5, none⟩ x5).setCell ⟨g, 6, none⟩ x6).cell? ⟨b1, p5, none⟩ = some v5 ∧ (((((((w.setCell ⟨g, 0, none⟩ x0).setCell ⟨g, 1, none⟩ x1).setCell ⟨g, 2, none⟩ x2).setCell ⟨g, 3, none⟩ x3).setCell ⟨g, 4, none⟩ x4).setCell ⟨g, 5, none⟩ x5).setCell ⟨g, 6, none⟩ x6).cell? ⟨b1, p6, none⟩ = some v6) ∧ (((((((w.setCell ⟨g, 0, none⟩ x0).setCell ⟨g, 1, none⟩ x1).setCell ⟨g, 2, none⟩ x2).setCell ⟨g, 3, none⟩ x3).setCell ⟨g, 4, none⟩ x4).setCell ⟨g, 5, none⟩ x5).setCell ⟨g, 6, none⟩ x6).cell? ⟨b2, q0, none⟩ = some u0 ∧ (((((((w.setCell ⟨g, 0, none⟩ x0).setCell ⟨g, 1, none⟩ x1).setCell ⟨g, 2, none⟩ x2).setCell ⟨g, 3, none⟩ x3).setCell ⟨g, 4, none⟩ x4).setCell ⟨g, 5, none⟩ x5).setCell ⟨g, 6, none⟩ x6).cell? ⟨b2, q1, none⟩ = some u1 ∧ (((((((w.setCell ⟨g, 0, none⟩ x0).setCell ⟨g, 1, none⟩ x1).setCell ⟨g, 2, none⟩ x2).setCell ⟨g, 3, none⟩ x3).setCell ⟨g, 4, none⟩ x4).setCell ⟨g, 5, none⟩ x5).setCell ⟨g, 6, none⟩ x6).cell? ⟨b2, q2, none⟩ = some u2 ∧ (((((((w.setCell ⟨g, 0, none⟩ x0).setCell ⟨g, 1, none⟩ x1).setCell ⟨g, 2, none⟩ x2).setCell ⟨g, 3, none⟩ x3).setCell ⟨g, 4, none⟩ x4).setCell ⟨g, 5, none⟩ x5).setCell ⟨g, 6, none⟩ x6).cell? ⟨b2, q3, none⟩ = some u3 ∧ (((((((w.setCell ⟨g, 0, none⟩ x0).setCell ⟨g, 1, none⟩ x1).setCell ⟨g, 2, none⟩ x2).setCell ⟨g, 3, none⟩ x3).setCell ⟨g, 4, none⟩ x4).setCell ⟨g, 5, none⟩ x5).setCell ⟨g, 6, none⟩ x6).cell? ⟨b2, q4, none⟩ = some u4 ∧ (((((((w.setCell ⟨g, 0, none⟩ x0).setCell ⟨g, 1, none⟩ x1).setCell ⟨g, 2, none⟩ x2).setCell ⟨g, 3, none⟩ x3).setCell ⟨g, 4, none⟩ x4).setCell ⟨g, 5, none⟩ x5).setCell ⟨g, 6, none⟩ x6).cell? ⟨b2, q5, none⟩ = some u5 ∧ (((((((w.setCell ⟨g, 0, none⟩ x0).setCell ⟨g, 1, none⟩ x1).setCell ⟨g, 2, none⟩ x2).setCell ⟨g, 3, none⟩ x3).setCell ⟨g, 4, none⟩ x4).setCell ⟨g, 5, none⟩ x5).setCell ⟨g, 6, none⟩ x6).cell? ⟨b2, q6, none⟩ = some u6 := by
  have ne (a i j : Nat) (n : a ≠ g) : (⟨g, i, none⟩ : Addr) ≠ ⟨a, j, none⟩ := fun e => n (by injection e with e1; exact e1.symm)
  have key (a j : Nat) (n : a ≠ g) : (((((((w.setCell ⟨g, 0, none⟩ x0).setCell ⟨g, 1, none⟩ x1).setCell ⟨g, 2, none⟩ x2).setCell ⟨g, 3, none⟩ x3).setCell ⟨g, 4, none⟩ x4).setCell ⟨g, 5, none⟩ x5).setCell ⟨g, 6, none⟩ x6).cell? ⟨a, j, none⟩ = w.cell? ⟨a, j, none⟩ := by
    rw [cell_set_ne (ne a 6 j n), cell_set_ne (ne a 5 j n), cell_set_ne (ne a 4 j n), cell_set_ne (ne a 3 j n), cell_set_ne (ne a 2 j n), cell_set_ne (ne a 1 j n), cell_set_ne (ne a 0 j n)]
  simp only [key _ _ n1, key _ _ n2]
  exact h
theorem set77ax {w : World} {o1 o2 : Obj} {b1 b2 : Nat} (n1 : b1 < w.heap.size) (n2 : b2 < w.heap.size) {p0 p1 p2 p3 p4 p5 p6 q0 q1 q2 q3 q4 q5 q6 : Nat} {v0 v1 v2 v3 v4 v5 v6 u0 u1 u2 u3 u4 u5 u6 : Value}
    (h : ((w.alloc o1).cell? ⟨b1, p0, none⟩ = some v0 ∧ (w.alloc o1).cell? ⟨b1, p1, none⟩ = some v1 ∧ (w.alloc o1).cell? ⟨b1, p2, none⟩ = some v2 ∧ (w.alloc o1).cell? ⟨b1, p3, none⟩ = some v3 ∧ (w.alloc o1).cell? ⟨b1, p4, none⟩ = some v4 ∧ (w.alloc o1).cell? ⟨b1, p5, none⟩ = some v5 ∧ (w.alloc o1).cell? ⟨b1, p6, none⟩ = some v6) ∧ (w.alloc o1).cell? ⟨b2, q0, none⟩ = some u0 ∧ (w.alloc o1).cell? ⟨b2, q1, none⟩ = some u1 ∧ (w.alloc o1).cell? ⟨b2, q2, none⟩ = some u2 ∧ (w.alloc o1).cell? ⟨b2, q3, none⟩ = some u3 ∧ (w.alloc o1).cell? ⟨b2, q4, none⟩ = some u4 ∧ (w.alloc o1).cell? ⟨b2, q5, none⟩ = some u5 ∧ (w.alloc o1).cell? ⟨b2, q6, none⟩ = some u6) : ((w.alloc o2).cell? ⟨b1, p0, none⟩ = some v0 ∧ (w.alloc o2).cell? ⟨b1, p1, none⟩ = some v1 ∧ (w.alloc o2).cell? ⟨b1, p2, none⟩ = some v2 ∧ (w.alloc o2).cell? ⟨b1, p3, none⟩ = some v3 ∧ (w.alloc o2).cell? ⟨b1, p4, none⟩ = some v4 ∧ (w.alloc o2).cell? ⟨b1, p5, none⟩ = some v5 ∧ (w.alloc o2).cell? ⟨b1, p6, none⟩ = some v6) ∧ (w.alloc o2).cell? ⟨b2, q0, none⟩ = some u0 ∧ (w.alloc o2).cell? ⟨b2, q1, none⟩ = some u1 ∧ (w.alloc o2).cell? ⟨b2, q2, none⟩ = some u2 ∧ (w.alloc o2).cell? ⟨b2, q3, none⟩ = some u3 ∧ (w.alloc o2).cell? ⟨b2, q4, none⟩ = some u4 ∧ (w.alloc o2).cell? ⟨b2, q5, none⟩ = some u5 ∧ (w.alloc o2).cell? ⟨b2, q6, none⟩ = some u6 := by
  have key (a j : Nat) (n : a < w.heap.size) : (w.alloc o2).cell? ⟨a, j, none⟩ = (w.alloc o1).cell? ⟨a, j, none⟩ :=
    (Below.cell ((Kp.refl w).alloc o2) n).trans (Below.cell ((Kp.refl w).alloc o1) n).symm
  simp only [key _ _ n1, key _ _ n2]
  exact h
/-- have two boxes anything in common? -/
def okB (zs ys : List RI) : Bool := vl2 zs ys && allII meets zs ys
/-- the meet of two boxes -/
def meetB (zs ys : List RI) : List RI := List.zipWith meetI zs ys
/-- the result of Meet -/
def MeetsB (w : World) (zs ys : List RI) (e : Ending) (w' : World) : Prop :=
  if okB zs ys then ∃ a c, e = .returned (.tuple #[.slice a (meetB zs ys).length c, .bool true]) ∧ RowI w' a (meetB zs ys) ∧ (meetB zs ys).length ≤ c ∧ c ≤ maxLen ∧ Kp w w'
  else e = .returned (.tuple #[.slice none 0 0, .bool false]) ∧ Kp w w'
theorem meetsB_no {w w' : World} {zs ys : List RI} {e : Ending} (h : okB zs ys = false) (he : e = .returned (.tuple #[.slice none 0 0, .bool false])) (hk : Kp w w') : MeetsB w zs ys e w' := by
  unfold MeetsB; rw [h]; exact ⟨he, hk⟩
end Go.Proofs.YtkohlmlmoapedaaGreatDoor
end

section
namespace Go.Proofs.YtkohlmlmoapedaaGreatDoor
open Go.RowKit

theorem zip_get {α β γ : Type} {f : α → β → γ} {zs : List α} {ys : List β} {i : Nat} {x : α} {y : β} (hx : zs[i]? = some x) (hy : ys[i]? = some y) : (List.zipWith f zs ys)[i]? = some (f x y) := by
  rw [List.getElem?_zipWith, hx, hy]
theorem zip_inv {α β γ : Type} {f : α → β → γ} {zs : List α} {ys : List β} {i : Nat} {z : γ} (h : (List.zipWith f zs ys)[i]? = some z) : ∃ x y, zs[i]? = some x ∧ ys[i]? = some y ∧ z = f x y := by
  rw [List.getElem?_zipWith] at h
  cases hx : zs[i]? with
  | none => rw [hx] at h; cases h
  | some x =>
    cases hy : ys[i]? with
    | none => rw [hx, hy] at h; cases h
    | some y => rw [hx, hy] at h; cases h; exact ⟨x, y, rfl, rfl, rfl⟩
theorem zip_len {α β γ : Type} {f : α → β → γ} {zs : List α} {ys : List β} (h : zs.length = ys.length) : (List.zipWith f zs ys).length = zs.length := by simp [h]
theorem get_some {α β : Type} {zs : List α} {ys : List β} (h : zs.length = ys.length) {i : Nat} {x : α} (hx : zs[i]? = some x) : ∃ y, ys[i]? = some y := by
  have := (List.getElem?_eq_some_iff.1 hx).1
  exact ⟨_, List.getElem?_eq_getElem (h ▸ this)⟩
/-- all of a box's components are valid -/
def OkB (w : World) (zs : List RI) : Prop := (∀ x, x ∈ zs → x.ok w) ∧ 1 ≤ zs.length ∧ zs.length ≤ 8
theorem OkB.of {w : World} {a : Option Addr} {zs : List RI} (h : RowI w a zs) (hv : vlB zs = true) : OkB w zs := ⟨fun _ hx => vlB_ok h hv hx, (vlB_iff.1 hv).1, vlB_len hv⟩
theorem OkB.vl {w : World} {zs : List RI} (h : OkB w zs) : vlB zs = true := vlB_iff.2 ⟨h.2.1, h.2.2, List.all_eq_true.2 fun x hx => (goodI_ok (h.1 x hx).1).2 (h.1 x hx)⟩
theorem OkB.get {w : World} {zs : List RI} (h : OkB w zs) {i : Nat} {x : RI} (hx : zs[i]? = some x) : x.ok w := h.1 x (List.mem_of_getElem? hx)
theorem OkB.vl2 {w : World} {zs ys : List RI} (h : OkB w zs) (h' : OkB w ys) (hl : zs.length = ys.length) : Go.Proofs.YtkohlmlmoapedaaGreatDoor.vl2 zs ys = true := vl2_iff.2 ⟨h.vl, h'.vl, hl⟩
theorem OkB.hull {w : World} {zs ys : List RI} (h : OkB w zs) (h' : OkB w ys) (hl : zs.length = ys.length) : hullB zs ys = List.zipWith hullI zs ys ∧ OkB w (List.zipWith hullI zs ys) := by
  refine ⟨by unfold hullB; rw [h.vl2 h' hl]; rfl, ?_, by rw [zip_len hl]; exact h.2.1, by rw [zip_len hl]; exact h.2.2⟩
  intro x hx
  obtain ⟨i, hi⟩ := List.getElem?_of_mem hx
  obtain ⟨a, b, ha, hb, rfl⟩ := zip_inv hi
  exact hullI_ok (h.get ha) (h'.get hb)
theorem meets_iff {x y : RI} : meets x y = true ↔ (max x.lo.iv y.lo.iv ≤ min x.hi.iv y.hi.iv) := by
  unfold meets
  rw [decide_eq_true_eq, moreR_iv, lessR_iv]
theorem meetI_ok {w : World} {x y : RI} (hx : x.ok w) (hy : y.ok w) (hm : meets x y = true) : (meetI x y).ok w :=
  RI.ok_mk (moreR_ok hx.lo hy.lo) (lessR_ok hx.hi hy.hi) (by rw [moreR_iv, lessR_iv]; exact meets_iff.1 hm)
theorem meetI_lo (x y : RI) : (meetI x y).lo.iv = max x.lo.iv y.lo.iv := moreR_iv _ _
theorem meetI_hi (x y : RI) : (meetI x y).hi.iv = min x.hi.iv y.hi.iv := lessR_iv _ _
theorem hullI_lo (x y : RI) : (hullI x y).lo.iv = min x.lo.iv y.lo.iv := lessR_iv _ _
theorem hullI_hi (x y : RI) : (hullI x y).hi.iv = max x.hi.iv y.hi.iv := moreR_iv _ _
theorem OkB.meet {w : World} {zs ys : List RI} (h : OkB w zs) (h' : OkB w ys) (hl : zs.length = ys.length) (ho : okB zs ys = true) : OkB w (meetB zs ys) := by
  unfold okB at ho
  rw [Bool.and_eq_true] at ho
  unfold meetB
  refine ⟨?_, by rw [zip_len hl]; exact h.2.1, by rw [zip_len hl]; exact h.2.2⟩
  intro x hx
  obtain ⟨i, hi⟩ := List.getElem?_of_mem hx
  obtain ⟨a, b, ha, hb, rfl⟩ := zip_inv hi
  exact meetI_ok (h.get ha) (h'.get hb) ((allII_true.1 ho.2).2 i a b ha hb)
theorem OkB.iv {w : World} {zs : List RI} (h : OkB w zs) {i : Nat} {x : RI} (hx : zs[i]? = some x) : x.lo.iv ≤ x.hi.iv := (h.get hx).parts.2.2
theorem insI_iff {x y : RI} : insI x y = true ↔ y.lo.iv ≤ x.lo.iv ∧ x.hi.iv ≤ y.hi.iv := by
  unfold insI
  rw [Bool.and_eq_true, decide_eq_true_eq, decide_eq_true_eq]
theorem intI_iff {x y : RI} : intI x y = true ↔ y.lo.iv < x.lo.iv ∧ x.hi.iv < y.hi.iv := by
  unfold intI
  rw [Bool.and_eq_true, decide_eq_true_eq, decide_eq_true_eq]
theorem hasI_iff {x : RI} {d : RD} : hasI x d = true ↔ x.lo.iv ≤ d.iv ∧ d.iv ≤ x.hi.iv := by
  unfold hasI
  rw [Bool.and_eq_true, decide_eq_true_eq, decide_eq_true_eq]
theorem insB_iff {w : World} {zs ys : List RI} (h : OkB w zs) (h' : OkB w ys) : insB zs ys = true ↔ zs.length = ys.length ∧ ∀ (i : Nat) (x y : RI), zs[i]? = some x → ys[i]? = some y → y.lo.iv ≤ x.lo.iv ∧ x.hi.iv ≤ y.hi.iv := by
  unfold insB
  rw [Bool.and_eq_true, allII_true]
  constructor
  · rintro ⟨_, h1, h2⟩
    exact ⟨h1, fun i x y hx hy => insI_iff.1 (h2 i x y hx hy)⟩
  · rintro ⟨h1, h2⟩
    exact ⟨h.vl2 h' h1, h1, fun i x y hx hy => insI_iff.2 (h2 i x y hx hy)⟩
theorem insB_vl {zs ys : List RI} (h : insB zs ys = true) : vlB zs = true ∧ vlB ys = true ∧ zs.length = ys.length := by
  unfold insB at h
  rw [Bool.and_eq_true] at h
  exact vl2_iff.1 h.1
theorem eqB_iff {w : World} {zs ys : List RI} (h : OkB w zs) (h' : OkB w ys) : eqB zs ys = true ↔ zs.length = ys.length ∧ ∀ (i : Nat) (x y : RI), zs[i]? = some x → ys[i]? = some y → y.lo.iv = x.lo.iv ∧ x.hi.iv = y.hi.iv := by
  unfold eqB
  rw [Bool.and_eq_true, allII_true]
  constructor
  · rintro ⟨_, h1, h2⟩
    refine ⟨h1, fun i x y hx hy => ?_⟩
    have := h2 i x y hx hy
    unfold eqI at this
    rw [Bool.and_eq_true, insI_iff, insI_iff] at this
    omega
  · rintro ⟨h1, h2⟩
    refine ⟨h.vl2 h' h1, h1, fun i x y hx hy => ?_⟩
    have := h2 i x y hx hy
    unfold eqI
    rw [Bool.and_eq_true, insI_iff, insI_iff]
    omega
theorem lat11 {w : World} {zs : List RI} (h : OkB w zs) : insB zs zs = true := (insB_iff h h).2 ⟨rfl, fun i x y hx hy => by rw [hx] at hy; cases hy; omega⟩
theorem hasB_iff {w : World} {ps : List RD} (hp : vlP ps = true) {ws : List RI} (hw : OkB w ws) : hasB ws ps = true ↔ ws.length = ps.length ∧ ∀ (i : Nat) (x : RI) (d : RD), ws[i]? = some x → ps[i]? = some d → x.lo.iv ≤ d.iv ∧ d.iv ≤ x.hi.iv := by
  unfold hasB
  rw [hw.vl, hp, Bool.true_and, Bool.true_and, allID_true]
  exact and_congr_right fun _ => ⟨fun k i x d hx hd => hasI_iff.1 (k i x d hx hd), fun k i x d hx hd => hasI_iff.2 (k i x d hx hd)⟩
theorem hasB_novl {ps : List RD} {ws : List RI} (hp : vlP ps = false) : hasB ws ps = false := by
  unfold hasB; rw [hp]; simp
theorem lat1 {w : World} {zs ys : List RI} (h : OkB w zs) (h' : OkB w ys) (hl : zs.length = ys.length) : insB zs (hullB zs ys) = true := by
  obtain ⟨e, ho⟩ := h.hull h' hl
  rw [e, insB_iff h ho]
  refine ⟨(zip_len hl).symm, fun i x y hx hy => ?_⟩
  obtain ⟨a, b, ha, hb, rfl⟩ := zip_inv hy
  rw [ha] at hx; cases hx
  rw [hullI_lo, hullI_hi]; omega
theorem lat2 {w : World} {zs ys : List RI} (h : OkB w zs) (h' : OkB w ys) (hl : zs.length = ys.length) : insB ys (hullB zs ys) = true := by
  obtain ⟨e, ho⟩ := h.hull h' hl
  rw [e, insB_iff h' ho]
  refine ⟨by rw [zip_len hl, hl], fun i x y hx hy => ?_⟩
  obtain ⟨a, b, ha, hb, rfl⟩ := zip_inv hy
  rw [hb] at hx; cases hx
  rw [hullI_lo, hullI_hi]; omega
theorem lat3 {w : World} {zs ys : List RI} (h : OkB w zs) (h' : OkB w ys) (hl : zs.length = ys.length) {a : Option Addr} {cs : List RI} (hc : RowI w a cs) (h1 : insB zs cs = true) (h2 : insB ys cs = true) : insB (hullB zs ys) cs = true := by
  have oc := OkB.of hc (insB_vl h1).2.1
  obtain ⟨e, ho⟩ := h.hull h' hl
  rw [insB_iff h oc] at h1
  rw [insB_iff h' oc] at h2
  rw [e, insB_iff ho oc]
  refine ⟨by rw [zip_len hl]; exact h1.1, fun i x y hx hy => ?_⟩
  obtain ⟨a, b, ha, hb, rfl⟩ := zip_inv hx
  have k1 := h1.2 i a y ha hy
  have k2 := h2.2 i b y hb hy
  rw [hullI_lo, hullI_hi]; omega
theorem lat4 {w : World} {zs ys : List RI} (h : OkB w zs) (h' : OkB w ys) (hl : zs.length = ys.length) (ho : okB zs ys = true) : insB (meetB zs ys) zs = true ∧ insB (meetB zs ys) ys = true := by
  have om := h.meet h' hl ho
  rw [insB_iff om h, insB_iff om h']
  refine ⟨⟨zip_len hl, fun i x y hx hy => ?_⟩, ⟨by rw [← hl]; exact zip_len hl, fun i x y hx hy => ?_⟩⟩
  · obtain ⟨a, b, ha, hb, rfl⟩ := zip_inv hx
    rw [ha] at hy; cases hy
    rw [meetI_lo, meetI_hi]; omega
  · obtain ⟨a, b, ha, hb, rfl⟩ := zip_inv hx
    rw [hb] at hy; cases hy
    rw [meetI_lo, meetI_hi]; omega
theorem ok_of {w : World} {zs ys : List RI} (h : OkB w zs) (h' : OkB w ys) (hl : zs.length = ys.length) {cs : List RI} (oc : OkB w cs) (h1 : insB cs zs = true) (h2 : insB cs ys = true) : okB zs ys = true := by
  rw [insB_iff oc h] at h1
  rw [insB_iff oc h'] at h2
  unfold okB
  rw [h.vl2 h' hl, Bool.true_and, allII_true]
  refine ⟨hl, fun i x y hx hy => ?_⟩
  obtain ⟨c, hc⟩ := get_some h1.1.symm hx
  have k1 := h1.2 i c x hc hx
  have k2 := h2.2 i c y hc hy
  have k3 := oc.iv hc
  rw [meets_iff]; omega
theorem lat5 {w : World} {zs ys : List RI} (h : OkB w zs) (h' : OkB w ys) (hl : zs.length = ys.length) {a : Option Addr} {cs : List RI} (hc : RowI w a cs) (h1 : insB cs zs = true) (h2 : insB cs ys = true) : okB zs ys = true ∧ insB cs (meetB zs ys) = true := by
  have oc := OkB.of hc (insB_vl h1).1
  have ho := ok_of h h' hl oc h1 h2
  have om := h.meet h' hl ho
  refine ⟨ho, ?_⟩
  rw [insB_iff oc h] at h1
  rw [insB_iff oc h'] at h2
  rw [insB_iff oc om]
  refine ⟨by unfold meetB; rw [zip_len hl]; exact h1.1, fun i x y hx hy => ?_⟩
  obtain ⟨a, b, ha, hb, rfl⟩ := zip_inv hy
  have k1 := h1.2 i x a hx ha
  have k2 := h2.2 i x b hx hb
  rw [meetI_lo, meetI_hi]; omega
theorem lat6 {w : World} {zs ys : List RI} (h : OkB w zs) (h' : OkB w ys) (hl : zs.length = ys.length) : eqB (hullB zs ys) ys = insB zs ys := by
  obtain ⟨e, ho⟩ := h.hull h' hl
  rw [Bool.eq_iff_iff, e, eqB_iff ho h', insB_iff h h']
  constructor
  · rintro ⟨_, h2⟩
    refine ⟨hl, fun i x y hx hy => ?_⟩
    have := h2 i _ y (zip_get hx hy) hy
    rw [hullI_lo, hullI_hi] at this; omega
  · rintro ⟨_, h2⟩
    refine ⟨by rw [zip_len hl, hl], fun i x y hx hy => ?_⟩
    obtain ⟨a, b, ha, hb, rfl⟩ := zip_inv hx
    rw [hb] at hy; cases hy
    have := h2 i a y ha hb
    rw [hullI_lo, hullI_hi]; omega
theorem lat7 {w : World} {zs ys : List RI} (h : OkB w zs) (h' : OkB w ys) (hl : zs.length = ys.length) (ho : okB zs ys = true) : eqB (meetB zs ys) zs = insB zs ys := by
  have om := h.meet h' hl ho
  rw [Bool.eq_iff_iff, eqB_iff om h, insB_iff h h']
  constructor
  · rintro ⟨_, h2⟩
    refine ⟨hl, fun i x y hx hy => ?_⟩
    have := h2 i _ x (zip_get hx hy) hx
    rw [meetI_lo, meetI_hi] at this; omega
  · rintro ⟨_, h2⟩
    refine ⟨zip_len hl, fun i x y hx hy => ?_⟩
    obtain ⟨a, b, ha, hb, rfl⟩ := zip_inv hx
    rw [ha] at hy; cases hy
    have := h2 i y b ha hb
    rw [meetI_lo, meetI_hi]; omega
theorem lat8 {w : World} {zs ys : List RI} (h : OkB w zs) (h' : OkB w ys) (hl : zs.length = ys.length) (hi : insB zs ys = true) : okB zs ys = true := by
  refine ok_of h h' hl h ?_ hi
  rw [insB_iff h h]
  exact ⟨rfl, fun i x y hx hy => by rw [hx] at hy; cases hy; omega⟩
theorem lat9 {w : World} {zs ys : List RI} (h : OkB w zs) (h' : OkB w ys) (hl : zs.length = ys.length) : eqB zs ys = (insB zs ys && insB ys zs) := by
  rw [Bool.eq_iff_iff, Bool.and_eq_true, eqB_iff h h', insB_iff h h', insB_iff h' h]
  constructor
  · rintro ⟨_, h2⟩
    exact ⟨⟨hl, fun i x y hx hy => by have := h2 i x y hx hy; omega⟩, ⟨hl.symm, fun i x y hx hy => by have := h2 i y x hy hx; omega⟩⟩
  · rintro ⟨⟨_, h2⟩, ⟨_, h3⟩⟩
    exact ⟨hl, fun i x y hx hy => by have := h2 i x y hx hy; have := h3 i y x hy hx; omega⟩
theorem lat10 {w : World} {zs ys : List RI} (h : OkB w zs) (h' : OkB w ys) (hl : zs.length = ys.length) (hi : intB zs ys = true) : insB zs ys = true ∧ insB ys zs = false := by
  unfold intB at hi
  rw [Bool.and_eq_true, allII_true] at hi
  obtain ⟨_, _, h2⟩ := hi
  refine ⟨(insB_iff h h').2 ⟨hl, fun i x y hx hy => by have := intI_iff.1 (h2 i x y hx hy); omega⟩, ?_⟩
  cases hf : insB ys zs with
  | false => rfl
  | true =>
    exfalso
    rw [insB_iff h' h] at hf
    obtain ⟨x0, h0⟩ : ∃ x0, zs[0]? = some x0 := ⟨_, List.getElem?_eq_getElem (show 0 < zs.length by have := h.2.1; omega)⟩
    obtain ⟨y, hy⟩ := get_some hl h0
    have k1 := intI_iff.1 (h2 0 _ y h0 hy)
    have k2 := hf.2 0 y _ hy h0
    omega
theorem lat12 {w : World} {zs ys : List RI} (h : OkB w zs) (h' : OkB w ys) (hl : zs.length = ys.length) : eqB (hullB ys zs) (hullB zs ys) = true := by
  obtain ⟨e, ho⟩ := h.hull h' hl
  obtain ⟨e', ho'⟩ := h'.hull h hl.symm
  rw [e, e', eqB_iff ho' ho]
  refine ⟨by rw [zip_len hl, zip_len hl.symm, hl], fun i x y hx hy => ?_⟩
  obtain ⟨a, b, ha, hb, rfl⟩ := zip_inv hx
  obtain ⟨c, d, hc, hd, rfl⟩ := zip_inv hy
  rw [hb] at hc; rw [ha] at hd; cases hc; cases hd
  rw [hullI_lo, hullI_hi, hullI_lo, hullI_hi]; omega
/-- a point is in the meet exactly if it is in both -/
theorem pts1 {w : World} {zs ys : List RI} (h : OkB w zs) (h' : OkB w ys) (hl : zs.length = ys.length) {ps : List RD} : (hasB zs ps && hasB ys ps) = (okB zs ys && hasB (meetB zs ys) ps) := by
  cases hp : vlP ps with
  | false => rw [hasB_novl hp, hasB_novl hp, hasB_novl hp]; simp
  | true =>
    rw [Bool.eq_iff_iff, Bool.and_eq_true, Bool.and_eq_true, hasB_iff hp h, hasB_iff hp h']
    constructor
    · rintro ⟨⟨k1, k2⟩, ⟨k3, k4⟩⟩
      have ho : okB zs ys = true := by
        unfold okB
        rw [h.vl2 h' hl, Bool.true_and, allII_true]
        refine ⟨hl, fun i x y hx hy => ?_⟩
        obtain ⟨d, hd⟩ := get_some k1 hx
        have := k2 i x d hx hd
        have := k4 i y d hy hd
        rw [meets_iff]; omega
      refine ⟨ho, (hasB_iff hp (h.meet h' hl ho)).2 ⟨by unfold meetB; rw [zip_len hl]; exact k1, fun i x d hx hd => ?_⟩⟩
      obtain ⟨a, b, ha, hb, rfl⟩ := zip_inv hx
      have := k2 i a d ha hd
      have := k4 i b d hb hd
      rw [meetI_lo, meetI_hi]; omega
    · rintro ⟨ho, hm⟩
      rw [hasB_iff hp (h.meet h' hl ho)] at hm
      obtain ⟨k1, k2⟩ := hm
      unfold meetB at k1 k2
      rw [zip_len hl] at k1
      refine ⟨⟨k1, fun i x d hx hd => ?_⟩, ⟨by rw [← hl]; exact k1, fun i x d hx hd => ?_⟩⟩
      · obtain ⟨y, hy⟩ := get_some hl hx
        have := k2 i _ d (zip_get hx hy) hd
        rw [meetI_lo, meetI_hi] at this; omega
      · obtain ⟨y, hy⟩ := get_some hl.symm hx
        have := k2 i _ d (zip_get hy hx) hd
        rw [meetI_lo, meetI_hi] at this; omega
/-- a point is in a box exactly if its box is inside -/
theorem pts2 {w : World} {zs ys : List RI} (h : OkB w zs) (_h' : OkB w ys) (_hl : zs.length = ys.length) {a : Option Addr} {ps : List RD} (hr : RowD w a ps) : hasB zs ps = insB (ptsB ps) zs := by
  cases hp : vlP ps with
  | false =>
    rw [hasB_novl hp]
    unfold ptsB insB Go.Proofs.YtkohlmlmoapedaaGreatDoor.vl2
    rw [hp]
    simp [vlB]
  | true =>
    have op : OkB w (ps.map ptI) := ⟨fun x hx => by
      obtain ⟨d, hd, rfl⟩ := List.mem_map.1 hx
      exact ptI_ok (vlP_ok hr hp hd), by rw [List.length_map]; exact (vlP_iff.1 hp).1, by rw [List.length_map]; exact (vlP_iff.1 hp).2.1⟩
    have e : ptsB ps = ps.map ptI := by unfold ptsB; rw [hp]; rfl
    rw [Bool.eq_iff_iff, hasB_iff hp h, e, insB_iff op h, List.length_map]
    constructor
    · rintro ⟨k1, k2⟩
      refine ⟨k1.symm, fun i x y hx hy => ?_⟩
      rw [List.getElem?_map] at hx
      obtain ⟨d, hd, rfl⟩ := Option.map_eq_some_iff.1 hx
      exact k2 i y d hy hd
    · rintro ⟨k1, k2⟩
      refine ⟨k1.symm, fun i x d hx hd => ?_⟩
      exact k2 i (ptI d) x (by rw [List.getElem?_map, hd]; rfl) hx
theorem pts3 {w : World} {zs ys : List RI} (h : OkB w zs) (h' : OkB w ys) (hl : zs.length = ys.length) {ps : List RD} (k : hasB zs ps = true) : hasB (hullB zs ys) ps = true := by
  have hp : vlP ps = true := by
    unfold hasB at k
    simp only [Bool.and_eq_true] at k
    exact k.2.1
  obtain ⟨e, ho⟩ := h.hull h' hl
  rw [hasB_iff hp h] at k
  rw [e, hasB_iff hp ho]
  refine ⟨by rw [zip_len hl]; exact k.1, fun i x d hx hd => ?_⟩
  obtain ⟨a, b, ha, hb, rfl⟩ := zip_inv hx
  have := k.2 i a d ha hd
  rw [hullI_lo, hullI_hi]; omega
end Go.Proofs.YtkohlmlmoapedaaGreatDoor
end
