/-
  Walks: interval.Meet, of valid intervals other than All.
  The call's own slice of intervals, and append to it.
  Arguments opened: limbs, numbers, intervals, slices of these; how long they are, by the bulk of what is read; a call that leaves all that was there.
-/
import Derived.Test.YtkkiinbgjjjcoaaGreatDoorMIvD
import Derived.Deep.AppendLies
import Derived.Test.YtkkiinbgjjjcoaaGreatDoorRows
import Derived.Test.YtkkiinbgjjjcoaaGreatDoorMIdxD
import Derived.Deep.Slices
import Derived.ChangeArms
import Derived.OpenShut
import Derived.OpenVars
import Derived.ProofKit
section
namespace Go.Proofs.YtkkiinbgjjjcoaaGreatDoor
open Go.RowKit

/-- what both have in common -/
def meetI (x y : RI) : RI := ⟨moreR x.lo y.lo, lessR x.hi y.hi, false⟩
/-- have they anything in common? -/
def meets (x y : RI) : Bool := decide ((moreR x.lo y.lo).iv ≤ (lessR x.hi y.hi).iv)

/-- this result -/
def MeetOut (x y : RI) (w : World) (e : Ending) (w' : World) : Prop :=
  e = .returned (.tuple #[if meets x y then .agg #[.bool (meetI x y).lo.neg, .slice (meetI x y).lo.a (meetI x y).lo.xs.length (meetI x y).lo.c, .int .i64 (meetI x y).lo.e, .bool (meetI x y).hi.neg, .slice (meetI x y).hi.a (meetI x y).hi.xs.length (meetI x y).hi.c, .int .i64 (meetI x y).hi.e, .bool (meetI x y).all] else .agg #[.bool false, .slice none 0 0, .int .i64 0, .bool false, .slice none 0 0, .int .i64 0, .bool false], .bool (meets x y)]) ∧ Kp w w'
theorem Var7.upd {w W : World} {g g' : Nat} (h : Var7 w g') (n : g' ≠ g) (u : Upd g w W) : Var7 W g' := by
  obtain ⟨⟨h0, h1, h2, h3, h4, h5, h6⟩, f0, f1, f2, f3, f4, f5, f6⟩ := h
  have e (j : Nat) : W.cell? ⟨g', j, none⟩ = w.cell? ⟨g', j, none⟩ := u.2.2.2.1 _ n
  have f (j : Nat) : W.frozen? ⟨g', j, none⟩ = w.frozen? ⟨g', j, none⟩ := u.1 _
  exact ⟨⟨(e 0).trans h0, (e 1).trans h1, (e 2).trans h2, (e 3).trans h3, (e 4).trans h4, (e 5).trans h5, (e 6).trans h6⟩,
    (f 0).trans f0, (f 1).trans f1, (f 2).trans f2, (f 3).trans f3, (f 4).trans f4, (f 5).trans f5, (f 6).trans f6⟩
theorem kp_ad (w : World) (o : Obj) : Kp w.drew (w.alloc o).drew := (Kp.refl w.drew).alloc o
theorem Var7.newd (w : World) (t : TypeId) : Var7 (w.alloc (.cells #[.bool false, .slice none 0 0, .int .i64 0, .bool false, .slice none 0 0, .int .i64 0, .bool false] t)).drew w.heap.size := (Var7.new w t).kp (Kp.refl _).drew
theorem set77a {w : World} {o1 o2 : Obj} {g1 g2 : Nat} (n1 : g1 < w.heap.size) (n2 : g2 < w.heap.size) {v0 v1 v2 v3 v4 v5 v6 u0 u1 u2 u3 u4 u5 u6 : Value}
    (h : ((w.alloc o1).cell? ⟨g1, 0, none⟩ = some v0 ∧ (w.alloc o1).cell? ⟨g1, 1, none⟩ = some v1 ∧ (w.alloc o1).cell? ⟨g1, 2, none⟩ = some v2 ∧ (w.alloc o1).cell? ⟨g1, 3, none⟩ = some v3 ∧ (w.alloc o1).cell? ⟨g1, 4, none⟩ = some v4 ∧ (w.alloc o1).cell? ⟨g1, 5, none⟩ = some v5 ∧ (w.alloc o1).cell? ⟨g1, 6, none⟩ = some v6) ∧ (w.alloc o1).cell? ⟨g2, 0, none⟩ = some u0 ∧ (w.alloc o1).cell? ⟨g2, 1, none⟩ = some u1 ∧ (w.alloc o1).cell? ⟨g2, 2, none⟩ = some u2 ∧ (w.alloc o1).cell? ⟨g2, 3, none⟩ = some u3 ∧ (w.alloc o1).cell? ⟨g2, 4, none⟩ = some u4 ∧ (w.alloc o1).cell? ⟨g2, 5, none⟩ = some u5 ∧ (w.alloc o1).cell? ⟨g2, 6, none⟩ = some u6) : ((w.alloc o2).cell? ⟨g1, 0, none⟩ = some v0 ∧ (w.alloc o2).cell? ⟨g1, 1, none⟩ = some v1 ∧ (w.alloc o2).cell? ⟨g1, 2, none⟩ = some v2 ∧ (w.alloc o2).cell? ⟨g1, 3, none⟩ = some v3 ∧ (w.alloc o2).cell? ⟨g1, 4, none⟩ = some v4 ∧ (w.alloc o2).cell? ⟨g1, 5, none⟩ = some v5 ∧ (w.alloc o2).cell? ⟨g1, 6, none⟩ = some v6) ∧ (w.alloc o2).cell? ⟨g2, 0, none⟩ = some u0 ∧ (w.alloc o2).cell? ⟨g2, 1, none⟩ = some u1 ∧ (w.alloc o2).cell? ⟨g2, 2, none⟩ = some u2 ∧ (w.alloc o2).cell? ⟨g2, 3, none⟩ = some u3 ∧ (w.alloc o2).cell? ⟨g2, 4, none⟩ = some u4 ∧ (w.alloc o2).cell? ⟨g2, 5, none⟩ = some u5 ∧ (w.alloc o2).cell? ⟨g2, 6, none⟩ = some u6 := by
  have key (a j : Nat) (n : a < w.heap.size) : (w.alloc o2).cell? ⟨a, j, none⟩ = (w.alloc o1).cell? ⟨a, j, none⟩ :=
    (Below.cell ((Kp.refl w).alloc o2) n).trans (Below.cell ((Kp.refl w).alloc o1) n).symm
  simp only [key _ _ n1, key _ _ n2]
  exact h

end Go.Proofs.YtkkiinbgjjjcoaaGreatDoor
end

section
namespace Go.Proofs.YtkkiinbgjjjcoaaGreatDoor
open Go.RowKit

/-- the seven cells of an interval -/
def RI.cells (x : RI) : List Value := [.bool x.lo.neg, .slice x.lo.a x.lo.xs.length x.lo.c, .int .i64 x.lo.e, .bool x.hi.neg, .slice x.hi.a x.hi.xs.length x.hi.c, .int .i64 x.hi.e, .bool x.all]
theorem RI.cells_len (x : RI) : x.cells.length = 7 := rfl
theorem flat_len (zs : List RI) : (zs.flatMap RI.cells).length = zs.length * 7 := by
  induction zs with
  | nil => rfl
  | cons z zs ih => rw [List.flatMap_cons, List.length_append, ih, RI.cells_len, List.length_cons]; omega
theorem flat_get {zs : List RI} {i : Nat} {x : RI} (h : zs[i]? = some x) {j : Nat} (hj : j < 7) : (zs.flatMap RI.cells)[i * 7 + j]? = x.cells[j]? := by
  induction zs generalizing i with
  | nil => simp at h
  | cons z zs ih =>
    rw [List.flatMap_cons]
    cases i with
    | zero =>
      simp only [List.getElem?_cons_zero, Option.some.injEq] at h
      subst h
      rw [List.getElem?_append_left (by rw [RI.cells_len]; omega), Nat.zero_mul, Nat.zero_add]
    | succ i =>
      rw [List.getElem?_cons_succ] at h
      rw [List.getElem?_append_right (by rw [RI.cells_len]; omega), RI.cells_len, ← ih h]
      congr 1; omega
end Go.Proofs.YtkkiinbgjjjcoaaGreatDoor
end

section
namespace Go.Proofs.YtkkiinbgjjjcoaaGreatDoor
open Go.ChangeShapes Go.WideShapes Go.RowKit Go.Deep

section
variable {H : Type}
theorem bulk_one (d : DataW H) : 1 ≤ Rows.uptoBulk d := by
  cases d with
  | lit l => cases l <;> simp [Rows.uptoBulk]
  | nil => simp [Rows.uptoBulk]
  | ptr d => simp [Rows.uptoBulk]
  | slice elems spare => simp [Rows.uptoBulk]
  | agg parts => simp [Rows.uptoBulk]
  | iface t d => simp [Rows.uptoBulk]
  | map entries => simp [Rows.uptoBulk]
  | held h => simp [Rows.uptoBulk]
theorem bulk_part {d : DataW H} {l : List (DataW H)} (h : d ∈ l) : Rows.uptoBulk d ≤ Rows.uptoBulkAll l := by
  induction l with
  | nil => cases h
  | cons x r ih =>
    simp only [Rows.uptoBulkAll]
    cases List.mem_cons.1 h with
    | inl e => subst e; omega
    | inr e => have := ih e; omega
theorem bulk_len (l : List (DataW H)) : l.length ≤ Rows.uptoBulkAll l := by
  induction l with
  | nil => simp [Rows.uptoBulkAll]
  | cons x r ih => have := bulk_one x; simp only [Rows.uptoBulkAll, List.length_cons]; omega
theorem bulk_slice (elems spare : List (DataW H)) : elems.length ≤ Rows.uptoBulk (.slice elems spare) := by
  have h1 := bulk_len elems
  simp only [Rows.uptoBulk]
  omega
theorem bulk_elem {elems spare : List (DataW H)} {d : DataW H} (h : d ∈ elems) : Rows.uptoBulk d ≤ Rows.uptoBulk (.slice elems spare) := by
  have := bulk_part h
  simp only [Rows.uptoBulk]
  omega
theorem bulk_agg {parts : List (DataW H)} {d : DataW H} (h : d ∈ parts) : Rows.uptoBulk d ≤ Rows.uptoBulk (.agg parts) := by
  have := bulk_part h
  simp only [Rows.uptoBulk]
  omega
end

section
variable {H : Type} {enc : TypeId × Value → H} {w : World} {base : Nat} {spare : Nat → Bool} {held : Bool}
theorem cell_spot {a : Addr} {v : Value} (h : w.cell? (a.add 0) = some v) : ∃ b o, a = ⟨b, o, none⟩ := by
  obtain ⟨b, o, spot⟩ := a
  have hspot : spot = none := by simpa [Addr.add] using World.cell?_spot h
  subst hspot
  exact ⟨b, o, rfl⟩
theorem wf_u32_bd {n : Int} (h : (Lit.int .u32 n).wf = true) : 0 ≤ n ∧ n ≤ 4294967295 := by
  have := bounds_u32 h
  omega
theorem wf_i64_bd {n : Int} (h : (Lit.int .i64 n).wf = true) : I64 n := by
  have := bounds_i64 h
  exact ⟨by omega, by omega⟩
theorem cells32 : Tryz.prog.cellsOf 35 = 1 := by kernel_rfl
theorem cellsBool : Tryz.prog.cellsOf 4 = 1 := by kernel_rfl
theorem cellsInt : Tryz.prog.cellsOf 3 = 1 := by kernel_rfl
theorem cellsLimbs : Tryz.prog.cellsOf 22 = 1 := by kernel_rfl
theorem cellsDyd : Tryz.prog.cellsOf 24 = 3 := by kernel_rfl
/-- limbs -/
theorem open_limbs {fuel : Nat} {cs : List Value} {x : DataW H × List MemPlace} (h : DataW.trod enc Tryz.prog w base spare held fuel 22 cs = some x) :
    ∃ (a : Option Addr) (xs : List Nat) (c : Nat), cs = [.slice a xs.length c] ∧ Rd w a xs ∧ xs.length ≤ c ∧ c ≤ maxLen ∧ xs.length ≤ Rows.uptoBulk x.1 := by
  rcases open_ints Tryz.underlying22 Tryz.underlying35 cells32 h with ⟨hcs, hx⟩ | ⟨a, len, cap, zs, hcs, _, hl, hm, hz, hx, hcell, hwz⟩
  · exact ⟨none, [], 0, hcs, .nil _ _, Nat.le_refl _, by unfold maxLen; omega, Nat.zero_le _⟩
  · have hle : len ≤ zs.length := by rw [hz]; split <;> omega
    have hlen : ((zs.take len).map Int.toNat).length = len := by simp; omega
    refine ⟨some a, (zs.take len).map Int.toNat, cap, by rw [hlen]; exact hcs, ⟨?_, ?_⟩, by omega, hm, ?_⟩
    · intro y hy
      obtain ⟨z, hz', rfl⟩ := List.mem_map.1 hy
      have := wf_u32_bd (hwz z (List.mem_of_mem_take hz'))
      omega
    · by_cases h0 : len = 0
      · exact .inl (by rw [h0]; simp)
      · obtain ⟨b, o, rfl⟩ := cell_spot (hcell 0 (by omega))
        refine .inr ⟨b, o, rfl, fun i hi => ?_⟩
        rw [hlen] at hi
        have hc := hcell i (by omega)
        rw [Addr.add_lit] at hc
        have hw := wf_u32_bd (hwz (zs[i]'(by omega)) (List.getElem_mem _))
        have e : nth ((zs.take len).map Int.toNat) i = (zs[i]'(by omega)).toNat := by
          rw [nth_eq (by rw [hlen]; exact hi)]
          simp
        have e2 : zs.getD i 0 = zs[i]'(by omega) := by simp [List.getD, List.getElem?_eq_getElem (show i < zs.length by omega)]
        rw [hc, e, e2, Int.toNat_of_nonneg hw.1]
    · rw [hx]
      show _ ≤ Rows.uptoBulk (DataW.slice _ _)
      refine Nat.le_trans ?_ (bulk_slice _ _)
      simp [lits]
theorem list3 {α : Type} {l : List α} (h : l.length = 3) : ∃ a b c, l = [a, b, c] := by
  match l, h with
  | [a, b, c], _ => exact ⟨a, b, c, rfl⟩
/-- a number -/
theorem open_dyd {fuel : Nat} {cs : List Value} {x : DataW H × List MemPlace} (h : DataW.trod enc Tryz.prog w base spare held fuel 24 cs = some x) (hb : Rows.uptoBulk x.1 ≤ 1048576) :
    ∃ y : RD, cs = [.bool y.neg, .slice y.a y.xs.length y.c, .int .i64 y.e] ∧ y.rd w := by
  obtain ⟨xs, n, _, hx, hlen, hxl, hf⟩ := DataW.trod_struct Tryz.underlying24 h
  replace hlen := hlen.trans cellsDyd
  obtain ⟨c0, c1, c2, rfl⟩ := list3 hlen
  obtain ⟨y0, y1, y2, rfl⟩ := list3 hxl
  have h0 : DataW.trod enc Tryz.prog w base spare held n 4 (([c0, c1, c2].drop 0).take (Tryz.prog.cellsOf 4)) = some y0 := hf 0 _ rfl
  have h1 : DataW.trod enc Tryz.prog w base spare held n 22 (([c0, c1, c2].drop 1).take (Tryz.prog.cellsOf 22)) = some y1 := hf 1 _ rfl
  have h2 : DataW.trod enc Tryz.prog w base spare held n 3 (([c0, c1, c2].drop 2).take (Tryz.prog.cellsOf 3)) = some y2 := hf 2 _ rfl
  rw [cellsBool] at h0
  rw [cellsLimbs] at h1
  rw [cellsInt] at h2
  have h0 : DataW.trod enc Tryz.prog w base spare held n 4 [c0] = some y0 := h0
  have h1 : DataW.trod enc Tryz.prog w base spare held n 22 [c1] = some y1 := h1
  have h2 : DataW.trod enc Tryz.prog w base spare held n 3 [c2] = some y2 := h2
  obtain ⟨s, e0, _⟩ := DataW.trod_bool Tryz.underlying4 h0
  obtain ⟨a, zs, c, e1, hr, hc, hm, hbz⟩ := open_limbs h1
  obtain ⟨e, e2, _, hw⟩ := DataW.trod_int Tryz.underlying3 h2
  simp only [List.cons.injEq, and_true] at e0 e1 e2
  subst e0 e1 e2
  have hy1 : y1.1 ∈ [y0, y1, y2].map (·.1) := by simp
  have hle : Rows.uptoBulk y1.1 ≤ Rows.uptoBulk x.1 := by rw [hx]; exact bulk_agg hy1
  exact ⟨⟨s, a, zs, c, e⟩, rfl, hr, hc, hm, by show zs.length ≤ _; omega, wf_i64_bd hw⟩
theorem list7 {α : Type} {l : List α} (h : l.length = 7) : ∃ a b c d e f g, l = [a, b, c, d, e, f, g] := by
  match l, h with
  | [a, b, c, d, e, f, g], _ => exact ⟨a, b, c, d, e, f, g, rfl⟩
instance : Inhabited RD := ⟨⟨false, none, [], 0, 0⟩⟩
instance : Inhabited RI := ⟨⟨default, default, false⟩⟩
/-- a slice of numbers -/
theorem open_rowD {fuel : Nat} {cs : List Value} {x : DataW H × List MemPlace} (h : DataW.trod enc Tryz.prog w base spare held fuel 38 cs = some x) (hb : Rows.uptoBulk x.1 ≤ 1048576) :
    ∃ (a : Option Addr) (zs : List RD) (c : Nat), cs = [.slice a zs.length c] ∧ RowD w a zs ∧ zs.length ≤ 1048576 := by
  rcases open_slice Tryz.underlying38 h with ⟨hcs, hx⟩ | ⟨a, len, cap, m, n, D, Pl, hcs, _, hl, hm, hmm, hx, hi⟩
  · exact ⟨none, [], 0, hcs, fun i x hx => by simp at hx, Nat.zero_le _⟩
  · have hle : len ≤ m := by rw [hmm]; split <;> omega
    have hbl : ∀ i, i < len → Rows.uptoBulk (D i) ≤ 1048576 := fun i hil => by
      refine Nat.le_trans ?_ hb
      rw [hx]
      exact bulk_elem (List.mem_map.2 ⟨i, List.mem_range.2 hil, rfl⟩)
    have hll : len ≤ 1048576 := by
      refine Nat.le_trans ?_ hb
      rw [hx]
      refine Nat.le_trans ?_ (bulk_slice _ _)
      simp
    obtain ⟨f, hf⟩ := choose_lt (α := RD) (n := len) (p := fun i y => w.cells? base (a.add (i * 3)) 3 = some [.bool y.neg, .slice y.a y.xs.length y.c, .int .i64 y.e] ∧ y.rd w) (fun i hil => by
      obtain ⟨cs', h1, h2⟩ := hi i (by omega)
      rw [cellsDyd] at h1
      obtain ⟨y, e, hr⟩ := open_dyd h2 (hbl i hil)
      exact ⟨y, by rw [h1, e], hr⟩)
    have hfl : ((List.range len).map f).length = len := by simp
    refine ⟨some a, (List.range len).map f, cap, by rw [hfl]; exact hcs, fun i x hx => ?_, by omega⟩
    have hil : i < len := by have := (List.getElem?_eq_some_iff.1 hx).1; rwa [hfl] at this
    rw [List.getElem?_map, List.getElem?_range hil] at hx
    cases hx
    obtain ⟨h1, h2⟩ := hf i hil
    obtain ⟨_, _, hat⟩ := World.cells?_some h1
    have h0 := hf 0 (by omega)
    have hspot : ∃ b o, a = ⟨b, o, none⟩ := by
      obtain ⟨_, _, hat0⟩ := World.cells?_some h0.1
      have := hat0 0 (by decide)
      rw [Nat.zero_mul, add_add] at this
      exact cell_spot this
    obtain ⟨b, o, rfl⟩ := hspot
    have key (j : Nat) (hj : j < 3) (u : Value) (hu : ([.bool (f i).neg, .slice (f i).a (f i).xs.length (f i).c, .int .i64 (f i).e] : List Value)[j]? = some u) : w.cell? ⟨b, o + i * 3 + j, none⟩ = some u := by
      have := hat j hj
      rw [add_add, Addr.add_lit, hu, ← Nat.add_assoc] at this
      exact this
    exact ⟨b, o, rfl, h2, key 0 (by decide) _ rfl, key 1 (by decide) _ rfl, key 2 (by decide) _ rfl⟩
end
end Go.Proofs.YtkkiinbgjjjcoaaGreatDoor
end
