/-
  Walks: interval.Meet, of valid intervals other than All.
  The call's own slice of intervals, and append to it.
  Arguments opened: limbs, numbers, intervals, slices of these; how long they are, by the bulk of what is read; a call that leaves all that was there.
  What both rows of this seat share: the table that the row lists, a world that holds it, three slices opened, the step from a call that leaves all that was there to the row's own words.
  Walks: slices.IndexFunc, ContainsFunc at [][]flowpipe/api.Dyadic.
  Arguments opened: a slice of slices of numbers.
  Walks: slices.IndexFunc, ContainsFunc at []api.Interval.
  Walks: slices.IndexFunc, ContainsFunc at [][]flowpipe/api.Interval.
  Arguments opened: a slice of slices of intervals.
-/
import Derived.Test.YtdlpiblgkpgplaaGreatDoorMCmpD
import Derived.Deep.AppendLies
import Derived.Test.YtdlpiblgkpgplaaGreatDoorRows
import Derived.Deep.Slices
import Derived.ChangeArms
import Derived.OpenShut
import Derived.OpenVars
import Derived.ProofKit
import Derived.Test.YtdlpiblgkpgplaaGreatDoorCards
import Derived.Test.YtdlpiblgkpgplaaGreatDoorTie
import Derived.Test.YtdlpiblgkpgplaaGreatDoorMMul
import Derived.WideKeyArgs
import Derived.WalkKit
import Derived.Below
import Derived.ChangeSame
import Derived.Deep.DeepHandedRow
import Derived.Lib.LaidTab
import Derived.Test.YtdlpiblgkpgplaaGreatDoorMNum
section
namespace Go.Proofs.YtdlpiblgkpgplaaGreatDoor
open Go.RowKit

theorem Var7.upd {w W : World} {g g' : Nat} (h : Var7 w g') (n : g' ≠ g) (u : Upd g w W) : Var7 W g' := by
  obtain ⟨⟨h0, h1, h2, h3, h4, h5, h6⟩, f0, f1, f2, f3, f4, f5, f6⟩ := h
  have e (j : Nat) : W.cell? ⟨g', j, none⟩ = w.cell? ⟨g', j, none⟩ := u.2.2.2.1 _ n
  have f (j : Nat) : W.frozen? ⟨g', j, none⟩ = w.frozen? ⟨g', j, none⟩ := u.1 _
  exact ⟨⟨(e 0).trans h0, (e 1).trans h1, (e 2).trans h2, (e 3).trans h3, (e 4).trans h4, (e 5).trans h5, (e 6).trans h6⟩,
    (f 0).trans f0, (f 1).trans f1, (f 2).trans f2, (f 3).trans f3, (f 4).trans f4, (f 5).trans f5, (f 6).trans f6⟩
end Go.Proofs.YtdlpiblgkpgplaaGreatDoor
end

section
namespace Go.Proofs.YtdlpiblgkpgplaaGreatDoor
open Go.RowKit

/-- the seven cells of an interval -/
def RI.cells (x : RI) : List Value := [.bool x.lo.neg, .slice x.lo.a x.lo.xs.length x.lo.c, .int .i64 x.lo.e, .bool x.hi.neg, .slice x.hi.a x.hi.xs.length x.hi.c, .int .i64 x.hi.e, .bool x.all]
theorem RI.cells_len (x : RI) : x.cells.length = 7 := rfl
/-- The call's own slice v, in a block that was not there in the world wb, of the intervals zs, whose numbers were there. -/
def OwnI (wb w : World) (v : Value) (zs : List RI) : Prop :=
  ((∀ x, x ∈ zs → x.rd wb) ∧ Kp wb w) ∧ w.ownsRow wb.heap.size 35 7 v zs.length (zs.flatMap RI.cells)
theorem flat_get {zs : List RI} {i : Nat} {x : RI} (h : zs[i]? = some x) {j : Nat} (hj : j < 7) : (zs.flatMap RI.cells)[i * 7 + j]? = x.cells[j]? := by
  induction zs generalizing i with
  | nil => simp at h
  | cons z zs ih =>
    rw [List.flatMap_cons]
    cases i with
    | zero =>
      simp only [List.getElem?_cons_zero, Option.some.injEq] at h
      subst h
      rw [List.getElem?_append_left (by rw [RI.cells_len]; omega), Nat.zero_mul, Nat.zero_add]
    | succ i =>
      rw [List.getElem?_cons_succ] at h
      rw [List.getElem?_append_right (by rw [RI.cells_len]; omega), RI.cells_len, ← ih h]
      congr 1; omega
theorem OwnI.nil {wb w : World} (k : Kp wb w) : OwnI wb w (.slice none 0 0) [] := ⟨⟨fun _ h => by simp at h, k⟩, World.ownsRow_nil _ _ _ _⟩
theorem OwnI.value {wb w : World} {v : Value} {zs : List RI} (h : OwnI wb w v zs) : ∃ a c, v = .slice a zs.length c ∧ zs.length ≤ c ∧ c ≤ maxLen ∧ RowI w a zs := by
  obtain ⟨h1, h2, h3⟩ := h
  rcases h3 with ⟨rfl, h3⟩ | ⟨g, cap, cur, rfl, hb, hg, hn, hc, hs, ht⟩
  · have h0 : zs = [] := List.length_eq_zero_iff.1 h3
    subst h0
    exact ⟨none, 0, rfl, Nat.le_refl _, by decide, fun i x hi => by simp at hi⟩
  · refine ⟨_, _, rfl, hn, hc, fun i x hi => ⟨g, 0, rfl, (h1.1 x (List.mem_of_getElem? hi)).kp h1.2, ?_⟩⟩
    have hil : i < zs.length := (List.getElem?_eq_some_iff.1 hi).1
    have key (j : Nat) (hj : j < 7) (u : Value) (hu : x.cells[j]? = some u) : w.cell? ⟨g, i * 7 + j, none⟩ = some u := by
      rw [cell_of_row w g _ cur _ _ hg]
      have h5 : (cur.toList.take (zs.length * 7))[i * 7 + j]? = some u := by rw [ht, flat_get hi hj, hu]
      rw [List.getElem?_take, if_pos (by omega)] at h5
      simpa using h5
    simp only [Nat.zero_add]
    exact ⟨key 0 (by decide) _ rfl, key 1 (by decide) _ rfl, key 2 (by decide) _ rfl, key 3 (by decide) _ rfl, key 4 (by decide) _ rfl, key 5 (by decide) _ rfl, key 6 (by decide) _ rfl⟩
theorem OwnI.kp {wb w w' : World} {v : Value} {zs : List RI} (h : OwnI wb w v zs) (k : Kp w w') : OwnI wb w' v zs := by
  refine ⟨⟨h.1.1, h.1.2.trans k⟩, ?_⟩
  obtain ⟨_, h2, h3⟩ := h
  refine ⟨h2, ?_⟩
  rcases h3 with h3 | ⟨g, cap, cur, h4, hb, hg, hr⟩
  · exact .inl h3
  · exact .inr ⟨g, cap, cur, h4, hb, k.heap hg, hr⟩
theorem infoIvl : (Tryz.prog.info? 35).map (fun i => (i.zero, i.size, i.bytes)) = some (some (.agg #[.bool false, .slice none 0 0, .int .i64 0, .bool false, .slice none 0 0, .int .i64 0, .bool false]), 7, 88) := by kernel_rfl

end Go.Proofs.YtdlpiblgkpgplaaGreatDoor
end

section
namespace Go.Proofs.YtdlpiblgkpgplaaGreatDoor
open Go.ChangeShapes Go.WideShapes Go.RowKit Go.Deep

section
variable {H : Type}
theorem bulk_one (d : DataW H) : 1 ≤ Rows.uptoBulk d := by
  cases d with
  | lit l => cases l <;> simp [Rows.uptoBulk]
  | nil => simp [Rows.uptoBulk]
  | ptr d => simp [Rows.uptoBulk]
  | slice elems spare => simp [Rows.uptoBulk]
  | agg parts => simp [Rows.uptoBulk]
  | iface t d => simp [Rows.uptoBulk]
  | map entries => simp [Rows.uptoBulk]
  | held h => simp [Rows.uptoBulk]
theorem bulk_part {d : DataW H} {l : List (DataW H)} (h : d ∈ l) : Rows.uptoBulk d ≤ Rows.uptoBulkAll l := by
  induction l with
  | nil => cases h
  | cons x r ih =>
    simp only [Rows.uptoBulkAll]
    cases List.mem_cons.1 h with
    | inl e => subst e; omega
    | inr e => have := ih e; omega
theorem bulk_len (l : List (DataW H)) : l.length ≤ Rows.uptoBulkAll l := by
  induction l with
  | nil => simp [Rows.uptoBulkAll]
  | cons x r ih => have := bulk_one x; simp only [Rows.uptoBulkAll, List.length_cons]; omega
theorem bulk_slice (elems spare : List (DataW H)) : elems.length ≤ Rows.uptoBulk (.slice elems spare) := by
  have h1 := bulk_len elems
  simp only [Rows.uptoBulk]
  omega
theorem bulk_elem {elems spare : List (DataW H)} {d : DataW H} (h : d ∈ elems) : Rows.uptoBulk d ≤ Rows.uptoBulk (.slice elems spare) := by
  have := bulk_part h
  simp only [Rows.uptoBulk]
  omega
theorem bulk_agg {parts : List (DataW H)} {d : DataW H} (h : d ∈ parts) : Rows.uptoBulk d ≤ Rows.uptoBulk (.agg parts) := by
  have := bulk_part h
  simp only [Rows.uptoBulk]
  omega
end

section
variable {H : Type} {enc : TypeId × Value → H} {w : World} {base : Nat} {spare : Nat → Bool} {held : Bool}
theorem cell_spot {a : Addr} {v : Value} (h : w.cell? (a.add 0) = some v) : ∃ b o, a = ⟨b, o, none⟩ := by
  obtain ⟨b, o, spot⟩ := a
  have hspot : spot = none := by simpa [Addr.add] using World.cell?_spot h
  subst hspot
  exact ⟨b, o, rfl⟩
theorem wf_u32_bd {n : Int} (h : (Lit.int .u32 n).wf = true) : 0 ≤ n ∧ n ≤ 4294967295 := by
  have := bounds_u32 h
  omega
theorem wf_i64_bd {n : Int} (h : (Lit.int .i64 n).wf = true) : I64 n := by
  have := bounds_i64 h
  exact ⟨by omega, by omega⟩
theorem cells32 : Tryz.prog.cellsOf 73 = 1 := by kernel_rfl
theorem cellsBool : Tryz.prog.cellsOf 4 = 1 := by kernel_rfl
theorem cellsInt : Tryz.prog.cellsOf 3 = 1 := by kernel_rfl
theorem cellsLimbs : Tryz.prog.cellsOf 31 = 1 := by kernel_rfl
theorem cellsDyd : Tryz.prog.cellsOf 33 = 3 := by kernel_rfl
theorem cellsIvl : Tryz.prog.cellsOf 35 = 7 := by kernel_rfl
/-- limbs -/
theorem open_limbs {fuel : Nat} {cs : List Value} {x : DataW H × List MemPlace} (h : DataW.trod enc Tryz.prog w base spare held fuel 31 cs = some x) :
    ∃ (a : Option Addr) (xs : List Nat) (c : Nat), cs = [.slice a xs.length c] ∧ Rd w a xs ∧ xs.length ≤ c ∧ c ≤ maxLen ∧ xs.length ≤ Rows.uptoBulk x.1 := by
  rcases open_ints Tryz.underlying31 Tryz.underlying73 cells32 h with ⟨hcs, hx⟩ | ⟨a, len, cap, zs, hcs, _, hl, hm, hz, hx, hcell, hwz⟩
  · exact ⟨none, [], 0, hcs, .nil _ _, Nat.le_refl _, by unfold maxLen; omega, Nat.zero_le _⟩
  · have hle : len ≤ zs.length := by rw [hz]; split <;> omega
    have hlen : ((zs.take len).map Int.toNat).length = len := by simp; omega
    refine ⟨some a, (zs.take len).map Int.toNat, cap, by rw [hlen]; exact hcs, ⟨?_, ?_⟩, by omega, hm, ?_⟩
    · intro y hy
      obtain ⟨z, hz', rfl⟩ := List.mem_map.1 hy
      have := wf_u32_bd (hwz z (List.mem_of_mem_take hz'))
      omega
    · by_cases h0 : len = 0
      · exact .inl (by rw [h0]; simp)
      · obtain ⟨b, o, rfl⟩ := cell_spot (hcell 0 (by omega))
        refine .inr ⟨b, o, rfl, fun i hi => ?_⟩
        rw [hlen] at hi
        have hc := hcell i (by omega)
        rw [Addr.add_lit] at hc
        have hw := wf_u32_bd (hwz (zs[i]'(by omega)) (List.getElem_mem _))
        have e : nth ((zs.take len).map Int.toNat) i = (zs[i]'(by omega)).toNat := by
          rw [nth_eq (by rw [hlen]; exact hi)]
          simp
        have e2 : zs.getD i 0 = zs[i]'(by omega) := by simp [List.getD, List.getElem?_eq_getElem (show i < zs.length by omega)]
        rw [hc, e, e2, Int.toNat_of_nonneg hw.1]
    · rw [hx]
      show _ ≤ Rows.uptoBulk (DataW.slice _ _)
      refine Nat.le_trans ?_ (bulk_slice _ _)
      simp [lits]
theorem list3 {α : Type} {l : List α} (h : l.length = 3) : ∃ a b c, l = [a, b, c] := by
  match l, h with
  | [a, b, c], _ => exact ⟨a, b, c, rfl⟩
/-- a number -/
theorem open_dyd {fuel : Nat} {cs : List Value} {x : DataW H × List MemPlace} (h : DataW.trod enc Tryz.prog w base spare held fuel 33 cs = some x) (hb : Rows.uptoBulk x.1 ≤ 1048576) :
    ∃ y : RD, cs = [.bool y.neg, .slice y.a y.xs.length y.c, .int .i64 y.e] ∧ y.rd w := by
  obtain ⟨xs, n, _, hx, hlen, hxl, hf⟩ := DataW.trod_struct Tryz.underlying33 h
  replace hlen := hlen.trans cellsDyd
  obtain ⟨c0, c1, c2, rfl⟩ := list3 hlen
  obtain ⟨y0, y1, y2, rfl⟩ := list3 hxl
  have h0 : DataW.trod enc Tryz.prog w base spare held n 4 (([c0, c1, c2].drop 0).take (Tryz.prog.cellsOf 4)) = some y0 := hf 0 _ rfl
  have h1 : DataW.trod enc Tryz.prog w base spare held n 31 (([c0, c1, c2].drop 1).take (Tryz.prog.cellsOf 31)) = some y1 := hf 1 _ rfl
  have h2 : DataW.trod enc Tryz.prog w base spare held n 3 (([c0, c1, c2].drop 2).take (Tryz.prog.cellsOf 3)) = some y2 := hf 2 _ rfl
  rw [cellsBool] at h0
  rw [cellsLimbs] at h1
  rw [cellsInt] at h2
  have h0 : DataW.trod enc Tryz.prog w base spare held n 4 [c0] = some y0 := h0
  have h1 : DataW.trod enc Tryz.prog w base spare held n 31 [c1] = some y1 := h1
  have h2 : DataW.trod enc Tryz.prog w base spare held n 3 [c2] = some y2 := h2
  obtain ⟨s, e0, _⟩ := DataW.trod_bool Tryz.underlying4 h0
  obtain ⟨a, zs, c, e1, hr, hc, hm, hbz⟩ := open_limbs h1
  obtain ⟨e, e2, _, hw⟩ := DataW.trod_int Tryz.underlying3 h2
  simp only [List.cons.injEq, and_true] at e0 e1 e2
  subst e0 e1 e2
  have hy1 : y1.1 ∈ [y0, y1, y2].map (·.1) := by simp
  have hle : Rows.uptoBulk y1.1 ≤ Rows.uptoBulk x.1 := by rw [hx]; exact bulk_agg hy1
  exact ⟨⟨s, a, zs, c, e⟩, rfl, hr, hc, hm, by show zs.length ≤ _; omega, wf_i64_bd hw⟩
theorem list7 {α : Type} {l : List α} (h : l.length = 7) : ∃ a b c d e f g, l = [a, b, c, d, e, f, g] := by
  match l, h with
  | [a, b, c, d, e, f, g], _ => exact ⟨a, b, c, d, e, f, g, rfl⟩
/-- an interval -/
theorem open_ivl {fuel : Nat} {cs : List Value} {x : DataW H × List MemPlace} (h : DataW.trod enc Tryz.prog w base spare held fuel 35 cs = some x) (hb : Rows.uptoBulk x.1 ≤ 1048576) :
    ∃ y : RI, cs = [.bool y.lo.neg, .slice y.lo.a y.lo.xs.length y.lo.c, .int .i64 y.lo.e, .bool y.hi.neg, .slice y.hi.a y.hi.xs.length y.hi.c, .int .i64 y.hi.e, .bool y.all] ∧ y.rd w := by
  obtain ⟨xs, n, _, hx, hlen, hxl, hf⟩ := DataW.trod_struct Tryz.underlying35 h
  replace hlen := hlen.trans cellsIvl
  obtain ⟨c0, c1, c2, c3, c4, c5, c6, rfl⟩ := list7 hlen
  obtain ⟨y0, y1, y2, rfl⟩ := list3 hxl
  have h0 : DataW.trod enc Tryz.prog w base spare held n 33 (([c0, c1, c2, c3, c4, c5, c6].drop 0).take (Tryz.prog.cellsOf 33)) = some y0 := hf 0 _ rfl
  have h1 : DataW.trod enc Tryz.prog w base spare held n 33 (([c0, c1, c2, c3, c4, c5, c6].drop 3).take (Tryz.prog.cellsOf 33)) = some y1 := hf 1 _ rfl
  have h2 : DataW.trod enc Tryz.prog w base spare held n 4 (([c0, c1, c2, c3, c4, c5, c6].drop 6).take (Tryz.prog.cellsOf 4)) = some y2 := hf 2 _ rfl
  rw [cellsDyd] at h0 h1
  rw [cellsBool] at h2
  have hle0 : Rows.uptoBulk y0.1 ≤ Rows.uptoBulk x.1 := by rw [hx]; exact bulk_agg (by simp)
  have hle1 : Rows.uptoBulk y1.1 ≤ Rows.uptoBulk x.1 := by rw [hx]; exact bulk_agg (by simp)
  have h0 : DataW.trod enc Tryz.prog w base spare held n 33 [c0, c1, c2] = some y0 := h0
  have h1 : DataW.trod enc Tryz.prog w base spare held n 33 [c3, c4, c5] = some y1 := h1
  have h2 : DataW.trod enc Tryz.prog w base spare held n 4 [c6] = some y2 := h2
  obtain ⟨lo, e0, r0⟩ := open_dyd h0 (by omega)
  obtain ⟨hi, e1, r1⟩ := open_dyd h1 (by omega)
  obtain ⟨s, e2, _⟩ := DataW.trod_bool Tryz.underlying4 h2
  simp only [List.cons.injEq, and_true] at e0 e1 e2
  obtain ⟨rfl, rfl, rfl⟩ := e0
  obtain ⟨rfl, rfl, rfl⟩ := e1
  subst e2
  exact ⟨⟨lo, hi, s⟩, rfl, r0, r1⟩
instance : Inhabited RD := ⟨⟨false, none, [], 0, 0⟩⟩
instance : Inhabited RI := ⟨⟨default, default, false⟩⟩
/-- a slice of intervals -/
theorem open_rowI {fuel : Nat} {cs : List Value} {x : DataW H × List MemPlace} (h : DataW.trod enc Tryz.prog w base spare held fuel 24 cs = some x) (hb : Rows.uptoBulk x.1 ≤ 1048576) :
    ∃ (a : Option Addr) (zs : List RI) (c : Nat), cs = [.slice a zs.length c] ∧ RowI w a zs ∧ zs.length ≤ 1048576 := by
  rcases open_slice Tryz.underlying24 h with ⟨hcs, hx⟩ | ⟨a, len, cap, m, n, D, Pl, hcs, _, hl, hm, hmm, hx, hi⟩
  · exact ⟨none, [], 0, hcs, fun i x hx => by simp at hx, Nat.zero_le _⟩
  · have hle : len ≤ m := by rw [hmm]; split <;> omega
    have hbl : ∀ i, i < len → Rows.uptoBulk (D i) ≤ 1048576 := fun i hil => by
      refine Nat.le_trans ?_ hb
      rw [hx]
      exact bulk_elem (List.mem_map.2 ⟨i, List.mem_range.2 hil, rfl⟩)
    have hll : len ≤ 1048576 := by
      refine Nat.le_trans ?_ hb
      rw [hx]
      refine Nat.le_trans ?_ (bulk_slice _ _)
      simp
    obtain ⟨f, hf⟩ := choose_lt (α := RI) (n := len) (p := fun i y => w.cells? base (a.add (i * 7)) 7 = some [.bool y.lo.neg, .slice y.lo.a y.lo.xs.length y.lo.c, .int .i64 y.lo.e, .bool y.hi.neg, .slice y.hi.a y.hi.xs.length y.hi.c, .int .i64 y.hi.e, .bool y.all] ∧ y.rd w) (fun i hil => by
      obtain ⟨cs', h1, h2⟩ := hi i (by omega)
      rw [cellsIvl] at h1
      obtain ⟨y, e, hr⟩ := open_ivl h2 (hbl i hil)
      exact ⟨y, by rw [h1, e], hr⟩)
    have hfl : ((List.range len).map f).length = len := by simp
    refine ⟨some a, (List.range len).map f, cap, by rw [hfl]; exact hcs, fun i x hx => ?_, by omega⟩
    have hil : i < len := by have := (List.getElem?_eq_some_iff.1 hx).1; rwa [hfl] at this
    rw [List.getElem?_map, List.getElem?_range hil] at hx
    cases hx
    obtain ⟨h1, h2⟩ := hf i hil
    obtain ⟨_, _, hat⟩ := World.cells?_some h1
    have h0 := hf 0 (by omega)
    have hspot : ∃ b o, a = ⟨b, o, none⟩ := by
      obtain ⟨_, _, hat0⟩ := World.cells?_some h0.1
      have := hat0 0 (by decide)
      rw [Nat.zero_mul, add_add] at this
      exact cell_spot this
    obtain ⟨b, o, rfl⟩ := hspot
    have key (j : Nat) (hj : j < 7) (u : Value) (hu : ([.bool (f i).lo.neg, .slice (f i).lo.a (f i).lo.xs.length (f i).lo.c, .int .i64 (f i).lo.e, .bool (f i).hi.neg, .slice (f i).hi.a (f i).hi.xs.length (f i).hi.c, .int .i64 (f i).hi.e, .bool (f i).all] : List Value)[j]? = some u) : w.cell? ⟨b, o + i * 7 + j, none⟩ = some u := by
      have := hat j hj
      rw [add_add, Addr.add_lit, hu, ← Nat.add_assoc] at this
      exact this
    exact ⟨b, o, rfl, h2, key 0 (by decide) _ rfl, key 1 (by decide) _ rfl, key 2 (by decide) _ rfl, key 3 (by decide) _ rfl, key 4 (by decide) _ rfl, key 5 (by decide) _ rfl, key 6 (by decide) _ rfl⟩
end
end Go.Proofs.YtdlpiblgkpgplaaGreatDoor
end

section
namespace Go.Proofs.YtdlpiblgkpgplaaGreatDoor
open Go.ChangeShapes Go.WideShapes Go.ChangeAt Go.RowKit

theorem ownKnobs : ownKnob Tryz.prog.godebug = none := by kernel_rfl
theorem laidOutSeat : laidOutB Tryz.prog = true := by kernel_rfl
theorem gTab : Tryz.prog.globalNamed "math/bits.deBruijn32tab" = some 0 := by kernel_rfl
theorem gTabType : (Tryz.prog.globals[0]?).map (·.type) = some 141 := by kernel_rfl
theorem cellsTab : Tryz.prog.cellsOf 141 = 32 := by kernel_rfl
theorem cellsByte : Tryz.prog.cellsOf 5 = 1 := by kernel_rfl
def tabInts : List Int := [0, 1, 28, 2, 29, 14, 24, 3, 30, 22, 20, 15, 25, 17, 4, 8, 31, 27, 13, 23, 21, 19, 16, 7, 26, 12, 18, 6, 11, 5, 10, 9]

/-- what the row's list gives: the table's cells hold its numbers -/
theorem tab_of_laid {W : World} (h : laidMetH Tryz.prog [("math/bits.deBruijn32tab", Rows.laid_math_bits_deBruijn32tab)] W) : Tab W := by
  have T : Lib.TabIs Tryz.prog W "math/bits.deBruijn32tab" .u8 tabInts :=
    Lib.tabIs_of_head (rest := []) gTab gTabType Tryz.underlying141 Tryz.underlying5 cellsByte cellsTab h
  intro j hj
  have hc := T.cell gTab j hj
  rw [hc]
  have e : ∀ j : Fin 32, tabInts.getD j.1 0 = ((Lib.deBruijn32tab.getD j.1 0 : Nat) : Int) := by decide
  exact congrArg some (congrArg (Value.int IntKind.u8) (e ⟨j, hj⟩))

/-- a world for the witness: the settled one, the table holding what its initialiser lays -/
noncomputable def laidWorld (os : Os) : World :=
  { World.holding Tryz.prog os ⟨#[], #[], []⟩ with heap := (World.holding Tryz.prog os ⟨#[], #[], []⟩).heap.modify 0 fun
      | .cells _ t frozen => .cells (tabInts.map fun z => Value.int .u8 z).toArray t frozen
      | o => o }

section
variable {H : Type} {enc : TypeId × Value → H} {P : Program}
theorem post_of_below {f : Func} {s : ChangeSpec} {apart fresh handsOn again : Bool} {W W' : World} {args : Array Value} {v : Value} {ds gs : List (DataW H)} {before pa pv : List MemPlace}
    (hW : DataW.Whole enc P f.params.toList s.vars apart W args.toList ds gs before)
    (hres : ∀ (b : Nat) (sp : Nat → Bool) (hd : Bool), DataW.TrodAll enc P W' b sp hd f.resultTypes.toList (v.resultList f.resultTypes.size) (s.fn H (ds ++ gs)).results [])
    (hargs : ∀ sp : Nat → Bool, (∀ p ∈ before, sp p.block = true) → DataW.TrodAll enc P W' 0 sp true f.params.toList args.toList (s.fn H (ds ++ gs)).args pa)
    (hvars : ∀ sp : Nat → Bool, (∀ p ∈ before, sp p.block = true) → DataW.TrodVars enc P W' sp s.vars (s.fn H (ds ++ gs)).vars pv)
    (hps : before = pa ++ pv) (hb : Below W.heap.size W W')
    (hok : ∀ (j : Nat) (t : TypeId) (r : Value), f.resultTypes[j]? = some t → (v.resultList f.resultTypes.size)[j]? = some r → Value.okWide P W' .any 0 t r) :
    s.post enc P f apart fresh handsOn again W args v W' := by
  have hlt : ∀ p ∈ before, p.block < W.heap.size := fun p hp => hW.lt p hp
  have hold : ∀ p ∈ before, (fun b => decide (b < W.heap.size)) p.block = true := fun p hp => by simpa using hlt p hp
  refine ⟨ds, gs, before, [], pa, pv, hW, hres _ _ _, hargs _ hold, hvars _ hold, World.keptBut_mono (fun p hp => ⟨hp, ?_⟩) (hb.frame (· ∈ before)), fun _ => ?_⟩
  · rw [hps, List.mem_append] at hp
    exact Or.inr hp
  · obtain ⟨_, _, _, _, _, hz, hn⟩ := hW
    refine ⟨hok, _, _, ([] ++ pa) ++ pv, ⟨[] ++ pa, pv, trodAll_append (hargs _ (fun _ _ => rfl)) (hres _ _ _), hvars _ (fun _ _ => rfl), rfl, ?_, ?_⟩, ?_⟩
    · intro b off hp
      have hin : MemPlace.cell b off ∈ before := by rw [hps]; simpa using hp
      rw [hb.frozen (hlt _ hin)]
      exact hz b off hin
    · intro ha
      have := hn ha
      rw [hps] at this
      simpa using this
    · intro p hp _
      rw [hps]
      simpa using hp
end
/-- the bound, as the form hands it over -/
theorem bulk_bound {H : Type} {l : List (DataW H)} {d : DataW H} (hk : Rows.uptoSmall H l = true) (h : d ∈ l) : Rows.uptoBulk d ≤ 1048576 :=
  Nat.le_trans (bulk_part h) (of_decide_eq_true hk)
end Go.Proofs.YtdlpiblgkpgplaaGreatDoor
end

section
namespace Go.Proofs.YtdlpiblgkpgplaaGreatDoor
open Go.RowKit

/-- a slice of slices of numbers reads so -/
def RowN (w : World) (a : Option Addr) (m : List (List RD)) : Prop :=
  ∀ i r, m[i]? = some r → ∃ b o ra rc, a = some ⟨b, o, none⟩ ∧ w.cell? ⟨b, o + i, none⟩ = some (.slice ra r.length rc) ∧ RowD w ra r ∧ r.length ≤ 1100000
theorem RowN.kp {w w' : World} {a : Option Addr} {m : List (List RD)} (h : RowN w a m) (k : Kp w w') : RowN w' a m := by
  intro i r hi
  obtain ⟨b, o, ra, rc, h1, h2, h3, h4⟩ := h i r hi
  exact ⟨b, o, ra, rc, h1, k.cell h2, h3.kp k, h4⟩

/-- the first index at which p answers true; -1 if there is none -/
def firstN (p : List RD → Bool) (zs : List (List RD)) : Int := match zs.findIdx? p with | some i => (i : Int) | none => -1
theorem firstN_some {p : List RD → Bool} {zs : List (List RD)} {k : Nat} {x : List RD} (hk : zs[k]? = some x) (hp : p x = true) (h : ∀ i y, zs[i]? = some y → i < k → p y = false) : firstN p zs = k := by
  unfold firstN
  have : zs.findIdx? p = some k := by
    rw [List.findIdx?_eq_some_iff_getElem]
    obtain ⟨h1, h2⟩ := List.getElem?_eq_some_iff.1 hk
    refine ⟨h1, by rw [h2]; exact hp, fun j hj => ?_⟩
    rw [h j _ (List.getElem?_eq_getElem (by omega)) hj]; decide
  rw [this]
theorem firstN_none {p : List RD → Bool} {zs : List (List RD)} (h : ∀ (i : Nat) (y : List RD), zs[i]? = some y → p y = false) : firstN p zs = -1 := by
  unfold firstN
  have : zs.findIdx? p = none := by
    rw [List.findIdx?_eq_none_iff]
    intro y hy
    obtain ⟨i, hi⟩ := List.getElem?_of_mem hy
    exact h i y hi
  rw [this]
theorem firstN_any (p : List RD → Bool) (zs : List (List RD)) : decide (0 ≤ firstN p zs) = zs.any p := by
  unfold firstN
  cases h : zs.findIdx? p with
  | some i =>
    have hm := List.findIdx?_eq_some_iff_getElem.1 h
    obtain ⟨h1, h2, _⟩ := hm
    have : zs.any p = true := List.any_eq_true.2 ⟨_, List.getElem_mem h1, h2⟩
    rw [this]; simp
  | none =>
    have hm := List.findIdx?_eq_none_iff.1 h
    have : zs.any p = false := by rw [List.any_eq_false]; intro y hy; rw [hm y hy]; decide
    rw [this]; decide
/-- the function g with the captured values cap answers p at each element, in whatever later world, and keeps all that was there -/
def AnsN (P : Program) (g : FuncId) (cap : Array Value) (w : World) (zs : List (List RD)) (p : List RD → Bool) : Prop :=
  Enters P g ∧ ∀ x, x ∈ zs → ∀ a c w1, Kp w w1 → RowD w1 a x ∧ x.length ≤ 1100000 → Calls P g (#[.slice a x.length c] ++ cap) w1 fun e w2 => e = .returned (.bool (p x)) ∧ Kp w1 w2

set_option maxHeartbeats 4000000 in
theorem idxN (a : Option Addr) (zs : List (List RD)) (c : Nat) (g : FuncId) (cap : Array Value) (w : World) (p : List RD → Bool) (hm : zs.length ≤ 1100000) (h : RowN w a zs) (hp : AnsN Tryz.prog g cap w zs p) :
    Calls Tryz.prog 66 #[.slice a zs.length c, .func (.func g) #[] cap] w fun e w' => e = .returned (.int .i64 (firstN p zs)) ∧ Kp w w' := by
  go_enter Tryz.func66, Tryz.ntmps66
  go_wp2
  go_loopw [8] (fun x wr => ∃ k : Nat, k ≤ zs.length ∧ x = .int .i64 k ∧ (∀ i y, zs[i]? = some y → i < k → p y = false) ∧ Kp w wr) (fun x _ => zs.length - (intOf x).toNat)
  case atStart => exact ⟨0, by omega, rfl, fun i y _ h1 => by omega, .refl _⟩
  case round =>
    obtain ⟨k, hk, rfl, hz, hkp⟩ := hrel
    have Hz := Lib.hid hz; clear hz
    by_cases hlt : k < zs.length
    · obtain ⟨b, o, ra, rc, rfl, hcell, hrow⟩ := (h.kp hkp) k (zs[k]) (List.getElem?_eq_getElem hlt)
      have Hg := Lib.hid (List.getElem?_eq_getElem hlt)
      have hgo : ∀ args w, (callFunc g args).run Tryz.prog w = .ok (.enter g args) w := hp.1
      have hcall := hp.2 _ (List.getElem_mem hlt) ra rc wr hkp hrow
      clear hp h hrow
      generalize zs[k] = x at *
      cases hq : p x with
      | true =>
        rw [hq] at hcall
        have Hc := Lib.hid hcall
        have Hq := Lib.hid (firstN_some Hg.out hq Hz.out)
        clear hcall hq
        go_wp2_with (refine Hc.out.mono ?_; rintro e w2 ⟨rfl, hk2⟩)
        go_ret
        exact ⟨ret_int Hq.out.symm, hkp.trans hk2⟩
      | false =>
        rw [hq] at hcall
        have Hc := Lib.hid hcall
        have Hq := Lib.hid hq
        clear hcall hq
        go_wp2_with (refine Hc.out.mono ?_; rintro e w2 ⟨rfl, hk2⟩)
        go_roundw
        case rel =>
          refine ⟨k + 1, by omega, by go_num, fun i y hy hi => ?_, hkp.trans hk2⟩
          by_cases h : i = k
          · subst h; rw [Hg.out] at hy; cases hy; exact Hq.out
          · exact Hz.out i y hy (by omega)
        case measure => simp [intOf]; omega
    · have Hthis := Lib.hid (firstN_none (p := p) (zs := zs) (fun i y hy => Hz.out i y hy (by have := (List.getElem?_eq_some_iff.1 hy).1; omega)))
      go_wp2
      go_ret
      exact ⟨ret_int Hthis.out.symm, hkp⟩

set_option maxHeartbeats 400000 in
theorem containsN (a : Option Addr) (zs : List (List RD)) (c : Nat) (g : FuncId) (cap : Array Value) (w : World) (p : List RD → Bool) (hm : zs.length ≤ 1100000) (h : RowN w a zs) (hp : AnsN Tryz.prog g cap w zs p) :
    Calls Tryz.prog 26 #[.slice a zs.length c, .func (.func g) #[] cap] w fun e w' => e = .returned (.bool (zs.any p)) ∧ Kp w w' := by
  have Hc := Lib.hid (idxN a zs c g cap w p hm h hp)
  have Ha := Lib.hid (firstN_any p zs)
  clear hp h
  go_enter Tryz.func26, Tryz.ntmps26
  go_wp2_with (refine Hc.out.mono ?_; rintro e w2 ⟨rfl, hk2⟩)
  go_ret
  exact ⟨by rw [← Ha.out]; rfl, hk2⟩
end Go.Proofs.YtdlpiblgkpgplaaGreatDoor
end

section
namespace Go.Proofs.YtdlpiblgkpgplaaGreatDoor
open Go.ChangeShapes Go.WideShapes Go.RowKit Go.Deep

section
variable {H : Type} {enc : TypeId × Value → H} {w : World} {base : Nat} {spare : Nat → Bool} {held : Bool}
end
end Go.Proofs.YtdlpiblgkpgplaaGreatDoor
end

section
namespace Go.Proofs.YtdlpiblgkpgplaaGreatDoor
open Go.RowKit

/-- the first index at which p answers true; -1 if there is none -/
def firstI (p : RI → Bool) (zs : List RI) : Int := match zs.findIdx? p with | some i => (i : Int) | none => -1
theorem firstI_some {p : RI → Bool} {zs : List RI} {k : Nat} {x : RI} (hk : zs[k]? = some x) (hp : p x = true) (h : ∀ i y, zs[i]? = some y → i < k → p y = false) : firstI p zs = k := by
  unfold firstI
  have : zs.findIdx? p = some k := by
    rw [List.findIdx?_eq_some_iff_getElem]
    obtain ⟨h1, h2⟩ := List.getElem?_eq_some_iff.1 hk
    refine ⟨h1, by rw [h2]; exact hp, fun j hj => ?_⟩
    rw [h j _ (List.getElem?_eq_getElem (by omega)) hj]; decide
  rw [this]
theorem firstI_none {p : RI → Bool} {zs : List RI} (h : ∀ (i : Nat) (y : RI), zs[i]? = some y → p y = false) : firstI p zs = -1 := by
  unfold firstI
  have : zs.findIdx? p = none := by
    rw [List.findIdx?_eq_none_iff]
    intro y hy
    obtain ⟨i, hi⟩ := List.getElem?_of_mem hy
    exact h i y hi
  rw [this]
theorem firstI_any (p : RI → Bool) (zs : List RI) : decide (0 ≤ firstI p zs) = zs.any p := by
  unfold firstI
  cases h : zs.findIdx? p with
  | some i =>
    have hm := List.findIdx?_eq_some_iff_getElem.1 h
    obtain ⟨h1, h2, _⟩ := hm
    have : zs.any p = true := List.any_eq_true.2 ⟨_, List.getElem_mem h1, h2⟩
    rw [this]; simp
  | none =>
    have hm := List.findIdx?_eq_none_iff.1 h
    have : zs.any p = false := by rw [List.any_eq_false]; intro y hy; rw [hm y hy]; decide
    rw [this]; decide
/-- the function g with the captured values cap answers p at each element, in whatever later world, and keeps all that was there -/
def AnsI (P : Program) (g : FuncId) (cap : Array Value) (w : World) (zs : List RI) (p : RI → Bool) : Prop :=
  Enters P g ∧ ∀ x, x ∈ zs → ∀ w1, Kp w w1 → Calls P g (#[.agg #[.bool x.lo.neg, .slice x.lo.a x.lo.xs.length x.lo.c, .int .i64 x.lo.e, .bool x.hi.neg, .slice x.hi.a x.hi.xs.length x.hi.c, .int .i64 x.hi.e, .bool x.all]] ++ cap) w1 fun e w2 => e = .returned (.bool (p x)) ∧ Kp w1 w2

set_option maxHeartbeats 4000000 in
theorem idxI (a : Option Addr) (zs : List RI) (c : Nat) (g : FuncId) (cap : Array Value) (w : World) (p : RI → Bool) (hm : zs.length ≤ 1100000) (h : RowI w a zs) (hp : AnsI Tryz.prog g cap w zs p) :
    Calls Tryz.prog 67 #[.slice a zs.length c, .func (.func g) #[] cap] w fun e w' => e = .returned (.int .i64 (firstI p zs)) ∧ Kp w w' := by
  go_enter Tryz.func67, Tryz.ntmps67
  go_wp2
  go_loopw [8] (fun x wr => ∃ k : Nat, k ≤ zs.length ∧ x = .int .i64 k ∧ (∀ i y, zs[i]? = some y → i < k → p y = false) ∧ Kp w wr) (fun x _ => zs.length - (intOf x).toNat)
  case atStart => exact ⟨0, by omega, rfl, fun i y _ h1 => by omega, .refl _⟩
  case round =>
    obtain ⟨k, hk, rfl, hz, hkp⟩ := hrel
    have Hz := Lib.hid hz; clear hz
    by_cases hlt : k < zs.length
    · obtain ⟨b, o, rfl, hr, h0, h1, h2, h3, h4, h5, h6⟩ := (h.kp hkp) k (zs[k]) (List.getElem?_eq_getElem hlt)
      have Hg := Lib.hid (List.getElem?_eq_getElem hlt)
      have hgo : ∀ args w, (callFunc g args).run Tryz.prog w = .ok (.enter g args) w := hp.1
      have hcall := hp.2 _ (List.getElem_mem hlt) wr hkp
      clear hp h
      generalize zs[k] = x at *
      cases hq : p x with
      | true =>
        rw [hq] at hcall
        have Hc := Lib.hid hcall
        have Hq := Lib.hid (firstI_some Hg.out hq Hz.out)
        clear hcall hq
        go_wp2_with (refine Hc.out.mono ?_; rintro e w2 ⟨rfl, hk2⟩)
        go_ret
        exact ⟨ret_int Hq.out.symm, hkp.trans hk2⟩
      | false =>
        rw [hq] at hcall
        have Hc := Lib.hid hcall
        have Hq := Lib.hid hq
        clear hcall hq
        go_wp2_with (refine Hc.out.mono ?_; rintro e w2 ⟨rfl, hk2⟩)
        go_roundw
        case rel =>
          refine ⟨k + 1, by omega, by go_num, fun i y hy hi => ?_, hkp.trans hk2⟩
          by_cases h : i = k
          · subst h; rw [Hg.out] at hy; cases hy; exact Hq.out
          · exact Hz.out i y hy (by omega)
        case measure => simp [intOf]; omega
    · have Hthis := Lib.hid (firstI_none (p := p) (zs := zs) (fun i y hy => Hz.out i y hy (by have := (List.getElem?_eq_some_iff.1 hy).1; omega)))
      go_wp2
      go_ret
      exact ⟨ret_int Hthis.out.symm, hkp⟩

set_option maxHeartbeats 400000 in
theorem containsI (a : Option Addr) (zs : List RI) (c : Nat) (g : FuncId) (cap : Array Value) (w : World) (p : RI → Bool) (hm : zs.length ≤ 1100000) (h : RowI w a zs) (hp : AnsI Tryz.prog g cap w zs p) :
    Calls Tryz.prog 28 #[.slice a zs.length c, .func (.func g) #[] cap] w fun e w' => e = .returned (.bool (zs.any p)) ∧ Kp w w' := by
  have Hc := Lib.hid (idxI a zs c g cap w p hm h hp)
  have Ha := Lib.hid (firstI_any p zs)
  clear hp h
  go_enter Tryz.func28, Tryz.ntmps28
  go_wp2_with (refine Hc.out.mono ?_; rintro e w2 ⟨rfl, hk2⟩)
  go_ret
  exact ⟨by rw [← Ha.out]; rfl, hk2⟩
end Go.Proofs.YtdlpiblgkpgplaaGreatDoor
end

section
namespace Go.Proofs.YtdlpiblgkpgplaaGreatDoor
open Go.RowKit

/-- a slice of slices of intervals reads so -/
def RowM (w : World) (a : Option Addr) (m : List (List RI)) : Prop :=
  ∀ i r, m[i]? = some r → ∃ b o ra rc, a = some ⟨b, o, none⟩ ∧ w.cell? ⟨b, o + i, none⟩ = some (.slice ra r.length rc) ∧ RowI w ra r ∧ r.length ≤ 1100000
theorem RowM.kp {w w' : World} {a : Option Addr} {m : List (List RI)} (h : RowM w a m) (k : Kp w w') : RowM w' a m := by
  intro i r hi
  obtain ⟨b, o, ra, rc, h1, h2, h3, h4⟩ := h i r hi
  exact ⟨b, o, ra, rc, h1, k.cell h2, h3.kp k, h4⟩

/-- the first index at which p answers true; -1 if there is none -/
def firstR (p : List RI → Bool) (zs : List (List RI)) : Int := match zs.findIdx? p with | some i => (i : Int) | none => -1
theorem firstR_some {p : List RI → Bool} {zs : List (List RI)} {k : Nat} {x : List RI} (hk : zs[k]? = some x) (hp : p x = true) (h : ∀ i y, zs[i]? = some y → i < k → p y = false) : firstR p zs = k := by
  unfold firstR
  have : zs.findIdx? p = some k := by
    rw [List.findIdx?_eq_some_iff_getElem]
    obtain ⟨h1, h2⟩ := List.getElem?_eq_some_iff.1 hk
    refine ⟨h1, by rw [h2]; exact hp, fun j hj => ?_⟩
    rw [h j _ (List.getElem?_eq_getElem (by omega)) hj]; decide
  rw [this]
theorem firstR_none {p : List RI → Bool} {zs : List (List RI)} (h : ∀ (i : Nat) (y : List RI), zs[i]? = some y → p y = false) : firstR p zs = -1 := by
  unfold firstR
  have : zs.findIdx? p = none := by
    rw [List.findIdx?_eq_none_iff]
    intro y hy
    obtain ⟨i, hi⟩ := List.getElem?_of_mem hy
    exact h i y hi
  rw [this]
theorem firstR_any (p : List RI → Bool) (zs : List (List RI)) : decide (0 ≤ firstR p zs) = zs.any p := by
  unfold firstR
  cases h : zs.findIdx? p with
  | some i =>
    have hm := List.findIdx?_eq_some_iff_getElem.1 h
    obtain ⟨h1, h2, _⟩ := hm
    have : zs.any p = true := List.any_eq_true.2 ⟨_, List.getElem_mem h1, h2⟩
    rw [this]; simp
  | none =>
    have hm := List.findIdx?_eq_none_iff.1 h
    have : zs.any p = false := by rw [List.any_eq_false]; intro y hy; rw [hm y hy]; decide
    rw [this]; decide
/-- the function g with the captured values cap answers p at each element, in whatever later world, and keeps all that was there -/
def AnsR (P : Program) (g : FuncId) (cap : Array Value) (w : World) (zs : List (List RI)) (p : List RI → Bool) : Prop :=
  Enters P g ∧ ∀ x, x ∈ zs → ∀ a c w1, Kp w w1 → RowI w1 a x ∧ x.length ≤ 1100000 → Calls P g (#[.slice a x.length c] ++ cap) w1 fun e w2 => e = .returned (.bool (p x)) ∧ Kp w1 w2

set_option maxHeartbeats 4000000 in
theorem idxR (a : Option Addr) (zs : List (List RI)) (c : Nat) (g : FuncId) (cap : Array Value) (w : World) (p : List RI → Bool) (hm : zs.length ≤ 1100000) (h : RowM w a zs) (hp : AnsR Tryz.prog g cap w zs p) :
    Calls Tryz.prog 168 #[.slice a zs.length c, .func (.func g) #[] cap] w fun e w' => e = .returned (.int .i64 (firstR p zs)) ∧ Kp w w' := by
  go_enter Tryz.func168, Tryz.ntmps168
  go_wp2
  go_loopw [8] (fun x wr => ∃ k : Nat, k ≤ zs.length ∧ x = .int .i64 k ∧ (∀ i y, zs[i]? = some y → i < k → p y = false) ∧ Kp w wr) (fun x _ => zs.length - (intOf x).toNat)
  case atStart => exact ⟨0, by omega, rfl, fun i y _ h1 => by omega, .refl _⟩
  case round =>
    obtain ⟨k, hk, rfl, hz, hkp⟩ := hrel
    have Hz := Lib.hid hz; clear hz
    by_cases hlt : k < zs.length
    · obtain ⟨b, o, ra, rc, rfl, hcell, hrow⟩ := (h.kp hkp) k (zs[k]) (List.getElem?_eq_getElem hlt)
      have Hg := Lib.hid (List.getElem?_eq_getElem hlt)
      have hgo : ∀ args w, (callFunc g args).run Tryz.prog w = .ok (.enter g args) w := hp.1
      have hcall := hp.2 _ (List.getElem_mem hlt) ra rc wr hkp hrow
      clear hp h hrow
      generalize zs[k] = x at *
      cases hq : p x with
      | true =>
        rw [hq] at hcall
        have Hc := Lib.hid hcall
        have Hq := Lib.hid (firstR_some Hg.out hq Hz.out)
        clear hcall hq
        go_wp2_with (refine Hc.out.mono ?_; rintro e w2 ⟨rfl, hk2⟩)
        go_ret
        exact ⟨ret_int Hq.out.symm, hkp.trans hk2⟩
      | false =>
        rw [hq] at hcall
        have Hc := Lib.hid hcall
        have Hq := Lib.hid hq
        clear hcall hq
        go_wp2_with (refine Hc.out.mono ?_; rintro e w2 ⟨rfl, hk2⟩)
        go_roundw
        case rel =>
          refine ⟨k + 1, by omega, by go_num, fun i y hy hi => ?_, hkp.trans hk2⟩
          by_cases h : i = k
          · subst h; rw [Hg.out] at hy; cases hy; exact Hq.out
          · exact Hz.out i y hy (by omega)
        case measure => simp [intOf]; omega
    · have Hthis := Lib.hid (firstR_none (p := p) (zs := zs) (fun i y hy => Hz.out i y hy (by have := (List.getElem?_eq_some_iff.1 hy).1; omega)))
      go_wp2
      go_ret
      exact ⟨ret_int Hthis.out.symm, hkp⟩

set_option maxHeartbeats 400000 in
theorem containsR (a : Option Addr) (zs : List (List RI)) (c : Nat) (g : FuncId) (cap : Array Value) (w : World) (p : List RI → Bool) (hm : zs.length ≤ 1100000) (h : RowM w a zs) (hp : AnsR Tryz.prog g cap w zs p) :
    Calls Tryz.prog 139 #[.slice a zs.length c, .func (.func g) #[] cap] w fun e w' => e = .returned (.bool (zs.any p)) ∧ Kp w w' := by
  have Hc := Lib.hid (idxR a zs c g cap w p hm h hp)
  have Ha := Lib.hid (firstR_any p zs)
  clear hp h
  go_enter Tryz.func139, Tryz.ntmps139
  go_wp2_with (refine Hc.out.mono ?_; rintro e w2 ⟨rfl, hk2⟩)
  go_ret
  exact ⟨by rw [← Ha.out]; rfl, hk2⟩
end Go.Proofs.YtdlpiblgkpgplaaGreatDoor
end

section
namespace Go.Proofs.YtdlpiblgkpgplaaGreatDoor
open Go.ChangeShapes Go.WideShapes Go.RowKit Go.Deep

section
variable {H : Type} {enc : TypeId × Value → H} {w : World} {base : Nat} {spare : Nat → Bool} {held : Bool}
end
end Go.Proofs.YtdlpiblgkpgplaaGreatDoor
end
