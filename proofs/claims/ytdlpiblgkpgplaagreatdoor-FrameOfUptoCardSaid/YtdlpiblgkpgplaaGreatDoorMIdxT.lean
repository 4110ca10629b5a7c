/-
  Walks: slices.IndexFunc, ContainsFunc at [][][]flowpipe/api.Interval.
  Walks: the law's long, wide, great, fine.
  Walks: the law's num.
  Plain: the identity changes nothing that has few bits; products turned around; no program in sight.
  Plain: the example of chapter 7.
  Plain: frames: validity, points, boxes; no program in sight.
  Arguments opened: a frame.
  Walks: interval.Has of a valid interval and a valid number.
  Walks: interval.Has of any interval and a valid number.
-/
import Derived.Test.YtdlpiblgkpgplaaGreatDoorMIvF
import Derived.Deep.DeepFit
import Derived.Test.YtdlpiblgkpgplaaGreatDoorMRoAdd
import Derived.Test.YtdlpiblgkpgplaaGreatDoorMDyD
import Derived.Deep.LoopGhost
import Derived.Deep.RegionHeld3
import Derived.Test.YtdlpiblgkpgplaaGreatDoorMCmpD
import Derived.Test.YtdlpiblgkpgplaaGreatDoorMNrmP
import Derived.Test.YtdlpiblgkpgplaaGreatDoorMR5A
import Derived.Test.YtdlpiblgkpgplaaGreatDoorMKnuE
import Derived.Test.YtdlpiblgkpgplaaGreatDoorMEchN
section
namespace Go.Proofs.YtdlpiblgkpgplaaGreatDoor
open Go.RowKit

/-- a slice of such slices -/
def RowT (w : World) (a : Option Addr) (m : List (List (List RI))) : Prop :=
  ∀ i r, m[i]? = some r → ∃ b o ra rc, a = some ⟨b, o, none⟩ ∧ w.cell? ⟨b, o + i, none⟩ = some (.slice ra r.length rc) ∧ RowM w ra r ∧ r.length ≤ 1100000
theorem RowT.kp {w w' : World} {a : Option Addr} {m : List (List (List RI))} (h : RowT w a m) (k : Kp w w') : RowT w' a m := by
  intro i r hi
  obtain ⟨b, o, ra, rc, h1, h2, h3, h4⟩ := h i r hi
  exact ⟨b, o, ra, rc, h1, k.cell h2, h3.kp k, h4⟩

end Go.Proofs.YtdlpiblgkpgplaaGreatDoor
end

section
namespace Go.Proofs.YtdlpiblgkpgplaaGreatDoor
open Go.RowKit

end Go.Proofs.YtdlpiblgkpgplaaGreatDoor
end

section
namespace Go.Proofs.YtdlpiblgkpgplaaGreatDoor
open Go.RowKit

theorem limbs_one7 {m : Nat} (h0 : 0 < m) (h1 : m < 4294967296) : limbs m = [m] := by
  rw [limbs_pos (by omega), Nat.mod_eq_of_lt h1, Nat.div_eq_of_lt h1, limbs_zero]
theorem intD_oks {n : Int} (h : n.natAbs ≤ 1000) : (intD n).ok := (intD_isP (p := 10) (by decide) (by decide) (by omega)).1
theorem intD_eqs {d : Dy} {n : Int} (hd : d.ok) (hn : n.natAbs ≤ 1000) (h : d.iv = n * 2 ^ 16384) : d = intD n := Dy.iv_inj hd (intD_oks hn) (h.trans (intD_iv n).symm)
theorem Box3.setN {w : World} {g : Nat} {x0 x1 x2 : Value} (h : Box3 w g x0 x1 x2) (hx : ∀ n : Int, x2 ≠ .int .u32 n) (v : Value) : Box3 (w.setCell ⟨g, 2, none⟩ v) g x0 x1 v ∧ Upd g w (w.setCell ⟨g, 2, none⟩ v) := by
  obtain ⟨h0, h1, h2, f0, f1, f2⟩ := h
  have U := (Upd.refl g w).step h2 hx v
  exact ⟨⟨set_at (by decide) h0, set_at (by decide) h1, cell_set_eq h2, (U.1 _).trans f0, (U.1 _).trans f1, (U.1 _).trans f2⟩, U⟩
theorem Box3.setM {w : World} {g : Nat} {x0 x1 x2 : Value} (h : Box3 w g x0 x1 x2) (hx : ∀ n : Int, x1 ≠ .int .u32 n) (v : Value) : Box3 (w.setCell ⟨g, 1, none⟩ v) g x0 v x2 ∧ Upd g w (w.setCell ⟨g, 1, none⟩ v) := by
  obtain ⟨h0, h1, h2, f0, f1, f2⟩ := h
  have U := (Upd.refl g w).step h1 hx v
  exact ⟨⟨set_at (by decide) h0, cell_set_eq h1, set_at (by decide) h2, (U.1 _).trans f0, (U.1 _).trans f1, (U.1 _).trans f2⟩, U⟩
theorem Upd.box3 {g b : Nat} {w W : World} (h : Upd g w W) (hb : b ≠ g) {x0 x1 x2 : Value} (f : Box3 w b x0 x1 x2) : Box3 W b x0 x1 x2 := by
  obtain ⟨h1, _, _, h4, _⟩ := h
  have key (i : Nat) : W.cell? ⟨b, i, none⟩ = w.cell? ⟨b, i, none⟩ := h4 _ hb
  unfold Box3
  simp only [key, h1]
  exact f
end Go.Proofs.YtdlpiblgkpgplaaGreatDoor
end

section
namespace Go.Proofs.YtdlpiblgkpgplaaGreatDoor
open Go.RowKit

theorem intD_zero : intD 0 = .zero := rfl
end Go.Proofs.YtdlpiblgkpgplaaGreatDoor
end

section
namespace Go.Proofs.YtdlpiblgkpgplaaGreatDoor
open Go.RowKit

theorem intD_le {a b : Int} (h : a ≤ b) : (intD a).iv ≤ (intD b).iv := by
  rw [intD_iv, intD_iv]
  have hp := twoK_pos 16384
  generalize ((2 : Int) ^ 16384) = q at *
  exact Int.mul_le_mul_of_nonneg_right h (by omega)
theorem intD_lt {a b : Int} (h : a < b) : (intD a).iv < (intD b).iv := by
  rw [intD_iv, intD_iv]
  have hp := twoK_pos 16384
  generalize ((2 : Int) ^ 16384) = q at *
  exact Int.mul_lt_mul_of_pos_right h (by omega)
theorem vl_int {w : World} {x y : RD} {a b : Int} (hx : x.ok w) (hy : y.ok w) (dx : x.dy = intD a) (dy : y.dy = intD b) (h : a ≤ b) : RI.vl ⟨x, y, false⟩ = true :=
  vl_mk2 hx.2 hy.2 (by show x.dy.iv ≤ y.dy.iv; rw [dx, dy]; exact intD_le h)
theorem pl_int {x y : RD} {a b : Int} (dx : x.dy = intD a) (dy : y.dy = intD b) : RI.pl ⟨x, y, false⟩ = pnI a b := by unfold RI.pl pnI; rw [dx, dy]
end Go.Proofs.YtdlpiblgkpgplaaGreatDoor
end

section
namespace Go.Proofs.YtdlpiblgkpgplaaGreatDoor
open Go.RowKit

/-- a frame as it comes -/
structure RF where
  ca : Option Addr
  cs : List RD
  cc : Nat
  aa : Option Addr
  ms : List (List RD)
  ac : Nat
  ra : Option Addr
  rs : List RI
  rc : Nat
def RF.rd (w : World) (f : RF) : Prop := (RowD w f.ca f.cs ∧ f.cs.length ≤ 1100000) ∧ (RowN w f.aa f.ms ∧ f.ms.length ≤ 1100000) ∧ (RowI w f.ra f.rs ∧ f.rs.length ≤ 1100000)
theorem RF.rd.kp {w w' : World} {f : RF} (h : f.rd w) (k : Kp w w') : f.rd w' := ⟨⟨h.1.1.kp k, h.1.2⟩, ⟨h.2.1.1.kp k, h.2.1.2⟩, ⟨h.2.2.1.kp k, h.2.2.2⟩⟩
/-- an interval with 0 that is not All -/
def goodZ (x : RI) : Bool := !x.all && (x.vl && (decide (x.lo.iv ≤ 0) && decide (0 ≤ x.hi.iv)))
theorem goodZ_iff {x : RI} : goodZ x = true ↔ x.all = false ∧ x.vl = true ∧ x.lo.iv ≤ 0 ∧ 0 ≤ x.hi.iv := by
  unfold goodZ
  simp only [Bool.and_eq_true, Bool.not_eq_true', decide_eq_true_eq]
/-- is it a valid frame? -/
def vlF (f : RF) : Bool := decide (1 ≤ f.cs.length ∧ f.cs.length ≤ 8) && (decide (f.ms.length = f.cs.length ∧ f.rs.length = f.cs.length) && (f.cs.all RD.vl && (f.ms.all (fun r => decide (r.length = f.cs.length) && r.all RD.vl) && f.rs.all goodZ)))
theorem vlF_iff {f : RF} : vlF f = true ↔ (1 ≤ f.cs.length ∧ f.cs.length ≤ 8) ∧ (f.ms.length = f.cs.length ∧ f.rs.length = f.cs.length) ∧ (∀ x ∈ f.cs, x.vl = true) ∧ (∀ r ∈ f.ms, r.length = f.cs.length ∧ ∀ x ∈ r, x.vl = true) ∧ ∀ x ∈ f.rs, goodZ x = true := by
  unfold vlF
  simp only [Bool.and_eq_true, decide_eq_true_eq, List.all_eq_true]
theorem vlF_N {f : RF} (h : vlF f = true) : vlN f.ms = true ∧ colsN f.ms = f.cs.length := by
  obtain ⟨h1, h2, h3, h4, h5⟩ := vlF_iff.1 h
  have hpos : 0 < f.ms.length := by omega
  have hc : colsN f.ms = f.cs.length := by
    unfold colsN
    cases hm : f.ms with
    | nil => rw [hm] at hpos; simp at hpos
    | cons r t => exact (h4 r (by rw [hm]; exact .head _)).1
  refine ⟨vlN_iff.2 ⟨by omega, by rw [hc]; exact h1, fun r hr => ?_⟩, hc⟩
  rw [hc]; exact h4 r hr
/-- the sum in order of exact products, from s on; none if a number becomes too big -/
def ptR : List RD → List RD → Dy → Option Dy
  | [], _, s => some s
  | _ :: _, [], _ => none
  | a :: r, y :: z, s => if (chk (prodD a.dy y.dy)).2 ≠ 0 then none else if (chk (sumD s (chk (prodD a.dy y.dy)).1)).2 ≠ 0 then none else ptR r z (chk (sumD s (chk (prodD a.dy y.dy)).1)).1
theorem drop_at {α : Type} {l : List α} {k : Nat} {x : α} (h : l[k]? = some x) : l.drop k = x :: l.drop (k + 1) := by
  obtain ⟨hk, e⟩ := List.getElem?_eq_some_iff.1 h
  rw [List.drop_eq_getElem_cons hk, e]
theorem ptR_mul {r z : List RD} {k : Nat} {a y : RD} {s : Dy} (ha : r[k]? = some a) (hy : z[k]? = some y) (h : (chk (prodD a.dy y.dy)).2 ≠ 0) : ptR (r.drop k) (z.drop k) s = none := by
  rw [drop_at ha, drop_at hy]; unfold ptR; rw [if_pos h]
theorem ptR_add {r z : List RD} {k : Nat} {a y : RD} {s p : Dy} (ha : r[k]? = some a) (hy : z[k]? = some y) (h : (chk (prodD a.dy y.dy)).2 = 0) (hp : p = (chk (prodD a.dy y.dy)).1) (h2 : (chk (sumD s p)).2 ≠ 0) : ptR (r.drop k) (z.drop k) s = none := by
  subst hp
  rw [drop_at ha, drop_at hy]; unfold ptR; rw [if_neg (by omega), if_pos h2]
theorem ptR_next {r z : List RD} {k : Nat} {a y : RD} {s p q : Dy} (ha : r[k]? = some a) (hy : z[k]? = some y) (h : (chk (prodD a.dy y.dy)).2 = 0) (hp : p = (chk (prodD a.dy y.dy)).1) (h2 : (chk (sumD s p)).2 = 0) (hq : q = (chk (sumD s p)).1) : ptR (r.drop k) (z.drop k) s = ptR (r.drop (k + 1)) (z.drop (k + 1)) q := by
  subst hp; subst hq
  rw [drop_at ha, drop_at hy]; conv => lhs; unfold ptR
  rw [if_neg (by omega), if_neg (by omega)]
/-- the points of a frame, row by row -/
def ptM (z : List RD) : List (RD × List RD) → Option (List Dy)
  | [] => some []
  | (c, r) :: m => match ptR r z c.dy with
    | none => none
    | some s => match ptM z m with
      | none => none
      | some l => some (s :: l)
/-- the value of a frame's box -/
def boxF (f : RF) (p : Nat) : List PI := rowF f.cs.length fun i => pAdd (ptP (f.cs.getD i rdZero)) (dotF p (fun t => ptP (atN f.ms i t)) (rowG f.rs) (f.cs.length - 1)) p
end Go.Proofs.YtdlpiblgkpgplaaGreatDoor
end

section
namespace Go.Proofs.YtdlpiblgkpgplaaGreatDoor
open Go.ChangeShapes Go.WideShapes Go.RowKit Go.Deep

section
variable {H : Type} {enc : TypeId × Value → H} {w : World} {base : Nat} {spare : Nat → Bool} {held : Bool}
end
end Go.Proofs.YtdlpiblgkpgplaaGreatDoor
end

section
namespace Go.Proofs.YtdlpiblgkpgplaaGreatDoor
open Go.RowKit

/-- is v in X? -/
def hasX (X : PI) (v : Int) : Bool := X.all || (decide (X.lo.iv ≤ v) && decide (v ≤ X.hi.iv))
theorem IHas_vl (x : RI) (d : RD) (w : World) (hx : x.rd w) (hd : d.rd w) (vx : x.vl = true) (vd : d.vl = true) :
    Calls Tryz.prog 13 #[.agg #[.bool x.lo.neg, .slice x.lo.a x.lo.xs.length x.lo.c, .int .i64 x.lo.e, .bool x.hi.neg, .slice x.hi.a x.hi.xs.length x.hi.c, .int .i64 x.hi.e, .bool x.all], .agg #[.bool d.neg, .slice d.a d.xs.length d.c, .int .i64 d.e]] w fun e w' => e = .returned (.bool (hasX x.pl d.iv)) ∧ Kp w w' := by
  cases hxa : x.all with
  | true =>
    have H := Lib.hid (show hasX x.pl d.iv = true by unfold hasX; rw [show x.pl.all = true from hxa]; rfl)
    have C1 := Lib.hid (fun (W : World) (k : Kp w W) => IValid_raw x W (hx.kp k))
    have C2 := Lib.hid (fun (W : World) (k : Kp w W) => Valid_rok d W ⟨hd.kp k, vd⟩)
    rw [vx, hxa] at C1
    clear hx hd vx vd hxa
    go_enter Tryz.func13, Tryz.ntmps13
    go_wp2_with fail
    generalize hW : ((w.alloc _).alloc _) = W at *
    have hk : Kp w W := hW ▸ ((Kp.refl w).alloc _).alloc _
    have hS : (W.cell? ⟨w.heap.size, 0, none⟩ = some (.bool x.lo.neg) ∧ W.cell? ⟨w.heap.size, 1, none⟩ = some (.slice x.lo.a x.lo.xs.length x.lo.c) ∧ W.cell? ⟨w.heap.size, 2, none⟩ = some (.int .i64 x.lo.e) ∧ W.cell? ⟨w.heap.size, 3, none⟩ = some (.bool x.hi.neg) ∧ W.cell? ⟨w.heap.size, 4, none⟩ = some (.slice x.hi.a x.hi.xs.length x.hi.c) ∧ W.cell? ⟨w.heap.size, 5, none⟩ = some (.int .i64 x.hi.e) ∧ W.cell? ⟨w.heap.size, 6, none⟩ = some (.bool true)) ∧ W.cell? ⟨w.heap.size + 1, 0, none⟩ = some (.bool d.neg) ∧ W.cell? ⟨w.heap.size + 1, 1, none⟩ = some (.slice d.a d.xs.length d.c) ∧ W.cell? ⟨w.heap.size + 1, 2, none⟩ = some (.int .i64 d.e) := by rw [← hW]; exact keep73 (Kp.refl _) (by simp)
    clear hW
    go_fit (C1.out _ hk)
    rintro e w1 ⟨rfl, k1⟩
    have hS1 := keep73 k1 hS
    have hk1 := hk.trans k1
    obtain ⟨⟨s0, s1, s2, s3, s4, s5, s6⟩, t0, t1, t2⟩ := id hS1
    go_wp2_with fail
    go_fit (C2.out _ hk1)
    rintro e w2 ⟨rfl, k2⟩
    clear s0 s1 s2 s3 s4 s5 s6 t0 t1 t2
    obtain ⟨⟨s0, s1, s2, s3, s4, s5, s6⟩, t0, t1, t2⟩ := keep73 k2 hS1
    have hk2 := hk1.trans k2
    go_wp2_with fail
    go_ret
    exact ⟨ret_bool H.out.symm, hk2⟩
  | false =>
    have ox : x.ok w := ok_of hx vx hxa
    refine (Has_ok x d w ox ⟨hd, vd⟩).mono ?_
    rintro e w' ⟨rfl, k⟩
    refine ⟨?_, k⟩
    congr 2
    unfold hasX hasI
    rw [show x.pl.all = false from hxa]
    rfl
end Go.Proofs.YtdlpiblgkpgplaaGreatDoor
end

section
namespace Go.Proofs.YtdlpiblgkpgplaaGreatDoor
open Go.RowKit

theorem IHas_raw (x : RI) (d : RD) (w : World) (hx : x.rd w) (hd : d.rd w) (vd : d.vl = true) :
    Calls Tryz.prog 13 #[.agg #[.bool x.lo.neg, .slice x.lo.a x.lo.xs.length x.lo.c, .int .i64 x.lo.e, .bool x.hi.neg, .slice x.hi.a x.hi.xs.length x.hi.c, .int .i64 x.hi.e, .bool x.all], .agg #[.bool d.neg, .slice d.a d.xs.length d.c, .int .i64 d.e]] w fun e w' => e = .returned (.bool (x.vl && hasX x.pl d.iv)) ∧ Kp w w' := by
  cases hv : x.vl with
  | true => exact (IHas_vl x d w hx hd hv vd).mono fun e w' h => by simpa using h
  | false =>
    have C1 := Lib.hid (fun (W : World) (k : Kp w W) => IValid_raw x W (hx.kp k))
    rw [hv] at C1
    rw [Bool.false_and]
    clear hx hd vd hv
    go_enter Tryz.func13, Tryz.ntmps13
    go_wp2_with fail
    generalize hW : ((w.alloc _).alloc _) = W at *
    have hk : Kp w W := hW ▸ ((Kp.refl w).alloc _).alloc _
    have hS : (W.cell? ⟨w.heap.size, 0, none⟩ = some (.bool x.lo.neg) ∧ W.cell? ⟨w.heap.size, 1, none⟩ = some (.slice x.lo.a x.lo.xs.length x.lo.c) ∧ W.cell? ⟨w.heap.size, 2, none⟩ = some (.int .i64 x.lo.e) ∧ W.cell? ⟨w.heap.size, 3, none⟩ = some (.bool x.hi.neg) ∧ W.cell? ⟨w.heap.size, 4, none⟩ = some (.slice x.hi.a x.hi.xs.length x.hi.c) ∧ W.cell? ⟨w.heap.size, 5, none⟩ = some (.int .i64 x.hi.e) ∧ W.cell? ⟨w.heap.size, 6, none⟩ = some (.bool x.all)) ∧ W.cell? ⟨w.heap.size + 1, 0, none⟩ = some (.bool d.neg) ∧ W.cell? ⟨w.heap.size + 1, 1, none⟩ = some (.slice d.a d.xs.length d.c) ∧ W.cell? ⟨w.heap.size + 1, 2, none⟩ = some (.int .i64 d.e) := by rw [← hW]; exact keep73 (Kp.refl _) (by simp)
    clear hW
    go_fit (C1.out _ hk)
    rintro e w1 ⟨rfl, k1⟩
    have hk1 := hk.trans k1
    go_wp2_with fail
    go_ret
    exact ⟨rfl, hk1⟩
end Go.Proofs.YtdlpiblgkpgplaaGreatDoor
end
