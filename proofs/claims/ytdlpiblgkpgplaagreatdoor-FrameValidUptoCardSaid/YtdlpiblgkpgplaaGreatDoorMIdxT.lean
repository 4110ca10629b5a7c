/-
  Walks: slices.IndexFunc, ContainsFunc at [][][]flowpipe/api.Interval.
  Walks: the law's long, wide, great, fine.
  Walks: the law's num.
  Plain: the identity changes nothing that has few bits; products turned around; no program in sight.
  Plain: the example of chapter 7.
  Plain: frames: validity, points, boxes; no program in sight.
  Arguments opened: a frame.
  Walks: interval.Has of a valid interval and a valid number.
  Walks: interval.Has of any interval and a valid number.
-/
import Derived.Test.YtdlpiblgkpgplaaGreatDoorMIvF
import Derived.Deep.DeepFit
import Derived.Test.YtdlpiblgkpgplaaGreatDoorMRoAdd
import Derived.Test.YtdlpiblgkpgplaaGreatDoorMDyD
import Derived.Deep.LoopGhost
import Derived.Deep.RegionHeld3
import Derived.Test.YtdlpiblgkpgplaaGreatDoorMCmpD
import Derived.Test.YtdlpiblgkpgplaaGreatDoorMNrmP
import Derived.Test.YtdlpiblgkpgplaaGreatDoorMR7V
import Derived.Test.YtdlpiblgkpgplaaGreatDoorMKnuE
import Derived.Test.YtdlpiblgkpgplaaGreatDoorMEchN
import Derived.Test.YtdlpiblgkpgplaaGreatDoorMIvS
section
namespace Go.Proofs.YtdlpiblgkpgplaaGreatDoor
open Go.RowKit

/-- a slice of such slices -/
def RowT (w : World) (a : Option Addr) (m : List (List (List RI))) : Prop :=
  ∀ i r, m[i]? = some r → ∃ b o ra rc, a = some ⟨b, o, none⟩ ∧ w.cell? ⟨b, o + i, none⟩ = some (.slice ra r.length rc) ∧ RowM w ra r ∧ r.length ≤ 1100000
theorem RowT.kp {w w' : World} {a : Option Addr} {m : List (List (List RI))} (h : RowT w a m) (k : Kp w w') : RowT w' a m := by
  intro i r hi
  obtain ⟨b, o, ra, rc, h1, h2, h3, h4⟩ := h i r hi
  exact ⟨b, o, ra, rc, h1, k.cell h2, h3.kp k, h4⟩

end Go.Proofs.YtdlpiblgkpgplaaGreatDoor
end

section
namespace Go.Proofs.YtdlpiblgkpgplaaGreatDoor
open Go.RowKit

end Go.Proofs.YtdlpiblgkpgplaaGreatDoor
end

section
namespace Go.Proofs.YtdlpiblgkpgplaaGreatDoor
open Go.RowKit

theorem limbs_one7 {m : Nat} (h0 : 0 < m) (h1 : m < 4294967296) : limbs m = [m] := by
  rw [limbs_pos (by omega), Nat.mod_eq_of_lt h1, Nat.div_eq_of_lt h1, limbs_zero]
theorem intD_oks {n : Int} (h : n.natAbs ≤ 1000) : (intD n).ok := (intD_isP (p := 10) (by decide) (by decide) (by omega)).1
theorem intD_eqs {d : Dy} {n : Int} (hd : d.ok) (hn : n.natAbs ≤ 1000) (h : d.iv = n * 2 ^ 16384) : d = intD n := Dy.iv_inj hd (intD_oks hn) (h.trans (intD_iv n).symm)
theorem Box3.setN {w : World} {g : Nat} {x0 x1 x2 : Value} (h : Box3 w g x0 x1 x2) (hx : ∀ n : Int, x2 ≠ .int .u32 n) (v : Value) : Box3 (w.setCell ⟨g, 2, none⟩ v) g x0 x1 v ∧ Upd g w (w.setCell ⟨g, 2, none⟩ v) := by
  obtain ⟨h0, h1, h2, f0, f1, f2⟩ := h
  have U := (Upd.refl g w).step h2 hx v
  exact ⟨⟨set_at (by decide) h0, set_at (by decide) h1, cell_set_eq h2, (U.1 _).trans f0, (U.1 _).trans f1, (U.1 _).trans f2⟩, U⟩
theorem Box3.setM {w : World} {g : Nat} {x0 x1 x2 : Value} (h : Box3 w g x0 x1 x2) (hx : ∀ n : Int, x1 ≠ .int .u32 n) (v : Value) : Box3 (w.setCell ⟨g, 1, none⟩ v) g x0 v x2 ∧ Upd g w (w.setCell ⟨g, 1, none⟩ v) := by
  obtain ⟨h0, h1, h2, f0, f1, f2⟩ := h
  have U := (Upd.refl g w).step h1 hx v
  exact ⟨⟨set_at (by decide) h0, cell_set_eq h1, set_at (by decide) h2, (U.1 _).trans f0, (U.1 _).trans f1, (U.1 _).trans f2⟩, U⟩
theorem Upd.box3 {g b : Nat} {w W : World} (h : Upd g w W) (hb : b ≠ g) {x0 x1 x2 : Value} (f : Box3 w b x0 x1 x2) : Box3 W b x0 x1 x2 := by
  obtain ⟨h1, _, _, h4, _⟩ := h
  have key (i : Nat) : W.cell? ⟨b, i, none⟩ = w.cell? ⟨b, i, none⟩ := h4 _ hb
  unfold Box3
  simp only [key, h1]
  exact f
end Go.Proofs.YtdlpiblgkpgplaaGreatDoor
end

section
namespace Go.Proofs.YtdlpiblgkpgplaaGreatDoor
open Go.RowKit

theorem intD_zero : intD 0 = .zero := rfl
end Go.Proofs.YtdlpiblgkpgplaaGreatDoor
end

section
namespace Go.Proofs.YtdlpiblgkpgplaaGreatDoor
open Go.RowKit

theorem intD_le {a b : Int} (h : a ≤ b) : (intD a).iv ≤ (intD b).iv := by
  rw [intD_iv, intD_iv]
  have hp := twoK_pos 16384
  generalize ((2 : Int) ^ 16384) = q at *
  exact Int.mul_le_mul_of_nonneg_right h (by omega)
theorem intD_lt {a b : Int} (h : a < b) : (intD a).iv < (intD b).iv := by
  rw [intD_iv, intD_iv]
  have hp := twoK_pos 16384
  generalize ((2 : Int) ^ 16384) = q at *
  exact Int.mul_lt_mul_of_pos_right h (by omega)
theorem vl_int {w : World} {x y : RD} {a b : Int} (hx : x.ok w) (hy : y.ok w) (dx : x.dy = intD a) (dy : y.dy = intD b) (h : a ≤ b) : RI.vl ⟨x, y, false⟩ = true :=
  vl_mk2 hx.2 hy.2 (by show x.dy.iv ≤ y.dy.iv; rw [dx, dy]; exact intD_le h)
theorem pl_int {x y : RD} {a b : Int} (dx : x.dy = intD a) (dy : y.dy = intD b) : RI.pl ⟨x, y, false⟩ = pnI a b := by unfold RI.pl pnI; rw [dx, dy]
end Go.Proofs.YtdlpiblgkpgplaaGreatDoor
end

section
namespace Go.Proofs.YtdlpiblgkpgplaaGreatDoor
open Go.RowKit

/-- a frame as it comes -/
structure RF where
  ca : Option Addr
  cs : List RD
  cc : Nat
  aa : Option Addr
  ms : List (List RD)
  ac : Nat
  ra : Option Addr
  rs : List RI
  rc : Nat
def RF.rd (w : World) (f : RF) : Prop := (RowD w f.ca f.cs ∧ f.cs.length ≤ 1100000) ∧ (RowN w f.aa f.ms ∧ f.ms.length ≤ 1100000) ∧ (RowI w f.ra f.rs ∧ f.rs.length ≤ 1100000)
theorem RF.rd.kp {w w' : World} {f : RF} (h : f.rd w) (k : Kp w w') : f.rd w' := ⟨⟨h.1.1.kp k, h.1.2⟩, ⟨h.2.1.1.kp k, h.2.1.2⟩, ⟨h.2.2.1.kp k, h.2.2.2⟩⟩
/-- an interval with 0 that is not All -/
def goodZ (x : RI) : Bool := !x.all && (x.vl && (decide (x.lo.iv ≤ 0) && decide (0 ≤ x.hi.iv)))
theorem goodZ_iff {x : RI} : goodZ x = true ↔ x.all = false ∧ x.vl = true ∧ x.lo.iv ≤ 0 ∧ 0 ≤ x.hi.iv := by
  unfold goodZ
  simp only [Bool.and_eq_true, Bool.not_eq_true', decide_eq_true_eq]
/-- is it a valid frame? -/
def vlF (f : RF) : Bool := decide (1 ≤ f.cs.length ∧ f.cs.length ≤ 8) && (decide (f.ms.length = f.cs.length ∧ f.rs.length = f.cs.length) && (f.cs.all RD.vl && (f.ms.all (fun r => decide (r.length = f.cs.length) && r.all RD.vl) && f.rs.all goodZ)))
theorem vlF_iff {f : RF} : vlF f = true ↔ (1 ≤ f.cs.length ∧ f.cs.length ≤ 8) ∧ (f.ms.length = f.cs.length ∧ f.rs.length = f.cs.length) ∧ (∀ x ∈ f.cs, x.vl = true) ∧ (∀ r ∈ f.ms, r.length = f.cs.length ∧ ∀ x ∈ r, x.vl = true) ∧ ∀ x ∈ f.rs, goodZ x = true := by
  unfold vlF
  simp only [Bool.and_eq_true, decide_eq_true_eq, List.all_eq_true]
theorem vlF_N {f : RF} (h : vlF f = true) : vlN f.ms = true ∧ colsN f.ms = f.cs.length := by
  obtain ⟨h1, h2, h3, h4, h5⟩ := vlF_iff.1 h
  have hpos : 0 < f.ms.length := by omega
  have hc : colsN f.ms = f.cs.length := by
    unfold colsN
    cases hm : f.ms with
    | nil => rw [hm] at hpos; simp at hpos
    | cons r t => exact (h4 r (by rw [hm]; exact .head _)).1
  refine ⟨vlN_iff.2 ⟨by omega, by rw [hc]; exact h1, fun r hr => ?_⟩, hc⟩
  rw [hc]; exact h4 r hr
/-- the sum in order of exact products, from s on; none if a number becomes too big -/
def ptR : List RD → List RD → Dy → Option Dy
  | [], _, s => some s
  | _ :: _, [], _ => none
  | a :: r, y :: z, s => if (chk (prodD a.dy y.dy)).2 ≠ 0 then none else if (chk (sumD s (chk (prodD a.dy y.dy)).1)).2 ≠ 0 then none else ptR r z (chk (sumD s (chk (prodD a.dy y.dy)).1)).1
theorem drop_at {α : Type} {l : List α} {k : Nat} {x : α} (h : l[k]? = some x) : l.drop k = x :: l.drop (k + 1) := by
  obtain ⟨hk, e⟩ := List.getElem?_eq_some_iff.1 h
  rw [List.drop_eq_getElem_cons hk, e]
theorem ptR_mul {r z : List RD} {k : Nat} {a y : RD} {s : Dy} (ha : r[k]? = some a) (hy : z[k]? = some y) (h : (chk (prodD a.dy y.dy)).2 ≠ 0) : ptR (r.drop k) (z.drop k) s = none := by
  rw [drop_at ha, drop_at hy]; unfold ptR; rw [if_pos h]
theorem ptR_add {r z : List RD} {k : Nat} {a y : RD} {s p : Dy} (ha : r[k]? = some a) (hy : z[k]? = some y) (h : (chk (prodD a.dy y.dy)).2 = 0) (hp : p = (chk (prodD a.dy y.dy)).1) (h2 : (chk (sumD s p)).2 ≠ 0) : ptR (r.drop k) (z.drop k) s = none := by
  subst hp
  rw [drop_at ha, drop_at hy]; unfold ptR; rw [if_neg (by omega), if_pos h2]
theorem ptR_next {r z : List RD} {k : Nat} {a y : RD} {s p q : Dy} (ha : r[k]? = some a) (hy : z[k]? = some y) (h : (chk (prodD a.dy y.dy)).2 = 0) (hp : p = (chk (prodD a.dy y.dy)).1) (h2 : (chk (sumD s p)).2 = 0) (hq : q = (chk (sumD s p)).1) : ptR (r.drop k) (z.drop k) s = ptR (r.drop (k + 1)) (z.drop (k + 1)) q := by
  subst hp; subst hq
  rw [drop_at ha, drop_at hy]; conv => lhs; unfold ptR
  rw [if_neg (by omega), if_neg (by omega)]
/-- the sum is exact -/
theorem ptR_dot {r z : List RD} : ∀ {k : Nat} {s t : Dy} {v : Int}, (∀ x ∈ r, x.dy.ok) → (∀ x ∈ z, x.dy.ok) → k ≤ r.length → ptR (r.drop k) (z.drop k) s = some t → dotS r z k v → ∃ u, dotS r z r.length u ∧ t.iv - u = s.iv - v
  | k, s, t, v, hr, hz, hk, h, hd => by
    by_cases hlt : k < r.length
    · obtain ⟨a, ha⟩ : ∃ a, r[k]? = some a := ⟨_, List.getElem?_eq_getElem hlt⟩
      rw [drop_at ha] at h
      cases hzc : z.drop k with
      | nil => rw [hzc] at h; unfold ptR at h; cases h
      | cons y z' =>
        have hy : z[k]? = some y := by
          have h1 : (z.drop k)[0]? = some y := by rw [hzc]; rfl
          rw [List.getElem?_drop, Nat.add_zero] at h1; exact h1
        rw [hzc] at h
        unfold ptR at h
        by_cases h1 : (chk (prodD a.dy y.dy)).2 ≠ 0
        · rw [if_pos h1] at h; cases h
        · rw [if_neg h1] at h
          by_cases h2 : (chk (sumD s (chk (prodD a.dy y.dy)).1)).2 ≠ 0
          · rw [if_pos h2] at h; cases h
          · rw [if_neg h2] at h
            have e1 : (chk (prodD a.dy y.dy)).2 = 0 := Classical.byContradiction h1
            have e2 : (chk (sumD s (chk (prodD a.dy y.dy)).1)).2 = 0 := Classical.byContradiction h2
            rw [chk0 e2, chk0 e1] at h
            have h3 := prodD_iv (hr a (List.mem_of_getElem? ha)) (hz y (List.mem_of_getElem? hy)) e1
            have hz2 : z' = z.drop (k + 1) := by have := drop_at hy; rw [hzc] at this; injection this
            rw [hz2] at h
            obtain ⟨u, hu, e3⟩ := ptR_dot (k := k + 1) hr hz hlt h (hd.step ha hy (q := (prodD a.dy y.dy).iv) h3)
            refine ⟨u, hu, ?_⟩
            rw [sumD_iv] at e3
            omega
    · have hke : k = r.length := by omega
      subst hke
      rw [List.drop_length] at h
      unfold ptR at h; cases h
      exact ⟨v, hd, rfl⟩
termination_by k => r.length - k
/-- the points of a frame, row by row -/
def ptM (z : List RD) : List (RD × List RD) → Option (List Dy)
  | [] => some []
  | (c, r) :: m => match ptR r z c.dy with
    | none => none
    | some s => match ptM z m with
      | none => none
      | some l => some (s :: l)
/-- the value of a frame's box -/
def boxF (f : RF) (p : Nat) : List PI := rowF f.cs.length fun i => pAdd (ptP (f.cs.getD i rdZero)) (dotF p (fun t => ptP (atN f.ms i t)) (rowG f.rs) (f.cs.length - 1)) p
/-- a point is in the box -/
theorem pt_box {w w' w'' : World} {f : RF} {p : Nat} (hp : 8 ≤ p) (hp2 : p ≤ 512) (hv : vlF f = true) (rr : ∀ u ∈ f.rs, u.rd w) (ra : ∀ r ∈ f.ms, ∀ u ∈ r, u.rd w') {z : List RD} (ez : endsR f.rs z) {i : Nat} {c : RD} {r : List RD} {t : Dy}
    (hc : f.cs[i]? = some c) (hr : f.ms[i]? = some r) (_rc : c.rd w'') (h : ptR r z c.dy = some t) :
    hasV (pAdd (ptP (f.cs.getD i rdZero)) (dotF p (fun t => ptP (atN f.ms i t)) (rowG f.rs) (f.cs.length - 1)) p) t.iv := by
  obtain ⟨h1, h2, h3, h4, h5⟩ := vlF_iff.1 hv
  obtain ⟨hrl, hrv⟩ := h4 r (List.mem_of_getElem? hr)
  have vr : ∀ u ∈ f.rs, u.rd w ∧ u.vl = true := fun u hu => ⟨rr u hu, (goodZ_iff.1 (h5 u hu)).2.1⟩
  have vz : ∀ y ∈ z, y.dy.ok := fun y hy => by
    obtain ⟨j, hj⟩ := List.getElem?_of_mem hy
    have hlt := (List.getElem?_eq_some_iff.1 hj).1
    have hx : f.rs[j]? = some (f.rs[j]'(by rw [← ez.1]; exact hlt)) := List.getElem?_eq_getElem _
    have hm := List.mem_of_getElem? hx
    exact rdok_dy ((ez.2 j _ y hx hj).ok (vr _ hm).1 (vr _ hm).2)
  have vrow : ∀ x ∈ r, x.dy.ok := fun x hx => rdok_dy (w := w') ⟨ra r (List.mem_of_getElem? hr) x hx, hrv x hx⟩
  obtain ⟨u, ⟨cc, hcc, rfl⟩, e⟩ := ptR_dot (k := 0) (v := 0) vrow vz (Nat.zero_le _) (by rw [List.drop_zero, List.drop_zero]; exact h) (dotS.zero _ _)
  have et : t.iv = c.iv + sumZ cc r.length := by
    have : c.dy.iv = c.iv := rfl
    omega
  rw [et]
  refine pAdd_has hp hp2 ?_ ?_
  · rw [List.getD_eq_getElem?_getD, hc]
    exact .inr ⟨Int.le_refl _, Int.le_refl _⟩
  · have hn : r.length = (f.cs.length - 1) + 1 := by omega
    rw [hn, sumZ_F]
    have key : ∀ s, s ≤ f.cs.length - 1 → ∃ (a d : RD) (b : RI), r[s]? = some a ∧ f.rs[s]? = some b ∧ z[s]? = some d := fun s hs =>
      ⟨_, _, _, List.getElem?_eq_getElem (by omega), List.getElem?_eq_getElem (by omega), List.getElem?_eq_getElem (by have := ez.1; omega)⟩
    refine dotF_has hp hp2 (a := fun s => (atN f.ms i s).iv) (b := fun s => (z.getD s rdZero).iv) (n := f.cs.length - 1) (fun s hs => .inr ⟨Int.le_refl _, Int.le_refl _⟩) (fun s hs => ?_) (fun s hs => ?_) _ (Nat.le_refl _)
    · obtain ⟨a, d, b, g1, g2, g3⟩ := key s hs
      have := (ez.2 s b d g2 g3).has (vr b (List.mem_of_getElem? g2)).1 (vr b (List.mem_of_getElem? g2)).2
      rw [rowG_eq g2, List.getD_eq_getElem?_getD, g3]; exact this
    · obtain ⟨a, d, b, g1, g2, g3⟩ := key s hs
      rw [atN_eq hr g1, List.getD_eq_getElem?_getD, g3]
      exact hcc s a d (by omega) g1 g3
end Go.Proofs.YtdlpiblgkpgplaaGreatDoor
end

section
namespace Go.Proofs.YtdlpiblgkpgplaaGreatDoor
open Go.ChangeShapes Go.WideShapes Go.RowKit Go.Deep

section
variable {H : Type} {enc : TypeId × Value → H} {w : World} {base : Nat} {spare : Nat → Bool} {held : Bool}
theorem cellsFrm : Tryz.prog.cellsOf 26 = 3 := by kernel_rfl
theorem cellsRowsN : Tryz.prog.cellsOf 23 = 1 := by kernel_rfl
theorem cellsRowsI : Tryz.prog.cellsOf 24 = 1 := by kernel_rfl
theorem cellsRowsD : Tryz.prog.cellsOf 22 = 1 := by kernel_rfl
theorem open_frm {fuel : Nat} {cs : List Value} {x : DataW H × List MemPlace} (h : DataW.trod enc Tryz.prog w base spare held fuel 26 cs = some x) (hb : Rows.uptoBulk x.1 ≤ 1048576) :
    ∃ f : RF, cs = [.slice f.ca f.cs.length f.cc, .slice f.aa f.ms.length f.ac, .slice f.ra f.rs.length f.rc] ∧ f.rd w := by
  obtain ⟨xs, n, _, hx, hlen, hxl, hf⟩ := DataW.trod_struct Tryz.underlying26 h
  replace hlen := hlen.trans cellsFrm
  obtain ⟨c0, c1, c2, rfl⟩ := list3 hlen
  obtain ⟨y0, y1, y2, rfl⟩ := list3 hxl
  have h0 : DataW.trod enc Tryz.prog w base spare held n 22 (([c0, c1, c2].drop 0).take (Tryz.prog.cellsOf 22)) = some y0 := hf 0 _ rfl
  have h1 : DataW.trod enc Tryz.prog w base spare held n 23 (([c0, c1, c2].drop 1).take (Tryz.prog.cellsOf 23)) = some y1 := hf 1 _ rfl
  have h2 : DataW.trod enc Tryz.prog w base spare held n 24 (([c0, c1, c2].drop 2).take (Tryz.prog.cellsOf 24)) = some y2 := hf 2 _ rfl
  rw [cellsRowsD] at h0
  rw [cellsRowsN] at h1
  rw [cellsRowsI] at h2
  have h0 : DataW.trod enc Tryz.prog w base spare held n 22 [c0] = some y0 := h0
  have h1 : DataW.trod enc Tryz.prog w base spare held n 23 [c1] = some y1 := h1
  have h2 : DataW.trod enc Tryz.prog w base spare held n 24 [c2] = some y2 := h2
  have b0 : Rows.uptoBulk y0.1 ≤ Rows.uptoBulk x.1 := by rw [hx]; exact bulk_agg (by simp)
  have b1 : Rows.uptoBulk y1.1 ≤ Rows.uptoBulk x.1 := by rw [hx]; exact bulk_agg (by simp)
  have b2 : Rows.uptoBulk y2.1 ≤ Rows.uptoBulk x.1 := by rw [hx]; exact bulk_agg (by simp)
  obtain ⟨ca, cs, cc, e0, r0, l0⟩ := open_rowD h0 (by omega)
  obtain ⟨aa, ms, ac, e1, r1, l1⟩ := open_rowN h1 (by omega)
  obtain ⟨ra, rs, rc, e2, r2, l2⟩ := open_rowI h2 (by omega)
  simp only [List.cons.injEq, and_true] at e0 e1 e2
  subst e0 e1 e2
  exact ⟨⟨ca, cs, cc, aa, ms, ac, ra, rs, rc⟩, rfl, ⟨r0, by show cs.length ≤ _; omega⟩, ⟨r1, by show ms.length ≤ _; omega⟩, ⟨r2, by show rs.length ≤ _; omega⟩⟩
end
end Go.Proofs.YtdlpiblgkpgplaaGreatDoor
end

section
namespace Go.Proofs.YtdlpiblgkpgplaaGreatDoor
open Go.RowKit

/-- is v in X? -/
def hasX (X : PI) (v : Int) : Bool := X.all || (decide (X.lo.iv ≤ v) && decide (v ≤ X.hi.iv))
theorem hasX_of {X : PI} {v : Int} (h : hasV X v) : hasX X v = true := by
  unfold hasX
  rcases h with h | ⟨h1, h2⟩
  · rw [h]; rfl
  · rw [decide_eq_true h1, decide_eq_true h2]; simp
theorem IHas_vl (x : RI) (d : RD) (w : World) (hx : x.rd w) (hd : d.rd w) (vx : x.vl = true) (vd : d.vl = true) :
    Calls Tryz.prog 13 #[.agg #[.bool x.lo.neg, .slice x.lo.a x.lo.xs.length x.lo.c, .int .i64 x.lo.e, .bool x.hi.neg, .slice x.hi.a x.hi.xs.length x.hi.c, .int .i64 x.hi.e, .bool x.all], .agg #[.bool d.neg, .slice d.a d.xs.length d.c, .int .i64 d.e]] w fun e w' => e = .returned (.bool (hasX x.pl d.iv)) ∧ Kp w w' := by
  cases hxa : x.all with
  | true =>
    have H := Lib.hid (show hasX x.pl d.iv = true by unfold hasX; rw [show x.pl.all = true from hxa]; rfl)
    have C1 := Lib.hid (fun (W : World) (k : Kp w W) => IValid_raw x W (hx.kp k))
    have C2 := Lib.hid (fun (W : World) (k : Kp w W) => Valid_rok d W ⟨hd.kp k, vd⟩)
    rw [vx, hxa] at C1
    clear hx hd vx vd hxa
    go_enter Tryz.func13, Tryz.ntmps13
    go_wp2_with fail
    generalize hW : ((w.alloc _).alloc _) = W at *
    have hk : Kp w W := hW ▸ ((Kp.refl w).alloc _).alloc _
    have hS : (W.cell? ⟨w.heap.size, 0, none⟩ = some (.bool x.lo.neg) ∧ W.cell? ⟨w.heap.size, 1, none⟩ = some (.slice x.lo.a x.lo.xs.length x.lo.c) ∧ W.cell? ⟨w.heap.size, 2, none⟩ = some (.int .i64 x.lo.e) ∧ W.cell? ⟨w.heap.size, 3, none⟩ = some (.bool x.hi.neg) ∧ W.cell? ⟨w.heap.size, 4, none⟩ = some (.slice x.hi.a x.hi.xs.length x.hi.c) ∧ W.cell? ⟨w.heap.size, 5, none⟩ = some (.int .i64 x.hi.e) ∧ W.cell? ⟨w.heap.size, 6, none⟩ = some (.bool true)) ∧ W.cell? ⟨w.heap.size + 1, 0, none⟩ = some (.bool d.neg) ∧ W.cell? ⟨w.heap.size + 1, 1, none⟩ = some (.slice d.a d.xs.length d.c) ∧ W.cell? ⟨w.heap.size + 1, 2, none⟩ = some (.int .i64 d.e) := by rw [← hW]; exact keep73 (Kp.refl _) (by simp)
    clear hW
    go_fit (C1.out _ hk)
    rintro e w1 ⟨rfl, k1⟩
    have hS1 := keep73 k1 hS
    have hk1 := hk.trans k1
    obtain ⟨⟨s0, s1, s2, s3, s4, s5, s6⟩, t0, t1, t2⟩ := id hS1
    go_wp2_with fail
    go_fit (C2.out _ hk1)
    rintro e w2 ⟨rfl, k2⟩
    clear s0 s1 s2 s3 s4 s5 s6 t0 t1 t2
    obtain ⟨⟨s0, s1, s2, s3, s4, s5, s6⟩, t0, t1, t2⟩ := keep73 k2 hS1
    have hk2 := hk1.trans k2
    go_wp2_with fail
    go_ret
    exact ⟨ret_bool H.out.symm, hk2⟩
  | false =>
    have ox : x.ok w := ok_of hx vx hxa
    refine (Has_ok x d w ox ⟨hd, vd⟩).mono ?_
    rintro e w' ⟨rfl, k⟩
    refine ⟨?_, k⟩
    congr 2
    unfold hasX hasI
    rw [show x.pl.all = false from hxa]
    rfl
end Go.Proofs.YtdlpiblgkpgplaaGreatDoor
end

section
namespace Go.Proofs.YtdlpiblgkpgplaaGreatDoor
open Go.RowKit

theorem IHas_raw (x : RI) (d : RD) (w : World) (hx : x.rd w) (hd : d.rd w) (vd : d.vl = true) :
    Calls Tryz.prog 13 #[.agg #[.bool x.lo.neg, .slice x.lo.a x.lo.xs.length x.lo.c, .int .i64 x.lo.e, .bool x.hi.neg, .slice x.hi.a x.hi.xs.length x.hi.c, .int .i64 x.hi.e, .bool x.all], .agg #[.bool d.neg, .slice d.a d.xs.length d.c, .int .i64 d.e]] w fun e w' => e = .returned (.bool (x.vl && hasX x.pl d.iv)) ∧ Kp w w' := by
  cases hv : x.vl with
  | true => exact (IHas_vl x d w hx hd hv vd).mono fun e w' h => by simpa using h
  | false =>
    have C1 := Lib.hid (fun (W : World) (k : Kp w W) => IValid_raw x W (hx.kp k))
    rw [hv] at C1
    rw [Bool.false_and]
    clear hx hd vd hv
    go_enter Tryz.func13, Tryz.ntmps13
    go_wp2_with fail
    generalize hW : ((w.alloc _).alloc _) = W at *
    have hk : Kp w W := hW ▸ ((Kp.refl w).alloc _).alloc _
    have hS : (W.cell? ⟨w.heap.size, 0, none⟩ = some (.bool x.lo.neg) ∧ W.cell? ⟨w.heap.size, 1, none⟩ = some (.slice x.lo.a x.lo.xs.length x.lo.c) ∧ W.cell? ⟨w.heap.size, 2, none⟩ = some (.int .i64 x.lo.e) ∧ W.cell? ⟨w.heap.size, 3, none⟩ = some (.bool x.hi.neg) ∧ W.cell? ⟨w.heap.size, 4, none⟩ = some (.slice x.hi.a x.hi.xs.length x.hi.c) ∧ W.cell? ⟨w.heap.size, 5, none⟩ = some (.int .i64 x.hi.e) ∧ W.cell? ⟨w.heap.size, 6, none⟩ = some (.bool x.all)) ∧ W.cell? ⟨w.heap.size + 1, 0, none⟩ = some (.bool d.neg) ∧ W.cell? ⟨w.heap.size + 1, 1, none⟩ = some (.slice d.a d.xs.length d.c) ∧ W.cell? ⟨w.heap.size + 1, 2, none⟩ = some (.int .i64 d.e) := by rw [← hW]; exact keep73 (Kp.refl _) (by simp)
    clear hW
    go_fit (C1.out _ hk)
    rintro e w1 ⟨rfl, k1⟩
    have hk1 := hk.trans k1
    go_wp2_with fail
    go_ret
    exact ⟨rfl, hk1⟩
end Go.Proofs.YtdlpiblgkpgplaaGreatDoor
end
