/-
  Plain: smaller intervals have smaller norms.
-/
import Derived.Test.YtdidocdpjiiedaaGreatDoorMNrmP
import Derived.Test.YtdidocdpjiiedaaGreatDoorMIncP
namespace Go.Proofs.YtdidocdpjiiedaaGreatDoor
open Go.RowKit

theorem maxD_iv (a b : Dy) : (maxD a b).iv = if b.iv ≤ a.iv then a.iv else b.iv := by unfold maxD; split <;> rfl
theorem magP_inc {X Y : PI} (h : insP X Y) (hy : Y.all = false) (oX : X.ok) : (magP X).iv ≤ (magP Y).iv := by
  obtain ⟨hx, h1, h2⟩ := h.of_all hy
  have h3 := PI.ok_le oX
  unfold magP
  rw [if_neg (by rw [hx]; decide), if_neg (by rw [hy]; decide), maxD_iv, maxD_iv, Dy.absv_iv, Dy.absv_iv, Dy.absv_iv, Dy.absv_iv]
  split <;> split <;> omega
theorem adP_inc {a b c d : Dy} {p q : Nat} (hp : 8 ≤ p) (hpq : p ≤ q) (hq : q ≤ 512) (h : c.iv + d.iv ≤ a.iv + b.iv) (h0 : (adP a b p true).2 = 0) : (adP c d q true).2 = 0 ∧ (adP c d q true).1.iv ≤ (adP a b p true).1.iv :=
  up_inc (K := 0) (by omega) hpq (by omega) h h0
/-- the rows r' lie inside of r -/
def inR (r' r : List RI) : Prop := r'.length = r.length ∧ ∀ (j : Nat) (x' x : RI), r'[j]? = some x' → r[j]? = some x → x'.pl.ok ∧ insP x'.pl x.pl
theorem inR.tail {x' x : RI} {r' r : List RI} (h : inR (x' :: r') (x :: r)) : inR r' r := ⟨by simpa using h.1, fun j y' y hy' hy => h.2 (j + 1) y' y (by simpa using hy') (by simpa using hy)⟩
theorem sumN_inc {p q : Nat} (hp : 8 ≤ p) (hpq : p ≤ q) (hq : q ≤ 512) : ∀ (r r' : List RI) (s s' t : Dy), inR r' r → s'.iv ≤ s.iv → sumN p r s = some t → ∃ t', sumN q r' s' = some t' ∧ t'.iv ≤ t.iv
  | [], [], s, s', t, _, hs, h => by
    unfold sumN at h ⊢
    cases h
    exact ⟨s', rfl, hs⟩
  | [], x' :: r', s, s', t, hR, _, _ => by have := hR.1; simp at this
  | x :: r, [], s, s', t, hR, _, _ => by have := hR.1; simp at this
  | x :: r, x' :: r', s, s', t, hR, hs, h => by
    obtain ⟨ok1, in1⟩ := hR.2 0 x' x rfl rfl
    unfold sumN at h ⊢
    by_cases hxa : x.all = true
    · rw [if_pos hxa] at h; cases h
    · rw [if_neg hxa] at h
      have hxf : x.pl.all = false := by show x.all = false; simpa using hxa
      by_cases he : (adP s (magP x.pl) p true).2 ≠ 0
      · rw [if_pos he] at h; cases h
      · rw [if_neg he] at h
        have hm := magP_inc in1 hxf ok1
        have ha := adP_inc (a := s) (b := magP x.pl) (c := s') (d := magP x'.pl) hp hpq hq (by omega) (by omega)
        have hxa' : ¬ x'.all = true := by have := (in1.of_all hxf).1; show ¬ x'.pl.all = true; rw [this]; decide
        rw [if_neg hxa', if_neg (by omega)]
        exact sumN_inc hp hpq hq r r' _ _ t hR.tail ha.2 h
/-- the matrix Z lies inside of m -/
def inM (Z m : List (List RI)) : Prop := Z.length = m.length ∧ ∀ (i : Nat) (r' r : List RI), Z[i]? = some r' → m[i]? = some r → inR r' r
theorem inM.tail {x' x : List RI} {r' r : List (List RI)} (h : inM (x' :: r') (x :: r)) : inM r' r := ⟨by simpa using h.1, fun j y' y hy' hy => h.2 (j + 1) y' y (by simpa using hy') (by simpa using hy)⟩
theorem nrmN_inc {p q : Nat} (hp : 8 ≤ p) (hpq : p ≤ q) (hq : q ≤ 512) : ∀ (m m' : List (List RI)) (s s' t : Dy), inM m' m → s'.iv ≤ s.iv → nrmN p m s = some t → ∃ t', nrmN q m' s' = some t' ∧ t'.iv ≤ t.iv
  | [], [], s, s', t, _, hs, h => by
    unfold nrmN at h ⊢
    cases h
    exact ⟨s', rfl, hs⟩
  | [], x' :: r', s, s', t, hR, _, _ => by have := hR.1; simp at this
  | x :: r, [], s, s', t, hR, _, _ => by have := hR.1; simp at this
  | x :: r, x' :: r', s, s', t, hR, hs, h => by
    rw [nrmN_cons] at h ⊢
    cases hsum : sumN p x .zero with
    | none => rw [hsum] at h; cases h
    | some u =>
      rw [hsum] at h
      obtain ⟨u', hu, hle⟩ := sumN_inc hp hpq hq x x' .zero .zero u (hR.2 0 x' x rfl rfl) (Int.le_refl _) hsum
      rw [hu]
      unfold contN at h ⊢
      refine nrmN_inc hp hpq hq r r' _ _ t hR.tail ?_ h
      split <;> split <;> omega
theorem nrmO_inc {m Z : List (List RI)} {p q : Nat} (hp : 8 ≤ p) (hpq : p ≤ q) (hq : q ≤ 512) (vm : vlM m = true) (vZ : vlM Z = true) (h : inM Z m) {t : Dy} (ht : nrmO m p = some t) : ∃ t', nrmO Z q = some t' ∧ t'.iv ≤ t.iv := by
  unfold nrmO at ht ⊢
  have p1 : preB (p : Int) = true := preB_iff.2 ⟨by omega, by omega⟩
  have p2 : preB (q : Int) = true := preB_iff.2 ⟨by omega, by omega⟩
  rw [vm, p1, if_pos (by decide)] at ht
  rw [vZ, p2, if_pos (by decide)]
  exact nrmN_inc hp hpq hq m Z .zero .zero t h (Int.le_refl _) ht
/-- elements inside, and more bits -/
theorem inM_at {Z m : List (List RI)} (vm : vlM m = true) (h : inM Z m) {i j : Nat} (hi : i < m.length) (hj : j < colsM m) : (atP Z i j).ok ∧ insP (atP Z i j) (atP m i j) := by
  obtain ⟨r, x, hr, hx, _, hat⟩ := vlM_get vm hi hj
  have hi2 : i < Z.length := by rw [h.1]; exact hi
  have hR := h.2 i _ r (List.getElem?_eq_getElem hi2) hr
  have hjr := (List.getElem?_eq_some_iff.1 hx).1
  have hj2 : j < (Z[i]).length := by rw [hR.1]; exact hjr
  have := hR.2 j _ x (List.getElem?_eq_getElem hj2) hx
  rw [atP_eq (List.getElem?_eq_getElem hi2) (List.getElem?_eq_getElem hj2), atP_eq hr hx]
  exact this
end Go.Proofs.YtdidocdpjiiedaaGreatDoor
