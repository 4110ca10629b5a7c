/-
  Plain: smaller arguments and more bits have smaller results: sums and products of intervals; no program in sight.
  Plain: sums and products of intervals contain those of their numbers; no program in sight.
  Plain: the identity changes nothing that has few bits; products turned around; no program in sight.
  Plain: the example of chapter 7.
  Walks: the law's own number, one.
-/
import Derived.Test.YtdidocdpjiiedaaGreatDoorMRoAdd
import Derived.Test.YtdidocdpjiiedaaGreatDoorMNum7
import Derived.Test.YtdidocdpjiiedaaGreatDoorMNrmP
import Derived.Test.YtdidocdpjiiedaaGreatDoorMMulN
import Derived.Deep.DeepFit
import Derived.Test.YtdidocdpjiiedaaGreatDoorMSumH
import Derived.Test.YtdidocdpjiiedaaGreatDoorMIvE
section
namespace Go.Proofs.YtdidocdpjiiedaaGreatDoor
open Go.RowKit

/-- X is contained in Y -/
def insP (X Y : PI) : Prop := Y.all = true ∨ X.all = false ∧ Y.all = false ∧ Y.lo.iv ≤ X.lo.iv ∧ X.hi.iv ≤ Y.hi.iv
theorem insP.refl (X : PI) : insP X X := by
  cases h : X.all with
  | true => exact .inl h
  | false => exact .inr ⟨h, h, Int.le_refl _, Int.le_refl _⟩
theorem insP.whole (X : PI) : insP X .whole := .inl rfl
section
variable {K p q : Nat} {S T : Int}
theorem down_inc (hp : 0 < p) (hpq : p ≤ q) (hq : q ≤ 4096) (hST : S ≤ T) (h : (rndE (rnd K S p false)).2 = 0) :
    (rndE (rnd K T q false)).2 = 0 ∧ (rndE (rnd K S p false)).1.iv ≤ (rndE (rnd K T q false)).1.iv := by
  obtain ⟨a1, a2, _⟩ := rndK_down hp (by omega) (rndE_some h)
  have a3 := a1.mono hpq
  rcases rnd_down (K := K) (S := T) (show 0 < q by omega) hq with ⟨_, h2⟩ | ⟨d, h1, h2, h3, h4⟩
  · exact absurd (Int.le_trans a2 hST) (h2 _ a3)
  · rw [h1]
    exact ⟨rfl, h4 _ a3 (Int.le_trans a2 hST)⟩
theorem up_inc (hp : 0 < p) (hpq : p ≤ q) (hq : q ≤ 4096) (hST : T ≤ S) (h : (rndE (rnd K S p true)).2 = 0) :
    (rndE (rnd K T q true)).2 = 0 ∧ (rndE (rnd K T q true)).1.iv ≤ (rndE (rnd K S p true)).1.iv := by
  obtain ⟨a1, a2, _⟩ := rndK_up hp (by omega) (rndE_some h)
  have a3 := a1.mono hpq
  rcases rnd_up (K := K) (S := T) (show 0 < q by omega) hq with ⟨_, h2⟩ | ⟨d, h1, h2, h3, h4⟩
  · exact absurd (Int.le_trans hST a2) (h2 _ a3)
  · rw [h1]
    exact ⟨rfl, h4 _ a3 (Int.le_trans hST a2)⟩
end
theorem mkI_good {l h : Dy × Int} (hl : l.2 = 0) (hh : h.2 = 0) : mkI l h = ⟨l.1, h.1, false⟩ := by unfold mkI; rw [if_neg (by omega)]
theorem mkI_bad {l h : Dy × Int} (hb : l.2 ≠ 0 ∨ h.2 ≠ 0) : mkI l h = .whole := by unfold mkI; rw [if_pos hb]
theorem insP.of_all {X Y : PI} (h : insP X Y) (hy : Y.all = false) : X.all = false ∧ Y.lo.iv ≤ X.lo.iv ∧ X.hi.iv ≤ Y.hi.iv := by
  rcases h with h | ⟨h1, _, h2, h3⟩
  · rw [h] at hy; cases hy
  · exact ⟨h1, h2, h3⟩
theorem pAdd_inc {X Y X' Y' : PI} {p q : Nat} (hp : 8 ≤ p) (hpq : p ≤ q) (hq : q ≤ 512) (hX : insP X X') (hY : insP Y Y') : insP (pAdd X Y q) (pAdd X' Y' p) := by
  cases ha : (X'.all || Y'.all) with
  | true => unfold pAdd; rw [if_pos (c := (X'.all || Y'.all) = true) ha]; exact .whole _
  | false =>
    rw [Bool.or_eq_false_iff] at ha
    obtain ⟨x1, x2, x3⟩ := hX.of_all ha.1
    obtain ⟨y1, y2, y3⟩ := hY.of_all ha.2
    unfold pAdd
    rw [x1, y1, ha.1, ha.2]
    simp only [Bool.or_self, Bool.false_eq_true, if_false]
    by_cases hb : (adP X'.lo Y'.lo p false).2 ≠ 0 ∨ (adP X'.hi Y'.hi p true).2 ≠ 0
    · rw [mkI_bad hb]; exact .whole _
    · have e1 : (adP X'.lo Y'.lo p false).2 = 0 := Classical.byContradiction fun k => hb (.inl k)
      have e2 : (adP X'.hi Y'.hi p true).2 = 0 := Classical.byContradiction fun k => hb (.inr k)
      have d := down_inc (K := 0) (S := X'.lo.iv + Y'.lo.iv) (T := X.lo.iv + Y.lo.iv) (by omega) hpq (by omega) (by omega) e1
      have u := up_inc (K := 0) (S := X'.hi.iv + Y'.hi.iv) (T := X.hi.iv + Y.hi.iv) (by omega) hpq (by omega) (by omega) e2
      rw [mkI_good e1 e2, mkI_good (l := adP X.lo Y.lo q false) (h := adP X.hi Y.hi q true) d.1 u.1]
      exact .inr ⟨rfl, rfl, d.2, u.2⟩
/-- what fourP returns -/
theorem fourP_spec {op : Dy → Dy → Bool → Dy × Int} : ∀ (l : List (Dy × Dy)) (acc : Option (Dy × Dy)), (l ≠ [] ∨ acc ≠ none) →
    ((∃ x ∈ l, (op x.1 x.2 false).2 ≠ 0 ∨ (op x.1 x.2 true).2 ≠ 0) ∧ fourP op l acc = .whole) ∨
    ((∀ x ∈ l, (op x.1 x.2 false).2 = 0 ∧ (op x.1 x.2 true).2 = 0) ∧ ∃ lo hi, fourP op l acc = ⟨lo, hi, false⟩ ∧
      (∀ x ∈ l, lo.iv ≤ (op x.1 x.2 false).1.iv ∧ (op x.1 x.2 true).1.iv ≤ hi.iv) ∧ (∀ a b, acc = some (a, b) → lo.iv ≤ a.iv ∧ b.iv ≤ hi.iv) ∧
      ((∃ x ∈ l, lo = (op x.1 x.2 false).1) ∨ ∃ b, acc = some (lo, b)) ∧ ((∃ x ∈ l, hi = (op x.1 x.2 true).1) ∨ ∃ a, acc = some (a, hi))) := by
  intro l
  induction l with
  | nil =>
    intro acc h
    match acc with
    | none => rcases h with h | h <;> exact absurd rfl h
    | some (a, b) =>
      refine .inr ⟨fun x hx => by simp at hx, a, b, rfl, fun x hx => by simp at hx, ?_, .inr ⟨b, rfl⟩, .inr ⟨a, rfl⟩⟩
      intro a' b' e; cases e; exact ⟨Int.le_refl _, Int.le_refl _⟩
  | cons x r ih =>
    obtain ⟨a, b⟩ := x
    intro acc _
    by_cases hb : (op a b false).2 ≠ 0 ∨ (op a b true).2 ≠ 0
    · refine .inl ⟨⟨(a, b), List.mem_cons_self, hb⟩, ?_⟩
      unfold fourP; rw [if_pos hb]
    · have e1 : (op a b false).2 = 0 := Classical.byContradiction fun k => hb (.inl k)
      have e2 : (op a b true).2 = 0 := Classical.byContradiction fun k => hb (.inr k)
      have main : ∀ l' h', l'.iv ≤ (op a b false).1.iv → (op a b true).1.iv ≤ h'.iv → (∀ a' b', acc = some (a', b') → l'.iv ≤ a'.iv ∧ b'.iv ≤ h'.iv) →
          (l' = (op a b false).1 ∨ ∃ b', acc = some (l', b')) → (h' = (op a b true).1 ∨ ∃ a', acc = some (a', h')) → fourP op ((a, b) :: r) acc = fourP op r (some (l', h')) →
          ((∃ x ∈ (a, b) :: r, (op x.1 x.2 false).2 ≠ 0 ∨ (op x.1 x.2 true).2 ≠ 0) ∧ fourP op ((a, b) :: r) acc = .whole) ∨
          ((∀ x ∈ (a, b) :: r, (op x.1 x.2 false).2 = 0 ∧ (op x.1 x.2 true).2 = 0) ∧ ∃ lo hi, fourP op ((a, b) :: r) acc = ⟨lo, hi, false⟩ ∧
            (∀ x ∈ (a, b) :: r, lo.iv ≤ (op x.1 x.2 false).1.iv ∧ (op x.1 x.2 true).1.iv ≤ hi.iv) ∧ (∀ a' b', acc = some (a', b') → lo.iv ≤ a'.iv ∧ b'.iv ≤ hi.iv) ∧
            ((∃ x ∈ (a, b) :: r, lo = (op x.1 x.2 false).1) ∨ ∃ b', acc = some (lo, b')) ∧ ((∃ x ∈ (a, b) :: r, hi = (op x.1 x.2 true).1) ∨ ∃ a', acc = some (a', hi))) := by
        intro l' h' k1 k2 k3 k4 k5 k6
        rw [k6]
        rcases ih (some (l', h')) (.inr (by simp)) with ⟨⟨x, hx, hxe⟩, h2⟩ | ⟨h1, lo, hi, h2, h3, h4, h5, h6⟩
        · exact .inl ⟨⟨x, List.mem_cons_of_mem _ hx, hxe⟩, h2⟩
        · obtain ⟨q1, q2⟩ := h4 _ _ rfl
          refine .inr ⟨fun x hx => ?_, lo, hi, h2, fun x hx => ?_, fun a' b' e => ?_, ?_, ?_⟩
          · rcases List.mem_cons.1 hx with rfl | hx
            · exact ⟨e1, e2⟩
            · exact h1 x hx
          · rcases List.mem_cons.1 hx with rfl | hx
            · exact ⟨Int.le_trans q1 k1, Int.le_trans k2 q2⟩
            · exact h3 x hx
          · have := k3 _ _ e; omega
          · rcases h5 with ⟨x, hx, e⟩ | ⟨b', e⟩
            · exact .inl ⟨x, List.mem_cons_of_mem _ hx, e⟩
            · cases e
              rcases k4 with k4 | k4
              · exact .inl ⟨(a, b), List.mem_cons_self, k4⟩
              · exact .inr k4
          · rcases h6 with ⟨x, hx, e⟩ | ⟨b', e⟩
            · exact .inl ⟨x, List.mem_cons_of_mem _ hx, e⟩
            · cases e
              rcases k5 with k5 | k5
              · exact .inl ⟨(a, b), List.mem_cons_self, k5⟩
              · exact .inr k5
      rcases acc with _ | ⟨l', h'⟩
      · refine main _ _ (Int.le_refl _) (Int.le_refl _) (fun a' b' e => by cases e) (.inl rfl) (.inl rfl) ?_
        conv => lhs; unfold fourP
        rw [if_neg hb]
      · refine main (if (op a b false).1.iv < l'.iv then (op a b false).1 else l') (if h'.iv < (op a b true).1.iv then (op a b true).1 else h') ?_ ?_ ?_ ?_ ?_ ?_
        · split <;> omega
        · split <;> omega
        · intro a' b' e; cases e
          constructor
          · split <;> omega
          · split <;> omega
        · split
          · exact .inl rfl
          · exact .inr ⟨_, rfl⟩
        · split
          · exact .inl rfl
          · exact .inr ⟨_, rfl⟩
        · conv => lhs; unfold fourP
          rw [if_neg hb]
/-- a product of numbers in two intervals lies between products of their ends -/
theorem corner {a1 a2 b1 b2 a b : Int} (ha1 : a1 ≤ a) (ha2 : a ≤ a2) (hb1 : b1 ≤ b) (hb2 : b ≤ b2) :
    (a1 * b1 ≤ a * b ∨ a1 * b2 ≤ a * b ∨ a2 * b1 ≤ a * b ∨ a2 * b2 ≤ a * b) ∧ (a * b ≤ a1 * b1 ∨ a * b ≤ a1 * b2 ∨ a * b ≤ a2 * b1 ∨ a * b ≤ a2 * b2) := by
  have m1 (u v t : Int) (h : u ≤ v) (ht : 0 ≤ t) : u * t ≤ v * t := Int.mul_le_mul_of_nonneg_right h ht
  have m2 (u v t : Int) (h : u ≤ v) (ht : t ≤ 0) : v * t ≤ u * t := Int.mul_le_mul_of_nonpos_right h ht
  have n1 (u v t : Int) (h : u ≤ v) (ht : 0 ≤ t) : t * u ≤ t * v := Int.mul_le_mul_of_nonneg_left h ht
  have n2 (u v t : Int) (h : u ≤ v) (ht : t ≤ 0) : t * v ≤ t * u := Int.mul_le_mul_of_nonpos_left ht h
  constructor
  · by_cases hb : 0 ≤ b
    · have h1 := m1 a1 a b ha1 hb
      by_cases h0 : 0 ≤ a1
      · have := n1 b1 b a1 hb1 h0; omega
      · have := n2 b b2 a1 hb2 (by omega); omega
    · have h1 := m2 a a2 b ha2 (by omega)
      by_cases h0 : 0 ≤ a2
      · have := n1 b1 b a2 hb1 h0; omega
      · have := n2 b b2 a2 hb2 (by omega); omega
  · by_cases hb : 0 ≤ b
    · have h1 := m1 a a2 b ha2 hb
      by_cases h0 : 0 ≤ a2
      · have := n1 b b2 a2 hb2 h0; omega
      · have := n2 b1 b a2 hb1 (by omega); omega
    · have h1 := m2 a1 a b ha1 (by omega)
      by_cases h0 : 0 ≤ a1
      · have := n1 b b2 a1 hb2 h0; omega
      · have := n2 b1 b a1 hb1 (by omega); omega
theorem pMul_inc {X Y X' Y' : PI} {p q : Nat} (hp : 8 ≤ p) (hpq : p ≤ q) (hq : q ≤ 512) (oX : X.ok) (oY : Y.ok) (hX : insP X X') (hY : insP Y Y') : insP (pMul X Y q) (pMul X' Y' p) := by
  cases ha : (X'.all || Y'.all) with
  | true => unfold pMul; rw [if_pos (c := (X'.all || Y'.all) = true) ha]; exact .whole _
  | false =>
    rw [Bool.or_eq_false_iff] at ha
    obtain ⟨x1, x2, x3⟩ := hX.of_all ha.1
    obtain ⟨y1, y2, y3⟩ := hY.of_all ha.2
    have lx := PI.ok_le oX
    have ly := PI.ok_le oY
    unfold pMul
    rw [x1, y1, ha.1, ha.2]
    simp only [Bool.or_self, Bool.false_eq_true, if_false]
    rcases fourP_spec (op := fun a b up => muP a b p up) (pairsP X' Y') none (.inl (by unfold pairsP; simp)) with ⟨_, h2⟩ | ⟨g1, lo, hi, g2, g3, _, _, _⟩
    · rw [h2]; exact .whole _
    · -- each pair of the smaller ones lies between pairs of the greater ones
      have cover : ∀ x ∈ pairsP X Y, (∃ z ∈ pairsP X' Y', z.1.iv * z.2.iv ≤ x.1.iv * x.2.iv) ∧ ∃ z ∈ pairsP X' Y', x.1.iv * x.2.iv ≤ z.1.iv * z.2.iv := by
        intro x hx
        have hxx : X'.lo.iv ≤ x.1.iv ∧ x.1.iv ≤ X'.hi.iv ∧ Y'.lo.iv ≤ x.2.iv ∧ x.2.iv ≤ Y'.hi.iv := by
          unfold pairsP at hx
          simp only [List.mem_cons, List.not_mem_nil, or_false] at hx
          rcases hx with rfl | rfl | rfl | rfl <;> (refine ⟨?_, ?_, ?_, ?_⟩ <;> dsimp only <;> omega)
        obtain ⟨c1, c2⟩ := corner hxx.1 hxx.2.1 hxx.2.2.1 hxx.2.2.2
        unfold pairsP
        constructor
        · rcases c1 with c | c | c | c
          · exact ⟨_, .head _, c⟩
          · exact ⟨_, .tail _ (.head _), c⟩
          · exact ⟨_, .tail _ (.tail _ (.head _)), c⟩
          · exact ⟨_, .tail _ (.tail _ (.tail _ (.head _))), c⟩
        · rcases c2 with c | c | c | c
          · exact ⟨_, .head _, c⟩
          · exact ⟨_, .tail _ (.head _), c⟩
          · exact ⟨_, .tail _ (.tail _ (.head _)), c⟩
          · exact ⟨_, .tail _ (.tail _ (.tail _ (.head _))), c⟩
      have good : ∀ x ∈ pairsP X Y, ((muP x.1 x.2 q false).2 = 0 ∧ lo.iv ≤ (muP x.1 x.2 q false).1.iv) ∧ ((muP x.1 x.2 q true).2 = 0 ∧ (muP x.1 x.2 q true).1.iv ≤ hi.iv) := by
        intro x hx
        obtain ⟨⟨z, hz, hzl⟩, z', hz', hzl'⟩ := cover x hx
        have d := down_inc (K := 16384) (S := z.1.iv * z.2.iv) (T := x.1.iv * x.2.iv) (by omega) hpq (by omega) hzl (g1 z hz).1
        have u := up_inc (K := 16384) (S := z'.1.iv * z'.2.iv) (T := x.1.iv * x.2.iv) (by omega) hpq (by omega) hzl' (g1 z' hz').2
        exact ⟨⟨d.1, Int.le_trans (g3 z hz).1 d.2⟩, u.1, Int.le_trans u.2 (g3 z' hz').2⟩
      rw [g2]
      rcases fourP_spec (op := fun a b up => muP a b q up) (pairsP X Y) none (.inl (by unfold pairsP; simp)) with ⟨⟨x, hx, hxe⟩, _⟩ | ⟨_, lo', hi', k2, _, _, k5, k6⟩
      · have := good x hx
        rcases hxe with h | h
        · exact absurd this.1.1 h
        · exact absurd this.2.1 h
      · rw [k2]
        refine .inr ⟨rfl, rfl, ?_, ?_⟩
        · rcases k5 with ⟨x, hx, e⟩ | ⟨b, e⟩
          · rw [e]; exact (good x hx).1.2
          · cases e
        · rcases k6 with ⟨x, hx, e⟩ | ⟨b, e⟩
          · rw [e]; exact (good x hx).2.2
          · cases e
theorem dotF_inc {p q : Nat} (hp : 8 ≤ p) (hpq : p ≤ q) (hq : q ≤ 512) {f g f' g' : Nat → PI} (of : ∀ t, (f t).ok) (og : ∀ t, (g t).ok) (hf : ∀ t, insP (f t) (f' t)) (hg : ∀ t, insP (g t) (g' t)) :
    ∀ t, insP (dotF q f g t) (dotF p f' g' t)
  | 0 => pMul_inc hp hpq hq (of 0) (og 0) (hf 0) (hg 0)
  | t + 1 => pAdd_inc hp hpq hq (dotF_inc hp hpq hq of og hf hg t) (pMul_inc hp hpq hq (of _) (og _) (hf _) (hg _))
end Go.Proofs.YtdidocdpjiiedaaGreatDoor
end

section
namespace Go.Proofs.YtdidocdpjiiedaaGreatDoor
open Go.RowKit

/-- a number, in steps of 2^-16384, is in an interval -/
def hasV (X : PI) (v : Int) : Prop := X.all = true ∨ X.lo.iv ≤ v ∧ v ≤ X.hi.iv
theorem hasV.lo {X : PI} (h : X.ok) : hasV X X.lo.iv := .inr ⟨Int.le_refl _, PI.ok_le h⟩
theorem hasV.hi {X : PI} (h : X.ok) : hasV X X.hi.iv := .inr ⟨PI.ok_le h, Int.le_refl _⟩
theorem hasV.whole (v : Int) : hasV .whole v := .inl rfl
theorem pAdd_has {X Y : PI} {p : Nat} {a b : Int} (hp : 8 ≤ p) (hp2 : p ≤ 512) (hX : hasV X a) (hY : hasV Y b) : hasV (pAdd X Y p) (a + b) := by
  unfold pAdd
  by_cases ha : (X.all || Y.all) = true
  · rw [if_pos ha]; exact .whole _
  · rw [if_neg ha]
    rw [Bool.or_eq_true] at ha
    have hx := hX.resolve_left (fun k => ha (.inl k))
    have hy := hY.resolve_left (fun k => ha (.inr k))
    by_cases hb : (adP X.lo Y.lo p false).2 ≠ 0 ∨ (adP X.hi Y.hi p true).2 ≠ 0
    · rw [mkI_bad hb]; exact .whole _
    · have e1 : (adP X.lo Y.lo p false).2 = 0 := Classical.byContradiction fun k => hb (.inl k)
      have e2 : (adP X.hi Y.hi p true).2 = 0 := Classical.byContradiction fun k => hb (.inr k)
      have d := (rndK_down (K := 0) (by omega) (by omega) (rndE_some e1)).2.1
      have u := (rndK_up (K := 0) (by omega) (by omega) (rndE_some e2)).2.1
      rw [Int.pow_zero, Int.mul_one] at d u
      rw [mkI_good e1 e2]
      exact .inr ⟨by show (rndE (rnd 0 (X.lo.iv + Y.lo.iv) p false)).1.iv ≤ _; omega, by show _ ≤ (rndE (rnd 0 (X.hi.iv + Y.hi.iv) p true)).1.iv; omega⟩
theorem pMul_has {X Y : PI} {p : Nat} {a b c : Int} (hp : 8 ≤ p) (hp2 : p ≤ 512) (hX : hasV X a) (hY : hasV Y b) (hc : c * 2 ^ 16384 = a * b) : hasV (pMul X Y p) c := by
  unfold pMul
  by_cases ha : (X.all || Y.all) = true
  · rw [if_pos ha]; exact .whole _
  · rw [if_neg ha]
    rw [Bool.or_eq_true] at ha
    have hx := hX.resolve_left (fun k => ha (.inl k))
    have hy := hY.resolve_left (fun k => ha (.inr k))
    rcases fourP_spec (op := fun a b up => muP a b p up) (pairsP X Y) none (.inl (by unfold pairsP; simp)) with ⟨_, h2⟩ | ⟨g1, lo, hi, g2, g3, _, _, _⟩
    · rw [h2]; exact .whole _
    · rw [g2]
      obtain ⟨c1, c2⟩ := corner hx.1 hx.2 hy.1 hy.2
      have low : ∀ z ∈ pairsP X Y, z.1.iv * z.2.iv ≤ a * b → lo.iv ≤ c := by
        intro z hz hle
        have d := (rndK_down (K := 16384) (by omega) (by omega) (rndE_some (g1 z hz).1)).2.1
        have h3 := (g3 z hz).1
        refine Int.le_trans h3 (Int.le_of_mul_le_mul_right ?_ (twoK_pos 16384))
        rw [hc]; exact Int.le_trans d hle
      have high : ∀ z ∈ pairsP X Y, a * b ≤ z.1.iv * z.2.iv → c ≤ hi.iv := by
        intro z hz hle
        have u := (rndK_up (K := 16384) (by omega) (by omega) (rndE_some (g1 z hz).2)).2.1
        have h3 := (g3 z hz).2
        refine Int.le_trans (Int.le_of_mul_le_mul_right ?_ (twoK_pos 16384)) h3
        rw [hc]; exact Int.le_trans hle u
      refine .inr ⟨?_, ?_⟩
      · unfold pairsP at low
        rcases c1 with c | c | c | c
        · exact low _ (.head _) c
        · exact low _ (.tail _ (.head _)) c
        · exact low _ (.tail _ (.tail _ (.head _))) c
        · exact low _ (.tail _ (.tail _ (.tail _ (.head _)))) c
      · unfold pairsP at high
        rcases c2 with c | c | c | c
        · exact high _ (.head _) c
        · exact high _ (.tail _ (.head _)) c
        · exact high _ (.tail _ (.tail _ (.head _))) c
        · exact high _ (.tail _ (.tail _ (.tail _ (.head _)))) c
/-- sums, in order -/
def sumF (c : Nat → Int) : Nat → Int
  | 0 => c 0
  | t + 1 => sumF c t + c (t + 1)
theorem dotF_has {p : Nat} (hp : 8 ≤ p) (hp2 : p ≤ 512) {f g : Nat → PI} {a b c : Nat → Int} {n : Nat} (hf : ∀ t, t ≤ n → hasV (f t) (a t)) (hg : ∀ t, t ≤ n → hasV (g t) (b t)) (hc : ∀ t, t ≤ n → c t * 2 ^ 16384 = a t * b t) :
    ∀ t, t ≤ n → hasV (dotF p f g t) (sumF c t)
  | 0, h => pMul_has hp hp2 (hf 0 h) (hg 0 h) (hc 0 h)
  | t + 1, h => pAdd_has hp hp2 (dotF_has hp hp2 hf hg hc t (by omega)) (pMul_has hp hp2 (hf _ h) (hg _ h) (hc _ h))
end Go.Proofs.YtdidocdpjiiedaaGreatDoor
end

section
namespace Go.Proofs.YtdidocdpjiiedaaGreatDoor
open Go.RowKit

theorem pAdd_all {X Y : PI} {p : Nat} (h : X.all = true ∨ Y.all = true) : pAdd X Y p = .whole := by
  unfold pAdd; rw [if_pos (by rw [Bool.or_eq_true]; exact h)]
theorem pMul_all {X Y : PI} {p : Nat} (h : X.all = true ∨ Y.all = true) : pMul X Y p = .whole := by
  unfold pMul; rw [if_pos (by rw [Bool.or_eq_true]; exact h)]
theorem dotF_all {p : Nat} {f g : Nat → PI} {s : Nat} (h : (f s).all = true ∨ (g s).all = true) : ∀ t, s ≤ t → dotF p f g t = .whole
  | 0, h0 => by
    obtain rfl : s = 0 := by omega
    exact pMul_all h
  | t + 1, h0 => by
    show pAdd _ _ p = _
    by_cases hs : s = t + 1
    · subst hs
      exact pAdd_all (.inr (by rw [pMul_all h]; rfl))
    · exact pAdd_all (.inl (by rw [dotF_all h t (by omega)]; rfl))
/-- the identity's elements -/
def idP (i t : Nat) : PI := if i = t then pnI 1 1 else pnI 0 0
theorem pnI_ok {n : Int} (h : n.natAbs < 2 ^ 8) : (pnI n n).ok := by
  unfold PI.ok pnI
  have := intD_isP (p := 8) (by decide) (by decide) h
  simp only [Bool.false_eq_true, if_false]
  exact ⟨this.1, this.1, Int.le_refl _⟩
theorem idP_ok (i t : Nat) : (idP i t).ok := by
  unfold idP; split
  · exact pnI_ok (by decide)
  · exact pnI_ok (by decide)
theorem intD_one_iv : (intD 1).iv = 2 ^ 16384 := by rw [intD_iv, Int.one_mul]
theorem intD_zero_iv : (intD 0).iv = 0 := by rw [intD_iv, Int.zero_mul]
theorem intD_zero : intD 0 = .zero := rfl
theorem sumF_one {c : Nat → Int} {i : Nat} {v : Int} (hi : c i = v) (h0 : ∀ t, t ≠ i → c t = 0) : ∀ t, sumF c t = if i ≤ t then v else 0
  | 0 => by
    unfold sumF
    by_cases h : i = 0
    · subst h; simp [hi]
    · rw [h0 0 (fun e => h e.symm), if_neg (by omega)]
  | t + 1 => by
    unfold sumF
    rw [sumF_one hi h0 t]
    by_cases h : i = t + 1
    · subst h; rw [if_neg (by omega), hi, if_pos (by omega)]; omega
    · rw [h0 (t + 1) (fun e => h e.symm)]
      by_cases h2 : i ≤ t
      · rw [if_pos h2, if_pos (by omega)]; omega
      · rw [if_neg h2, if_neg (by omega)]; omega
/-- what is multiplied by the identity is inside of the product -/
theorem idn_in {p n i : Nat} {g : Nat → PI} (hp : 8 ≤ p) (hp2 : p ≤ 512) (og : ∀ t, (g t).ok) (hi : i ≤ n) : insP (g i) (dotF p (idP i) g n) := by
  cases ha : (g i).all with
  | true => rw [dotF_all (s := i) (.inr ha) n hi]; exact .whole _
  | false =>
    have key (v : Int) (hv : hasV (g i) v) : hasV (dotF p (idP i) g n) v := by
      have h := dotF_has (n := n) hp hp2 (f := idP i) (g := g) (a := fun t => if i = t then (intD 1).iv else (intD 0).iv) (b := fun t => if i = t then v else (g t).lo.iv) (c := fun t => if i = t then v else 0)
        (fun t _ => by
          unfold idP
          split
          · exact hasV.lo (X := pnI 1 1) (pnI_ok (by decide))
          · exact hasV.lo (X := pnI 0 0) (pnI_ok (by decide)))
        (fun t _ => by
          split
          · next h => subst h; exact hv
          · exact .lo (og t))
        (fun t _ => by
          split
          · rw [intD_one_iv]; exact Int.mul_comm _ _
          · rw [intD_zero_iv, Int.zero_mul, Int.zero_mul]) n (Nat.le_refl n)
      rw [sumF_one (i := i) (v := v) (by simp) (fun t h => if_neg (fun e => h e.symm)), if_pos hi] at h
      exact h
    have h1 := key _ (.lo (og i))
    have h2 := key _ (.hi (og i))
    cases hE : (dotF p (idP i) g n).all with
    | true => exact .inl hE
    | false =>
      unfold hasV at h1 h2
      rw [hE] at h1 h2
      exact .inr ⟨ha, hE, (h1.resolve_left (by decide)).1, (h2.resolve_left (by decide)).2⟩
/-- both ends have at most p bits -/
def fewP (p : Nat) (X : PI) : Prop := X.all = false ∧ isP p X.lo ∧ isP p X.hi
theorem muP_one {p : Nat} {d : Dy} (hp : 8 ≤ p) (hp2 : p ≤ 512) (h : isP p d) (up : Bool) : muP (intD 1) d p up = (d, 0) := by
  unfold muP
  rw [rnd_exact (K := 16384) (by omega) (by omega) h (by rw [intD_one_iv, Int.mul_comm]) up]; rfl
theorem muP_nil {p : Nat} {d : Dy} (up : Bool) : muP .zero d p up = (.zero, 0) := by
  unfold muP
  rw [Dy.iv_zero, Int.zero_mul, rnd_zero]; rfl
theorem adP_nil {p : Nat} {d : Dy} (hp : 8 ≤ p) (hp2 : p ≤ 512) (h : isP p d) (up : Bool) : adP (intD 0) d p up = (d, 0) := by
  unfold adP
  rw [rnd_exact (K := 0) (by omega) (by omega) h (by rw [intD_zero_iv, Int.pow_zero, Int.mul_one, Int.zero_add]) up]; rfl
theorem adP_nilr {p : Nat} {d : Dy} (hp : 8 ≤ p) (hp2 : p ≤ 512) (h : isP p d) (up : Bool) : adP d (intD 0) p up = (d, 0) := by
  unfold adP
  rw [rnd_exact (K := 0) (by omega) (by omega) h (by rw [intD_zero_iv, Int.pow_zero, Int.mul_one, Int.add_zero]) up]; rfl
theorem PI.ext3 {X Y : PI} (h1 : X.lo = Y.lo) (h2 : X.hi = Y.hi) (h3 : X.all = Y.all) : X = Y := by
  cases X; cases Y; simp_all
theorem pMul_one {p : Nat} {X : PI} (hp : 8 ≤ p) (hp2 : p ≤ 512) (oX : X.ok) (h : fewP p X) : pMul (pnI 1 1) X p = X := by
  obtain ⟨ha, hl, hh⟩ := h
  have hle := PI.ok_le oX
  unfold pMul pairsP pnI
  rw [ha]
  simp only [Bool.or_self, Bool.false_eq_true, if_false, fourP, muP_one hp hp2 hl, muP_one hp hp2 hh]
  have n1 : ¬ X.hi.iv < X.lo.iv := by omega
  have n2 : ¬ X.lo.iv < X.lo.iv := by omega
  simp only [ne_eq, not_true_eq_false, or_self, if_false, n1, n2]
  by_cases hlt : X.lo.iv < X.hi.iv
  · have n3 : ¬ X.hi.iv < X.hi.iv := by omega
    simp only [hlt, if_true, n1, n3, if_false]
    exact PI.ext3 rfl rfl ha.symm
  · have he : X.lo = X.hi := Dy.iv_inj hl.1 hh.1 (by omega)
    simp only [hlt, if_false, n2]
    exact PI.ext3 rfl he ha.symm
theorem pMul_nil {p : Nat} {X : PI} (ha : X.all = false) : pMul (pnI 0 0) X p = pnI 0 0 := by
  unfold pMul pairsP pnI
  rw [ha]
  simp only [Bool.or_self, Bool.false_eq_true, if_false, fourP, intD_zero, muP_nil]
  simp
theorem pAdd_nil {p : Nat} {X : PI} (hp : 8 ≤ p) (hp2 : p ≤ 512) (h : fewP p X) : pAdd (pnI 0 0) X p = X := by
  obtain ⟨ha, hl, hh⟩ := h
  unfold pAdd pnI
  rw [ha]
  simp only [Bool.or_self, Bool.false_eq_true, if_false, adP_nil hp hp2 hl, adP_nil hp hp2 hh]
  rw [mkI_good rfl rfl]
  exact PI.ext3 rfl rfl ha.symm
theorem pAdd_nilr {p : Nat} {X : PI} (hp : 8 ≤ p) (hp2 : p ≤ 512) (h : fewP p X) : pAdd X (pnI 0 0) p = X := by
  obtain ⟨ha, hl, hh⟩ := h
  unfold pAdd pnI
  rw [ha]
  simp only [Bool.or_self, Bool.false_eq_true, if_false, adP_nilr hp hp2 hl, adP_nilr hp hp2 hh]
  rw [mkI_good rfl rfl]
  exact PI.ext3 rfl rfl ha.symm
theorem nil_few {p : Nat} (hp : 8 ≤ p) (hp2 : p ≤ 512) : fewP p (pnI 0 0) := ⟨rfl, intD_isP (by omega) (by omega) (Nat.pow_pos (by decide)), intD_isP (by omega) (by omega) (Nat.pow_pos (by decide))⟩
theorem idn_few {p i : Nat} {g : Nat → PI} (hp : 8 ≤ p) (hp2 : p ≤ 512) (og : ∀ t, (g t).ok) (n : Nat) (hf : ∀ t, t ≤ n → fewP p (g t)) : ∀ t, t ≤ n → dotF p (idP i) g t = if i ≤ t then g i else pnI 0 0
  | 0, _ => by
    show pMul (idP i 0) (g 0) p = _
    unfold idP
    by_cases h : i = 0
    · subst h; rw [if_pos rfl, if_pos (Nat.le_refl 0), pMul_one hp hp2 (og 0) (hf 0 (by omega))]
    · rw [if_neg h, if_neg (by omega), pMul_nil (hf 0 (by omega)).1]
  | t + 1, ht => by
    show pAdd (dotF p (idP i) g t) (pMul (idP i (t + 1)) (g (t + 1)) p) p = _
    rw [idn_few hp hp2 og n hf t (by omega)]
    unfold idP
    by_cases h : i = t + 1
    · subst h
      rw [if_pos rfl, if_neg (by omega), if_pos (Nat.le_refl _), pMul_one hp hp2 (og _) (hf _ ht), pAdd_nil hp hp2 (hf _ ht)]
    · rw [if_neg h, pMul_nil (hf _ ht).1]
      by_cases h2 : i ≤ t
      · rw [if_pos h2, if_pos (by omega), pAdd_nilr hp hp2 (hf i (by omega))]
      · rw [if_neg h2, if_neg (by omega), pAdd_nil hp hp2 (nil_few hp hp2)]
theorem muP_comm (a b : Dy) (p : Nat) (up : Bool) : muP a b p up = muP b a p up := by unfold muP; rw [Int.mul_comm]
theorem pMul_comm {X Y : PI} {p : Nat} (hp : 8 ≤ p) (hp2 : p ≤ 512) : pMul X Y p = pMul Y X p := by
  unfold pMul
  rw [Bool.or_comm]
  split
  · rfl
  · have sw : ∀ {X Y : PI} {x : Dy × Dy}, x ∈ pairsP X Y → (x.2, x.1) ∈ pairsP Y X := by
      intro X Y x hx
      unfold pairsP at hx ⊢
      simp only [List.mem_cons, List.not_mem_nil, or_false] at hx
      rcases hx with rfl | rfl | rfl | rfl
      · exact .head _
      · exact .tail _ (.tail _ (.head _))
      · exact .tail _ (.head _)
      · exact .tail _ (.tail _ (.tail _ (.head _)))
    rcases fourP_spec (op := fun a b up => muP a b p up) (pairsP X Y) none (.inl (by unfold pairsP; simp)) with ⟨⟨x, hx, hxe⟩, h2⟩ | ⟨g1, lo, hi, g2, g3, _, g5, g6⟩
    · rcases fourP_spec (op := fun a b up => muP a b p up) (pairsP Y X) none (.inl (by unfold pairsP; simp)) with ⟨_, h3⟩ | ⟨k1, _⟩
      · rw [h2, h3]
      · have := k1 _ (sw hx)
        dsimp only at this hxe
        rw [muP_comm x.2 x.1 p false, muP_comm x.2 x.1 p true] at this
        rcases hxe with h | h
        · exact absurd this.1 h
        · exact absurd this.2 h
    · rcases fourP_spec (op := fun a b up => muP a b p up) (pairsP Y X) none (.inl (by unfold pairsP; simp)) with ⟨⟨x, hx, hxe⟩, _⟩ | ⟨k1, lo', hi', k2, k3, _, k5, k6⟩
      · have := g1 _ (sw hx)
        dsimp only at this hxe
        rw [muP_comm x.2 x.1 p false, muP_comm x.2 x.1 p true] at this
        rcases hxe with h | h
        · exact absurd this.1 h
        · exact absurd this.2 h
      · rw [g2, k2]
        have e1 : lo = lo' := by
          rcases g5 with ⟨x, hx, e⟩ | ⟨b, e⟩
          · rcases k5 with ⟨y, hy, e'⟩ | ⟨b, e'⟩
            · have a1 := (g3 _ (sw hy)).1
              have a2 := (k3 _ (sw hx)).1
              dsimp only at a1 a2 e e'
              rw [muP_comm y.2 y.1, ← e'] at a1
              rw [muP_comm x.2 x.1, ← e] at a2
              exact Dy.iv_inj (by rw [e]; exact muP_ok _ _ hp hp2 _) (by rw [e']; exact muP_ok _ _ hp hp2 _) (Int.le_antisymm a1 a2)
            · cases e'
          · cases e
        have e2 : hi = hi' := by
          rcases g6 with ⟨x, hx, e⟩ | ⟨b, e⟩
          · rcases k6 with ⟨y, hy, e'⟩ | ⟨b, e'⟩
            · have a1 := (g3 _ (sw hy)).2
              have a2 := (k3 _ (sw hx)).2
              dsimp only at a1 a2 e e'
              rw [muP_comm y.2 y.1, ← e'] at a1
              rw [muP_comm x.2 x.1, ← e] at a2
              exact Dy.iv_inj (by rw [e]; exact muP_ok _ _ hp hp2 _) (by rw [e']; exact muP_ok _ _ hp hp2 _) (Int.le_antisymm a2 a1)
            · cases e'
          · cases e
        rw [e1, e2]
theorem dotF_comm {p : Nat} (hp : 8 ≤ p) (hp2 : p ≤ 512) (f g : Nat → PI) : ∀ t, dotF p f g t = dotF p g f t
  | 0 => pMul_comm hp hp2
  | t + 1 => by
    show pAdd _ _ p = pAdd _ _ p
    rw [dotF_comm hp hp2 f g t, pMul_comm hp hp2 (X := f (t + 1))]
end Go.Proofs.YtdidocdpjiiedaaGreatDoor
end

section
namespace Go.Proofs.YtdidocdpjiiedaaGreatDoor
open Go.RowKit

theorem intD_le {a b : Int} (h : a ≤ b) : (intD a).iv ≤ (intD b).iv := by
  rw [intD_iv, intD_iv]
  have hp := twoK_pos 16384
  generalize ((2 : Int) ^ 16384) = q at *
  exact Int.mul_le_mul_of_nonneg_right h (by omega)
theorem intD_lt {a b : Int} (h : a < b) : (intD a).iv < (intD b).iv := by
  rw [intD_iv, intD_iv]
  have hp := twoK_pos 16384
  generalize ((2 : Int) ^ 16384) = q at *
  exact Int.mul_lt_mul_of_pos_right h (by omega)
theorem absv_int {a : Int} (h : a.natAbs ≤ 1000) : (intD a).absv = intD a.natAbs := by
  refine Dy.iv_inj (Dy.absv_ok (intD_oks h)) (intD_oks (by omega)) ?_
  rw [Dy.absv_iv, intD_iv, intD_iv]
  have hp := twoK_pos 16384
  generalize ((2 : Int) ^ 16384) = q at *
  rw [Int.natAbs_mul, Int.natCast_mul]
  congr 1
  omega
theorem maxD_int {a b : Int} : maxD (intD a) (intD b) = if b ≤ a then intD a else intD b := by
  unfold maxD
  by_cases h : b ≤ a
  · rw [if_pos (intD_le h), if_pos h]
  · rw [if_neg (by have := intD_lt (show a < b by omega); omega), if_neg h]
theorem magP_int {a b : Int} (ha : a.natAbs ≤ 1000) (hb : b.natAbs ≤ 1000) : magP (pnI a b) = if b.natAbs ≤ a.natAbs then intD a.natAbs else intD b.natAbs := by
  unfold magP pnI
  simp only [Bool.false_eq_true, if_false]
  rw [absv_int ha, absv_int hb, maxD_int]
  simp only [Int.ofNat_le]
/-- the product -/
theorem awk_mul (A B : List (List RI)) (a0 : atP A 0 0 = pnI 1 1 ∧ atP A 0 1 = pnI 2 2) (b0 : atP B 0 0 = pnI 3 3) (b1 : atP B 1 0 = pnI 4 4) (la : A.length = 1) (ca : colsM A = 2) (cb : colsM B = 1) :
    mulF A B 24 = [[pnI 11 11]] := by
  unfold mulF
  rw [la, ca, cb]
  show [[dotF 24 (atP A 0) (fun t => atP B t 0) 1]] = _
  have : dotF 24 (atP A 0) (fun t => atP B t 0) 1 = pAdd (pMul (atP A 0 0) (atP B 0 0) 24) (pMul (atP A 0 1) (atP B 1 0) 24) 24 := rfl
  rw [this, a0.1, a0.2, b0, b1, pMul_pt (by decide) (by decide) (by decide), pMul_pt (by decide) (by decide) (by decide), pAdd_int (by decide) (by decide) (by decide) (by decide)]
  rfl
theorem adP_nil2 {b : Int} {p : Nat} (hp : 8 ≤ p) (hp2 : p ≤ 512) (h : b.natAbs < 2 ^ p) : adP .zero (intD b) p true = (intD b, 0) := by
  have := adP_int (a := 0) (b := b) hp hp2 (by rwa [Int.zero_add]) true
  rw [Int.zero_add, intD_zero] at this
  exact this
/-- the norm -/
theorem awk_norm {x0 x1 x2 x3 : RI} (h0 : x0.pl = pnI (-2) 1) (h1 : x1.pl = pnI 3 3) (h2 : x2.pl = pnI 0 0) (h3 : x3.pl = pnI 4 4) : nrmN 24 [[x0, x1], [x2, x3]] .zero = some (intD 5) := by
  have a0 : x0.all = false := congrArg PI.all h0
  have a1 : x1.all = false := congrArg PI.all h1
  have a2 : x2.all = false := congrArg PI.all h2
  have a3 : x3.all = false := congrArg PI.all h3
  have m0 : magP x0.pl = intD 2 := by rw [h0, magP_int (by decide) (by decide)]; rfl
  have m1 : magP x1.pl = intD 3 := by rw [h1, magP_int (by decide) (by decide)]; rfl
  have m2 : magP x2.pl = intD 0 := by rw [h2, magP_int (by decide) (by decide)]; rfl
  have m3 : magP x3.pl = intD 4 := by rw [h3, magP_int (by decide) (by decide)]; rfl
  have s1 : sumN 24 [x0, x1] .zero = some (intD 5) := by
    unfold sumN
    rw [if_neg (by rw [a0]; decide), m0, adP_nil2 (by decide) (by decide) (by decide), if_neg (by decide)]
    show sumN 24 [x1] (intD 2) = _
    unfold sumN
    rw [if_neg (by rw [a1]; decide), m1, adP_int (by decide) (by decide) (by decide), if_neg (by decide)]
    rfl
  have s2 : sumN 24 [x2, x3] .zero = some (intD 4) := by
    unfold sumN
    rw [if_neg (by rw [a2]; decide), m2, adP_nil2 (by decide) (by decide) (by decide), if_neg (by decide)]
    show sumN 24 [x3] (intD 0) = _
    unfold sumN
    rw [if_neg (by rw [a3]; decide), m3, adP_int (by decide) (by decide) (by decide), if_neg (by decide)]
    rfl
  rw [nrmN_cons, s1]
  show nrmN 24 [[x2, x3]] (if (intD 0).iv < (intD 5).iv then intD 5 else .zero) = _
  rw [if_pos (intD_lt (by decide)), nrmN_cons, s2]
  show nrmN 24 [] (if (intD 5).iv < (intD 4).iv then intD 4 else intD 5) = _
  rw [if_neg (by have := intD_lt (show (4 : Int) < 5 by decide); omega)]
  rfl
theorem vl_int {w : World} {x y : RD} {a b : Int} (hx : x.ok w) (hy : y.ok w) (dx : x.dy = intD a) (dy : y.dy = intD b) (h : a ≤ b) : RI.vl ⟨x, y, false⟩ = true :=
  vl_mk2 hx.2 hy.2 (by show x.dy.iv ≤ y.dy.iv; rw [dx, dy]; exact intD_le h)
theorem pl_int {x y : RD} {a b : Int} (dx : x.dy = intD a) (dy : y.dy = intD b) : RI.pl ⟨x, y, false⟩ = pnI a b := by unfold RI.pl pnI; rw [dx, dy]
theorem plM_one {Z : List (List RI)} {X : PI} (h : plM Z = [[X]]) : ∃ z, Z = [[z]] ∧ z.pl = X := by
  match Z, h with
  | [[z]], h => exact ⟨z, rfl, by simpa [plM, plR] using h⟩
  | [], h => simp [plM] at h
  | [] :: t, h => simp [plM, plR] at h
  | [z] :: r :: t, h => simp [plM] at h
  | (z :: y :: s) :: t, h => simp [plM, plR] at h
/-- a matrix of one row that lies there -/
theorem rowM_alloc1 {w : World} {a : Option Addr} {r : List RI} {c : Nat} (h : RowI w a r) (hl : r.length ≤ 1100000) (t : TypeId) : RowM (w.alloc (.cells #[.slice a r.length c] t)) (some ⟨w.heap.size, 0, none⟩) [r] := by
  intro i s hi
  match i with
  | 0 =>
    simp only [List.getElem?_cons_zero, Option.some.injEq] at hi
    subst hi
    exact ⟨_, 0, a, c, rfl, by simp, h.kp ((Kp.refl w).alloc _), hl⟩
  | i + 1 => simp at hi
theorem rowM_alloc2 {w : World} {a b : Option Addr} {r s : List RI} {c d : Nat} (h : RowI w a r) (h2 : RowI w b s) (hl : r.length ≤ 1100000) (hl2 : s.length ≤ 1100000) (t : TypeId) : RowM (w.alloc (.cells #[.slice a r.length c, .slice b s.length d] t)) (some ⟨w.heap.size, 0, none⟩) [r, s] := by
  intro i q hi
  match i with
  | 0 =>
    simp only [List.getElem?_cons_zero, Option.some.injEq] at hi
    subst hi
    exact ⟨_, 0, a, c, rfl, by simp, h.kp ((Kp.refl w).alloc _), hl⟩
  | 1 =>
    simp only [List.getElem?_cons_succ, List.getElem?_cons_zero, Option.some.injEq] at hi
    subst hi
    exact ⟨_, 0, b, d, rfl, by simp, h2.kp ((Kp.refl w).alloc _), hl2⟩
  | i + 2 => simp at hi
theorem vlM_one2 {x y : RI} (hx : x.vl = true) (hy : y.vl = true) : vlM [[x, y]] = true := by
  rw [vlM_iff]; refine ⟨by simp, ⟨by show 1 ≤ 2; decide, by show 2 ≤ 8; decide⟩, fun r hr => ?_⟩
  simp only [List.mem_singleton] at hr; subst hr
  refine ⟨rfl, fun z hz => ?_⟩
  simp only [List.mem_cons, List.not_mem_nil, or_false] at hz
  rcases hz with rfl | rfl <;> assumption
theorem vlM_two1 {x y : RI} (hx : x.vl = true) (hy : y.vl = true) : vlM [[x], [y]] = true := by
  rw [vlM_iff]; refine ⟨by simp, ⟨by show 1 ≤ 1; decide, by show 1 ≤ 8; decide⟩, fun r hr => ?_⟩
  simp only [List.mem_cons, List.not_mem_nil, or_false] at hr
  rcases hr with rfl | rfl
  · refine ⟨rfl, fun z hz => ?_⟩
    simp only [List.mem_singleton] at hz; subst hz; exact hx
  · refine ⟨rfl, fun z hz => ?_⟩
    simp only [List.mem_singleton] at hz; subst hz; exact hy
theorem vlM_two2 {x y u v : RI} (hx : x.vl = true) (hy : y.vl = true) (hu : u.vl = true) (hv : v.vl = true) : vlM [[x, y], [u, v]] = true := by
  rw [vlM_iff]; refine ⟨by simp, ⟨by show 1 ≤ 2; decide, by show 2 ≤ 8; decide⟩, fun r hr => ?_⟩
  simp only [List.mem_cons, List.not_mem_nil, or_false] at hr
  rcases hr with rfl | rfl
  · refine ⟨rfl, fun z hz => ?_⟩
    simp only [List.mem_cons, List.not_mem_nil, or_false] at hz
    rcases hz with rfl | rfl <;> assumption
  · refine ⟨rfl, fun z hz => ?_⟩
    simp only [List.mem_cons, List.not_mem_nil, or_false] at hz
    rcases hz with rfl | rfl <;> assumption
end Go.Proofs.YtdidocdpjiiedaaGreatDoor
end

section
namespace Go.Proofs.YtdidocdpjiiedaaGreatDoor
open Go.RowKit

set_option maxHeartbeats 1000000 in
theorem number7_any (x y : RD) (w : World) (hx : x.rd w) (hy : y.rd w) :
    Calls Tryz.prog 16 #[.agg #[.bool x.neg, .slice x.a x.xs.length x.c, .int .i64 x.e], .agg #[.bool y.neg, .slice y.a y.xs.length y.c, .int .i64 y.e]] w fun e w' => e = .returned (.bool (sameR x y)) ∧ Kp w w' := by
  have H := Lib.hid (show sameR x y = ((x.neg == y.neg) && (decide (x.e = y.e) && decide (x.xs = y.xs))) from rfl)
  have hk := ((Kp.refl w).alloc (.cells #[.bool x.neg, .slice x.a x.xs.length x.c, .int .i64 x.e] 28)).alloc (.cells #[.bool y.neg, .slice y.a y.xs.length y.c, .int .i64 y.e] 28)
  have hxl := hx.2.2.2.1
  by_cases hn : x.neg = y.neg
  · have hn1 : (x.neg == y.neg) = true := by rw [hn]; cases y.neg <;> rfl
    by_cases he : x.e = y.e
    · have he1 : (x.e == y.e) = true := beq_iff_eq.2 he
      have Hn := Lib.hid (And.intro hn1 he)
      clear hn he
      go_enter Tryz.func16, Tryz.ntmps16
      go_wp2_with fail
      refine (eqU_any x.a y.a x.xs y.xs x.c y.c _ (hx.1.kp hk) (hy.1.kp hk) hxl).mono ?_
      rintro e w3 ⟨rfl, hk3⟩
      go_wp2_with fail
      go_ret
      exact ⟨ret_bool (by rw [H.out, Hn.out.1, Hn.out.2]; simp), hk.trans hk3⟩
    · have he1 : (x.e == y.e) = false := beq_eq_false_iff_ne.2 he
      have Hn := Lib.hid he
      clear hn he
      go_enter Tryz.func16, Tryz.ntmps16
      go_wp2_with fail
      go_ret
      exact ⟨ret_bool (by rw [H.out, decide_eq_false Hn.out]; simp), hk⟩
  · have hn1 : (x.neg == y.neg) = false := by cases h1 : x.neg <;> cases h2 : y.neg <;> simp_all
    clear hn
    go_enter Tryz.func16, Tryz.ntmps16
    go_wp2_with fail
    go_ret
    exact ⟨ret_bool (by rw [H.out, hn1]; simp), hk⟩
/-- equal fields of intervals -/
def oneR (x y : RI) : Bool := (x.all == y.all) && (sameR x.lo y.lo && sameR x.hi y.hi)
theorem oneR_pl {w w' : World} {x y : RI} (hx : x.rd w) (hy : y.rd w') (vx : x.vl = true) (vy : y.vl = true) (h : x.pl = y.pl) : oneR x y = true := by
  have ha := pl_all h
  unfold oneR
  cases hxa : x.all with
  | true =>
    have hya : y.all = true := by rw [← ha]; exact hxa
    unfold RI.vl at vx vy
    rw [hxa, if_pos rfl, Bool.and_eq_true] at vx
    rw [hya, if_pos rfl, Bool.and_eq_true] at vy
    obtain ⟨a1, a2, a3⟩ := RD.zr_parts.1 vx.1
    obtain ⟨b1, b2, b3⟩ := RD.zr_parts.1 vx.2
    obtain ⟨c1, c2, c3⟩ := RD.zr_parts.1 vy.1
    obtain ⟨d1, d2, d3⟩ := RD.zr_parts.1 vy.2
    rw [hya]
    unfold sameR
    rw [a1, a2, a3, b1, b2, b3, c1, c2, c3, d1, d2, d3]
    rfl
  | false =>
    have hya : y.all = false := by rw [← ha]; exact hxa
    have ox : x.ok w := ⟨hx, hxa, vx⟩
    have oy : y.ok w' := ⟨hy, hya, vy⟩
    rw [hya, sameR_dy ox.lo oy.lo (pl_lo h), sameR_dy ox.hi oy.hi (pl_hi h)]
    rfl
set_option maxRecDepth 100000 in
set_option maxHeartbeats 4000000 in
theorem one7_any (x y : RI) (w : World) (hx : x.rd w) (hy : y.rd w) :
    Calls Tryz.prog 25 #[.agg #[.bool x.lo.neg, .slice x.lo.a x.lo.xs.length x.lo.c, .int .i64 x.lo.e, .bool x.hi.neg, .slice x.hi.a x.hi.xs.length x.hi.c, .int .i64 x.hi.e, .bool x.all], .agg #[.bool y.lo.neg, .slice y.lo.a y.lo.xs.length y.lo.c, .int .i64 y.lo.e, .bool y.hi.neg, .slice y.hi.a y.hi.xs.length y.hi.c, .int .i64 y.hi.e, .bool y.all]] w fun e w' => e = .returned (.bool (oneR x y)) ∧ Kp w w' := by
  have H := Lib.hid (show oneR x y = ((x.all == y.all) && (sameR x.lo y.lo && sameR x.hi y.hi)) from rfl)
  by_cases hn : x.all = y.all
  · have hn1 : (x.all == y.all) = true := by rw [hn]; cases y.all <;> rfl
    have Hn := Lib.hid hn1
    clear hn
    go_enter Tryz.func25, Tryz.ntmps25
    go_wp2_with fail
    generalize hW : ((w.alloc _).alloc _) = W at *
    have hk : Kp w W := hW ▸ ((Kp.refl w).alloc _).alloc _
    have hS : (W.cell? ⟨w.heap.size, 0, none⟩ = some (.bool x.lo.neg) ∧ W.cell? ⟨w.heap.size, 1, none⟩ = some (.slice x.lo.a x.lo.xs.length x.lo.c) ∧ W.cell? ⟨w.heap.size, 2, none⟩ = some (.int .i64 x.lo.e) ∧ W.cell? ⟨w.heap.size, 3, none⟩ = some (.bool x.hi.neg) ∧ W.cell? ⟨w.heap.size, 4, none⟩ = some (.slice x.hi.a x.hi.xs.length x.hi.c) ∧ W.cell? ⟨w.heap.size, 5, none⟩ = some (.int .i64 x.hi.e) ∧ W.cell? ⟨w.heap.size, 6, none⟩ = some (.bool x.all)) ∧ W.cell? ⟨w.heap.size + 1, 0, none⟩ = some (.bool y.lo.neg) ∧ W.cell? ⟨w.heap.size + 1, 1, none⟩ = some (.slice y.lo.a y.lo.xs.length y.lo.c) ∧ W.cell? ⟨w.heap.size + 1, 2, none⟩ = some (.int .i64 y.lo.e) ∧ W.cell? ⟨w.heap.size + 1, 3, none⟩ = some (.bool y.hi.neg) ∧ W.cell? ⟨w.heap.size + 1, 4, none⟩ = some (.slice y.hi.a y.hi.xs.length y.hi.c) ∧ W.cell? ⟨w.heap.size + 1, 5, none⟩ = some (.int .i64 y.hi.e) ∧ W.cell? ⟨w.heap.size + 1, 6, none⟩ = some (.bool y.all) := by rw [← hW]; exact keep77 (Kp.refl _) (by simp)
    clear hW
    go_fit (number7_any x.lo y.lo _ (hx.1.kp hk) (hy.1.kp hk))
    rintro e w1 ⟨rfl, hk1⟩
    cases hl : sameR x.lo y.lo with
    | false =>
      rw [hl] at H
      clear hl
      go_wp2_with fail
      go_ret
      exact ⟨ret_bool (by rw [H.out]; simp), hk.trans hk1⟩
    | true =>
      rw [hl] at H
      clear hl
      obtain ⟨⟨s0, s1, s2, s3, s4, s5, s6⟩, t0, t1, t2, t3, t4, t5, t6⟩ := keep77 hk1 hS
      clear hS
      go_wp2_with fail
      have hk2 := hk.trans hk1
      go_fit (number7_any x.hi y.hi _ (hx.2.kp hk2) (hy.2.kp hk2))
      rintro e w2 ⟨rfl, hk3⟩
      go_wp2_with fail
      go_ret
      exact ⟨ret_bool (by rw [H.out, Hn.out]; simp), hk2.trans hk3⟩
  · have hn1 : (x.all == y.all) = false := by cases h1 : x.all <;> cases h2 : y.all <;> simp_all
    rw [hn1] at H
    clear hn
    go_enter Tryz.func25, Tryz.ntmps25
    go_wp2_with fail
    go_ret
    exact ⟨ret_bool (by rw [H.out]; simp), ((Kp.refl w).alloc _).alloc _⟩
end Go.Proofs.YtdidocdpjiiedaaGreatDoor
end
