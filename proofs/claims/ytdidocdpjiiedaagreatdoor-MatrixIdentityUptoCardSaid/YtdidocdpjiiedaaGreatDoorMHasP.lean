/-
  Plain: sums and products of intervals contain those of their numbers; no program in sight.
  Plain: the identity changes nothing that has few bits; products turned around; no program in sight.
  Walks: box.Valid, two.
  Walks: slices.EqualFunc at []api.Interval, []api.Interval.
  Walks: box.Inside, Interior, Equal.
  Walks: box.Hull.
  Walks: slices.EqualFunc at []api.Interval, []api.Dyadic.
  Walks: interval.Has, Point, Whole; box.point, Has, Points.
  Walks: box.Points, Meet.
-/
import Derived.Test.YtdidocdpjiiedaaGreatDoorMRoAdd
import Derived.Test.YtdidocdpjiiedaaGreatDoorMIvE
import Derived.Test.YtdidocdpjiiedaaGreatDoorMSign
import Derived.Test.YtdidocdpjiiedaaGreatDoorMOpenM
section
namespace Go.Proofs.YtdidocdpjiiedaaGreatDoor
open Go.RowKit

/-- a number, in steps of 2^-16384, is in an interval -/
def hasV (X : PI) (v : Int) : Prop := X.all = true ∨ X.lo.iv ≤ v ∧ v ≤ X.hi.iv
theorem hasV.lo {X : PI} (h : X.ok) : hasV X X.lo.iv := .inr ⟨Int.le_refl _, PI.ok_le h⟩
theorem hasV.hi {X : PI} (h : X.ok) : hasV X X.hi.iv := .inr ⟨PI.ok_le h, Int.le_refl _⟩
theorem hasV.whole (v : Int) : hasV .whole v := .inl rfl
theorem pAdd_has {X Y : PI} {p : Nat} {a b : Int} (hp : 8 ≤ p) (hp2 : p ≤ 512) (hX : hasV X a) (hY : hasV Y b) : hasV (pAdd X Y p) (a + b) := by
  unfold pAdd
  by_cases ha : (X.all || Y.all) = true
  · rw [if_pos ha]; exact .whole _
  · rw [if_neg ha]
    rw [Bool.or_eq_true] at ha
    have hx := hX.resolve_left (fun k => ha (.inl k))
    have hy := hY.resolve_left (fun k => ha (.inr k))
    by_cases hb : (adP X.lo Y.lo p false).2 ≠ 0 ∨ (adP X.hi Y.hi p true).2 ≠ 0
    · rw [mkI_bad hb]; exact .whole _
    · have e1 : (adP X.lo Y.lo p false).2 = 0 := Classical.byContradiction fun k => hb (.inl k)
      have e2 : (adP X.hi Y.hi p true).2 = 0 := Classical.byContradiction fun k => hb (.inr k)
      have d := (rndK_down (K := 0) (by omega) (by omega) (rndE_some e1)).2.1
      have u := (rndK_up (K := 0) (by omega) (by omega) (rndE_some e2)).2.1
      rw [Int.pow_zero, Int.mul_one] at d u
      rw [mkI_good e1 e2]
      exact .inr ⟨by show (rndE (rnd 0 (X.lo.iv + Y.lo.iv) p false)).1.iv ≤ _; omega, by show _ ≤ (rndE (rnd 0 (X.hi.iv + Y.hi.iv) p true)).1.iv; omega⟩
theorem pMul_has {X Y : PI} {p : Nat} {a b c : Int} (hp : 8 ≤ p) (hp2 : p ≤ 512) (hX : hasV X a) (hY : hasV Y b) (hc : c * 2 ^ 16384 = a * b) : hasV (pMul X Y p) c := by
  unfold pMul
  by_cases ha : (X.all || Y.all) = true
  · rw [if_pos ha]; exact .whole _
  · rw [if_neg ha]
    rw [Bool.or_eq_true] at ha
    have hx := hX.resolve_left (fun k => ha (.inl k))
    have hy := hY.resolve_left (fun k => ha (.inr k))
    rcases fourP_spec (op := fun a b up => muP a b p up) (pairsP X Y) none (.inl (by unfold pairsP; simp)) with ⟨_, h2⟩ | ⟨g1, lo, hi, g2, g3, _, _, _⟩
    · rw [h2]; exact .whole _
    · rw [g2]
      obtain ⟨c1, c2⟩ := corner hx.1 hx.2 hy.1 hy.2
      have low : ∀ z ∈ pairsP X Y, z.1.iv * z.2.iv ≤ a * b → lo.iv ≤ c := by
        intro z hz hle
        have d := (rndK_down (K := 16384) (by omega) (by omega) (rndE_some (g1 z hz).1)).2.1
        have h3 := (g3 z hz).1
        refine Int.le_trans h3 (Int.le_of_mul_le_mul_right ?_ (twoK_pos 16384))
        rw [hc]; exact Int.le_trans d hle
      have high : ∀ z ∈ pairsP X Y, a * b ≤ z.1.iv * z.2.iv → c ≤ hi.iv := by
        intro z hz hle
        have u := (rndK_up (K := 16384) (by omega) (by omega) (rndE_some (g1 z hz).2)).2.1
        have h3 := (g3 z hz).2
        refine Int.le_trans (Int.le_of_mul_le_mul_right ?_ (twoK_pos 16384)) h3
        rw [hc]; exact Int.le_trans hle u
      refine .inr ⟨?_, ?_⟩
      · unfold pairsP at low
        rcases c1 with c | c | c | c
        · exact low _ (.head _) c
        · exact low _ (.tail _ (.head _)) c
        · exact low _ (.tail _ (.tail _ (.head _))) c
        · exact low _ (.tail _ (.tail _ (.tail _ (.head _)))) c
      · unfold pairsP at high
        rcases c2 with c | c | c | c
        · exact high _ (.head _) c
        · exact high _ (.tail _ (.head _)) c
        · exact high _ (.tail _ (.tail _ (.head _))) c
        · exact high _ (.tail _ (.tail _ (.tail _ (.head _)))) c
/-- sums, in order -/
def sumF (c : Nat → Int) : Nat → Int
  | 0 => c 0
  | t + 1 => sumF c t + c (t + 1)
theorem dotF_has {p : Nat} (hp : 8 ≤ p) (hp2 : p ≤ 512) {f g : Nat → PI} {a b c : Nat → Int} {n : Nat} (hf : ∀ t, t ≤ n → hasV (f t) (a t)) (hg : ∀ t, t ≤ n → hasV (g t) (b t)) (hc : ∀ t, t ≤ n → c t * 2 ^ 16384 = a t * b t) :
    ∀ t, t ≤ n → hasV (dotF p f g t) (sumF c t)
  | 0, h => pMul_has hp hp2 (hf 0 h) (hg 0 h) (hc 0 h)
  | t + 1, h => pAdd_has hp hp2 (dotF_has hp hp2 hf hg hc t (by omega)) (pMul_has hp hp2 (hf _ h) (hg _ h) (hc _ h))
end Go.Proofs.YtdidocdpjiiedaaGreatDoor
end

section
namespace Go.Proofs.YtdidocdpjiiedaaGreatDoor
open Go.RowKit

theorem pAdd_all {X Y : PI} {p : Nat} (h : X.all = true ∨ Y.all = true) : pAdd X Y p = .whole := by
  unfold pAdd; rw [if_pos (by rw [Bool.or_eq_true]; exact h)]
theorem pMul_all {X Y : PI} {p : Nat} (h : X.all = true ∨ Y.all = true) : pMul X Y p = .whole := by
  unfold pMul; rw [if_pos (by rw [Bool.or_eq_true]; exact h)]
theorem dotF_all {p : Nat} {f g : Nat → PI} {s : Nat} (h : (f s).all = true ∨ (g s).all = true) : ∀ t, s ≤ t → dotF p f g t = .whole
  | 0, h0 => by
    obtain rfl : s = 0 := by omega
    exact pMul_all h
  | t + 1, h0 => by
    show pAdd _ _ p = _
    by_cases hs : s = t + 1
    · subst hs
      exact pAdd_all (.inr (by rw [pMul_all h]; rfl))
    · exact pAdd_all (.inl (by rw [dotF_all h t (by omega)]; rfl))
/-- the identity's elements -/
def idP (i t : Nat) : PI := if i = t then pnI 1 1 else pnI 0 0
theorem pnI_ok {n : Int} (h : n.natAbs < 2 ^ 8) : (pnI n n).ok := by
  unfold PI.ok pnI
  have := intD_isP (p := 8) (by decide) (by decide) h
  simp only [Bool.false_eq_true, if_false]
  exact ⟨this.1, this.1, Int.le_refl _⟩
theorem idP_ok (i t : Nat) : (idP i t).ok := by
  unfold idP; split
  · exact pnI_ok (by decide)
  · exact pnI_ok (by decide)
theorem intD_one_iv : (intD 1).iv = 2 ^ 16384 := by rw [intD_iv, Int.one_mul]
theorem intD_zero_iv : (intD 0).iv = 0 := by rw [intD_iv, Int.zero_mul]
theorem intD_zero : intD 0 = .zero := rfl
theorem sumF_one {c : Nat → Int} {i : Nat} {v : Int} (hi : c i = v) (h0 : ∀ t, t ≠ i → c t = 0) : ∀ t, sumF c t = if i ≤ t then v else 0
  | 0 => by
    unfold sumF
    by_cases h : i = 0
    · subst h; simp [hi]
    · rw [h0 0 (fun e => h e.symm), if_neg (by omega)]
  | t + 1 => by
    unfold sumF
    rw [sumF_one hi h0 t]
    by_cases h : i = t + 1
    · subst h; rw [if_neg (by omega), hi, if_pos (by omega)]; omega
    · rw [h0 (t + 1) (fun e => h e.symm)]
      by_cases h2 : i ≤ t
      · rw [if_pos h2, if_pos (by omega)]; omega
      · rw [if_neg h2, if_neg (by omega)]; omega
/-- what is multiplied by the identity is inside of the product -/
theorem idn_in {p n i : Nat} {g : Nat → PI} (hp : 8 ≤ p) (hp2 : p ≤ 512) (og : ∀ t, (g t).ok) (hi : i ≤ n) : insP (g i) (dotF p (idP i) g n) := by
  cases ha : (g i).all with
  | true => rw [dotF_all (s := i) (.inr ha) n hi]; exact .whole _
  | false =>
    have key (v : Int) (hv : hasV (g i) v) : hasV (dotF p (idP i) g n) v := by
      have h := dotF_has (n := n) hp hp2 (f := idP i) (g := g) (a := fun t => if i = t then (intD 1).iv else (intD 0).iv) (b := fun t => if i = t then v else (g t).lo.iv) (c := fun t => if i = t then v else 0)
        (fun t _ => by
          unfold idP
          split
          · exact hasV.lo (X := pnI 1 1) (pnI_ok (by decide))
          · exact hasV.lo (X := pnI 0 0) (pnI_ok (by decide)))
        (fun t _ => by
          split
          · next h => subst h; exact hv
          · exact .lo (og t))
        (fun t _ => by
          split
          · rw [intD_one_iv]; exact Int.mul_comm _ _
          · rw [intD_zero_iv, Int.zero_mul, Int.zero_mul]) n (Nat.le_refl n)
      rw [sumF_one (i := i) (v := v) (by simp) (fun t h => if_neg (fun e => h e.symm)), if_pos hi] at h
      exact h
    have h1 := key _ (.lo (og i))
    have h2 := key _ (.hi (og i))
    cases hE : (dotF p (idP i) g n).all with
    | true => exact .inl hE
    | false =>
      unfold hasV at h1 h2
      rw [hE] at h1 h2
      exact .inr ⟨ha, hE, (h1.resolve_left (by decide)).1, (h2.resolve_left (by decide)).2⟩
/-- both ends have at most p bits -/
def fewP (p : Nat) (X : PI) : Prop := X.all = false ∧ isP p X.lo ∧ isP p X.hi
theorem muP_one {p : Nat} {d : Dy} (hp : 8 ≤ p) (hp2 : p ≤ 512) (h : isP p d) (up : Bool) : muP (intD 1) d p up = (d, 0) := by
  unfold muP
  rw [rnd_exact (K := 16384) (by omega) (by omega) h (by rw [intD_one_iv, Int.mul_comm]) up]; rfl
theorem muP_nil {p : Nat} {d : Dy} (up : Bool) : muP .zero d p up = (.zero, 0) := by
  unfold muP
  rw [Dy.iv_zero, Int.zero_mul, rnd_zero]; rfl
theorem adP_nil {p : Nat} {d : Dy} (hp : 8 ≤ p) (hp2 : p ≤ 512) (h : isP p d) (up : Bool) : adP (intD 0) d p up = (d, 0) := by
  unfold adP
  rw [rnd_exact (K := 0) (by omega) (by omega) h (by rw [intD_zero_iv, Int.pow_zero, Int.mul_one, Int.zero_add]) up]; rfl
theorem adP_nilr {p : Nat} {d : Dy} (hp : 8 ≤ p) (hp2 : p ≤ 512) (h : isP p d) (up : Bool) : adP d (intD 0) p up = (d, 0) := by
  unfold adP
  rw [rnd_exact (K := 0) (by omega) (by omega) h (by rw [intD_zero_iv, Int.pow_zero, Int.mul_one, Int.add_zero]) up]; rfl
theorem PI.ext3 {X Y : PI} (h1 : X.lo = Y.lo) (h2 : X.hi = Y.hi) (h3 : X.all = Y.all) : X = Y := by
  cases X; cases Y; simp_all
theorem pMul_one {p : Nat} {X : PI} (hp : 8 ≤ p) (hp2 : p ≤ 512) (oX : X.ok) (h : fewP p X) : pMul (pnI 1 1) X p = X := by
  obtain ⟨ha, hl, hh⟩ := h
  have hle := PI.ok_le oX
  unfold pMul pairsP pnI
  rw [ha]
  simp only [Bool.or_self, Bool.false_eq_true, if_false, fourP, muP_one hp hp2 hl, muP_one hp hp2 hh]
  have n1 : ¬ X.hi.iv < X.lo.iv := by omega
  have n2 : ¬ X.lo.iv < X.lo.iv := by omega
  simp only [ne_eq, not_true_eq_false, or_self, if_false, n1, n2]
  by_cases hlt : X.lo.iv < X.hi.iv
  · have n3 : ¬ X.hi.iv < X.hi.iv := by omega
    simp only [hlt, if_true, n1, n3, if_false]
    exact PI.ext3 rfl rfl ha.symm
  · have he : X.lo = X.hi := Dy.iv_inj hl.1 hh.1 (by omega)
    simp only [hlt, if_false, n2]
    exact PI.ext3 rfl he ha.symm
theorem pMul_nil {p : Nat} {X : PI} (ha : X.all = false) : pMul (pnI 0 0) X p = pnI 0 0 := by
  unfold pMul pairsP pnI
  rw [ha]
  simp only [Bool.or_self, Bool.false_eq_true, if_false, fourP, intD_zero, muP_nil]
  simp
theorem pAdd_nil {p : Nat} {X : PI} (hp : 8 ≤ p) (hp2 : p ≤ 512) (h : fewP p X) : pAdd (pnI 0 0) X p = X := by
  obtain ⟨ha, hl, hh⟩ := h
  unfold pAdd pnI
  rw [ha]
  simp only [Bool.or_self, Bool.false_eq_true, if_false, adP_nil hp hp2 hl, adP_nil hp hp2 hh]
  rw [mkI_good rfl rfl]
  exact PI.ext3 rfl rfl ha.symm
theorem pAdd_nilr {p : Nat} {X : PI} (hp : 8 ≤ p) (hp2 : p ≤ 512) (h : fewP p X) : pAdd X (pnI 0 0) p = X := by
  obtain ⟨ha, hl, hh⟩ := h
  unfold pAdd pnI
  rw [ha]
  simp only [Bool.or_self, Bool.false_eq_true, if_false, adP_nilr hp hp2 hl, adP_nilr hp hp2 hh]
  rw [mkI_good rfl rfl]
  exact PI.ext3 rfl rfl ha.symm
theorem nil_few {p : Nat} (hp : 8 ≤ p) (hp2 : p ≤ 512) : fewP p (pnI 0 0) := ⟨rfl, intD_isP (by omega) (by omega) (Nat.pow_pos (by decide)), intD_isP (by omega) (by omega) (Nat.pow_pos (by decide))⟩
theorem idn_few {p i : Nat} {g : Nat → PI} (hp : 8 ≤ p) (hp2 : p ≤ 512) (og : ∀ t, (g t).ok) (n : Nat) (hf : ∀ t, t ≤ n → fewP p (g t)) : ∀ t, t ≤ n → dotF p (idP i) g t = if i ≤ t then g i else pnI 0 0
  | 0, _ => by
    show pMul (idP i 0) (g 0) p = _
    unfold idP
    by_cases h : i = 0
    · subst h; rw [if_pos rfl, if_pos (Nat.le_refl 0), pMul_one hp hp2 (og 0) (hf 0 (by omega))]
    · rw [if_neg h, if_neg (by omega), pMul_nil (hf 0 (by omega)).1]
  | t + 1, ht => by
    show pAdd (dotF p (idP i) g t) (pMul (idP i (t + 1)) (g (t + 1)) p) p = _
    rw [idn_few hp hp2 og n hf t (by omega)]
    unfold idP
    by_cases h : i = t + 1
    · subst h
      rw [if_pos rfl, if_neg (by omega), if_pos (Nat.le_refl _), pMul_one hp hp2 (og _) (hf _ ht), pAdd_nil hp hp2 (hf _ ht)]
    · rw [if_neg h, pMul_nil (hf _ ht).1]
      by_cases h2 : i ≤ t
      · rw [if_pos h2, if_pos (by omega), pAdd_nilr hp hp2 (hf i (by omega))]
      · rw [if_neg h2, if_neg (by omega), pAdd_nil hp hp2 (nil_few hp hp2)]
theorem muP_comm (a b : Dy) (p : Nat) (up : Bool) : muP a b p up = muP b a p up := by unfold muP; rw [Int.mul_comm]
theorem pMul_comm {X Y : PI} {p : Nat} (hp : 8 ≤ p) (hp2 : p ≤ 512) : pMul X Y p = pMul Y X p := by
  unfold pMul
  rw [Bool.or_comm]
  split
  · rfl
  · have sw : ∀ {X Y : PI} {x : Dy × Dy}, x ∈ pairsP X Y → (x.2, x.1) ∈ pairsP Y X := by
      intro X Y x hx
      unfold pairsP at hx ⊢
      simp only [List.mem_cons, List.not_mem_nil, or_false] at hx
      rcases hx with rfl | rfl | rfl | rfl
      · exact .head _
      · exact .tail _ (.tail _ (.head _))
      · exact .tail _ (.head _)
      · exact .tail _ (.tail _ (.tail _ (.head _)))
    rcases fourP_spec (op := fun a b up => muP a b p up) (pairsP X Y) none (.inl (by unfold pairsP; simp)) with ⟨⟨x, hx, hxe⟩, h2⟩ | ⟨g1, lo, hi, g2, g3, _, g5, g6⟩
    · rcases fourP_spec (op := fun a b up => muP a b p up) (pairsP Y X) none (.inl (by unfold pairsP; simp)) with ⟨_, h3⟩ | ⟨k1, _⟩
      · rw [h2, h3]
      · have := k1 _ (sw hx)
        dsimp only at this hxe
        rw [muP_comm x.2 x.1 p false, muP_comm x.2 x.1 p true] at this
        rcases hxe with h | h
        · exact absurd this.1 h
        · exact absurd this.2 h
    · rcases fourP_spec (op := fun a b up => muP a b p up) (pairsP Y X) none (.inl (by unfold pairsP; simp)) with ⟨⟨x, hx, hxe⟩, _⟩ | ⟨k1, lo', hi', k2, k3, _, k5, k6⟩
      · have := g1 _ (sw hx)
        dsimp only at this hxe
        rw [muP_comm x.2 x.1 p false, muP_comm x.2 x.1 p true] at this
        rcases hxe with h | h
        · exact absurd this.1 h
        · exact absurd this.2 h
      · rw [g2, k2]
        have e1 : lo = lo' := by
          rcases g5 with ⟨x, hx, e⟩ | ⟨b, e⟩
          · rcases k5 with ⟨y, hy, e'⟩ | ⟨b, e'⟩
            · have a1 := (g3 _ (sw hy)).1
              have a2 := (k3 _ (sw hx)).1
              dsimp only at a1 a2 e e'
              rw [muP_comm y.2 y.1, ← e'] at a1
              rw [muP_comm x.2 x.1, ← e] at a2
              exact Dy.iv_inj (by rw [e]; exact muP_ok _ _ hp hp2 _) (by rw [e']; exact muP_ok _ _ hp hp2 _) (Int.le_antisymm a1 a2)
            · cases e'
          · cases e
        have e2 : hi = hi' := by
          rcases g6 with ⟨x, hx, e⟩ | ⟨b, e⟩
          · rcases k6 with ⟨y, hy, e'⟩ | ⟨b, e'⟩
            · have a1 := (g3 _ (sw hy)).2
              have a2 := (k3 _ (sw hx)).2
              dsimp only at a1 a2 e e'
              rw [muP_comm y.2 y.1, ← e'] at a1
              rw [muP_comm x.2 x.1, ← e] at a2
              exact Dy.iv_inj (by rw [e]; exact muP_ok _ _ hp hp2 _) (by rw [e']; exact muP_ok _ _ hp hp2 _) (Int.le_antisymm a2 a1)
            · cases e'
          · cases e
        rw [e1, e2]
theorem dotF_comm {p : Nat} (hp : 8 ≤ p) (hp2 : p ≤ 512) (f g : Nat → PI) : ∀ t, dotF p f g t = dotF p g f t
  | 0 => pMul_comm hp hp2
  | t + 1 => by
    show pAdd _ _ p = pAdd _ _ p
    rw [dotF_comm hp hp2 f g t, pMul_comm hp hp2 (X := f (t + 1))]
end Go.Proofs.YtdidocdpjiiedaaGreatDoor
end

section
namespace Go.Proofs.YtdidocdpjiiedaaGreatDoor
open Go.RowKit

/-- is a box valid? -/
def vlB (zs : List RI) : Bool := decide (1 ≤ zs.length) && (decide (zs.length ≤ 8) && zs.all goodI)
theorem vlB_iff {zs : List RI} : vlB zs = true ↔ 1 ≤ zs.length ∧ zs.length ≤ 8 ∧ zs.all goodI = true := by
  unfold vlB; simp
theorem RowI.rd {w : World} {a : Option Addr} {zs : List RI} (h : RowI w a zs) {x : RI} (hx : x ∈ zs) : x.rd w := by
  obtain ⟨i, hi⟩ := List.getElem?_of_mem hx
  obtain ⟨_, _, _, hr, _⟩ := h i x hi
  exact hr
/-- are both boxes valid, with as many components? -/
def vl2 (zs ys : List RI) : Bool := vlB zs && (vlB ys && decide (zs.length = ys.length))
end Go.Proofs.YtdidocdpjiiedaaGreatDoor
end

section
namespace Go.Proofs.YtdidocdpjiiedaaGreatDoor
open Go.RowKit

/-- equally long, and alike by p -/
def allII (p : RI → RI → Bool) (zs : List RI) (ys : List RI) : Bool := decide (zs.length = ys.length) && (zs.zip ys).all fun q => p q.1 q.2
theorem allII_true {p : RI → RI → Bool} {zs : List RI} {ys : List RI} : allII p zs ys = true ↔ zs.length = ys.length ∧ ∀ (i : Nat) (x : RI) (y : RI), zs[i]? = some x → ys[i]? = some y → p x y = true := by
  unfold allII
  rw [Bool.and_eq_true, decide_eq_true_eq, List.all_eq_true]
  refine and_congr_right fun hl => ⟨fun h i x y hx hy => ?_, fun h q hq => ?_⟩
  · refine h (x, y) (List.mem_of_getElem? (i := i) ?_)
    rw [List.getElem?_zip_eq_some]; exact ⟨hx, hy⟩
  · obtain ⟨i, hi⟩ := List.getElem?_of_mem hq
    have hi2 := List.getElem?_zip_eq_some.1 hi
    exact h i _ _ hi2.1 hi2.2
theorem allII_false {p : RI → RI → Bool} {zs : List RI} {ys : List RI} {i : Nat} {x : RI} {y : RI} (hx : zs[i]? = some x) (hy : ys[i]? = some y) (h : p x y = false) : allII p zs ys = false := by
  cases ha : allII p zs ys with
  | false => rfl
  | true => rw [(allII_true.1 ha).2 i x y hx hy] at h; cases h
/-- the function g answers p at each two elements, in whatever later world, and keeps all that was there -/
def AnsII (P : Program) (g : FuncId) (cap : Array Value) (w : World) (zs : List RI) (ys : List RI) (p : RI → RI → Bool) : Prop :=
  Enters P g ∧ ∀ x, x ∈ zs → ∀ y, y ∈ ys → ∀ w1, Kp w w1 → Calls P g (#[.agg #[.bool x.lo.neg, .slice x.lo.a x.lo.xs.length x.lo.c, .int .i64 x.lo.e, .bool x.hi.neg, .slice x.hi.a x.hi.xs.length x.hi.c, .int .i64 x.hi.e, .bool x.all], .agg #[.bool y.lo.neg, .slice y.lo.a y.lo.xs.length y.lo.c, .int .i64 y.lo.e, .bool y.hi.neg, .slice y.hi.a y.hi.xs.length y.hi.c, .int .i64 y.hi.e, .bool y.all]] ++ cap) w1 fun e w2 => e = .returned (.bool (p x y)) ∧ Kp w1 w2

set_option maxHeartbeats 4000000 in
theorem eqfII (a b' : Option Addr) (zs : List RI) (ys : List RI) (c d : Nat) (g : FuncId) (cap : Array Value) (w : World) (p : RI → RI → Bool) (hm : zs.length ≤ 1100000) (h : RowI w a zs) (h' : RowI w b' ys) (hp : AnsII Tryz.prog g cap w zs ys p) :
    Calls Tryz.prog 24 #[.slice a zs.length c, .slice b' ys.length d, .func (.func g) #[] cap] w fun e w' => e = .returned (.bool (allII p zs ys)) ∧ Kp w w' := by
  go_enter Tryz.func24, Tryz.ntmps24
  by_cases hlen : zs.length = ys.length
  · have Hlen := Lib.hid hlen
    rw [← hlen]
    clear hlen
    go_wp2
    go_loopw [17] (fun x wr => ∃ k : Nat, k ≤ zs.length ∧ x = .int .i64 k ∧ (∀ (i : Nat) (x : RI) (y : RI), zs[i]? = some x → ys[i]? = some y → i < k → p x y = true) ∧ Kp w wr) (fun x _ => zs.length - (intOf x).toNat)
    case atStart => exact ⟨0, by omega, rfl, fun i x y _ _ h1 => by omega, .refl _⟩
    case round =>
      obtain ⟨k, hk, rfl, hz, hkp⟩ := hrel
      have Hz := Lib.hid hz; clear hz
      by_cases hlt : k < zs.length
      · have hlt2 : k < ys.length := by have := Hlen.out; omega
        obtain ⟨b, o, rfl, hr, h0, h1, h2, h3, h4, h5, h6⟩ := (h.kp hkp) k (zs[k]) (List.getElem?_eq_getElem hlt)
        obtain ⟨b2, o2, rfl, hr2, j0, j1, j2, j3, j4, j5, j6⟩ := (h'.kp (hkp.alloc (.cells #[.bool zs[k].lo.neg, .slice zs[k].lo.a zs[k].lo.xs.length zs[k].lo.c, .int .i64 zs[k].lo.e, .bool zs[k].hi.neg, .slice zs[k].hi.a zs[k].hi.xs.length zs[k].hi.c, .int .i64 zs[k].hi.e, .bool zs[k].all] 43))) k (ys[k]) (List.getElem?_eq_getElem hlt2)
        have Hg := Lib.hid (List.getElem?_eq_getElem hlt)
        have Hg2 := Lib.hid (List.getElem?_eq_getElem hlt2)
        have hgo : ∀ args w, (callFunc g args).run Tryz.prog w = .ok (.enter g args) w := hp.1
        have hcall := fun w1 (hk1 : Kp w w1) => hp.2 _ (List.getElem_mem hlt) _ (List.getElem_mem hlt2) w1 hk1
        clear hp h h'
        generalize zs[k] = x at *
        generalize ys[k] = y at *
        clear hlt2
        cases hq : p x y with
        | true =>
          rw [hq] at hcall
          have Hc := Lib.hid hcall
          have Hq := Lib.hid hq
          clear hcall hq
          go_wp2_with (refine (Hc.out _ ((hkp.alloc _).alloc _)).mono ?_; rintro e w2 ⟨rfl, hk2⟩)
          go_roundw
          case rel =>
            refine ⟨k + 1, by omega, by go_num, fun i x' y' hx hy hi => ?_, ((hkp.alloc _).alloc _).trans hk2⟩
            by_cases h : i = k
            · subst h; rw [Hg.out] at hx; rw [Hg2.out] at hy; cases hx; cases hy; exact Hq.out
            · exact Hz.out i x' y' hx hy (by omega)
          case measure => simp [intOf]; omega
        | false =>
          rw [hq] at hcall
          have Hc := Lib.hid hcall
          have Hq := Lib.hid (allII_false Hg.out Hg2.out hq)
          clear hcall hq
          go_wp2_with (refine (Hc.out _ ((hkp.alloc _).alloc _)).mono ?_; rintro e w2 ⟨rfl, hk2⟩)
          go_ret
          exact ⟨ret_bool Hq.out.symm, ((hkp.alloc _).alloc _).trans hk2⟩
      · have Hthis := Lib.hid (allII_true.2 ⟨Hlen.out, fun i x y hx hy => Hz.out i x y hx hy (by have := (List.getElem?_eq_some_iff.1 hx).1; omega)⟩)
        go_wp2
        go_ret
        exact ⟨ret_bool Hthis.out.symm, hkp⟩
  · have hl2 : ((zs.length : Int) == (ys.length : Int)) = false := beq_eq_false_iff_ne.2 (by omega)
    have H := Lib.hid (show allII p zs ys = false by unfold allII; rw [decide_eq_false hlen]; rfl)
    clear hlen
    go_wp2
    go_ret
    exact ⟨ret_bool H.out.symm, .refl _⟩
end Go.Proofs.YtdidocdpjiiedaaGreatDoor
end

section
namespace Go.Proofs.YtdidocdpjiiedaaGreatDoor
open Go.RowKit

theorem vl2_iff {zs ys : List RI} : vl2 zs ys = true ↔ vlB zs = true ∧ vlB ys = true ∧ zs.length = ys.length := by
  unfold vl2; simp
theorem vlB_ok {w : World} {a : Option Addr} {zs : List RI} (h : RowI w a zs) (hv : vlB zs = true) {x : RI} (hx : x ∈ zs) : x.ok w :=
  (goodI_ok (h.rd hx)).1 (List.all_eq_true.1 (vlB_iff.1 hv).2.2 x hx)
theorem vlB_len {zs : List RI} (hv : vlB zs = true) : zs.length ≤ 8 := (vlB_iff.1 hv).2.1

/-- Inside, of boxes that may be invalid -/
def insB (zs ys : List RI) : Bool := vl2 zs ys && allII insI zs ys
theorem enters_IInside : Enters Tryz.prog 83 := fun _ _ => by kernel_rfl
/-- Interior, of boxes that may be invalid -/
def intB (zs ys : List RI) : Bool := vl2 zs ys && allII intI zs ys
/-- Equal, of boxes that may be invalid -/
def eqB (zs ys : List RI) : Bool := vl2 zs ys && allII eqI zs ys
end Go.Proofs.YtdidocdpjiiedaaGreatDoor
end

section
namespace Go.Proofs.YtdidocdpjiiedaaGreatDoor
open Go.RowKit

theorem hullI_rd {w : World} {x y : RI} (hx : x.rd w) (hy : y.rd w) : (hullI x y).rd w := by
  refine ⟨?_, ?_⟩
  · show (lessR x.lo y.lo).rd w
    unfold lessR; split
    · exact hx.1
    · exact hy.1
  · show (moreR x.hi y.hi).rd w
    unfold moreR; split
    · exact hx.2
    · exact hy.2
theorem keep77b {B : Nat} {w w' : World} (k : Below B w w') {b1 b2 : Nat} (n1 : b1 < B) (n2 : b2 < B) {p0 p1 p2 p3 p4 p5 p6 q0 q1 q2 q3 q4 q5 q6 : Nat} {v0 v1 v2 v3 v4 v5 v6 u0 u1 u2 u3 u4 u5 u6 : Value}
    (h : (w.cell? ⟨b1, p0, none⟩ = some v0 ∧ w.cell? ⟨b1, p1, none⟩ = some v1 ∧ w.cell? ⟨b1, p2, none⟩ = some v2 ∧ w.cell? ⟨b1, p3, none⟩ = some v3 ∧ w.cell? ⟨b1, p4, none⟩ = some v4 ∧ w.cell? ⟨b1, p5, none⟩ = some v5 ∧ w.cell? ⟨b1, p6, none⟩ = some v6) ∧ w.cell? ⟨b2, q0, none⟩ = some u0 ∧ w.cell? ⟨b2, q1, none⟩ = some u1 ∧ w.cell? ⟨b2, q2, none⟩ = some u2 ∧ w.cell? ⟨b2, q3, none⟩ = some u3 ∧ w.cell? ⟨b2, q4, none⟩ = some u4 ∧ w.cell? ⟨b2, q5, none⟩ = some u5 ∧ w.cell? ⟨b2, q6, none⟩ = some u6) :
    (w'.cell? ⟨b1, p0, none⟩ = some v0 ∧ w'.cell? ⟨b1, p1, none⟩ = some v1 ∧ w'.cell? ⟨b1, p2, none⟩ = some v2 ∧ w'.cell? ⟨b1, p3, none⟩ = some v3 ∧ w'.cell? ⟨b1, p4, none⟩ = some v4 ∧ w'.cell? ⟨b1, p5, none⟩ = some v5 ∧ w'.cell? ⟨b1, p6, none⟩ = some v6) ∧ w'.cell? ⟨b2, q0, none⟩ = some u0 ∧ w'.cell? ⟨b2, q1, none⟩ = some u1 ∧ w'.cell? ⟨b2, q2, none⟩ = some u2 ∧ w'.cell? ⟨b2, q3, none⟩ = some u3 ∧ w'.cell? ⟨b2, q4, none⟩ = some u4 ∧ w'.cell? ⟨b2, q5, none⟩ = some u5 ∧ w'.cell? ⟨b2, q6, none⟩ = some u6 := by
  have e1 (i : Nat) : w'.cell? ⟨b1, i, none⟩ = w.cell? ⟨b1, i, none⟩ := k.cell (p := ⟨b1, i, none⟩) n1
  have e2 (i : Nat) : w'.cell? ⟨b2, i, none⟩ = w.cell? ⟨b2, i, none⟩ := k.cell (p := ⟨b2, i, none⟩) n2
  simp only [e1, e2]
  exact h
theorem zip_snoc {α β γ : Type} {f : α → β → γ} {zs : List α} {ys : List β} {k : Nat} {x : α} {y : β} (hx : zs[k]? = some x) (hy : ys[k]? = some y) :
    List.zipWith f (zs.take (k + 1)) (ys.take (k + 1)) = List.zipWith f (zs.take k) (ys.take k) ++ [f x y] := by
  obtain ⟨h1, rfl⟩ := List.getElem?_eq_some_iff.1 hx
  obtain ⟨h2, rfl⟩ := List.getElem?_eq_some_iff.1 hy
  rw [List.take_succ_eq_append_getElem h1, List.take_succ_eq_append_getElem h2, List.zipWith_append (by simp; omega)]
  rfl
/-- the hull of two boxes -/
def hullB (zs ys : List RI) : List RI := if vl2 zs ys then List.zipWith hullI zs ys else []
/-- the result is a slice of these intervals -/
def ShowsI (w : World) (zs : List RI) (e : Ending) (w' : World) : Prop :=
  ∃ a c, e = .returned (.slice a zs.length c) ∧ RowI w' a zs ∧ zs.length ≤ c ∧ c ≤ maxLen ∧ Kp w w'
end Go.Proofs.YtdidocdpjiiedaaGreatDoor
end

section
namespace Go.Proofs.YtdidocdpjiiedaaGreatDoor
open Go.RowKit

/-- equally long, and alike by p -/
def allID (p : RI → RD → Bool) (zs : List RI) (ys : List RD) : Bool := decide (zs.length = ys.length) && (zs.zip ys).all fun q => p q.1 q.2
theorem allID_true {p : RI → RD → Bool} {zs : List RI} {ys : List RD} : allID p zs ys = true ↔ zs.length = ys.length ∧ ∀ (i : Nat) (x : RI) (y : RD), zs[i]? = some x → ys[i]? = some y → p x y = true := by
  unfold allID
  rw [Bool.and_eq_true, decide_eq_true_eq, List.all_eq_true]
  refine and_congr_right fun hl => ⟨fun h i x y hx hy => ?_, fun h q hq => ?_⟩
  · refine h (x, y) (List.mem_of_getElem? (i := i) ?_)
    rw [List.getElem?_zip_eq_some]; exact ⟨hx, hy⟩
  · obtain ⟨i, hi⟩ := List.getElem?_of_mem hq
    have hi2 := List.getElem?_zip_eq_some.1 hi
    exact h i _ _ hi2.1 hi2.2
theorem allID_false {p : RI → RD → Bool} {zs : List RI} {ys : List RD} {i : Nat} {x : RI} {y : RD} (hx : zs[i]? = some x) (hy : ys[i]? = some y) (h : p x y = false) : allID p zs ys = false := by
  cases ha : allID p zs ys with
  | false => rfl
  | true => rw [(allID_true.1 ha).2 i x y hx hy] at h; cases h
/-- the function g answers p at each two elements, in whatever later world, and keeps all that was there -/
def AnsID (P : Program) (g : FuncId) (cap : Array Value) (w : World) (zs : List RI) (ys : List RD) (p : RI → RD → Bool) : Prop :=
  Enters P g ∧ ∀ x, x ∈ zs → ∀ y, y ∈ ys → ∀ w1, Kp w w1 → Calls P g (#[.agg #[.bool x.lo.neg, .slice x.lo.a x.lo.xs.length x.lo.c, .int .i64 x.lo.e, .bool x.hi.neg, .slice x.hi.a x.hi.xs.length x.hi.c, .int .i64 x.hi.e, .bool x.all], .agg #[.bool y.neg, .slice y.a y.xs.length y.c, .int .i64 y.e]] ++ cap) w1 fun e w2 => e = .returned (.bool (p x y)) ∧ Kp w1 w2

end Go.Proofs.YtdidocdpjiiedaaGreatDoor
end

section
namespace Go.Proofs.YtdidocdpjiiedaaGreatDoor
open Go.RowKit

/-- is a point valid? -/
def vlP (ys : List RD) : Bool := decide (1 ≤ ys.length) && (decide (ys.length ≤ 8) && ys.all RD.vl)
theorem vlP_iff {ys : List RD} : vlP ys = true ↔ 1 ≤ ys.length ∧ ys.length ≤ 8 ∧ ys.all RD.vl = true := by
  unfold vlP; simp
theorem vlP_ok {w : World} {a : Option Addr} {zs : List RD} (h : RowD w a zs) (hv : vlP zs = true) {x : RD} (hx : x ∈ zs) : x.ok w :=
  ⟨h.rd hx, List.all_eq_true.1 (vlP_iff.1 hv).2.2 x hx⟩
/-- is the point in the box? -/
def hasB (zs : List RI) (ys : List RD) : Bool := vlB zs && (vlP ys && allID hasI zs ys)
theorem enters_IHas : Enters Tryz.prog 91 := fun _ _ => by kernel_rfl
set_option maxHeartbeats 4000000 in
theorem IPoint_ok (d : RD) (w : World) (hy : d.ok w) :
    Calls Tryz.prog 97 #[.agg #[.bool d.neg, .slice d.a d.xs.length d.c, .int .i64 d.e]] w fun e w' => e = .returned (.agg #[.bool (RI.mk d d false).lo.neg, .slice (RI.mk d d false).lo.a (RI.mk d d false).lo.xs.length (RI.mk d d false).lo.c, .int .i64 (RI.mk d d false).lo.e, .bool (RI.mk d d false).hi.neg, .slice (RI.mk d d false).hi.a (RI.mk d d false).hi.xs.length (RI.mk d d false).hi.c, .int .i64 (RI.mk d d false).hi.e, .bool (RI.mk d d false).all]) ∧ Kp w w' := by
  go_enter Tryz.func97, Tryz.ntmps97
  go_wp2_with fail
  generalize hW : ((w.alloc _).alloc _) = W at *
  have hk : Kp w W := hW ▸ ((Kp.refl w).alloc _).alloc _
  have hS : W.cell? ⟨w.heap.size, 0, none⟩ = some (.bool d.neg) ∧ W.cell? ⟨w.heap.size, 1, none⟩ = some (.slice d.a d.xs.length d.c) ∧ W.cell? ⟨w.heap.size, 2, none⟩ = some (.int .i64 d.e) := by rw [← hW]; simp
  have hV : Var7 W (w.heap.size + 1) := by
    rw [← hW]
    have := Var7.new (w.alloc (.cells #[.bool d.neg, .slice d.a d.xs.length d.c, .int .i64 d.e] 28)) 43
    rwa [World.size_alloc] at this
  clear hW
  refine (Valid_rok d _ (hy.kp hk)).mono ?_
  rintro e w1 ⟨rfl, hk1⟩
  have hS1 := keep3 hk1 hS
  have hV1 := hV.kp hk1
  have hk2 := hk.trans hk1
  clear hS hk hk1 hV
  obtain ⟨⟨q0, q1, q2, q3, q4, q5, q6⟩, f0, f1, f2, f3, f4, f5, f6⟩ := hV1
  go_wp2_with fail
  generalize hW9 : ((((((w1.setCell _ _).setCell _ _).setCell _ _).setCell _ _).setCell _ _).setCell _ _).setCell _ _ = W9
  obtain ⟨⟨s0, s1, s2, s3, s4, s5, s6⟩, hU⟩ := stored7 (show Box7 w1 _ _ _ _ _ _ _ _ from ⟨q0, q1, q2, q3, q4, q5, q6⟩) (fun _ h => by cases h) (fun _ h => by cases h) (fun _ h => by cases h) (fun _ h => by cases h) (fun _ h => by cases h) (fun _ h => by cases h) (fun _ h => by cases h) _ _ _ _ _ _ _ hW9
  clear hW9 q0 q1 q2 q3 q4 q5 q6 f0 f1 f2 f3 f4 f5 f6
  refine bodyPost_ret (v := .agg #[.bool (RI.mk d d false).lo.neg, .slice (RI.mk d d false).lo.a (RI.mk d d false).lo.xs.length (RI.mk d d false).lo.c, .int .i64 (RI.mk d d false).lo.e, .bool (RI.mk d d false).hi.neg, .slice (RI.mk d d false).hi.a (RI.mk d d false).hi.xs.length (RI.mk d d false).hi.c, .int .i64 (RI.mk d d false).hi.e, .bool (RI.mk d d false).all]) (by simp [results, Tryz.results97, go_sem, s0, s1, s2, s3, s4, s5, s6]) rfl ?_
  exact ⟨rfl, hU.2.2.1 _ hk2 (by omega)⟩
end Go.Proofs.YtdidocdpjiiedaaGreatDoor
end

section
namespace Go.Proofs.YtdidocdpjiiedaaGreatDoor
open Go.RowKit

/-- append of an interval to the call's own slice, in a region in the order of the text -/
theorem wpList_append_ivl {w : World} {ops : Array Oper} {rest : List Oper} {o : Oper} {a : Act} {Q : Exit → Act → World → Prop} (hgd : o.guard = none) (s x : Operand)
    (ho : o.op = .call { callee := .builtin .append, args := #[s, x], argTypes := #[40, 40] })
    (wb : World) (v : Value) (zs : List RI) (hs : a.eval s = v) (hown : OwnI wb w v zs)
    (g c : Nat) (hx : a.eval x = .slice (some ⟨g, 0, none⟩) 1 c) (y : RI) (hy : y.rd wb)
    (hcell : w.cell? ⟨g, 0, none⟩ = some (.bool y.lo.neg) ∧ w.cell? ⟨g, 1, none⟩ = some (.slice y.lo.a y.lo.xs.length y.lo.c) ∧ w.cell? ⟨g, 2, none⟩ = some (.int .i64 y.lo.e) ∧ w.cell? ⟨g, 3, none⟩ = some (.bool y.hi.neg) ∧ w.cell? ⟨g, 4, none⟩ = some (.slice y.hi.a y.hi.xs.length y.hi.c) ∧ w.cell? ⟨g, 5, none⟩ = some (.int .i64 y.hi.e) ∧ w.cell? ⟨g, 6, none⟩ = some (.bool y.all)) (hlen : zs.length + 1 ≤ 9000000)
    (h : ∀ a' c' w', OwnI wb w' (.slice a' (zs.length + 1) c') (zs ++ [y]) → Below wb.heap.size w w' → wpList Tryz.prog ops Q rest (a.put o.dst (.slice a' (zs.length + 1) c')) w') :
    wpList Tryz.prog ops Q (o :: rest) a w := by
  obtain ⟨i0, hi, hz0, hz1, hz2⟩ := info_parts infoIvl
  refine wpList_append_lies w hgd s x 40 ho wb.heap.size 43 i0 (.agg #[.bool false, .slice none 0 0, .int .i64 0, .bool false, .slice none 0 0, .int .i64 0, .bool false]) 7 88 Tryz.underlying40 hi hz0 hz1 hz2 rfl (by decide) v zs.length (zs.flatMap RI.cells) hs hown.2
    ⟨g, 0, none⟩ 1 c y.cells hx rfl ?_ ?_ (by decide) (by unfold maxLen; omega) (by omega) hown.1.2.size w.heap.size rfl ?_
  · intro j u hj
    obtain ⟨h0, h1, h2, h3, h4, h5, h6⟩ := hcell
    match j, hj with
    | 0, hj => cases hj; simpa [Addr.add] using h0
    | 1, hj => cases hj; simpa [Addr.add] using h1
    | 2, hj => cases hj; simpa [Addr.add] using h2
    | 3, hj => cases hj; simpa [Addr.add] using h3
    | 4, hj => cases hj; simpa [Addr.add] using h4
    | 5, hj => cases hj; simpa [Addr.add] using h5
    | 6, hj => cases hj; simpa [Addr.add] using h6
    | j + 7, hj => simp [RI.cells] at hj
  · intro u hu
    simp only [RI.cells, List.mem_cons, List.not_mem_nil, or_false] at hu
    rcases hu with rfl | rfl | rfl | rfl | rfl | rfl | rfl <;> rfl
  · intro g' cap w' h1 h2 _ _
    have hb : Below wb.heap.size w w' := (Below.refl wb.heap.size w).grown h2 hown.1.2.size (fun k hk => (hown.2.lt k hk).1)
    refine h _ _ w' ⟨⟨fun x hx => ?_, Below.trans hown.1.2 hb⟩, ?_⟩ hb
    · rcases List.mem_append.1 hx with hx | hx
      · exact hown.1.1 x hx
      · simp only [List.mem_singleton] at hx; subst hx; exact hy
    · rw [List.flatMap_append, List.length_append]
      simpa using h1
/-- the interval of a number -/
def ptI (d : RD) : RI := ⟨d, d, false⟩
theorem IPoint_pt (d : RD) (w : World) (hy : d.ok w) :
    Calls Tryz.prog 97 #[.agg #[.bool d.neg, .slice d.a d.xs.length d.c, .int .i64 d.e]] w fun e w' => e = .returned (.agg #[.bool (ptI d).lo.neg, .slice (ptI d).lo.a (ptI d).lo.xs.length (ptI d).lo.c, .int .i64 (ptI d).lo.e, .bool (ptI d).hi.neg, .slice (ptI d).hi.a (ptI d).hi.xs.length (ptI d).hi.c, .int .i64 (ptI d).hi.e, .bool (ptI d).all]) ∧ Kp w w' := IPoint_ok d w hy
theorem ptI_rd {w : World} {d : RD} (h : d.rd w) : (ptI d).rd w := ⟨h, h⟩
theorem ptI_ok {w : World} {d : RD} (h : d.ok w) : (ptI d).ok w := RI.ok_mk h h (Int.le_refl _)
/-- the box of a point -/
def ptsB (ys : List RD) : List RI := if vlP ys then ys.map ptI else []
theorem map_snoc {α β : Type} {f : α → β} {zs : List α} {k : Nat} {x : α} (hx : zs[k]? = some x) : (zs.take (k + 1)).map f = (zs.take k).map f ++ [f x] := by
  obtain ⟨h1, rfl⟩ := List.getElem?_eq_some_iff.1 hx
  rw [List.take_succ_eq_append_getElem h1, List.map_append]; rfl
end Go.Proofs.YtdidocdpjiiedaaGreatDoor
end
