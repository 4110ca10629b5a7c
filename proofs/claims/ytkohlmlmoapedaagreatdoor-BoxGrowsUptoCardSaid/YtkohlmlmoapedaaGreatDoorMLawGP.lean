/-
  Plain: boxes that are moved outward; the law BoxGrows with no program in sight.
-/
import Derived.Test.YtkohlmlmoapedaaGreatDoorMBoxI
import Derived.Test.YtkohlmlmoapedaaGreatDoorMBoxF
namespace Go.Proofs.YtkohlmlmoapedaaGreatDoor
open Go.RowKit

/-- valid boxes moved outward by eps -/
theorem grw_ins {w w' : World} {zs xs : List RI} {eps : RD} (oz : OkB w zs) (ox : OkB w' xs) (hp : 0 ≤ eps.iv) (h : GrwN eps zs xs) : insB zs xs = true := by
  unfold insB
  rw [Bool.and_eq_true, allII_true]
  refine ⟨vl2_iff.2 ⟨oz.vl, ox.vl, h.1⟩, h.1, fun i x y hx hy => insI_iff.2 ?_⟩
  have := h.2 i x y hx hy
  omega
theorem insB_ok {w w' : World} {zs ys : List RI} (h : OkB w zs) (h' : OkB w' ys) : insB zs ys = true ↔ zs.length = ys.length ∧ ∀ (i : Nat) (x y : RI), zs[i]? = some x → ys[i]? = some y → y.lo.iv ≤ x.lo.iv ∧ x.hi.iv ≤ y.hi.iv := by
  unfold insB
  rw [Bool.and_eq_true, allII_true]
  constructor
  · rintro ⟨_, h1, h2⟩
    exact ⟨h1, fun i x y hx hy => insI_iff.1 (h2 i x y hx hy)⟩
  · rintro ⟨h1, h2⟩
    exact ⟨vl2_iff.2 ⟨h.vl, h'.vl, h1⟩, h1, fun i x y hx hy => insI_iff.2 (h2 i x y hx hy)⟩
theorem intB_ok {w w' : World} {zs ys : List RI} (h : OkB w zs) (h' : OkB w' ys) : intB zs ys = true ↔ zs.length = ys.length ∧ ∀ (i : Nat) (x y : RI), zs[i]? = some x → ys[i]? = some y → y.lo.iv < x.lo.iv ∧ x.hi.iv < y.hi.iv := by
  unfold intB
  rw [Bool.and_eq_true, allII_true]
  constructor
  · rintro ⟨_, h1, h2⟩
    exact ⟨h1, fun i x y hx hy => intI_iff.1 (h2 i x y hx hy)⟩
  · rintro ⟨h1, h2⟩
    exact ⟨vl2_iff.2 ⟨h.vl, h'.vl, h1⟩, h1, fun i x y hx hy => intI_iff.2 (h2 i x y hx hy)⟩
theorem eqB_ok {w w' : World} {zs ys : List RI} (h : OkB w zs) (h' : OkB w' ys) (hl : zs.length = ys.length) (he : ∀ (i : Nat) (x y : RI), zs[i]? = some x → ys[i]? = some y → y.lo.iv = x.lo.iv ∧ x.hi.iv = y.hi.iv) : eqB zs ys = true := by
  unfold eqB
  rw [Bool.and_eq_true, allII_true]
  refine ⟨vl2_iff.2 ⟨h.vl, h'.vl, hl⟩, hl, fun i x y hx hy => ?_⟩
  have := he i x y hx hy
  unfold eqI
  rw [Bool.and_eq_true, insI_iff, insI_iff]
  omega
theorem eps_zero {eps : RD} {w : World} (h : eps.ok w) : eps.iv = 0 ↔ eps.xs.length = 0 := by
  rw [rdok_zero h]; exact Dy.iv_eq_zero
theorem grw_int {w w' : World} {zs xs : List RI} {eps : RD} (he : eps.ok w) (oz : OkB w zs) (ox : OkB w' xs) (hp : 0 ≤ eps.iv) (h : GrwN eps zs xs) : intB zs xs = decide (0 < eps.xs.length) := by
  have h0 := eps_zero he
  rw [Bool.eq_iff_iff, intB_ok oz ox, decide_eq_true_eq]
  constructor
  · rintro ⟨_, h1⟩
    obtain ⟨x, hx⟩ : ∃ x, zs[0]? = some x := ⟨_, List.getElem?_eq_getElem (by have := oz.2.1; omega)⟩
    obtain ⟨y, hy⟩ := get_some h.1 hx
    have h2 := h1 0 x y hx hy
    have h3 := h.2 0 x y hx hy
    have : eps.iv ≠ 0 := by omega
    have : ¬ eps.xs.length = 0 := fun k => this (h0.2 k)
    omega
  · intro hl
    refine ⟨h.1, fun i x y hx hy => ?_⟩
    have h3 := h.2 i x y hx hy
    have : eps.iv ≠ 0 := fun k => by have := h0.1 k; omega
    omega
/-- the grown boxes are inside of one another, or in their interior, exactly if the given ones are -/
theorem grw_ins2 {w w' w2 w3 : World} {zs ys xs qs : List RI} {eps : RD} (oz : OkB w zs) (oy : OkB w' ys) (ox : OkB w2 xs) (oq : OkB w3 qs) (h : GrwN eps zs xs) (h' : GrwN eps ys qs) : insB xs qs = insB zs ys := by
  rw [Bool.eq_iff_iff, insB_ok ox oq, insB_ok oz oy, ← h.1, ← h'.1]
  refine and_congr_right fun hl => ⟨fun k i x y hx hy => ?_, fun k i x y hx hy => ?_⟩
  · obtain ⟨u, hu⟩ := get_some h.1 hx
    obtain ⟨v, hv⟩ := get_some h'.1 hy
    have h1 := k i u v hu hv
    have h2 := h.2 i x u hx hu
    have h3 := h'.2 i y v hy hv
    omega
  · obtain ⟨u, hu⟩ := get_some h.1.symm hx
    obtain ⟨v, hv⟩ := get_some h'.1.symm hy
    have h1 := k i u v hu hv
    have h2 := h.2 i u x hu hx
    have h3 := h'.2 i v y hv hy
    omega
theorem grw_int2 {w w' w2 w3 : World} {zs ys xs qs : List RI} {eps : RD} (oz : OkB w zs) (oy : OkB w' ys) (ox : OkB w2 xs) (oq : OkB w3 qs) (h : GrwN eps zs xs) (h' : GrwN eps ys qs) : intB xs qs = intB zs ys := by
  rw [Bool.eq_iff_iff, intB_ok ox oq, intB_ok oz oy, ← h.1, ← h'.1]
  refine and_congr_right fun hl => ⟨fun k i x y hx hy => ?_, fun k i x y hx hy => ?_⟩
  · obtain ⟨u, hu⟩ := get_some h.1 hx
    obtain ⟨v, hv⟩ := get_some h'.1 hy
    have h1 := k i u v hu hv
    have h2 := h.2 i x u hx hu
    have h3 := h'.2 i y v hy hv
    omega
  · obtain ⟨u, hu⟩ := get_some h.1.symm hx
    obtain ⟨v, hv⟩ := get_some h'.1.symm hy
    have h1 := k i u v hu hv
    have h2 := h.2 i u x hu hx
    have h3 := h'.2 i v y hv hy
    omega
/-- the ends of the first k intervals -/
def Ends (f : RI → RD) (xs : List RI) (L : List RD) (k : Nat) : Prop := L.length = k ∧ ∀ (i : Nat) (d : RD) (z : RI), L[i]? = some d → xs[i]? = some z → d.vl = true ∧ d.iv = (f z).iv
theorem Ends.nil (f : RI → RD) (xs : List RI) : Ends f xs [] 0 := ⟨rfl, fun _ _ _ h => by simp at h⟩
theorem Ends.snoc {f : RI → RD} {xs : List RI} {L : List RD} {k : Nat} (h : Ends f xs L k) {z : RI} {d : RD} (hz : xs[k]? = some z) (hv : d.vl = true) (hd : d.iv = (f z).iv) : Ends f xs (L ++ [d]) (k + 1) := by
  obtain ⟨h1, h2⟩ := h
  refine ⟨by simp [h1], fun i d' z' hi hz' => ?_⟩
  by_cases hik : i < k
  · rw [List.getElem?_append_left (by omega)] at hi
    exact h2 i d' z' hi hz'
  · rw [List.getElem?_append_right (by omega), h1] at hi
    have h3 : i - k = 0 := by
      have := (List.getElem?_eq_some_iff.1 hi).1
      simp at this; omega
    rw [h3] at hi
    simp at hi
    subst hi
    obtain rfl : i = k := by omega
    rw [hz] at hz'; cases hz'
    exact ⟨hv, hd⟩
theorem Ends.pts {f : RI → RD} {w w' : World} {xs : List RI} {L : List RD} (ox : OkB w xs) (h : Ends f xs L xs.length) (hr : ∀ d, d ∈ L → d.rd w') : ptsB L = L.map ptI ∧ OkB w' (L.map ptI) := by
  have hv : ∀ d, d ∈ L → d.vl = true := fun d hd => by
    obtain ⟨i, hi⟩ := List.getElem?_of_mem hd
    obtain ⟨z, hz⟩ := get_some h.1 hi
    exact (h.2 i d z hi hz).1
  refine ⟨?_, ?_, by simpa [h.1] using ox.2.1, by simpa [h.1] using ox.2.2⟩
  · unfold ptsB
    rw [if_pos]
    exact vlP_iff.2 ⟨by have := ox.2.1; have := h.1; omega, by have := ox.2.2; have := h.1; omega, List.all_eq_true.2 hv⟩
  · intro x hx
    obtain ⟨d, hd, rfl⟩ := List.mem_map.1 hx
    exact ptI_ok ⟨hr d hd, hv d hd⟩
/-- the hull of the boxes of both ends is the box -/
theorem ends_eq {w w' : World} {xs : List RI} {L M : List RD} (ox : OkB w xs) (h : Ends RI.lo xs L xs.length) (h' : Ends RI.hi xs M xs.length) (hr : ∀ d, d ∈ L → d.rd w') (hr' : ∀ d, d ∈ M → d.rd w') : eqB (hullB (ptsB L) (ptsB M)) xs = true := by
  obtain ⟨e1, o1⟩ := h.pts ox hr
  obtain ⟨e2, o2⟩ := h'.pts ox hr'
  rw [e1, e2]
  have hl : (L.map ptI).length = (M.map ptI).length := by simp [h.1, h'.1]
  obtain ⟨e3, o3⟩ := o1.hull o2 hl
  rw [e3]
  have hl2 : (List.zipWith hullI (L.map ptI) (M.map ptI)).length = xs.length := by rw [zip_len hl]; simp [h.1]
  refine eqB_ok o3 ox hl2 fun i x y hx hy => ?_
  obtain ⟨p, q, hp, hq, rfl⟩ := zip_inv hx
  rw [List.getElem?_map] at hp hq
  obtain ⟨d, hd, rfl⟩ := Option.map_eq_some_iff.1 hp
  obtain ⟨f, hf, rfl⟩ := Option.map_eq_some_iff.1 hq
  have g1 := (h.2 i d y hd hy).2
  have g2 := (h'.2 i f y hf hy).2
  have g3 := ox.iv hy
  rw [hullI_lo, hullI_hi]
  show y.lo.iv = min d.iv f.iv ∧ max d.iv f.iv = y.hi.iv
  omega
theorem lenHull {zs ys : List RI} (h : zs.length ≤ 1100000) : (hullB zs ys).length ≤ 1100000 := by
  unfold hullB; split
  · simp; omega
  · simp
theorem lenPts {ps : List RD} (h : ps.length ≤ 1100000) : (ptsB ps).length ≤ 1100000 := by
  unfold ptsB; split
  · simpa using h
  · simp
end Go.Proofs.YtkohlmlmoapedaaGreatDoor
