/-
  Plain: what sort and Compact leave of a list of names.
-/
import Derived.Test.YthaphbbeiglolaaTreN
import Derived.Lib.SlicesCompact
namespace Go.Proofs.Ythaphbbeiglolaa

theorem bl_lt : ∀ x y : List UInt8, Op.bytesLess x y = true ↔ x < y
  | [], [] => by unfold Op.bytesLess; simp
  | [], _ :: _ => by unfold Op.bytesLess; simp
  | _ :: _, [] => by unfold Op.bytesLess; simp
  | a :: x, b :: y => by
    unfold Op.bytesLess
    rw [Bool.or_eq_true, decide_eq_true_eq, Bool.and_eq_true, bl_lt x y, List.cons_lt_cons_iff, beq_iff_eq]
/-- the library's order -/
def leB (x y : List UInt8) : Bool := decide (x ≤ y)
theorem leB_iff (x y : List UInt8) : leB x y = !Op.bytesLess y x := by
  unfold leB
  rw [Bool.eq_iff_iff, decide_eq_true_eq, Bool.not_eq_true', ← Bool.not_eq_true, bl_lt, List.not_lt]
/-- by places: sorted lists have only smaller ones before -/
theorem sortB_sorted (l : List (List UInt8)) : (l.mergeSort leB).Pairwise fun x y => leB x y = true := by
  refine List.pairwise_mergeSort (fun a b c h1 h2 => ?_) (fun a b => ?_) l
  · rw [leB_iff, Bool.not_eq_true'] at h1 h2 ⊢
    cases h3 : Op.bytesLess c a with
    | false => rfl
    | true =>
      cases h4 : Op.bytesLess a b with
      | true => rw [bl_trans _ _ _ h3 h4] at h2; cases h2
      | false => rw [bl_total _ _ h4 h1] at h3; rw [h3] at h2; cases h2
  · rw [leB_iff, leB_iff]
    cases h1 : Op.bytesLess b a with
    | false => rfl
    | true =>
      cases h2 : Op.bytesLess a b with
      | false => rfl
      | true => have := bl_trans _ _ _ h1 h2; rw [bl_irrefl] at this; cases this
theorem sortB_perm (l : List (List UInt8)) : (l.mergeSort leB).Perm l := List.mergeSort_perm l leB
/-- Compact of a sorted list: the same elements, strictly ascending -/
theorem compact_go {l : List (List UInt8)} (hs : l.Pairwise fun x y => leB x y = true) : ∀ m, m ≤ l.length → (Lib.compactUpTo l.toArray m).Pairwise (fun x y => Op.bytesLess x y = true) ∧ ∀ y, y ∈ Lib.compactUpTo l.toArray m ↔ y ∈ l.take m
  | 0, _ => by simp [Lib.compactUpTo]
  | m + 1, hm => by
    obtain ⟨h1, h2⟩ := compact_go hs m (by omega)
    have hg : ∀ j, j < l.length → l.toArray[j]! = l[j]! := fun j hj => by simp [getElem!_pos, hj]
    have hget : ∀ j (hj : j < l.length), l[j]! = l[j] := fun j hj => getElem!_pos l j hj
    have hle : ∀ i j, i < j → (hj : j < l.length) → leB l[i]! l[j]! = true := fun i j hij hj => by
      rw [hget i (by omega), hget j hj]
      exact List.pairwise_iff_getElem.1 hs i j (by omega) hj hij
    rw [Lib.compactUpTo_succ]
    have htk : l.take (m + 1) = l.take m ++ [l[m]!] := by rw [List.take_add_one, List.getElem?_eq_getElem (by omega), hget m (by omega)]; rfl
    by_cases hk : Lib.keeps l.toArray m = true
    · rw [if_pos hk, hg m (by omega)]
      refine ⟨List.pairwise_append.2 ⟨h1, by simp, fun a ha b hb => ?_⟩, fun y => ?_⟩
      · rw [List.mem_singleton] at hb
        subst hb
        obtain ⟨i, hi⟩ := List.getElem?_of_mem ((h2 a).1 ha)
        rw [List.getElem?_take] at hi
        split at hi
        · next him =>
          have ha' : a = l[i]! := by rw [hget i (by omega)]; rw [List.getElem?_eq_getElem (by omega)] at hi; injection hi with hi; exact hi.symm
          have hne : l[m]! ≠ l[m - 1]! := by
            unfold Lib.keeps at hk
            rw [decide_eq_true_eq, hg m (by omega), hg (m - 1) (by omega)] at hk
            rcases hk with hk | hk
            · omega
            · exact hk
          cases hb : Op.bytesLess a l[m]! with
          | true => rfl
          | false =>
            exfalso
            have e1 := hle i m him (by omega)
            rw [leB_iff, ← ha', Bool.not_eq_true'] at e1
            have e2 : a = l[m]! := bl_total _ _ hb e1
            by_cases hmi : i = m - 1
            · subst hmi; exact hne (by rw [← e2, ha'])
            · have e3 := hle i (m - 1) (by omega) (by omega)
              have e4 := hle (m - 1) m (by omega) (by omega)
              rw [leB_iff, Bool.not_eq_true'] at e3 e4
              rw [← ha', e2] at e3
              exact hne (bl_total _ _ e4 e3)
        · cases hi
      · rw [List.mem_append, h2 y, htk, List.mem_append]
    · rw [if_neg hk, List.append_nil]
      refine ⟨h1, fun y => ?_⟩
      rw [h2 y, htk, List.mem_append]
      constructor
      · exact .inl
      · rintro (h | h)
        · exact h
        · rw [List.mem_singleton] at h
          unfold Lib.keeps at hk
          rw [decide_eq_true_eq, hg m (by omega)] at hk
          have hm0 : m ≠ 0 := fun h0 => hk (.inl h0)
          rw [hg (m - 1) (by omega)] at hk
          have he : l[m]! = l[m - 1]! := Decidable.byContradiction fun hn => hk (.inr hn)
          rw [h, he, hget (m - 1) (by omega)]
          exact List.mem_of_getElem? (i := m - 1) (by rw [List.getElem?_take, if_pos (by omega), List.getElem?_eq_getElem (by omega)])
/-- sorted, then compacted: the names, ascending -/
theorem sort_names (vs : List ByteArray) : ∃ rs : List ByteArray, Lib.compact ((vs.map (·.data.toList)).mergeSort leB) = rs.map (·.data.toList) ∧ rs = namesL vs := by
  generalize hl : (vs.map (·.data.toList)).mergeSort leB = l
  have hs : l.Pairwise fun x y => leB x y = true := by rw [← hl]; exact sortB_sorted _
  have hp : l.Perm (vs.map (·.data.toList)) := by rw [← hl]; exact sortB_perm _
  obtain ⟨h1, h2⟩ := compact_go hs l.length (Nat.le_refl _)
  rw [List.take_length] at h2
  refine ⟨(Lib.compact l).map fun x => ⟨x.toArray⟩, ?_, ?_⟩
  · rw [List.map_map]
    conv => lhs; rw [← List.map_id (Lib.compact l)]
    exact List.map_congr_left fun x _ => by simp
  · have hasc : ∀ t : List (List UInt8), t.Pairwise (fun x y => Op.bytesLess x y = true) → Asc (t.map fun x => (⟨x.toArray⟩ : ByteArray)) := by
      intro t
      induction t with
      | nil => intro _; trivial
      | cons x t ih =>
        intro h
        rw [List.pairwise_cons] at h
        refine ⟨fun y hy => ?_, ih h.2⟩
        obtain ⟨z, hz, rfl⟩ := List.mem_map.1 hy
        unfold blt
        rw [ByteArray.toList_eq, ByteArray.toList_eq]
        exact h.1 z hz
    refine asc_uniq (hasc _ h1) (namesL_asc vs) fun y => ?_
    rw [namesL_mem]
    constructor
    · intro hy
      obtain ⟨x, hx, rfl⟩ := List.mem_map.1 hy
      obtain ⟨v, hv, e⟩ := List.mem_map.1 (hp.mem_iff.1 ((h2 x).1 hx))
      rw [← e]
      exact hv
    · intro hy
      exact List.mem_map.2 ⟨y.data.toList, (h2 _).2 (hp.mem_iff.2 (List.mem_map.2 ⟨y, hy, rfl⟩)), rfl⟩
end Go.Proofs.Ythaphbbeiglolaa
