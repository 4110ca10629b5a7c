/-
  Plain: an integer eigenvalue of a small matrix of integers is in a disc.
-/
import Derived.Test.YtpocjagbhiahdaaGreatDoorMDscN
import Derived.Test.YtpocjagbhiahdaaGreatDoorMDet8
namespace Go.Proofs.YtpocjagbhiahdaaGreatDoor
open Go.RowKit

def shZ (m : List (List Int)) (v : Int) : Nat → List (List Int)
  | 0 => m
  | n + 1 => (shZ m v n).set n (((shZ m v n).getD n []).set n (((shZ m v n).getD n []).getD n 0 - v))
theorem shZ_len (m : List (List Int)) (v : Int) : ∀ n, (shZ m v n).length = m.length
  | 0 => rfl
  | n + 1 => by unfold shZ; rw [List.length_set, shZ_len m v n]
theorem shZ_at (m : List (List Int)) (v : Int) : ∀ n i, n ≤ i → (shZ m v n)[i]? = m[i]?
  | 0, i, _ => rfl
  | n + 1, i, h => by unfold shZ; rw [List.getElem?_set, if_neg (by omega), shZ_at m v n i (by omega)]
theorem shZ_row (m : List (List Int)) (v : Int) : ∀ (n i : Nat) (r : List Int), (shZ m v n)[i]? = some r → ∃ s, m[i]? = some s ∧ r.length = s.length ∧ ∀ x ∈ r, x ∈ s ∨ ∃ y ∈ s, x = y - v
  | 0, i, r, h => ⟨r, h, rfl, fun x hx => .inl hx⟩
  | n + 1, i, r, h => by
    unfold shZ at h
    rw [List.getElem?_set] at h
    by_cases hi : n = i
    · subst hi
      by_cases hl : n < (shZ m v n).length
      · obtain ⟨q, hq⟩ : ∃ q, (shZ m v n)[n]? = some q := ⟨_, List.getElem?_eq_getElem hl⟩
        have hqm : m[n]? = some q := by rw [← shZ_at m v n n (Nat.le_refl _)]; exact hq
        rw [if_pos rfl, if_pos hl, List.getD_eq_getElem?_getD, hq] at h
        simp only [Option.getD_some, Option.some.injEq] at h
        subst h
        refine ⟨q, hqm, by simp, fun x hx => ?_⟩
        rcases List.mem_or_eq_of_mem_set hx with h1 | h1
        · exact .inl h1
        · by_cases hn : n < q.length
          · refine .inr ⟨q.getD n 0, ?_, h1⟩
            rw [List.getD_eq_getElem?_getD, List.getElem?_eq_getElem hn]
            exact List.getElem_mem hn
          · rw [List.set_eq_of_length_le (by omega)] at hx
            exact .inl hx
      · rw [if_pos rfl, if_neg hl] at h; cases h
    · rw [if_neg hi] at h
      exact shZ_row m v n i r h
theorem offS_le (i : Nat) : ∀ (l : List Int) (k : Nat) (B : Nat), (∀ m ∈ l, m.natAbs ≤ B) → offS i l k ≤ (l.length : Int) * B
  | [], k, B, _ => by unfold offS; simp
  | m :: r, k, B, h => by
    have h1 := offS_le i r (k + 1) B (fun x hx => h x (.tail _ hx))
    have h2 := h m (.head _)
    have h3 : ((m :: r).length : Int) * B = (r.length : Int) * B + B := by rw [List.length_cons, Int.natCast_add, Int.add_mul]; simp
    unfold offS
    rw [h3]
    split <;> omega
theorem has_near {r : List Int} {i : Nat} {m v : Int} (hi : r[i]? = some m) (hr : r.length ≤ 3) (hb : ∀ m ∈ r, m.natAbs ≤ 20) (h : ((m - v).natAbs : Int) ≤ offS i r 0) : hasX (dscF 64 (r.map fun n => pnI n n) i) (intD v).iv = true := by
  have h1 := offS_le i r 0 20 hb
  have h2 : (r.length : Int) * (20 : Nat) ≤ 60 := by omega
  rw [dscF_int hi (by omega) (fun m hm => by have := hb m hm; omega)]
  exact hasX_int (by omega) (by omega)
theorem eig_has {m : List (List Int)} {k : Nat} {v : Int} (hm : rectZ m k) (hl : m.length = k) (hk : k ≤ 3) (hb : ∀ r ∈ m, ∀ x ∈ r, x.natAbs ≤ 20) (hd : detZ (shZ m v k) = 0) :
    ∃ i r, m[i]? = some r ∧ hasX (dscF 64 (r.map fun n => pnI n n) i) (intD v).iv = true := by
  rcases sq_cases hm hl hk with ⟨a, rfl⟩ | ⟨a, b, c, d, rfl⟩ | ⟨a, b, c, d, e, f, g, h, i, rfl⟩
  · obtain rfl : 1 = k := hl
    have hd' : a - v = 0 := hd
    exact ⟨0, [a], rfl, has_near (m := a) rfl (by simp) (hb _ (by simp)) (by rw [hd']; exact Int.le_refl 0)⟩
  · obtain rfl : 2 = k := hl
    have hd' : (a - v) * (d - v) - b * c = 0 := hd
    have o0 : offS 0 [a, b] 0 = (b.natAbs : Int) := by simp [offS]
    have o1 : offS 1 [c, d] 0 = (c.natAbs : Int) := by simp [offS]
    by_cases h0 : b.natAbs < (a - v).natAbs
    · by_cases h1 : c.natAbs < (d - v).natAbs
      · exact absurd (ger_two hd' h0 h1) id
      exact ⟨1, [c, d], rfl, has_near (m := d) rfl (by simp) (hb _ (by simp)) (by rw [o1]; omega)⟩
    exact ⟨0, [a, b], rfl, has_near (m := a) rfl (by simp) (hb _ (by simp)) (by rw [o0]; omega)⟩
  obtain rfl : 3 = k := hl
  have hd' : (a - v) * ((e - v) * (i - v) - f * h) + b * (f * g - d * (i - v)) + c * (d * h - (e - v) * g) = 0 := hd
  have o0 : offS 0 [a, b, c] 0 = (b.natAbs : Int) + c.natAbs := by simp [offS]
  have o1 : offS 1 [d, e, f] 0 = (d.natAbs : Int) + f.natAbs := by simp [offS]
  have o2 : offS 2 [g, h, i] 0 = (g.natAbs : Int) + h.natAbs := by simp [offS]
  by_cases h0 : b.natAbs + c.natAbs < (a - v).natAbs
  · by_cases h1 : d.natAbs + f.natAbs < (e - v).natAbs
    · by_cases h2 : g.natAbs + h.natAbs < (i - v).natAbs
      · exact absurd (ger_three hd' h0 h1 h2) id
      exact ⟨2, [g, h, i], rfl, has_near (m := i) rfl (by simp) (hb _ (by simp)) (by rw [o2]; omega)⟩
    exact ⟨1, [d, e, f], rfl, has_near (m := e) rfl (by simp) (hb _ (by simp)) (by rw [o1]; omega)⟩
  exact ⟨0, [a, b, c], rfl, has_near (m := a) rfl (by simp) (hb _ (by simp)) (by rw [o0]; omega)⟩
theorem dscC_int {Z : List (List RI)} {m : List (List Int)} {k : Nat} (h : plM Z = intP m) (oZ : okM Z) (hm : rectZ m k) (hl : m.length = k) :
    dscC Z 64 = ((List.range k).map fun i => dscF 64 ((m.getD i []).map fun n => pnI n n) i, 0) := by
  have hlen : Z.length = k := by have := congrArg List.length h; simpa [plM, intP, hl] using this
  have hrow : ∀ (i : Nat) (r : List RI), Z[i]? = some r → ∃ s : List Int, m[i]? = some s ∧ plR r = List.map (fun n => pnI n n) s := fun i r hr => by
    have h1 : (plM Z)[i]? = (intP m)[i]? := by rw [h]
    unfold plM intP at h1
    rw [List.getElem?_map, List.getElem?_map, hr] at h1
    cases hs : m[i]? with
    | none => rw [hs] at h1; cases h1
    | some s => rw [hs] at h1; exact ⟨s, rfl, Option.some.inj h1⟩
  have hrl : ∀ r ∈ Z, r.length = k := fun r hr => by
    obtain ⟨i, hi⟩ := List.getElem?_of_mem hr
    obtain ⟨s, hs, e⟩ := hrow i r hi
    have h1 := (hm.2.2 s (List.mem_of_getElem? hs)).1
    have h2 := congrArg List.length e
    simp [plR] at h2
    omega
  have hc : colsM Z = k := by
    unfold colsM
    cases Z with
    | nil => have := hm.1.1; simp at hlen; omega
    | cons r t => exact hrl r (.head _)
  have hv : vlM Z = true := vlM_iff.2 ⟨by rw [hlen, ← hl]; exact hm.1, by rw [hc]; exact hm.2.1, fun r hr => ⟨by rw [hc]; exact hrl r hr, oZ r hr⟩⟩
  unfold dscC
  rw [hv, hc, hlen, if_pos (by simp; decide)]
  refine congrArg (fun x => (x, (0 : Int))) ?_
  unfold rowF
  refine List.map_congr_left fun i hi => ?_
  have hik := List.mem_range.1 hi
  obtain ⟨r, hr⟩ : ∃ r, Z[i]? = some r := ⟨_, List.getElem?_eq_getElem (by omega)⟩
  obtain ⟨s, hs, e⟩ := hrow i r hr
  rw [List.getD_eq_getElem?_getD, hr, List.getD_eq_getElem?_getD, hs]
  show dscF 64 (plR r) i = dscF 64 (s.map fun n => pnI n n) i
  rw [e]
end Go.Proofs.YtpocjagbhiahdaaGreatDoor
