/-
  Walks: tree.Rename.
-/
import Derived.Test.YthaphbbeiglolaaGreatEvrS
namespace Go.Proofs.YthaphbbeiglolaaGreat
open Go.RowKit Go.Sort

/-- the map of a renaming -/
def renM (ps : List (ByteArray × ByteArray)) : ByteArray → Option Ex := ps.foldl (fun f q => updF f q.1 (varE q.2)) (fun _ => none)
theorem renM_snoc (ps : List (ByteArray × ByteArray)) (q : ByteArray × ByteArray) : renM (ps ++ [q]) = updF (renM ps) q.1 (varE q.2) := by unfold renM; rw [List.foldl_append]; rfl
theorem fold_some : ∀ (ps : List (ByteArray × ByteArray)) (f : ByteArray → Option Ex) (n : ByteArray), ((ps.foldl (fun f q => updF f q.1 (varE q.2)) f) n).isSome = true ↔ (f n).isSome = true ∨ n ∈ ps.map Prod.fst
  | [], f, n => by simp
  | q :: t, f, n => by
    rw [List.foldl_cons, fold_some t, List.map_cons, List.mem_cons]
    unfold updF
    by_cases h : n = q.1
    · rw [if_pos h]; simp [h]
    · rw [if_neg h]; simp [h]
theorem renM_some (ps : List (ByteArray × ByteArray)) (n : ByteArray) : (renM ps n).isSome = true ↔ n ∈ ps.map Prod.fst := by
  unfold renM; rw [fold_some]; simp
theorem fold_var : ∀ (ps : List (ByteArray × ByteArray)) (f : ByteArray → Option Ex), (∀ n x, f n = some x → ∃ s, s ∈ ps.map Prod.snd ∧ x = varE s ∨ f n = some x) → ∀ n x, (ps.foldl (fun f q => updF f q.1 (varE q.2)) f) n = some x → (∃ s ∈ ps.map Prod.snd, x = varE s) ∨ f n = some x
  | [], f, _, n, x, h => .inr h
  | q :: t, f, _, n, x, h => by
    rw [List.foldl_cons] at h
    rcases fold_var t _ (fun n x h => ⟨ByteArray.empty, .inr h⟩) n x h with ⟨s, hs, e⟩ | h1
    · exact .inl ⟨s, .tail _ hs, e⟩
    · unfold updF at h1
      split at h1
      · cases h1; exact .inl ⟨q.2, .head _, rfl⟩
      · exact .inr h1
theorem renM_var {ps : List (ByteArray × ByteArray)} {n : ByteArray} {x : Ex} (h : renM ps n = some x) : ∃ s ∈ ps.map Prod.snd, x = varE s := by
  rcases fold_var ps _ (fun n x h => ⟨ByteArray.empty, .inr h⟩) n x h with h | h
  · exact h
  · cases h
/-- Rename's error -/
def renF (e : Ex) (fs ts : List ByteArray) : Int := if e.ok = true ∧ fs.length = ts.length ∧ fs.length ≤ 200 ∧ fs.all nameB = true ∧ ts.all nameB = true ∧ fs.Nodup then 0 else 1
theorem renF_eq (e : Ex) (fs ts : List ByteArray) : renF e fs ts = if e.ok = true ∧ fs.length = ts.length ∧ fs.length ≤ 200 ∧ fs.all nameB = true ∧ ts.all nameB = true ∧ fs.Nodup then 0 else 1 := rfl
/-- what Rename answers -/
def RenOut (w w' : World) (e : Ex) (fs ts : List ByteArray) (x : Ex) : Prop := Kp w w' ∧ x.made w w' ∧ ((renF e fs ts = 0 ∧ x.er = (e.sub (renM (fs.zip ts))).er) ∨ (renF e fs ts ≠ 0 ∧ x = Ex.zero))
theorem nodup_take {fs : List ByteArray} {k : Nat} {s : ByteArray} (hs : fs[k]? = some s) (h : (fs.take k).Nodup) (hn : s ∉ fs.take k) : (fs.take (k + 1)).Nodup := by
  rw [List.take_add_one, hs]
  exact List.nodup_append.2 ⟨h, by simp, fun a ha b hb e => by simp at hb; subst hb; subst e; exact hn ha⟩
theorem dup_take {fs : List ByteArray} {k : Nat} {s : ByteArray} (hs : fs[k]? = some s) (hn : s ∈ fs.take k) : ¬ fs.Nodup := fun h => by
  obtain ⟨hk, e⟩ := List.getElem?_eq_some_iff.1 hs
  obtain ⟨i, hi⟩ := List.getElem?_of_mem hn
  rw [List.getElem?_take] at hi
  split at hi
  · next hik =>
    obtain ⟨hl, e2⟩ := List.getElem?_eq_some_iff.1 hi
    exact List.pairwise_iff_getElem.1 h i k hl hk hik (e2.trans e.symm)
  · cases hi
theorem zip_take {fs ts : List ByteArray} {k : Nat} {s t : ByteArray} (hs : fs[k]? = some s) (ht : ts[k]? = some t) : (fs.zip ts).take (k + 1) = (fs.zip ts).take k ++ [(s, t)] := by
  rw [List.take_add_one, (List.getElem?_zip_eq_some (z := (s, t))).2 ⟨hs, ht⟩]; rfl
theorem zip_fst_take {fs ts : List ByteArray} {k : Nat} (hl : fs.length = ts.length) : ((fs.zip ts).take k).map Prod.fst = fs.take k := by
  rw [List.map_take, List.map_fst_zip (by omega)]
theorem varE_at {w : World} {B : Nat} {s : ByteArray} (h : s.size ≤ maxLen) : (varE s).at w B :=
  Ex.at_iff.2 ⟨⟨Nat.zero_le _, Nat.zero_le _, h, Nat.zero_le _⟩, fun i x hx => by simp [varE, Ex.l] at hx, fun x hx => by simp [varE, Ex.l] at hx⟩
end Go.Proofs.YthaphbbeiglolaaGreat
