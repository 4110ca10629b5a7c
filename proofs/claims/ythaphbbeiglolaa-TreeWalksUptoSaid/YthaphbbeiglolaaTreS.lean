/-
  Plain: renaming back; the names of a tree, sorted; no program in sight.
-/
import Derived.Test.YthaphbbeiglolaaTreR
namespace Go.Proofs.Ythaphbbeiglolaa

theorem flatL_mem {l : List Ex} {x y : Ex} (hx : x ∈ l) (hy : y ∈ x.flat) : y ∈ Ex.flatL l := by
  induction l with
  | nil => cases hx
  | cons z t ih =>
    rw [Ex.flatL_cons, List.mem_append]
    rcases List.mem_cons.1 hx with rfl | h
    · exact .inl hy
    · exact .inr (ih h)
theorem flatL_of {l : List Ex} {y : Ex} (h : y ∈ Ex.flatL l) : ∃ x ∈ l, y ∈ x.flat := by
  induction l with
  | nil => rw [Ex.flatL_nil] at h; cases h
  | cons z t ih =>
    rw [Ex.flatL_cons, List.mem_append] at h
    rcases h with h | h
    · exact ⟨z, .head _, h⟩
    · obtain ⟨x, hx, hy⟩ := ih h
      exact ⟨x, .tail _ hx, hy⟩
theorem flat_self (e : Ex) : e ∈ e.flat := by rw [e.flat_eq]; exact .head _
theorem flat_child {e x y : Ex} (hx : x ∈ e.l) (hy : y ∈ x.flat) : y ∈ e.flat := by rw [e.flat_eq]; exact .tail _ (flatL_mem hx hy)
/-- a variable -/
def varE (s : ByteArray) : Ex := .mk 2 0 0 s 0 none 0 []
theorem varE_flat (s : ByteArray) : (varE s).flat = [varE s] := by rw [Ex.flat_eq]; show varE s :: Ex.flatL [] = _; rw [Ex.flatL_nil]
theorem varE_all {s : ByteArray} (h : nameB s = true) : (varE s).allB = true := by
  rw [Ex.allB_eq, Bool.and_eq_true]
  refine ⟨?_, by show Ex.allL [] = true; exact Ex.allL_nil⟩
  show nodeB (varE s) = true
  unfold nodeB
  show (if (2 : Int) = 1 then _ else if (2 : Int) = 2 then _ else _) = true
  rw [if_neg (by decide), if_pos rfl]
  show (decide ((0 : Int) = 0 ∧ (0 : Int) = 0) && (nameB s && (decide ((0 : Int) = 0) && decide (([] : List Ex).length = 0)))) = true
  rw [h]; rfl
theorem varE_size (s : ByteArray) : (varE s).size = 1 := by rw [Ex.size_eq]; show 1 + Ex.sizeL [] = 1; rw [Ex.sizeL_nil]
theorem varE_depth (s : ByteArray) : (varE s).depth = 1 := by rw [Ex.depth_eq]; show 1 + Ex.depthL [] = 1; rw [Ex.depthL_nil]
/-- a right variable's content -/
theorem var_er {e : Ex} (hn : nodeB e = true) (hk : e.kind = 2) : e.er = (varE e.name).er := by
  obtain ⟨h0, _, h1, h2, h3⟩ := node_var hn hk
  rw [Ex.er_iff, h0]
  exact ⟨⟨hk, h1, h2, rfl, h3⟩, rfl⟩
theorem oneS_none {s n : ByteArray} {b : Ex} (h : n ≠ s) : ¬ ((oneS s b n).isSome = true) := by rw [oneS_other b h]; decide
theorem sub_back {s o : ByteArray} : ∀ e : Ex, e.allB = true → (∀ x ∈ e.flat, x.kind = 2 → x.name ≠ o) → ((e.sub (oneS s (varE o))).sub (oneS o (varE s))).er = e.er := by
  refine Ex.ind fun e ih h ho => ?_
  obtain ⟨hn, hl⟩ := all_node h
  by_cases hv : e.kind = 2 ∧ e.name = s
  · rw [sub_hit (b := varE o) hv.1 (by rw [hv.2]; exact oneS_self s _), sub_hit (e := varE o) (b := varE s) rfl (oneS_self o _), var_er hn hv.1, hv.2]
  · have hm : ¬ (e.kind = 2 ∧ (oneS s (varE o) e.name).isSome = true) := fun q => hv ⟨q.1, Classical.byContradiction fun hne => oneS_none hne q.2⟩
    rw [sub_miss hm]
    have hm2 : ¬ ((Ex.mk e.kind e.rn e.rd e.name e.pw none 0 (e.l.map (Ex.sub (oneS s (varE o))))).kind = 2 ∧ (oneS o (varE s) (Ex.mk e.kind e.rn e.rd e.name e.pw none 0 (e.l.map (Ex.sub (oneS s (varE o))))).name).isSome = true) := fun q => oneS_none (ho e (flat_self e) q.1) q.2
    rw [sub_miss hm2, Ex.er_iff]
    refine ⟨⟨rfl, rfl, rfl, rfl, rfl⟩, ?_⟩
    show ((e.l.map (Ex.sub (oneS s (varE o)))).map (Ex.sub (oneS o (varE s)))).map Ex.er = e.l.map Ex.er
    rw [List.map_map, List.map_map]
    exact List.map_congr_left fun x hx => ih x hx (hl x hx) fun y hy => ho y (flat_child hx hy)
/-- a name that was replaced by another is gone -/
theorem sub_gone {s o : ByteArray} (hso : o ≠ s) : ∀ e : Ex, ∀ x ∈ (e.sub (oneS s (varE o))).flat, x.kind = 2 → x.name ≠ s := by
  refine Ex.ind fun e ih x hx hk => ?_
  by_cases hv : e.kind = 2 ∧ e.name = s
  · rw [sub_hit (b := varE o) hv.1 (by rw [hv.2]; exact oneS_self s _), varE_flat] at hx
    rw [List.mem_singleton.1 hx]
    exact hso
  · have hm : ¬ (e.kind = 2 ∧ (oneS s (varE o) e.name).isSome = true) := fun q => hv ⟨q.1, Classical.byContradiction fun hne => oneS_none hne q.2⟩
    rw [sub_miss hm, Ex.flat_eq] at hx
    rcases List.mem_cons.1 hx with rfl | hx
    · exact fun hs => hv ⟨hk, hs⟩
    · obtain ⟨y, hy, hxy⟩ := flatL_of (l := e.l.map (Ex.sub (oneS s (varE o)))) hx
      obtain ⟨z, hz, rfl⟩ := List.mem_map.1 hy
      exact ih z hz x hxy hk
/-- the names of the variables, in the order of the nodes -/
def Ex.vars (e : Ex) : List ByteArray := (e.flat.filter fun x => decide (x.kind = 2)).map Ex.name
theorem mem_vars {e : Ex} {s : ByteArray} : s ∈ e.vars ↔ ∃ x ∈ e.flat, x.kind = 2 ∧ x.name = s := by
  unfold Ex.vars
  simp only [List.mem_map, List.mem_filter, decide_eq_true_eq]
  constructor
  · rintro ⟨x, ⟨h1, h2⟩, h3⟩; exact ⟨x, h1, h2, h3⟩
  · rintro ⟨x, h1, h2, h3⟩; exact ⟨x, ⟨h1, h2⟩, h3⟩
end Go.Proofs.Ythaphbbeiglolaa
