/-
  Plain: what a replacement does to a tree; no program in sight.
-/
import Derived.Test.YthaphbbeiglolaaTreQ
namespace Go.Proofs.Ythaphbbeiglolaa

theorem allL_iff {l : List Ex} : Ex.allL l = true ↔ ∀ x ∈ l, x.allB = true := by
  induction l with
  | nil => rw [Ex.allL_nil]; simp
  | cons x t ih =>
    rw [Ex.allL_cons, Bool.and_eq_true, ih]
    constructor
    · rintro ⟨h1, h2⟩ y hy
      rcases List.mem_cons.1 hy with rfl | hy
      · exact h1
      · exact h2 y hy
    · exact fun h => ⟨h x (.head _), fun y hy => h y (.tail _ hy)⟩
theorem all_node {e : Ex} (h : e.allB = true) : nodeB e = true ∧ ∀ x ∈ e.l, x.allB = true := by
  rw [e.allB_eq, Bool.and_eq_true] at h
  exact ⟨h.1, allL_iff.1 h.2⟩
theorem node_var {e : Ex} (h : nodeB e = true) (hk : e.kind = 2) : e.l = [] ∧ nameB e.name = true ∧ e.rn = 0 ∧ e.rd = 0 ∧ e.pw = 0 := by
  unfold nodeB at h
  rw [if_neg (by omega), if_pos hk] at h
  simp only [Bool.and_eq_true, decide_eq_true_eq] at h
  exact ⟨List.length_eq_zero_iff.1 h.2.2.2, h.2.1, h.1.1, h.1.2, h.2.2.1⟩
/-- one name by one tree -/
def oneS (s : ByteArray) (b : Ex) : ByteArray → Option Ex := fun n => if n = s then some b else none
theorem oneS_self (s : ByteArray) (b : Ex) : oneS s b s = some b := if_pos rfl
theorem oneS_other {s n : ByteArray} (b : Ex) (h : n ≠ s) : oneS s b n = none := if_neg h
theorem sub_hit {f : ByteArray → Option Ex} {e b : Ex} (hk : e.kind = 2) (h : f e.name = some b) : e.sub f = b := by
  rw [e.sub_eq, if_pos ⟨hk, by rw [h]; rfl⟩, h]; rfl
theorem sub_miss {f : ByteArray → Option Ex} {e : Ex} (h : ¬ (e.kind = 2 ∧ (f e.name).isSome = true)) : e.sub f = .mk e.kind e.rn e.rd e.name e.pw none 0 (e.l.map (Ex.sub f)) := by rw [e.sub_eq, if_neg h]
theorem sizeL_map {g : Ex → Ex} {o : Ex → Nat} {b : Nat} {l : List Ex} {occ : Nat} (ho : occ = (l.map o).sum) (h : ∀ x ∈ l, (g x).size + o x = x.size + o x * b) : Ex.sizeL (l.map g) + occ = Ex.sizeL l + occ * b := by
  subst ho
  induction l with
  | nil => simp
  | cons x t ih =>
    rw [List.map_cons, Ex.sizeL_cons, Ex.sizeL_cons, List.map_cons, List.sum_cons, Nat.add_mul]
    have h1 := h x (.head _)
    have h2 := ih fun y hy => h y (.tail _ hy)
    omega
theorem occL_sum (s : ByteArray) (l : List Ex) : Ex.occL s l = (l.map (Ex.occ s)).sum := by
  induction l with
  | nil => rw [Ex.occL_nil]; rfl
  | cons x t ih => rw [Ex.occL_cons, ih]; rfl
theorem mk_size (k r d : Int) (n : ByteArray) (p : Int) (a : Option Addr) (c : Nat) (l : List Ex) : (Ex.mk k r d n p a c l).size = 1 + Ex.sizeL l := by rw [Ex.size]
theorem mk_depth (k r d : Int) (n : ByteArray) (p : Int) (a : Option Addr) (c : Nat) (l : List Ex) : (Ex.mk k r d n p a c l).depth = 1 + Ex.depthL l := by rw [Ex.depth]
/-- larger by one less than the size of what is put in, for each place -/
theorem sub_size (s : ByteArray) (b : Ex) : ∀ e : Ex, e.allB = true → (e.sub (oneS s b)).size + e.occ s = e.size + e.occ s * b.size := by
  refine Ex.ind fun e ih h => ?_
  obtain ⟨hn, hl⟩ := all_node h
  rw [e.occ_eq]
  by_cases hv : e.kind = 2 ∧ e.name = s
  · obtain ⟨h0, _⟩ := node_var hn hv.1
    rw [sub_hit hv.1 (by rw [hv.2]; exact oneS_self s b), if_pos hv, h0, Ex.occL_nil, e.size_eq, h0, Ex.sizeL_nil]
    omega
  · have hm : ¬ (e.kind = 2 ∧ (oneS s b e.name).isSome = true) := fun q => hv ⟨q.1, Classical.byContradiction fun hne => by rw [oneS_other b hne] at q; exact absurd q.2 (by decide)⟩
    rw [sub_miss hm, if_neg hv, mk_size, e.size_eq, Nat.zero_add]
    have := sizeL_map (g := Ex.sub (oneS s b)) (o := Ex.occ s) (b := b.size) (occL_sum s e.l) fun x hx => ih x hx (hl x hx)
    omega
theorem depthL_le {l : List Ex} {D : Nat} : Ex.depthL l ≤ D ↔ ∀ x ∈ l, x.depth ≤ D := by
  induction l with
  | nil => rw [Ex.depthL_nil]; simp
  | cons x t ih =>
    rw [Ex.depthL_cons, Nat.max_le, ih]
    constructor
    · rintro ⟨h1, h2⟩ y hy
      rcases List.mem_cons.1 hy with rfl | hy
      · exact h1
      · exact h2 y hy
    · exact fun h => ⟨h x (.head _), fun y hy => h y (.tail _ hy)⟩
/-- the depth grows by less than that of what is put in -/
theorem sub_depth_le (s : ByteArray) (b : Ex) : ∀ e : Ex, (e.sub (oneS s b)).depth < e.depth + b.depth := by
  refine Ex.ind fun e ih => ?_
  have hb := b.depth_pos
  by_cases hv : e.kind = 2 ∧ e.name = s
  · rw [sub_hit hv.1 (by rw [hv.2]; exact oneS_self s b)]
    have := e.depth_pos
    omega
  · have hm : ¬ (e.kind = 2 ∧ (oneS s b e.name).isSome = true) := fun q => hv ⟨q.1, Classical.byContradiction fun hne => by rw [oneS_other b hne] at q; exact absurd q.2 (by decide)⟩
    rw [sub_miss hm, mk_depth, e.depth_eq]
    have : Ex.depthL (e.l.map (Ex.sub (oneS s b))) ≤ Ex.depthL e.l + b.depth - 1 := depthL_le.2 fun y hy => by
      obtain ⟨x, hx, rfl⟩ := List.mem_map.1 hy
      have h1 := ih x hx
      have h2 := depthL_le.1 (Nat.le_refl (Ex.depthL e.l)) x hx
      omega
    omega
theorem sub_depth_ge (s : ByteArray) (b : Ex) : ∀ e : Ex, e.allB = true → e.depth ≤ (e.sub (oneS s b)).depth := by
  refine Ex.ind fun e ih h => ?_
  obtain ⟨hn, hl⟩ := all_node h
  by_cases hv : e.kind = 2 ∧ e.name = s
  · obtain ⟨h0, _⟩ := node_var hn hv.1
    rw [sub_hit hv.1 (by rw [hv.2]; exact oneS_self s b), e.depth_eq, h0, Ex.depthL_nil]
    exact b.depth_pos
  · have hm : ¬ (e.kind = 2 ∧ (oneS s b e.name).isSome = true) := fun q => hv ⟨q.1, Classical.byContradiction fun hne => by rw [oneS_other b hne] at q; exact absurd q.2 (by decide)⟩
    rw [sub_miss hm, mk_depth, e.depth_eq]
    have : Ex.depthL e.l ≤ Ex.depthL (e.l.map (Ex.sub (oneS s b))) := depthL_le.2 fun x hx => by
      have h1 := ih x hx (hl x hx)
      have h2 := depthL_le.1 (Nat.le_refl (Ex.depthL (e.l.map (Ex.sub (oneS s b))))) _ (List.mem_map_of_mem hx)
      omega
    omega
/-- its nodes are right -/
theorem nodeB_mk (e : Ex) (l : List Ex) (h : l.length = e.l.length) : nodeB (.mk e.kind e.rn e.rd e.name e.pw none 0 l) = nodeB e := by
  have e1 : (Ex.mk e.kind e.rn e.rd e.name e.pw none 0 l).l = l := rfl
  unfold nodeB
  rw [e1, h]
  rfl
theorem sub_all {f : ByteArray → Option Ex} (hf : ∀ s b, f s = some b → b.allB = true) : ∀ e : Ex, e.allB = true → (e.sub f).allB = true := by
  refine Ex.ind fun e ih h => ?_
  obtain ⟨hn, hl⟩ := all_node h
  by_cases hv : e.kind = 2 ∧ (f e.name).isSome = true
  · obtain ⟨b, hb⟩ := Option.isSome_iff_exists.1 hv.2
    rw [sub_hit hv.1 hb]; exact hf _ _ hb
  · rw [sub_miss hv, Ex.allB_eq, Bool.and_eq_true]
    refine ⟨by rw [nodeB_mk e _ (by simp)]; exact hn, allL_iff.2 fun y hy => ?_⟩
    obtain ⟨x, hx, rfl⟩ := List.mem_map.1 (show y ∈ e.l.map (Ex.sub f) from hy)
    exact ih x hx (hl x hx)
/-- a name that is replaced by nothing -/
theorem sub_er {f g : ByteArray → Option Ex} : ∀ e : Ex, (∀ x ∈ e.flat, x.kind = 2 → (f x.name).map Ex.er = (g x.name).map Ex.er) → (e.sub f).er = (e.sub g).er := by
  refine Ex.ind fun e ih h => ?_
  have hx : ∀ x ∈ e.l, (x.sub f).er = (x.sub g).er := fun x hx => ih x hx fun y hy => h y (by
    rw [e.flat_eq]
    refine .tail _ ?_
    have key : ∀ l : List Ex, x ∈ l → y ∈ Ex.flatL l := by
      intro l
      induction l with
      | nil => intro h; cases h
      | cons z t iht =>
        intro hz
        rw [Ex.flatL_cons, List.mem_append]
        rcases List.mem_cons.1 hz with rfl | hz
        · exact .inl hy
        · exact .inr (iht hz)
    exact key e.l hx)
  have h0 := h e (by rw [e.flat_eq]; exact .head _)
  by_cases hk : e.kind = 2
  · have h1 := h0 hk
    cases hf : f e.name with
    | some b =>
      rw [hf] at h1
      cases hg : g e.name with
      | some b' =>
        rw [hg] at h1
        rw [sub_hit hk hf, sub_hit hk hg]
        exact Option.some.inj h1
      | none => rw [hg] at h1; cases h1
    | none =>
      rw [hf] at h1
      cases hg : g e.name with
      | some b' => rw [hg] at h1; cases h1
      | none =>
        rw [sub_miss (by rw [hf]; exact fun q => absurd q.2 (by decide)), sub_miss (by rw [hg]; exact fun q => absurd q.2 (by decide)), Ex.er_iff]
        refine ⟨⟨rfl, rfl, rfl, rfl, rfl⟩, ?_⟩
        show (e.l.map (Ex.sub f)).map Ex.er = (e.l.map (Ex.sub g)).map Ex.er
        rw [List.map_map, List.map_map]
        exact List.map_congr_left hx
  · rw [sub_miss fun q => hk q.1, sub_miss fun q => hk q.1, Ex.er_iff]
    refine ⟨⟨rfl, rfl, rfl, rfl, rfl⟩, ?_⟩
    show (e.l.map (Ex.sub f)).map Ex.er = (e.l.map (Ex.sub g)).map Ex.er
    rw [List.map_map, List.map_map]
    exact List.map_congr_left hx
theorem sub_id : ∀ e : Ex, (e.sub fun _ => none).er = e.er := by
  refine Ex.ind fun e ih => ?_
  rw [sub_miss fun q => absurd q.2 (by decide), Ex.er_iff]
  refine ⟨⟨rfl, rfl, rfl, rfl, rfl⟩, ?_⟩
  show (e.l.map (Ex.sub fun _ => none)).map Ex.er = _
  rw [List.map_map]
  exact List.map_congr_left ih
/-- a variable that does not occur is replaced nowhere -/
theorem sub_unused {s : ByteArray} {b e : Ex} (h : ∀ x ∈ e.flat, x.kind = 2 → x.name ≠ s) : (e.sub (oneS s b)).er = e.er := by
  rw [sub_er (g := fun _ => none) e fun x hx hk => by rw [oneS_other b (h x hx hk)], sub_id]
end Go.Proofs.Ythaphbbeiglolaa
