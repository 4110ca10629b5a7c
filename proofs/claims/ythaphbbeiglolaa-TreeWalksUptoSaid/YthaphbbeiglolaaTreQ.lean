/-
  Plain: the content of a tree, equality, replacement, the list of the nodes; no program in sight.
-/
import Derived.Test.YthaphbbeiglolaaTreP
namespace Go.Proofs.Ythaphbbeiglolaa

mutual
def Ex.er : Ex → Ex | .mk k r d s p _ _ l => .mk k r d s p none 0 (Ex.erL l)
def Ex.erL : List Ex → List Ex | [] => [] | x :: t => x.er :: Ex.erL t
end
theorem Ex.erL_map (l : List Ex) : Ex.erL l = l.map Ex.er := by
  induction l with
  | nil => rw [Ex.erL]; rfl
  | cons x t ih => rw [Ex.erL, ih]; rfl
theorem Ex.er_eq (e : Ex) : e.er = .mk e.kind e.rn e.rd e.name e.pw none 0 (e.l.map Ex.er) := by cases e; rw [Ex.er, Ex.erL_map]; rfl
theorem Ex.er_l (e : Ex) : e.er.l = e.l.map Ex.er := by rw [e.er_eq]; rfl
theorem Ex.er_kind (e : Ex) : e.er.kind = e.kind := by rw [e.er_eq]; rfl
theorem Ex.er_name (e : Ex) : e.er.name = e.name := by rw [e.er_eq]; rfl
/-- the same content -/
theorem Ex.er_iff {x y : Ex} : x.er = y.er ↔ (x.kind = y.kind ∧ x.rn = y.rn ∧ x.rd = y.rd ∧ x.name = y.name ∧ x.pw = y.pw) ∧ x.l.map Ex.er = y.l.map Ex.er := by
  rw [x.er_eq, y.er_eq]
  simp only [Ex.mk.injEq, true_and]
  constructor
  · rintro ⟨h1, h2, h3, h4, h5, h6⟩; exact ⟨⟨h1, h2, h3, h4, h5⟩, h6⟩
  · rintro ⟨⟨h1, h2, h3, h4, h5⟩, h6⟩; exact ⟨h1, h2, h3, h4, h5, h6⟩
theorem sizeL_er {l : List Ex} (h : ∀ x ∈ l, x.er.size = x.size) : Ex.sizeL (l.map Ex.er) = Ex.sizeL l := by
  induction l with
  | nil => rfl
  | cons x t ih => rw [List.map_cons, Ex.sizeL_cons, Ex.sizeL_cons, h x (.head _), ih fun y hy => h y (.tail _ hy)]
theorem Ex.er_size : ∀ e : Ex, e.er.size = e.size := by
  refine Ex.ind fun e ih => ?_
  rw [e.er.size_eq, e.size_eq, e.er_l, sizeL_er ih]
theorem depthL_er {l : List Ex} (h : ∀ x ∈ l, x.er.depth = x.depth) : Ex.depthL (l.map Ex.er) = Ex.depthL l := by
  induction l with
  | nil => rfl
  | cons x t ih => rw [List.map_cons, Ex.depthL_cons, Ex.depthL_cons, h x (.head _), ih fun y hy => h y (.tail _ hy)]
theorem Ex.er_depth : ∀ e : Ex, e.er.depth = e.depth := by
  refine Ex.ind fun e ih => ?_
  rw [e.er.depth_eq, e.depth_eq, e.er_l, depthL_er ih]
theorem Ex.er_rn (e : Ex) : e.er.rn = e.rn := by rw [e.er_eq]; rfl
theorem Ex.er_rd (e : Ex) : e.er.rd = e.rd := by rw [e.er_eq]; rfl
theorem Ex.er_pw (e : Ex) : e.er.pw = e.pw := by rw [e.er_eq]; rfl
theorem nodeB_er (e : Ex) : nodeB e.er = nodeB e := by unfold nodeB; rw [e.er_kind, e.er_rn, e.er_rd, e.er_name, e.er_pw, e.er_l, List.length_map]
theorem allL_er {l : List Ex} (h : ∀ x ∈ l, x.er.allB = x.allB) : Ex.allL (l.map Ex.er) = Ex.allL l := by
  induction l with
  | nil => rfl
  | cons x t ih => rw [List.map_cons, Ex.allL_cons, Ex.allL_cons, h x (.head _), ih fun y hy => h y (.tail _ hy)]
theorem Ex.er_all : ∀ e : Ex, e.er.allB = e.allB := by
  refine Ex.ind fun e ih => ?_
  rw [e.er.allB_eq, e.allB_eq, nodeB_er, e.er_l, allL_er ih]
theorem Ex.er_ok (e : Ex) : e.er.ok = e.ok := by unfold Ex.ok; rw [e.er_all, e.er_depth, e.er_size]
theorem ok_er {x y : Ex} (h : x.er = y.er) : x.ok = y.ok := by rw [← x.er_ok, ← y.er_ok, h]
mutual
/-- equality of two trees, as both programs reckon it -/
def Ex.eqv : Ex → Ex → Bool
  | .mk k r d s p _ _ l, y => (decide (k = y.kind) && (decide (r = y.rn ∧ d = y.rd) && (decide (s = y.name) && decide (p = y.pw)))) && Ex.eqL l y.l
def Ex.eqL : List Ex → List Ex → Bool
  | [], [] => true
  | [], _ :: _ => false
  | _ :: _, [] => false
  | x :: t, y :: u => x.eqv y && Ex.eqL t u
end
theorem Ex.eqv_eq (x y : Ex) : x.eqv y = ((decide (x.kind = y.kind) && (decide (x.rn = y.rn ∧ x.rd = y.rd) && (decide (x.name = y.name) && decide (x.pw = y.pw)))) && Ex.eqL x.l y.l) := by cases x; rw [Ex.eqv]; rfl
theorem eqL_iff : ∀ {l m : List Ex}, (∀ x ∈ l, ∀ y, x.eqv y = true ↔ x.er = y.er) → (Ex.eqL l m = true ↔ l.map Ex.er = m.map Ex.er)
  | [], [], _ => by rw [Ex.eqL]; simp
  | [], _ :: _, _ => by rw [Ex.eqL]; simp
  | _ :: _, [], _ => by rw [Ex.eqL]; simp
  | x :: t, y :: u, h => by
    rw [Ex.eqL, Bool.and_eq_true, h x (.head _), eqL_iff (l := t) (m := u) fun z hz => h z (.tail _ hz), List.map_cons, List.map_cons, List.cons.injEq]
theorem eqv_iff : ∀ (x y : Ex), x.eqv y = true ↔ x.er = y.er := by
  refine Ex.ind fun x ih y => ?_
  rw [x.eqv_eq, Ex.er_iff, Bool.and_eq_true, eqL_iff ih]
  simp only [Bool.and_eq_true, decide_eq_true_eq]
  constructor
  · rintro ⟨⟨h1, ⟨h2, h3⟩, h4, h5⟩, h6⟩; exact ⟨⟨h1, h2, h3, h4, h5⟩, h6⟩
  · rintro ⟨⟨h1, h2, h3, h4, h5⟩, h6⟩; exact ⟨⟨h1, ⟨h2, h3⟩, h4, h5⟩, h6⟩
theorem eqv_refl (x : Ex) : x.eqv x = true := (eqv_iff x x).2 rfl
theorem eqv_symm (x y : Ex) : x.eqv y = y.eqv x := by
  rw [Bool.eq_iff_iff, eqv_iff, eqv_iff]
  exact ⟨fun h => h.symm, fun h => h.symm⟩
mutual
/-- variables replaced, all at once -/
def Ex.sub (f : ByteArray → Option Ex) : Ex → Ex
  | .mk k r d s p a c l => if k = 2 ∧ (f s).isSome = true then (f s).getD (.mk k r d s p a c l) else .mk k r d s p none 0 (Ex.subL f l)
def Ex.subL (f : ByteArray → Option Ex) : List Ex → List Ex
  | [] => []
  | x :: t => x.sub f :: Ex.subL f t
end
theorem Ex.subL_map (f : ByteArray → Option Ex) (l : List Ex) : Ex.subL f l = l.map (Ex.sub f) := by
  induction l with
  | nil => rw [Ex.subL]; rfl
  | cons x t ih => rw [Ex.subL, ih]; rfl
theorem Ex.sub_eq (f : ByteArray → Option Ex) (e : Ex) : e.sub f = if e.kind = 2 ∧ (f e.name).isSome = true then (f e.name).getD e else .mk e.kind e.rn e.rd e.name e.pw none 0 (e.l.map (Ex.sub f)) := by cases e; rw [Ex.sub, Ex.subL_map]; rfl
mutual
/-- all nodes, each before its elements -/
def Ex.flat : Ex → List Ex | .mk k r d s p a c l => .mk k r d s p a c l :: Ex.flatL l
def Ex.flatL : List Ex → List Ex | [] => [] | x :: t => x.flat ++ Ex.flatL t
end
theorem Ex.flat_eq (e : Ex) : e.flat = e :: Ex.flatL e.l := by cases e; rw [Ex.flat]; rfl
theorem Ex.flatL_cons (x : Ex) (t : List Ex) : Ex.flatL (x :: t) = x.flat ++ Ex.flatL t := by rw [Ex.flatL]
theorem Ex.flatL_nil : Ex.flatL [] = [] := by rw [Ex.flatL]
theorem flatL_len {l : List Ex} (h : ∀ x ∈ l, x.flat.length = x.size) : (Ex.flatL l).length = Ex.sizeL l := by
  induction l with
  | nil => rw [Ex.flatL_nil, Ex.sizeL_nil]; rfl
  | cons x t ih => rw [Ex.flatL_cons, Ex.sizeL_cons, List.length_append, h x (.head _), ih fun y hy => h y (.tail _ hy)]
theorem Ex.flat_len : ∀ e : Ex, e.flat.length = e.size := by
  refine Ex.ind fun e ih => ?_
  rw [e.flat_eq, e.size_eq, List.length_cons, flatL_len ih, Nat.add_comm]
mutual
/-- the places of a variable -/
def Ex.occ (s : ByteArray) : Ex → Nat | .mk k _ _ n _ _ _ l => (if k = 2 ∧ n = s then 1 else 0) + Ex.occL s l
def Ex.occL (s : ByteArray) : List Ex → Nat | [] => 0 | x :: t => x.occ s + Ex.occL s t
end
theorem Ex.occ_eq (s : ByteArray) (e : Ex) : e.occ s = (if e.kind = 2 ∧ e.name = s then 1 else 0) + Ex.occL s e.l := by cases e; rw [Ex.occ]; rfl
theorem Ex.occL_cons (s : ByteArray) (x : Ex) (t : List Ex) : Ex.occL s (x :: t) = x.occ s + Ex.occL s t := by rw [Ex.occL]
theorem Ex.occL_nil (s : ByteArray) : Ex.occL s [] = 0 := by rw [Ex.occL]
theorem occ_count : ∀ (s : ByteArray) (e : Ex), e.occ s = (e.flat.filter fun x => decide (x.kind = 2 ∧ x.name = s)).length := by
  intro s
  refine Ex.ind fun e ih => ?_
  rw [e.occ_eq, e.flat_eq, List.filter_cons]
  have key : ∀ l : List Ex, (∀ x ∈ l, x.occ s = (x.flat.filter fun x => decide (x.kind = 2 ∧ x.name = s)).length) → Ex.occL s l = ((Ex.flatL l).filter fun x => decide (x.kind = 2 ∧ x.name = s)).length := by
    intro l
    induction l with
    | nil => intro _; rw [Ex.occL_nil, Ex.flatL_nil]; rfl
    | cons x t iht => intro h; rw [Ex.occL_cons, Ex.flatL_cons, List.filter_append, List.length_append, h x (.head _), iht fun y hy => h y (.tail _ hy)]
  rw [key e.l ih]
  by_cases h : e.kind = 2 ∧ e.name = s
  · rw [if_pos h, if_pos (decide_eq_true h), List.length_cons, Nat.add_comm]
  · rw [if_neg h, if_neg (by rw [decide_eq_false h]; decide), Nat.zero_add]
end Go.Proofs.Ythaphbbeiglolaa
