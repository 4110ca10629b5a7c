/-
  Maps from names to trees: one block; laws for the walk.
-/
import Derived.Test.YthaphbbeiglolaaCloW
import Derived.Maps.OwnSet
import Derived.Carry
namespace Go.Proofs.Ythaphbbeiglolaa
open Go.RowKit Go.Sort Go.Maps

/-- how an element reads: as itself -/
def heldR (v : Value) : Option (DataW Value × List MemPlace) := some (.held v, [])
/-- block b is a map of at most n entries; f is what it holds -/
def MapX (w : World) (b n : Nat) (f : ByteArray → Option Ex) : Prop :=
  ∃ D : DataW Value, w.ownsMap Try.prog 9 heldR b n D ∧ IsMap D ∧ ∀ s : ByteArray, Maps.has D (.string s.data.toList) = (f s).isSome ∧ ∀ x, f s = some x → ∀ z, D.atKey (.string s.data.toList) z = .held (.agg #[.int .i64 x.kind, .int .i64 x.rn, .int .i64 x.rd, .string x.name, .int .i64 x.pw, .slice x.a x.l.length x.c])
theorem keyT {s : ByteArray} (hs : s.size ≤ maxLen) : keyOf Try.prog 9 (.string s) = some (.string s.data.toList) := WideMaps.keyOf_string_mk Try.underlying9 hs
theorem zeroX (w : World) : (zeroValue 26).run Try.prog w = .ok (.agg #[.int .i64 Ex.zero.kind, .int .i64 Ex.zero.rn, .int .i64 Ex.zero.rd, .string Ex.zero.name, .int .i64 Ex.zero.pw, .slice Ex.zero.a Ex.zero.l.length Ex.zero.c]) w := by kernel_rfl
theorem lit_ne {s t : ByteArray} (h : t ≠ s) : (Lit.string t.data.toList) ≠ .string s.data.toList := fun e => h (by
  injection e with e
  cases s; cases t
  simp only at e
  congr 1
  exact Array.toList_inj.1 e)
theorem keylit (s : ByteArray) (hs : s.size ≤ maxLen) : WideAt.IsKeyLit (.string s.data.toList) := (string_keyed Try.underlying9).key (keyT hs)
theorem MapX.made (w : World) : MapX (w.alloc (.map #[] 0)) w.heap.size 0 (fun _ => none) :=
  ⟨.map [], World.ownsMap_made _ _ _ _, isMap_empty, fun s => ⟨rfl, fun x hx => by cases hx⟩⟩
theorem MapX.kp {w w' : World} {b n : Nat} {f : ByteArray → Option Ex} (h : MapX w b n f) (k : Kp w w') : MapX w' b n f := by
  obtain ⟨D, ⟨es, clock, hb, r⟩, h2⟩ := h
  exact ⟨D, ⟨es, clock, k.heap hb, r⟩, h2⟩
theorem MapX.set {w : World} {b n g i : Nat} {f : ByteArray → Option Ex} (h : MapX w b n f) (hg : b ≠ g) (v : Value) : MapX (w.setCell ⟨g, i, none⟩ v) b n f := by
  obtain ⟨D, h1, h2⟩ := h
  exact ⟨D, h1.setCell hg v, h2⟩
theorem MapX.lt {w : World} {b n : Nat} {f : ByteArray → Option Ex} (h : MapX w b n f) : b < w.heap.size := by
  obtain ⟨D, h1, _⟩ := h
  exact h1.lt
/-- one entry more -/
def updF (f : ByteArray → Option Ex) (s : ByteArray) (x : Ex) : ByteArray → Option Ex := fun t => if t = s then some x else f t
/-- the world but for the map in block b -/
structure Turn (b : Nat) (w w' : World) : Prop where
  kp : ∀ a : World, Kp a w → a.heap.size ≤ b → Kp a w'
  cell : ∀ p : Addr, p.block ≠ b → w'.cell? p = w.cell? p
  frozen : ∀ p : Addr, w'.frozen? p = w.frozen? p
  size : w'.heap.size = w.heap.size
theorem turn_of {w w' : World} {b : Nat} (h : w.mapTurned w' b) : Turn b w w' where
  kp := fun a k hb => Below.grown k h.grown k.size (fun j e => by cases e; exact hb)
  cell := fun p hp => by
    obtain ⟨es, clock, es', clock', hb, rfl⟩ := h
    have := ChangeMaps.heap_setBlock_other hb (.map es' clock') hp
    unfold World.cell?
    rw [this]
  frozen := fun p => h.frozen p
  size := by
    obtain ⟨es, clock, es', clock', hb, rfl⟩ := h
    simp [ChangeMaps.setBlock]
theorem BoxX.turn {w w' : World} {g b : Nat} {x : Ex} (h : BoxX w g x) (t : Turn b w w') (hb : g ≠ b) : BoxX w' g x :=
  h.other (fun p hp => t.cell p (by rw [hp]; exact hb)) t.frozen t.size
/-- 'v, ok := m[s]' -/
theorem wpList_lookup_map {w : World} {ops : Array Oper} {rest : List Oper} {o : Oper} {a : Act} {Q : Exit → Act → World → Prop} (hg : o.guard = none) (m x : Operand) (hop : o.op = Op.lookup 57 m x true)
    (b n : Nat) (f : ByteArray → Option Ex) (hm : a.eval m = .map (some b)) (hown : MapX w b n f) (s : ByteArray) (hx : a.eval x = .string s) (hs : s.size ≤ maxLen) (y : Ex) (ok : Bool) (hok : (f s).isSome = ok) (hy : (f s).getD Ex.zero = y)
    (hK : wpList Try.prog ops Q rest (a.put o.dst (.tuple #[.agg #[.int .i64 y.kind, .int .i64 y.rn, .int .i64 y.rd, .string y.name, .int .i64 y.pw, .slice y.a y.l.length y.c], .bool ok])) w) : wpList Try.prog ops Q (o :: rest) a w := by
  obtain ⟨D, h1, _, h2⟩ := hown
  obtain ⟨h3, h4⟩ := h2 s
  refine wpList_lookup_own_ok w hg m x 57 hop 9 26 (string_keyed Try.underlying9) Try.underlying57 heldR (zeroX w) (.held (.agg #[.int .i64 Ex.zero.kind, .int .i64 Ex.zero.rn, .int .i64 Ex.zero.rd, .string Ex.zero.name, .int .i64 Ex.zero.pw, .slice Ex.zero.a Ex.zero.l.length Ex.zero.c])) [] rfl b n D hm h1 (.string s) (.string s.data.toList) hx (keyT hs) fun v ps hv => ?_
  rw [h3, hok]
  have hv' : v = .agg #[.int .i64 y.kind, .int .i64 y.rn, .int .i64 y.rd, .string y.name, .int .i64 y.pw, .slice y.a y.l.length y.c] := by
    unfold heldR at hv
    simp only [Option.some.injEq, Prod.mk.injEq] at hv
    have hv := hv.1
    cases hf : f s with
    | none =>
      rw [hf] at h3 hy
      rw [atKey_of_not_has h3] at hv
      injection hv with hv
      rw [hv, ← hy]; rfl
    | some z =>
      rw [hf] at hy
      rw [h4 z hf] at hv
      injection hv with hv
      rw [hv, ← hy]; rfl
  rw [hv']
  exact hK
theorem run_store_map {w : World} {b n : Nat} {f : ByteArray → Option Ex} (hown : MapX w b n f) (hn : n < maxLen) (s : ByteArray) (hs : s.size ≤ maxLen) (y : Ex) :
    ∃ w', (Instr.mapUpdate 57 (.map (some b)) (.string s) (.agg #[.int .i64 y.kind, .int .i64 y.rn, .int .i64 y.rd, .string y.name, .int .i64 y.pw, .slice y.a y.l.length y.c])).run Try.prog w = .ok () w' ∧ MapX w' b (n + 1) (updF f s y) ∧ Turn b w w' := by
  obtain ⟨D, h1, hI, h2⟩ := hown
  obtain ⟨w', hrun, r1, r2⟩ := h1.store (string_keyed Try.underlying9) Try.underlying57 hn (keyT hs) (val := .agg #[.int .i64 y.kind, .int .i64 y.rn, .int .i64 y.rd, .string y.name, .int .i64 y.pw, .slice y.a y.l.length y.c]) rfl
  refine ⟨w', hrun, ⟨_, r1, hI.put _ _, fun t => ?_⟩, turn_of r2⟩
  unfold updF
  by_cases ht : t = s
  · subst ht
    rw [if_pos rfl]
    exact ⟨has_put_same hI (keylit t hs) _, fun x hx z => by cases hx; exact atKey_put_same hI (keylit t hs) _ z⟩
  · rw [if_neg ht]
    obtain ⟨h3, h4⟩ := h2 t
    exact ⟨(has_put_other (lit_ne ht) _).trans h3, fun x hx z => (atKey_put_other (lit_ne ht) _ z).trans (h4 x hx z)⟩
/-- 'm[s] = x' -/
theorem wpList_store_map {w : World} {ops : Array Oper} {rest : List Oper} {o : Oper} {a : Act} {Q : Exit → Act → World → Prop} (hg : o.guard = none) (m x v : Operand) (hop : o.op = Op.mapUpdate 57 m x v)
    (b n : Nat) (f : ByteArray → Option Ex) (hm : a.eval m = .map (some b)) (hown : MapX w b n f) (hn : n < maxLen) (s : ByteArray) (hx : a.eval x = .string s) (hs : s.size ≤ maxLen) (y : Ex) (hv : a.eval v = .agg #[.int .i64 y.kind, .int .i64 y.rn, .int .i64 y.rd, .string y.name, .int .i64 y.pw, .slice y.a y.l.length y.c])
    (hK : ∀ w', MapX w' b (n + 1) (updF f s y) → Turn b w w' → wpList Try.prog ops Q rest (a.put o.dst undef) w') : wpList Try.prog ops Q (o :: rest) a w := by
  refine wpList_plain hg fun K' hK' => ?_
  obtain ⟨w', hrun, r1, r2⟩ := run_store_map hown hn s hs y
  unfold Oper.wp
  simp [execOp, hop, hm, hx, hv, hrun, Result.andThen]
  exact hK' _ _ (hK w' r1 r2)
/-- 'map[string]T{.. s: x ..}' -/
theorem wpList_insert_map {w : World} {ops : Array Oper} {rest : List Oper} {o : Oper} {a : Act} {Q : Exit → Act → World → Prop} (hg : o.guard = none) (m x v : Operand) (hop : o.op = Op.insert 57 m x v)
    (b n : Nat) (f : ByteArray → Option Ex) (hm : a.eval m = .map (some b)) (hown : MapX w b n f) (hn : n < maxLen) (s : ByteArray) (hx : a.eval x = .string s) (hs : s.size ≤ maxLen) (y : Ex) (hv : a.eval v = .agg #[.int .i64 y.kind, .int .i64 y.rn, .int .i64 y.rd, .string y.name, .int .i64 y.pw, .slice y.a y.l.length y.c])
    (hK : ∀ w', MapX w' b (n + 1) (updF f s y) → Turn b w w' → wpList Try.prog ops Q rest (a.put o.dst undef) w') : wpList Try.prog ops Q (o :: rest) a w := by
  refine wpList_plain hg fun K' hK' => ?_
  obtain ⟨w', hrun, r1, r2⟩ := run_store_map hown hn s hs y
  unfold Oper.wp
  simp [execOp, hop, hm, hx, hv, hrun, Result.andThen]
  exact hK' _ _ (hK w' r1 r2)
end Go.Proofs.Ythaphbbeiglolaa
