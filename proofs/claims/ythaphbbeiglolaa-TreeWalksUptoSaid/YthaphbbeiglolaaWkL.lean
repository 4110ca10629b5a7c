/-
  Walks: TreeWalks leaves: two marks are taken, the result's cell is read.
-/
import Derived.Test.YthaphbbeiglolaaWkP
namespace Go.Proofs.Ythaphbbeiglolaa
open Go.RowKit Go.Sort Go.Shelf
attribute [local go_sem] Oper.semAt_some

theorem resWk (tmps : Array Value) (R : Nat) (u : World) (hR : tmps[4]? = some (.pointer (some ⟨R, 0, none⟩))) (hc : u.cell? ⟨R, 0, none⟩ = some (.bool true)) :
    (results Try.f6 tmps).run Try.prog u = .ok (.bool true) u := by
  have hres : Try.f6.results = #[.cell 4 4] := by kernel_rfl
  simp only [results, hres]
  go_simp
theorem leaveWk (w u : World) (tmps : Array Value) (R D D2 : Nat) (hR : tmps[4]? = some (.pointer (some ⟨R, 0, none⟩))) (hc : u.cell? ⟨R, 0, none⟩ = some (.bool true)) (hd : u.heap[D]? = some (.deferred (some []))) (hd2 : u.heap[D2]? = some (.deferred (some [])))
    (hne : D ≠ D2) (h1 : w.heap.size ≤ D) (h2 : w.heap.size ≤ D2) (hb : Below w.heap.size w u) :
    LeavesInM Fence.wide 3 Try.prog Try.f6 tmps (fun r w' => r = .returned (.bool true) ∧ Kp w w') [{ target := .collected D2, args := #[] }, { target := .collected D, args := #[] }] .returning u := by
  obtain ⟨vs, t, fr, hcell⟩ := cellsAt_of hc
  have n1 : R ≠ D := fun e => by subst e; rw [hd] at hcell; cases hcell
  have n2 : R ≠ D2 := fun e => by subst e; rw [hd2] at hcell; cases hcell
  have hd' : (u.putObj D2 (.deferred none)).heap[D]? = some (.deferred (some [])) := (World.putObj_heap_other hne).trans hd
  refine ⟨by simp, .inl ⟨_, _, rfl, run_takeDeferred hd2, ?_⟩⟩
  refine ⟨by simp, .inl ⟨_, _, rfl, run_takeDeferred hd', ?_⟩⟩
  refine ⟨_, resWk tmps R _ hR ?_, rfl, ?_⟩
  · exact (cell_same (World.putObj_heap_other n1) 0).trans ((cell_same (World.putObj_heap_other n2) 0).trans hc)
  · exact (hb.trans (belowK_b (w := w) (Nat.le_refl _) u D2 _ _ h2 hd2 rfl rfl)).trans (belowK_b (w := w) (Nat.le_refl _) _ D _ _ h1 hd' rfl rfl)
theorem keepWk {w w' : World} (k : Kp w w') {p0 p1 p2 p3 p4 p5 q0 q1 q2 : Addr} {v0 v1 v2 v3 v4 v5 u0 u1 u2 : Value}
    (h : (w.cell? p0 = some v0 ∧ w.cell? p1 = some v1 ∧ w.cell? p2 = some v2 ∧ w.cell? p3 = some v3 ∧ w.cell? p4 = some v4 ∧ w.cell? p5 = some v5) ∧ w.cell? q0 = some u0 ∧ w.cell? q1 = some u1 ∧ w.cell? q2 = some u2) :
    (w'.cell? p0 = some v0 ∧ w'.cell? p1 = some v1 ∧ w'.cell? p2 = some v2 ∧ w'.cell? p3 = some v3 ∧ w'.cell? p4 = some v4 ∧ w'.cell? p5 = some v5) ∧ w'.cell? q0 = some u0 ∧ w'.cell? q1 = some u1 ∧ w'.cell? q2 = some u2 :=
  ⟨keepE6 k h.1, k.cell h.2.1, k.cell h.2.2.1, k.cell h.2.2.2⟩
theorem setWk {w : World} {R b n m E : Nat} {v0 v1 v2 v3 v4 v5 u0 u1 u2 v : Value} (hE : R ≠ E) (hb : R ≠ b) (hn : R ≠ n) (hm : R ≠ m)
    (h : (w.cell? ⟨E, 0, none⟩ = some v0 ∧ w.cell? ⟨E, 1, none⟩ = some v1 ∧ w.cell? ⟨E, 2, none⟩ = some v2 ∧ w.cell? ⟨E, 3, none⟩ = some v3 ∧ w.cell? ⟨E, 4, none⟩ = some v4 ∧ w.cell? ⟨E, 5, none⟩ = some v5) ∧ w.cell? ⟨b, 0, none⟩ = some u0 ∧ w.cell? ⟨n, 0, none⟩ = some u1 ∧ w.cell? ⟨m, 0, none⟩ = some u2) :
    ((w.setCell ⟨R, 0, none⟩ v).cell? ⟨E, 0, none⟩ = some v0 ∧ (w.setCell ⟨R, 0, none⟩ v).cell? ⟨E, 1, none⟩ = some v1 ∧ (w.setCell ⟨R, 0, none⟩ v).cell? ⟨E, 2, none⟩ = some v2 ∧ (w.setCell ⟨R, 0, none⟩ v).cell? ⟨E, 3, none⟩ = some v3 ∧ (w.setCell ⟨R, 0, none⟩ v).cell? ⟨E, 4, none⟩ = some v4 ∧ (w.setCell ⟨R, 0, none⟩ v).cell? ⟨E, 5, none⟩ = some v5) ∧ (w.setCell ⟨R, 0, none⟩ v).cell? ⟨b, 0, none⟩ = some u0 ∧ (w.setCell ⟨R, 0, none⟩ v).cell? ⟨n, 0, none⟩ = some u1 ∧ (w.setCell ⟨R, 0, none⟩ v).cell? ⟨m, 0, none⟩ = some u2 := by
  have k : ∀ (B i : Nat) (u : Value), R ≠ B → w.cell? ⟨B, i, none⟩ = some u → (w.setCell ⟨R, 0, none⟩ v).cell? ⟨B, i, none⟩ = some u := fun B i u hne hc => by
    rw [cellset_ne (fun e => hne (by injection e))]; exact hc
  obtain ⟨⟨h0, h1, h2, h3, h4, h5⟩, h6, h7, h8⟩ := h
  exact ⟨⟨k _ _ _ hE h0, k _ _ _ hE h1, k _ _ _ hE h2, k _ _ _ hE h3, k _ _ _ hE h4, k _ _ _ hE h5⟩, k _ _ _ hb h6, k _ _ _ hn h7, k _ _ _ hm h8⟩
end Go.Proofs.Ythaphbbeiglolaa
