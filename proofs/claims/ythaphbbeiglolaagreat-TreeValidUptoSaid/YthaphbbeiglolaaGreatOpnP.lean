/-
  Arguments opened: problems.
-/
import Derived.Test.YthaphbbeiglolaaGreatOpnT
import Derived.Test.YthaphbbeiglolaaGreatPrbP
namespace Go.Proofs.YthaphbbeiglolaaGreat
open Go.ChangeShapes Go.WideShapes Go.ChangeAt Go.RowKit Go.Deep

theorem cut_at {α : Type} (cs : List α) (a b : Nat) : cs.drop a = (cs.drop a).take b ++ cs.drop (a + b) := by
  rw [← List.drop_drop, List.take_append_drop]
theorem list4V {α : Type} {l : List α} (h : l.length = 4) : ∃ a b c d, l = [a, b, c, d] := by
  match l, h with
  | [a, b, c, d], _ => exact ⟨a, b, c, d, rfl⟩
theorem list3V {α : Type} {l : List α} (h : l.length = 3) : ∃ a b c, l = [a, b, c] := by
  match l, h with
  | [a, b, c], _ => exact ⟨a, b, c, rfl⟩
theorem choose_gen {α : Type} (d : α) {n : Nat} {p : Nat → α → Prop} (h : ∀ i, i < n → ∃ y, p i y) : ∃ f : Nat → α, ∀ i, i < n → p i (f i) := by
  refine ⟨fun i => if hi : i < n then Classical.choose (h i hi) else d, fun i hi => ?_⟩
  dsimp only
  rw [dif_pos hi]
  exact Classical.choose_spec (h i hi)
theorem cellsRange : Tryz.prog.cellsOf 53 = 4 := by kernel_rfl
theorem cellsDecl : Tryz.prog.cellsOf 55 = 5 := by kernel_rfl
theorem cellsEqu : Tryz.prog.cellsOf 73 = 7 := by kernel_rfl
theorem cellsRst : Tryz.prog.cellsOf 66 = 7 := by kernel_rfl
theorem cellsEdge : Tryz.prog.cellsOf 70 = 9 := by kernel_rfl
theorem cellsMode : Tryz.prog.cellsOf 61 = 3 := by kernel_rfl
theorem cellsProb : Tryz.prog.cellsOf 30 = 5 := by kernel_rfl
theorem cellsSD : Tryz.prog.cellsOf 27 = 1 := by kernel_rfl
theorem cellsSQ : Tryz.prog.cellsOf 58 = 1 := by kernel_rfl
theorem cellsSR : Tryz.prog.cellsOf 68 = 1 := by kernel_rfl
theorem cellsSX : Tryz.prog.cellsOf 59 = 1 := by kernel_rfl
theorem cellsSM : Tryz.prog.cellsOf 28 = 1 := by kernel_rfl
section
variable {H : Type} {enc : TypeId × Value → H} {w : World} {base : Nat} {spare : Nat → Bool} {held : Bool}
theorem open_rat {fuel : Nat} {cs : List Value} {x : DataW H × List MemPlace} (h : DataW.trod enc Tryz.prog w base spare held fuel 23 cs = some x) : ∃ r d : Int, cs = [.int .i64 r, .int .i64 d] := by
  obtain ⟨zs, n2, _, _, hlen, hzz, hg⟩ := DataW.trod_struct Tryz.underlying23 h
  replace hlen := hlen.trans cellsR
  obtain ⟨c1, c2, rfl⟩ := list2 hlen
  obtain ⟨z0, z1, rfl⟩ := list2 hzz
  have g0 : DataW.trod enc Tryz.prog w base spare held n2 3 (([c1, c2].drop 0).take (Tryz.prog.cellsOf 3)) = some z0 := hg 0 _ rfl
  have g1 : DataW.trod enc Tryz.prog w base spare held n2 3 (([c1, c2].drop 1).take (Tryz.prog.cellsOf 3)) = some z1 := hg 1 _ rfl
  rw [cellsI] at g0 g1
  have g0 : DataW.trod enc Tryz.prog w base spare held n2 3 [c1] = some z0 := g0
  have g1 : DataW.trod enc Tryz.prog w base spare held n2 3 [c2] = some z1 := g1
  obtain ⟨r, e1, _, _⟩ := DataW.trod_int Tryz.underlying3 g0
  obtain ⟨d, e2, _, _⟩ := DataW.trod_int Tryz.underlying3 g1
  exact ⟨r, d, by rw [(List.cons.inj e1).1, (List.cons.inj e2).1]⟩
theorem open_rng {fuel : Nat} {cs : List Value} {x : DataW H × List MemPlace} (h : DataW.trod enc Tryz.prog w base spare held fuel 53 cs = some x) : ∃ a b c d : Int, cs = [.int .i64 a, .int .i64 b, .int .i64 c, .int .i64 d] := by
  obtain ⟨zs, n2, _, _, hlen, hzz, hg⟩ := DataW.trod_struct Tryz.underlying53 h
  replace hlen := hlen.trans cellsRange
  obtain ⟨z0, z1, rfl⟩ := list2 hzz
  have g0 : DataW.trod enc Tryz.prog w base spare held n2 23 ((cs.drop 0).take (Tryz.prog.cellsOf 23)) = some z0 := hg 0 _ rfl
  have g1 : DataW.trod enc Tryz.prog w base spare held n2 23 ((cs.drop 2).take (Tryz.prog.cellsOf 23)) = some z1 := hg 1 _ rfl
  rw [cellsR] at g0 g1
  obtain ⟨a, b, e1⟩ := open_rat g0
  obtain ⟨c, d, e2⟩ := open_rat g1
  refine ⟨a, b, c, d, ?_⟩
  have h0 : cs = cs.drop 0 := rfl
  rw [h0, cut_at cs 0 2, e1, cut_at cs (0 + 2) 2, e2, List.drop_of_length_le (by omega)]
  rfl
theorem open_dec {fuel : Nat} {cs : List Value} {x : DataW H × List MemPlace} (h : DataW.trod enc Tryz.prog w base spare held fuel 55 cs = some x) : ∃ d : De, cs = d.cells ∧ d.at w w.heap.size := by
  obtain ⟨zs, n2, _, _, hlen, hzz, hg⟩ := DataW.trod_struct Tryz.underlying55 h
  replace hlen := hlen.trans cellsDecl
  obtain ⟨z0, z1, rfl⟩ := list2 hzz
  have g0 : DataW.trod enc Tryz.prog w base spare held n2 9 ((cs.drop 0).take (Tryz.prog.cellsOf 9)) = some z0 := hg 0 _ rfl
  have g1 : DataW.trod enc Tryz.prog w base spare held n2 53 ((cs.drop 1).take (Tryz.prog.cellsOf 53)) = some z1 := hg 1 _ rfl
  rw [cellsSt] at g0
  rw [cellsRange] at g1
  obtain ⟨s, e1, _, hs⟩ := DataW.trod_string Tryz.underlying9 g0
  obtain ⟨a, b, c, d, e2⟩ := open_rng g1
  refine ⟨⟨s, a, b, c, d⟩, ?_, hs⟩
  have h0 : cs = cs.drop 0 := rfl
  rw [h0, cut_at cs 0 1, e1, cut_at cs (0 + 1) 4, e2, List.drop_of_length_le (by omega)]
  rfl
theorem open_eqn {fuel : Nat} {cs : List Value} {x : DataW H × List MemPlace} (h : DataW.trod enc Tryz.prog w base spare held fuel 73 cs = some x) (hb : Rows.uptoBulk x.1 ≤ 1048576) : ∃ q : Qe, cs = q.cells ∧ q.at w w.heap.size := by
  obtain ⟨zs, n2, _, hx, hlen, hzz, hg⟩ := DataW.trod_struct Tryz.underlying73 h
  replace hlen := hlen.trans cellsEqu
  obtain ⟨z0, z1, rfl⟩ := list2 hzz
  have g0 : DataW.trod enc Tryz.prog w base spare held n2 9 ((cs.drop 0).take (Tryz.prog.cellsOf 9)) = some z0 := hg 0 _ rfl
  have g1 : DataW.trod enc Tryz.prog w base spare held n2 26 ((cs.drop 1).take (Tryz.prog.cellsOf 26)) = some z1 := hg 1 _ rfl
  rw [cellsSt] at g0
  rw [cellsE] at g1
  obtain ⟨s, e1, _, hs⟩ := DataW.trod_string Tryz.underlying9 g0
  obtain ⟨e, e2, he⟩ := open_ex n2 n2 _ _ (Nat.le_refl _) g1 (Nat.le_trans (by rw [hx]; exact bulk_agg (by simp)) hb)
  refine ⟨⟨s, e⟩, ?_, hs, he⟩
  have h0 : cs = cs.drop 0 := rfl
  rw [h0, cut_at cs 0 1, e1, cut_at cs (0 + 1) 6, e2, List.drop_of_length_le (by omega)]
  rfl
theorem open_rst {fuel : Nat} {cs : List Value} {x : DataW H × List MemPlace} (h : DataW.trod enc Tryz.prog w base spare held fuel 66 cs = some x) (hb : Rows.uptoBulk x.1 ≤ 1048576) : ∃ q : Qe, cs = q.cells ∧ q.at w w.heap.size := by
  obtain ⟨zs, n2, _, hx, hlen, hzz, hg⟩ := DataW.trod_struct Tryz.underlying66 h
  replace hlen := hlen.trans cellsRst
  obtain ⟨z0, z1, rfl⟩ := list2 hzz
  have g0 : DataW.trod enc Tryz.prog w base spare held n2 9 ((cs.drop 0).take (Tryz.prog.cellsOf 9)) = some z0 := hg 0 _ rfl
  have g1 : DataW.trod enc Tryz.prog w base spare held n2 26 ((cs.drop 1).take (Tryz.prog.cellsOf 26)) = some z1 := hg 1 _ rfl
  rw [cellsSt] at g0
  rw [cellsE] at g1
  obtain ⟨s, e1, _, hs⟩ := DataW.trod_string Tryz.underlying9 g0
  obtain ⟨e, e2, he⟩ := open_ex n2 n2 _ _ (Nat.le_refl _) g1 (Nat.le_trans (by rw [hx]; exact bulk_agg (by simp)) hb)
  refine ⟨⟨s, e⟩, ?_, hs, he⟩
  have h0 : cs = cs.drop 0 := rfl
  rw [h0, cut_at cs 0 1, e1, cut_at cs (0 + 1) 6, e2, List.drop_of_length_le (by omega)]
  rfl
/-- a slice of structs, its elements opened -/
theorem open_rowV {α : Type} (d : α) (cells : α → List Value) (k : Nat) (hk : 0 < k) (tS tE : TypeId) (hu : Tryz.prog.underlying tS = some (.slice tE)) (hce : Tryz.prog.cellsOf tE = k) (hlen : ∀ x, (cells x).length = k) (at' : α → Prop)
    (helem : ∀ (fuel : Nat) (cs : List Value) (x : DataW H × List MemPlace), DataW.trod enc Tryz.prog w base spare held fuel tE cs = some x → Rows.uptoBulk x.1 ≤ 1048576 → ∃ y, cs = cells y ∧ at' y)
    {fuel : Nat} {cs : List Value} {x : DataW H × List MemPlace} (h : DataW.trod enc Tryz.prog w base spare held fuel tS cs = some x) (hb : Rows.uptoBulk x.1 ≤ 1048576) :
    ∃ (a : Option Addr) (zs : List α) (c : Nat), cs = [.slice a zs.length c] ∧ RowV cells k w w.heap.size a zs ∧ zs.length ≤ 1048576 ∧ ∀ z ∈ zs, at' z := by
  rcases DataW.trod_slice hu h with ⟨rfl, _⟩ | ⟨a, len, cap, elems, rest, n3, _, rfl, hx4, _, hl, hm, hel, hi, _⟩
  · exact ⟨none, [], 0, rfl, fun i x hx => by simp at hx, by simp, fun z hz => by simp at hz⟩
  · have hll : len ≤ 1048576 := by
      refine Nat.le_trans ?_ hb
      rw [hx4]
      refine Nat.le_trans ?_ (bulk_slice _ _)
      rw [List.length_map, hel]
      exact Nat.le_refl _
    obtain ⟨f, hf'⟩ := choose_gen d (n := len) (p := fun i y => w.cells? base (a.add (i * k)) k = some (cells y) ∧ at' y) (fun i hil => by
      have h5 := hi i hil
      rw [hce, List.getElem?_eq_getElem (by omega)] at h5
      cases hc : w.cells? base (a.add (i * k)) k with
      | none => rw [hc] at h5; cases h5
      | some cs' =>
        rw [hc] at h5
        have h6 : DataW.trod enc Tryz.prog w base spare held n3 tE cs' = some (elems[i]'(by omega)) := h5
        obtain ⟨y, e, hr⟩ := helem n3 cs' _ h6 (by
          refine Nat.le_trans ?_ hb
          rw [hx4]
          exact bulk_elem (List.mem_map.2 ⟨_, List.getElem_mem _, rfl⟩))
        exact ⟨y, by rw [e], hr⟩)
    have hfl : ((List.range len).map f).length = len := by simp
    refine ⟨some a, (List.range len).map f, cap, by rw [hfl], fun i x hx => ?_, by rw [hfl]; exact hll, fun z hz => ?_⟩
    · have hil : i < len := by have := (List.getElem?_eq_some_iff.1 hx).1; rwa [hfl] at this
      rw [List.getElem?_map, List.getElem?_range hil] at hx
      cases hx
      obtain ⟨h1, h2⟩ := hf' i hil
      obtain ⟨_, _, hat⟩ := World.cells?_some h1
      have h0' := hf' 0 (by omega)
      have hspot : ∃ b o, a = ⟨b, o, none⟩ := by
        obtain ⟨_, _, hat0⟩ := World.cells?_some h0'.1
        have := hat0 0 (by omega)
        rw [Nat.zero_mul, add_add] at this
        cases hz : (cells (f 0))[0]? with
        | none => have := List.getElem?_eq_none_iff.1 hz; rw [hlen] at this; omega
        | some u => rw [hz] at this; exact cell_spot this
      obtain ⟨b, o, rfl⟩ := hspot
      have key (j : Nat) (u : Value) (hu : (cells (f i))[j]? = some u) : w.cell? ⟨b, o + i * k + j, none⟩ = some u := by
        have hj : j < k := by have := (List.getElem?_eq_some_iff.1 hu).1; rwa [hlen] at this
        have := hat j hj
        rw [add_add, Addr.add_lit, hu, ← Nat.add_assoc] at this
        exact this
      refine ⟨b, o, rfl, ?_, fun j u hu => key j u hu⟩
      cases hz : (cells (f i))[0]? with
      | none => have := List.getElem?_eq_none_iff.1 hz; rw [hlen] at this; omega
      | some u => exact cell_ltT (key 0 u hz)
    · obtain ⟨i, hi', rfl⟩ := List.mem_map.1 hz
      exact (hf' i (List.mem_range.1 hi')).2
def dDe : De := ⟨ByteArray.empty, 0, 0, 0, 0⟩
def dQe : Qe := ⟨ByteArray.empty, .mk 0 0 0 ByteArray.empty 0 none 0 []⟩
def dEd : Ed := ⟨.mk 0 0 0 ByteArray.empty 0 none 0 [], 0, ByteArray.empty, none, 0, []⟩
def dMo : Mo := ⟨ByteArray.empty, none, 0, [], none, 0, []⟩
theorem open_edg {fuel : Nat} {cs : List Value} {x : DataW H × List MemPlace} (h : DataW.trod enc Tryz.prog w base spare held fuel 70 cs = some x) (hb : Rows.uptoBulk x.1 ≤ 1048576) : ∃ q : Ed, cs = q.cells ∧ q.at w w.heap.size := by
  obtain ⟨zs, n2, _, hx, hlen, hzz, hg⟩ := DataW.trod_struct Tryz.underlying70 h
  replace hlen := hlen.trans cellsEdge
  obtain ⟨z0, z1, z2, z3, rfl⟩ := list4V hzz
  have g0 : DataW.trod enc Tryz.prog w base spare held n2 26 ((cs.drop 0).take (Tryz.prog.cellsOf 26)) = some z0 := hg 0 _ rfl
  have g1 : DataW.trod enc Tryz.prog w base spare held n2 3 ((cs.drop 6).take (Tryz.prog.cellsOf 3)) = some z1 := hg 1 _ rfl
  have g2 : DataW.trod enc Tryz.prog w base spare held n2 9 ((cs.drop 7).take (Tryz.prog.cellsOf 9)) = some z2 := hg 2 _ rfl
  have g3 : DataW.trod enc Tryz.prog w base spare held n2 68 ((cs.drop 8).take (Tryz.prog.cellsOf 68)) = some z3 := hg 3 _ rfl
  rw [cellsE] at g0
  rw [cellsI] at g1
  rw [cellsSt] at g2
  rw [cellsSR] at g3
  obtain ⟨e, e0, he⟩ := open_ex n2 n2 _ _ (Nat.le_refl _) g0 (Nat.le_trans (by rw [hx]; exact bulk_agg (by simp)) hb)
  obtain ⟨d, e1, _, _⟩ := DataW.trod_int Tryz.underlying3 g1
  obtain ⟨s, e2, _, hs⟩ := DataW.trod_string Tryz.underlying9 g2
  obtain ⟨a, rs, c, e3, hr, hrl, hra⟩ := open_rowV dQe Qe.cells 7 (by decide) _ _ Tryz.underlying68 cellsRst (fun _ => rfl) (fun q => q.at w w.heap.size) (fun f cs x h hb => open_rst h hb) g3 (Nat.le_trans (by rw [hx]; exact bulk_agg (by simp)) hb)
  refine ⟨⟨e, d, s, a, c, rs⟩, ?_, ⟨he, hs, hrl⟩, hr, hra⟩
  have h0 : cs = cs.drop 0 := rfl
  rw [h0, cut_at cs 0 6, e0, cut_at cs (0 + 6) 1, e1, cut_at cs (0 + 6 + 1) 1, e2, cut_at cs (0 + 6 + 1 + 1) 1, e3, List.drop_of_length_le (by omega)]
  rfl
theorem open_mod {fuel : Nat} {cs : List Value} {x : DataW H × List MemPlace} (h : DataW.trod enc Tryz.prog w base spare held fuel 61 cs = some x) (hb : Rows.uptoBulk x.1 ≤ 1048576) : ∃ q : Mo, cs = q.cells ∧ q.at w w.heap.size := by
  obtain ⟨zs, n2, _, hx, hlen, hzz, hg⟩ := DataW.trod_struct Tryz.underlying61 h
  replace hlen := hlen.trans cellsMode
  obtain ⟨z0, z1, z2, rfl⟩ := list3V hzz
  have g0 : DataW.trod enc Tryz.prog w base spare held n2 9 ((cs.drop 0).take (Tryz.prog.cellsOf 9)) = some z0 := hg 0 _ rfl
  have g1 : DataW.trod enc Tryz.prog w base spare held n2 58 ((cs.drop 1).take (Tryz.prog.cellsOf 58)) = some z1 := hg 1 _ rfl
  have g2 : DataW.trod enc Tryz.prog w base spare held n2 59 ((cs.drop 2).take (Tryz.prog.cellsOf 59)) = some z2 := hg 2 _ rfl
  rw [cellsSt] at g0
  rw [cellsSQ] at g1
  rw [cellsSX] at g2
  obtain ⟨s, e0, _, hs⟩ := DataW.trod_string Tryz.underlying9 g0
  obtain ⟨a1, l1, c1, e1, hr1, hl1, ha1⟩ := open_rowV dQe Qe.cells 7 (by decide) _ _ Tryz.underlying58 cellsEqu (fun _ => rfl) (fun q => q.at w w.heap.size) (fun f cs x h hb => open_eqn h hb) g1 (Nat.le_trans (by rw [hx]; exact bulk_agg (by simp)) hb)
  obtain ⟨a2, l2, c2, e2, hr2, hl2, ha2⟩ := open_rowV dEd Ed.cells 9 (by decide) _ _ Tryz.underlying59 cellsEdge (fun _ => rfl) (fun q => q.at w w.heap.size) (fun f cs x h hb => open_edg h hb) g2 (Nat.le_trans (by rw [hx]; exact bulk_agg (by simp)) hb)
  refine ⟨⟨s, a1, c1, l1, a2, c2, l2⟩, ?_, ⟨hs, hl1, hl2⟩, ⟨hr1, ha1⟩, hr2, ha2⟩
  have h0 : cs = cs.drop 0 := rfl
  rw [h0, cut_at cs 0 1, e0, cut_at cs (0 + 1) 1, e1, cut_at cs (0 + 1 + 1) 1, e2, List.drop_of_length_le (by omega)]
  rfl
/-- an argument that is a problem -/
theorem open_pr {fuel : Nat} {cs : List Value} {x : DataW H × List MemPlace} (h : DataW.trod enc Tryz.prog w base spare held fuel 30 cs = some x) (hb : Rows.uptoBulk x.1 ≤ 1048576) : ∃ q : Pr, cs = q.cells ∧ q.at w w.heap.size := by
  obtain ⟨zs, n2, _, hx, hlen, hzz, hg⟩ := DataW.trod_struct Tryz.underlying30 h
  replace hlen := hlen.trans cellsProb
  obtain ⟨z0, z1, z2, z3, rfl⟩ := list4V hzz
  have g0 : DataW.trod enc Tryz.prog w base spare held n2 27 ((cs.drop 0).take (Tryz.prog.cellsOf 27)) = some z0 := hg 0 _ rfl
  have g1 : DataW.trod enc Tryz.prog w base spare held n2 27 ((cs.drop 1).take (Tryz.prog.cellsOf 27)) = some z1 := hg 1 _ rfl
  have g2 : DataW.trod enc Tryz.prog w base spare held n2 28 ((cs.drop 2).take (Tryz.prog.cellsOf 28)) = some z2 := hg 2 _ rfl
  have g3 : DataW.trod enc Tryz.prog w base spare held n2 23 ((cs.drop 3).take (Tryz.prog.cellsOf 23)) = some z3 := hg 3 _ rfl
  rw [cellsSD] at g0 g1
  rw [cellsSM] at g2
  rw [cellsR] at g3
  obtain ⟨a1, l1, c1, e1, hr1, hl1, ha1⟩ := open_rowV dDe De.cells 5 (by decide) _ _ Tryz.underlying27 cellsDecl (fun _ => rfl) (fun q => q.at w w.heap.size) (fun f cs x h hb => open_dec h) g0 (Nat.le_trans (by rw [hx]; exact bulk_agg (by simp)) hb)
  obtain ⟨a2, l2, c2, e2, hr2, hl2, ha2⟩ := open_rowV dDe De.cells 5 (by decide) _ _ Tryz.underlying27 cellsDecl (fun _ => rfl) (fun q => q.at w w.heap.size) (fun f cs x h hb => open_dec h) g1 (Nat.le_trans (by rw [hx]; exact bulk_agg (by simp)) hb)
  obtain ⟨a3, l3, c3, e3, hr3, hl3, ha3⟩ := open_rowV dMo Mo.cells 3 (by decide) _ _ Tryz.underlying28 cellsMode (fun _ => rfl) (fun q => q.at w w.heap.size) (fun f cs x h hb => open_mod h hb) g2 (Nat.le_trans (by rw [hx]; exact bulk_agg (by simp)) hb)
  obtain ⟨r, d, e4⟩ := open_rat g3
  refine ⟨⟨a1, c1, l1, a2, c2, l2, a3, c3, l3, r, d⟩, ?_, ⟨hl1, hl2, hl3⟩, ⟨hr1, ha1⟩, ⟨hr2, ha2⟩, hr3, ha3⟩
  have h0 : cs = cs.drop 0 := rfl
  rw [h0, cut_at cs 0 1, e1, cut_at cs (0 + 1) 1, e2, cut_at cs (0 + 1 + 1) 1, e3, cut_at cs (0 + 1 + 1 + 1) 2, e4, List.drop_of_length_le (by omega)]
  rfl
end
end Go.Proofs.YthaphbbeiglolaaGreat
