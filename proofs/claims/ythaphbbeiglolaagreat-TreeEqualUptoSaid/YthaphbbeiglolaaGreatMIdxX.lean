/-
  Walks: slices.IndexFunc, ContainsFunc at trees, with a function that changes what it holds.
  Walks: tree.count, Valid.
  Walks: tree.depth, Depth.
  Trees that a call has made: where they lie; own slices of trees.
  Walks: slices.Clone of trees; tree.clone.
-/
import Derived.Test.YthaphbbeiglolaaGreatMRatN
import Derived.Test.YthaphbbeiglolaaGreatMNodN
import Derived.Sort.Row
import Derived.Deep.AppendLies
section
namespace Go.Proofs.YthaphbbeiglolaaGreat
open Go.RowKit

/-- the function goes on from J k to J (k + 1) at each element, or answers true and leaves R k -/
def StepX (P : Program) (g : FuncId) (cap : Array Value) (l : List Ex) (J R : Nat → World → Prop) : Prop :=
  Enters P g ∧ ∀ (k : Nat) (x : Ex), l[k]? = some x → ∀ W, J k W → Calls P g (#[.agg #[.int .i64 x.kind, .int .i64 x.rn, .int .i64 x.rd, .string x.name, .int .i64 x.pw, .slice x.a x.l.length x.c]] ++ cap) W fun e W' => (e = .returned (.bool true) ∧ R k W') ∨ (e = .returned (.bool false) ∧ J (k + 1) W')
set_option maxHeartbeats 4000000 in
theorem idxX (a : Option Addr) (l : List Ex) (c B : Nat) (g : FuncId) (cap : Array Value) (w : World) (J R : Nat → World → Prop) (hm : l.length ≤ 1100000) (hrow : ∀ k W, J k W → RowX W B a l) (hJ : J 0 w) (hp : StepX Tryz.prog g cap l J R) :
    Calls Tryz.prog 82 #[.slice a l.length c, .func (.func g) #[] cap] w fun e w' => (∃ k, k < l.length ∧ e = .returned (.int .i64 (k : Int)) ∧ R k w') ∨ (e = .returned (.int .i64 (-1)) ∧ J l.length w') := by
  have HR := Lib.hid hrow
  have HP := Lib.hid hp.2
  have hgo : ∀ args w, (callFunc g args).run Tryz.prog w = .ok (.enter g args) w := hp.1
  clear hrow hp
  go_enter Tryz.func82, Tryz.ntmps82
  go_wp2
  go_loopw [8] (fun x wr => ∃ k : Nat, k ≤ l.length ∧ x = .int .i64 k ∧ J k wr) (fun x _ => l.length - (intOf x).toNat)
  case atStart => exact ⟨0, by omega, rfl, hJ⟩
  case round =>
    obtain ⟨k, hk, rfl, hj⟩ := hrel
    have Hj := Lib.hid hj
    clear hj hJ
    by_cases hlt : k < l.length
    · obtain ⟨x, hx⟩ : ∃ x, l[k]? = some x := ⟨_, List.getElem?_eq_getElem hlt⟩
      obtain ⟨b, o, rfl, hb, h0, h1, h2, h3, h4, h5⟩ := (HR.out k wr Hj.out) k x hx
      have Hc := Lib.hid (HP.out k x hx wr Hj.out)
      clear hx hb
      go_wp2_with (refine Hc.out.mono ?_; rintro e w2 (⟨rfl, hq⟩ | ⟨rfl, hq⟩))
      · go_wp2
        go_ret
        exact .inl ⟨k, hlt, rfl, hq⟩
      · go_wp2
        go_roundw
        case rel => exact ⟨k + 1, by omega, by go_num, hq⟩
        case measure => simp [intOf]; omega
    · obtain rfl : k = l.length := by omega
      go_wp2
      go_ret
      exact .inr ⟨rfl, Hj.out⟩
set_option maxHeartbeats 400000 in
theorem containsX (a : Option Addr) (l : List Ex) (c B : Nat) (g : FuncId) (cap : Array Value) (w : World) (J R : Nat → World → Prop) (hm : l.length ≤ 1100000) (hrow : ∀ k W, J k W → RowX W B a l) (hJ : J 0 w) (hp : StepX Tryz.prog g cap l J R) :
    Calls Tryz.prog 51 #[.slice a l.length c, .func (.func g) #[] cap] w fun e w' => (e = .returned (.bool true) ∧ ∃ k, k < l.length ∧ R k w') ∨ (e = .returned (.bool false) ∧ J l.length w') := by
  have Hc := Lib.hid (idxX a l c B g cap w J R hm hrow hJ hp)
  clear hp hrow hJ
  go_enter Tryz.func51, Tryz.ntmps51
  go_wp2_with (refine Hc.out.mono ?_; rintro e w2 (⟨k, hk, rfl, hq⟩ | ⟨rfl, hq⟩))
  · have hk0 : (0 : Int) ≤ (k : Int) := by omega
    go_wp2
    go_ret
    exact .inl ⟨rfl, k, hk, hq⟩
  · go_wp2
    go_ret
    exact .inr ⟨rfl, hq⟩
end Go.Proofs.YthaphbbeiglolaaGreat
end

section
namespace Go.Proofs.YthaphbbeiglolaaGreat
open Go.RowKit Go.Sort

theorem setcell_twice (w : World) (g : Nat) (v v' : Value) : (w.setCell ⟨g, 0, none⟩ v).setCell ⟨g, 0, none⟩ v' = w.setCell ⟨g, 0, none⟩ v' := by
  rw [setCell_eq, setCell_eq, mapBlock_mapBlock, setCell_eq]
  congr 1
  funext c
  simp
theorem cell_ltT {w : World} {g i : Nat} {v : Value} (h : w.cell? ⟨g, i, none⟩ = some v) : g < w.heap.size := by
  rcases Nat.lt_or_ge g w.heap.size with h1 | h1
  · exact h1
  · simp [World.cell?, Array.getElem?_eq_none h1] at h
theorem set_same {w : World} {g : Nat} {v : Value} (h : w.cell? ⟨g, 0, none⟩ = some v) : w.setCell ⟨g, 0, none⟩ v = w := by
  have hg := cell_ltT h
  have hh : w.heap[g]? = some (w.heap[g]'hg) := Array.getElem?_eq_getElem hg
  rw [setCell_eq]
  unfold mapBlock
  have he : w.heap.modify g (onCells (·.setIfInBounds 0 v)) = w.heap := by
    apply Array.ext
    · simp
    · intro k h1 h2
      rw [Array.getElem_modify]
      split
      · subst k
        unfold World.cell? at h
        simp only [hh] at h
        cases ho : w.heap[g]'hg with
        | cells c e fr =>
          rw [ho] at h
          simp only [onCells]
          have h' : c[0]? = some v := by simpa using h
          have hc : c.setIfInBounds 0 v = c := by
            apply Array.ext
            · simp
            · intro q q1 q2
              rw [Array.getElem_setIfInBounds]
              split
              · subst q
                rw [Array.getElem?_eq_getElem q2] at h'
                injection h' with h'
                exact h'.symm
              · rfl
          rw [hc]
        | _ => rfl
      · rfl
  rw [he]
theorem keep_set {w : World} {g s i : Nat} {v u : Value} (hs : w.cell? ⟨s, i, none⟩ = some v) (h : g < s) : (w.setCell ⟨g, 0, none⟩ u).cell? ⟨s, i, none⟩ = some v := by
  rw [setcell_ne (fun e => by injection e with e1; omega)]; exact hs
theorem new_cell (u : World) (v : Value) (t : TypeId) (s : Nat) (h : u.heap.size = s) : (u.alloc (.cells #[v] t)).cell? ⟨s, 0, none⟩ = some v := by subst h; simp
/-- count's contract at an expression -/
def CountAt (e : Ex) : Prop := ∀ (dp n B g : Nat) (w : World), e.at w B → B ≤ g → w.cell? ⟨g, 0, none⟩ = some (.int .i64 (n : Int)) → w.frozen? ⟨g, 0, none⟩ = false → dp ≤ 21 → n ≤ 200 →
  Calls Tryz.prog 22 #[.agg #[.int .i64 e.kind, .int .i64 e.rn, .int .i64 e.rd, .string e.name, .int .i64 e.pw, .slice e.a e.l.length e.c], .int .i64 (dp : Int), .pointer (some ⟨g, 0, none⟩)] w fun r w' => r = .returned (.bool (e.cnt dp n).1) ∧ Kp (w.setCell ⟨g, 0, none⟩ (.int .i64 ((e.cnt dp n).2 : Int))) w'
set_option maxHeartbeats 2000000 in
set_option maxRecDepth 20000 in
/-- the closure of tree.count -/
theorem count1_any (x : Ex) (hx : CountAt x) (dp m B g p1 p2 : Nat) (w : World) (hat : x.at w B) (hB : B ≤ g) (hD : w.cell? ⟨p1, 0, none⟩ = some (.int .i64 (dp : Int))) (hP : w.cell? ⟨p2, 0, none⟩ = some (.pointer (some ⟨g, 0, none⟩)))
    (hg : w.cell? ⟨g, 0, none⟩ = some (.int .i64 (m : Int))) (hf : w.frozen? ⟨g, 0, none⟩ = false) (hdp : dp ≤ 20) (hm : m ≤ 200) :
    Calls Tryz.prog 52 #[.agg #[.int .i64 x.kind, .int .i64 x.rn, .int .i64 x.rd, .string x.name, .int .i64 x.pw, .slice x.a x.l.length x.c], .pointer (some ⟨p1, 0, none⟩), .pointer (some ⟨p2, 0, none⟩)] w fun r w' => r = .returned (.bool (!(x.cnt (dp + 1) m).1)) ∧ Kp (w.setCell ⟨g, 0, none⟩ (.int .i64 ((x.cnt (dp + 1) m).2 : Int))) w' := by
  have k1 : Kp w (w.alloc (.cells #[.int .i64 x.kind, .int .i64 x.rn, .int .i64 x.rd, .string x.name, .int .i64 x.pw, .slice x.a x.l.length x.c] 26)) := (Kp.refl w).alloc _
  have hS : ((w.alloc (.cells #[.int .i64 x.kind, .int .i64 x.rn, .int .i64 x.rd, .string x.name, .int .i64 x.pw, .slice x.a x.l.length x.c] 26)).cell? ⟨w.heap.size, 0, none⟩ = some (.int .i64 x.kind) ∧ (w.alloc (.cells #[.int .i64 x.kind, .int .i64 x.rn, .int .i64 x.rd, .string x.name, .int .i64 x.pw, .slice x.a x.l.length x.c] 26)).cell? ⟨w.heap.size, 1, none⟩ = some (.int .i64 x.rn) ∧ (w.alloc (.cells #[.int .i64 x.kind, .int .i64 x.rn, .int .i64 x.rd, .string x.name, .int .i64 x.pw, .slice x.a x.l.length x.c] 26)).cell? ⟨w.heap.size, 2, none⟩ = some (.int .i64 x.rd) ∧ (w.alloc (.cells #[.int .i64 x.kind, .int .i64 x.rn, .int .i64 x.rd, .string x.name, .int .i64 x.pw, .slice x.a x.l.length x.c] 26)).cell? ⟨w.heap.size, 3, none⟩ = some (.string x.name) ∧ (w.alloc (.cells #[.int .i64 x.kind, .int .i64 x.rn, .int .i64 x.rd, .string x.name, .int .i64 x.pw, .slice x.a x.l.length x.c] 26)).cell? ⟨w.heap.size, 4, none⟩ = some (.int .i64 x.pw) ∧ (w.alloc (.cells #[.int .i64 x.kind, .int .i64 x.rn, .int .i64 x.rd, .string x.name, .int .i64 x.pw, .slice x.a x.l.length x.c] 26)).cell? ⟨w.heap.size, 5, none⟩ = some (.slice x.a x.l.length x.c)) := by simp
  have HC := fun W (h : Kp w W) => Lib.hid (hx (dp + 1) m B g W (Ex.at_kp hat h) hB (h.cell hg) (h.frozen hg hf) (by omega) hm)
  have hdi := Lib.hid (show ((dp + 1 : Nat) : Int) = (dp : Int) + 1 by omega)
  clear hx
  go_enter Tryz.func52, Tryz.ntmps52
  go_upto_region 1 with fail
  generalize w.alloc _ = W at *
  have HC := Lib.hid (HC W k1).out
  rw [hdi.out] at HC
  have hD1 := k1.cell hD
  have hP1 := k1.cell hP
  have K1 := Lib.hid k1
  clear hD hP hg hf hat k1
  go_wp2_with (go_at_call 22; go_fit HC.out; rintro r w2 ⟨rfl, k2⟩)
  go_ret
  exact ⟨rfl, (kp_bothT K1.out _ _).trans k2⟩
set_option maxHeartbeats 2000000 in
set_option maxRecDepth 20000 in
theorem count_any : ∀ e : Ex, CountAt e := by
  refine Ex.ind fun e ih dp n B g w hat hB hg hf hdp hn => ?_
  have k1 : Kp w (((w.alloc (.cells #[.int .i64 e.kind, .int .i64 e.rn, .int .i64 e.rd, .string e.name, .int .i64 e.pw, .slice e.a e.l.length e.c] 26)).alloc (.cells #[.int .i64 (dp : Int)] 3)).alloc (.cells #[.pointer (some ⟨g, 0, none⟩)] 49)) := ((Kp.refl w).alloc _).alloc _ |>.alloc _
  have hS : ((((w.alloc (.cells #[.int .i64 e.kind, .int .i64 e.rn, .int .i64 e.rd, .string e.name, .int .i64 e.pw, .slice e.a e.l.length e.c] 26)).alloc (.cells #[.int .i64 (dp : Int)] 3)).alloc (.cells #[.pointer (some ⟨g, 0, none⟩)] 49)).cell? ⟨w.heap.size, 0, none⟩ = some (.int .i64 e.kind) ∧ (((w.alloc (.cells #[.int .i64 e.kind, .int .i64 e.rn, .int .i64 e.rd, .string e.name, .int .i64 e.pw, .slice e.a e.l.length e.c] 26)).alloc (.cells #[.int .i64 (dp : Int)] 3)).alloc (.cells #[.pointer (some ⟨g, 0, none⟩)] 49)).cell? ⟨w.heap.size, 1, none⟩ = some (.int .i64 e.rn) ∧ (((w.alloc (.cells #[.int .i64 e.kind, .int .i64 e.rn, .int .i64 e.rd, .string e.name, .int .i64 e.pw, .slice e.a e.l.length e.c] 26)).alloc (.cells #[.int .i64 (dp : Int)] 3)).alloc (.cells #[.pointer (some ⟨g, 0, none⟩)] 49)).cell? ⟨w.heap.size, 2, none⟩ = some (.int .i64 e.rd) ∧ (((w.alloc (.cells #[.int .i64 e.kind, .int .i64 e.rn, .int .i64 e.rd, .string e.name, .int .i64 e.pw, .slice e.a e.l.length e.c] 26)).alloc (.cells #[.int .i64 (dp : Int)] 3)).alloc (.cells #[.pointer (some ⟨g, 0, none⟩)] 49)).cell? ⟨w.heap.size, 3, none⟩ = some (.string e.name) ∧ (((w.alloc (.cells #[.int .i64 e.kind, .int .i64 e.rn, .int .i64 e.rd, .string e.name, .int .i64 e.pw, .slice e.a e.l.length e.c] 26)).alloc (.cells #[.int .i64 (dp : Int)] 3)).alloc (.cells #[.pointer (some ⟨g, 0, none⟩)] 49)).cell? ⟨w.heap.size, 4, none⟩ = some (.int .i64 e.pw) ∧ (((w.alloc (.cells #[.int .i64 e.kind, .int .i64 e.rn, .int .i64 e.rd, .string e.name, .int .i64 e.pw, .slice e.a e.l.length e.c] 26)).alloc (.cells #[.int .i64 (dp : Int)] 3)).alloc (.cells #[.pointer (some ⟨g, 0, none⟩)] 49)).cell? ⟨w.heap.size, 5, none⟩ = some (.slice e.a e.l.length e.c)) := keepE6 (((Kp.refl _).alloc _).alloc _) (by simp)
  have hD : (((w.alloc (.cells #[.int .i64 e.kind, .int .i64 e.rn, .int .i64 e.rd, .string e.name, .int .i64 e.pw, .slice e.a e.l.length e.c] 26)).alloc (.cells #[.int .i64 (dp : Int)] 3)).alloc (.cells #[.pointer (some ⟨g, 0, none⟩)] 49)).cell? ⟨w.heap.size + 1, 0, none⟩ = some (.int .i64 (dp : Int)) := ((Kp.refl _).alloc _).cell (new_cell _ _ _ _ (by simp))
  have hP : (((w.alloc (.cells #[.int .i64 e.kind, .int .i64 e.rn, .int .i64 e.rd, .string e.name, .int .i64 e.pw, .slice e.a e.l.length e.c] 26)).alloc (.cells #[.int .i64 (dp : Int)] 3)).alloc (.cells #[.pointer (some ⟨g, 0, none⟩)] 49)).cell? ⟨w.heap.size + 1 + 1, 0, none⟩ = some (.pointer (some ⟨g, 0, none⟩)) := new_cell _ _ _ _ (by simp)
  have hgl : g < w.heap.size := cell_ltT hg
  go_enter Tryz.func22, Tryz.ntmps22
  go_upto_region 1 with fail
  generalize World.alloc _ _ = W at *
  have g1 := k1.cell hg
  have g2 := k1.frozen hg hf
  have hn1 := Lib.hid (show (n : Int) + 1 = ((n + 1 : Nat) : Int) by omega)
  go_upto_region 2 with fail
  have k2 := kp_bothT k1 ⟨g, 0, none⟩ (.int .i64 ((n : Int) + 1))
  have q : ((W.setCell ⟨g, 0, none⟩ (.int .i64 ((n : Int) + 1))).cell? ⟨w.heap.size, 0, none⟩ = some (.int .i64 e.kind) ∧ (W.setCell ⟨g, 0, none⟩ (.int .i64 ((n : Int) + 1))).cell? ⟨w.heap.size, 1, none⟩ = some (.int .i64 e.rn) ∧ (W.setCell ⟨g, 0, none⟩ (.int .i64 ((n : Int) + 1))).cell? ⟨w.heap.size, 2, none⟩ = some (.int .i64 e.rd) ∧ (W.setCell ⟨g, 0, none⟩ (.int .i64 ((n : Int) + 1))).cell? ⟨w.heap.size, 3, none⟩ = some (.string e.name) ∧ (W.setCell ⟨g, 0, none⟩ (.int .i64 ((n : Int) + 1))).cell? ⟨w.heap.size, 4, none⟩ = some (.int .i64 e.pw) ∧ (W.setCell ⟨g, 0, none⟩ (.int .i64 ((n : Int) + 1))).cell? ⟨w.heap.size, 5, none⟩ = some (.slice e.a e.l.length e.c)) := by
    obtain ⟨a0, a1, a2, a3, a4, a5⟩ := hS
    exact ⟨keep_set a0 hgl, keep_set a1 hgl, keep_set a2 hgl, keep_set a3 hgl, keep_set a4 hgl, keep_set a5 hgl⟩
  have qD := keep_set (u := .int .i64 ((n : Int) + 1)) hD (show g < w.heap.size + 1 by omega)
  have qP := keep_set (u := .int .i64 ((n : Int) + 1)) hP (show g < w.heap.size + 1 + 1 by omega)
  have qg : (W.setCell ⟨g, 0, none⟩ (.int .i64 ((n : Int) + 1))).cell? ⟨g, 0, none⟩ = some (.int .i64 ((n : Int) + 1)) := by apply World.cell?_setCell_same; exact g1
  have qf : (W.setCell ⟨g, 0, none⟩ (.int .i64 ((n : Int) + 1))).frozen? ⟨g, 0, none⟩ = false := by simpa using g2
  clear hS hD hP g1 g2 hg hf
  generalize W.setCell ⟨g, 0, none⟩ _ = W2 at *
  have K2 := Lib.hid k2
  have HE := Lib.hid (e.cnt_eq dp n)
  clear k2 k1
  by_cases c1 : 20 < dp
  · have c1' : (20 : Int) < dp := by omega
    have he := HE.out
    rw [if_pos (Or.inl c1)] at he
    have He := Lib.hid he
    clear he
    go_wp2_with fail
    go_ret
    exact ⟨ret_bool (by rw [He.out]), by rw [He.out, ← hn1.out]; exact K2.out⟩
  · have c1' : ¬ (20 : Int) < dp := by omega
    by_cases c2 : 200 < n + 1
    · have c2' : (200 : Int) < (n : Int) + 1 := by omega
      have he := HE.out
      rw [if_pos (Or.inr (Or.inl c2))] at he
      have He := Lib.hid he
      clear he
      go_wp2_with fail
      go_ret
      exact ⟨ret_bool (by rw [He.out]), by rw [He.out, ← hn1.out]; exact K2.out⟩
    · have c2' : ¬ (200 : Int) < (n : Int) + 1 := by omega
      obtain ⟨⟨hlc, hcm, hnm, hl⟩, hrow, hch⟩ := Ex.at_iff.1 hat
      have HN := Lib.hid (node_any e W2 (by omega) hnm)
      cases hb : nodeB e with
      | false =>
        have he := HE.out
        rw [if_pos (Or.inr (Or.inr hb))] at he
        have He := Lib.hid he
        rw [hb] at HN
        clear he hb hrow hch
        go_wp2_with (go_at_call 50; go_fit HN.out; rintro r w2 ⟨rfl, j2⟩)
        go_ret
        exact ⟨ret_bool (by rw [He.out]), by rw [He.out, ← hn1.out]; exact K2.out.trans j2⟩
      | true =>
        have he := HE.out
        rw [if_neg (by rw [hb]; intro h; rcases h with h | h | h; exact c1 h; exact c2 h; cases h)] at he
        have He := Lib.hid he
        rw [hb] at HN
        clear he hb
        go_upto_region 4 with (go_at_call 50; go_fit HN.out; rintro r W3 ⟨rfl, j2⟩; obtain ⟨t0, t1, t2, t3, t4, t5⟩ := keepE6 j2 q)
        have K3 := Lib.hid (K2.out.trans j2)
        have u1 := j2.cell qD
        have u2 := j2.cell qP
        have u3 := j2.cell qg
        have u4 := j2.frozen qg qf
        have u5 : ∀ x ∈ e.l, x.at W3 B := fun x hx => Ex.at_kp (Ex.at_set (hch x hx) hB _) K3.out
        have u6 : RowX W3 B e.a e.l := (hrow.set hB _).kp K3.out
        have hg3 : g < W3.heap.size := cell_ltT u3
        have HX := Lib.hid (containsX e.a e.l e.c B 52 #[.pointer (some ⟨w.heap.size + 1, 0, none⟩), .pointer (some ⟨w.heap.size + 1 + 1, 0, none⟩)] W3
          (fun k Wk => ∃ m : Nat, Ex.cntL e.l (dp + 1) (n + 1) = Ex.cntL (e.l.drop k) (dp + 1) m ∧ m ≤ 200 ∧ Kp (W3.setCell ⟨g, 0, none⟩ (.int .i64 (m : Int))) Wk)
          (fun k Wk => ∃ m : Nat, Ex.cntL e.l (dp + 1) (n + 1) = (false, m) ∧ Kp (W3.setCell ⟨g, 0, none⟩ (.int .i64 (m : Int))) Wk)
          (by omega)
          (fun k Wk hJ => by obtain ⟨m, _, _, hk⟩ := hJ; exact (u6.set hB _).kp hk)
          ⟨n + 1, rfl, by omega, by rw [← hn1.out, set_same u3]; exact .refl _⟩
          ⟨fun _ _ => by kernel_rfl, fun k x hx Wk hJ => by
            obtain ⟨m, he, hm, hk⟩ := hJ
            have hxm := List.mem_of_getElem? hx
            have v3 : Wk.cell? ⟨g, 0, none⟩ = some (.int .i64 (m : Int)) := hk.cell (by apply World.cell?_setCell_same; exact u3)
            have v4 : Wk.frozen? ⟨g, 0, none⟩ = false := hk.frozen (v := .int .i64 (m : Int)) (by apply World.cell?_setCell_same; exact u3) (by simpa using u4)
            have v1 := hk.cell (keep_set (u := .int .i64 (m : Int)) u1 (show g < w.heap.size + 1 by omega))
            have v2 := hk.cell (keep_set (u := .int .i64 (m : Int)) u2 (show g < w.heap.size + 1 + 1 by omega))
            have hd : e.l.drop k = x :: e.l.drop (k + 1) := List.drop_eq_getElem_cons (List.getElem?_eq_some_iff.1 hx).1 |>.trans (by rw [(List.getElem?_eq_some_iff.1 hx).2])
            have hc := Ex.cntL_cons x (e.l.drop (k + 1)) (dp + 1) m
            refine (count1_any x (ih x hxm) dp m B g _ _ Wk (Ex.at_kp (Ex.at_set (u5 x hxm) hB _) hk) hB v1 v2 v3 v4 (by omega) hm).mono ?_
            rintro r W' ⟨rfl, hk'⟩
            have hK : Kp (W3.setCell ⟨g, 0, none⟩ (.int .i64 ((x.cnt (dp + 1) m).2 : Int))) W' := by
              have := (kp_bothT hk ⟨g, 0, none⟩ (.int .i64 ((x.cnt (dp + 1) m).2 : Int))).trans hk'
              rwa [setcell_twice] at this
            cases hb : (x.cnt (dp + 1) m).1 with
            | false =>
              rw [if_neg (by rw [hb]; decide)] at hc
              exact .inl ⟨rfl, _, by rw [he, hd, hc], hK⟩
            | true =>
              rw [if_pos hb] at hc
              have hi := cnt_iff x (dp + 1) m
              have h1 := hi.1.1 hb
              have h2 := hi.2 hb
              exact .inr ⟨rfl, _, by rw [he, hd, hc], by omega, hK⟩⟩)
        clear u5 u6 hrow hch ih
        have F0 := hn1.out
        clear F0
        go_wp2_with (go_at_call 51; go_fit HX.out; rintro r W4 (⟨rfl, k, hk, m, hm, hkk⟩ | ⟨rfl, m, hm, hm2, hkk⟩))
        · go_ret
          have hk2 : Kp (w.setCell ⟨g, 0, none⟩ (.int .i64 (m : Int))) W4 := by
            have := (kp_bothT K3.out ⟨g, 0, none⟩ (.int .i64 (m : Int))).trans hkk
            rwa [setcell_twice] at this
          exact ⟨ret_bool (by rw [He.out, hm]), by rw [He.out, hm]; exact hk2⟩
        · go_ret
          have hk2 : Kp (w.setCell ⟨g, 0, none⟩ (.int .i64 (m : Int))) W4 := by
            have := (kp_bothT K3.out ⟨g, 0, none⟩ (.int .i64 (m : Int))).trans hkk
            rwa [setcell_twice] at this
          rw [List.drop_length, Ex.cntL_nil] at hm
          exact ⟨ret_bool (by rw [He.out, hm]), by rw [He.out, hm]; exact hk2⟩
set_option maxHeartbeats 2000000 in
set_option maxRecDepth 20000 in
/-- tree.Valid -/
theorem tvalid_any (e : Ex) (B : Nat) (w : World) (hat : e.at w B) (hB : B ≤ w.heap.size) : Calls Tryz.prog 6 #[.agg #[.int .i64 e.kind, .int .i64 e.rn, .int .i64 e.rd, .string e.name, .int .i64 e.pw, .slice e.a e.l.length e.c]] w fun r w' => r = .returned (.bool e.ok) ∧ Kp w w' := by
  have hok := Lib.hid (cnt_ok e)
  have k1 : Kp w (w.alloc (.cells #[.int .i64 e.kind, .int .i64 e.rn, .int .i64 e.rd, .string e.name, .int .i64 e.pw, .slice e.a e.l.length e.c] 26)) := (Kp.refl w).alloc _
  have hS : ((w.alloc (.cells #[.int .i64 e.kind, .int .i64 e.rn, .int .i64 e.rd, .string e.name, .int .i64 e.pw, .slice e.a e.l.length e.c] 26)).cell? ⟨w.heap.size, 0, none⟩ = some (.int .i64 e.kind) ∧ (w.alloc (.cells #[.int .i64 e.kind, .int .i64 e.rn, .int .i64 e.rd, .string e.name, .int .i64 e.pw, .slice e.a e.l.length e.c] 26)).cell? ⟨w.heap.size, 1, none⟩ = some (.int .i64 e.rn) ∧ (w.alloc (.cells #[.int .i64 e.kind, .int .i64 e.rn, .int .i64 e.rd, .string e.name, .int .i64 e.pw, .slice e.a e.l.length e.c] 26)).cell? ⟨w.heap.size, 2, none⟩ = some (.int .i64 e.rd) ∧ (w.alloc (.cells #[.int .i64 e.kind, .int .i64 e.rn, .int .i64 e.rd, .string e.name, .int .i64 e.pw, .slice e.a e.l.length e.c] 26)).cell? ⟨w.heap.size, 3, none⟩ = some (.string e.name) ∧ (w.alloc (.cells #[.int .i64 e.kind, .int .i64 e.rn, .int .i64 e.rd, .string e.name, .int .i64 e.pw, .slice e.a e.l.length e.c] 26)).cell? ⟨w.heap.size, 4, none⟩ = some (.int .i64 e.pw) ∧ (w.alloc (.cells #[.int .i64 e.kind, .int .i64 e.rn, .int .i64 e.rd, .string e.name, .int .i64 e.pw, .slice e.a e.l.length e.c] 26)).cell? ⟨w.heap.size, 5, none⟩ = some (.slice e.a e.l.length e.c)) := by simp
  have hz : (w.alloc (.cells #[.int .i64 e.kind, .int .i64 e.rn, .int .i64 e.rd, .string e.name, .int .i64 e.pw, .slice e.a e.l.length e.c] 26)).heap.size = w.heap.size + 1 := by simp
  go_enter Tryz.func6, Tryz.ntmps6
  go_upto_region 1 with fail
  generalize w.alloc _ = W at *
  have k2 : Kp w (W.alloc (.cells #[.int .i64 0] 3)) := k1.alloc _
  have kW : Kp W (W.alloc (.cells #[.int .i64 0] 3)) := (Kp.refl W).alloc _
  have hc : (W.alloc (.cells #[.int .i64 0] 3)).cell? ⟨w.heap.size + 1, 0, none⟩ = some (.int .i64 0) := new_cell _ _ _ _ hz
  have hf : (W.alloc (.cells #[.int .i64 0] 3)).frozen? ⟨w.heap.size + 1, 0, none⟩ = false := by rw [← hz]; simp
  have hS2 := keepE6 kW hS
  go_upto_region 2 with fail
  generalize W.alloc _ = W2 at *
  have HC : Calls Tryz.prog 22 #[.agg #[.int .i64 e.kind, .int .i64 e.rn, .int .i64 e.rd, .string e.name, .int .i64 e.pw, .slice e.a e.l.length e.c], .int .i64 1, .pointer (some ⟨w.heap.size + 1, 0, none⟩)] W2 fun r w' => r = .returned (.bool (e.cnt 1 0).1) ∧ Kp (W2.setCell ⟨w.heap.size + 1, 0, none⟩ (.int .i64 ((e.cnt 1 0).2 : Int))) w' :=
    count_any e 1 0 B (w.heap.size + 1) W2 (Ex.at_kp hat k2) (by omega) hc hf (by omega) (by omega)
  have HC := Lib.hid HC
  have K2 := Lib.hid k2
  clear k1 kW hS hat k2
  obtain ⟨t0, t1, t2, t3, t4, t5⟩ := hS2
  go_wp2_with (go_at_call 22; go_fit HC.out; rintro r w2 ⟨rfl, k3⟩)
  go_ret
  exact ⟨ret_bool hok.out, (K2.out.set (by omega) _).trans k3⟩
end Go.Proofs.YthaphbbeiglolaaGreat
end

section
namespace Go.Proofs.YthaphbbeiglolaaGreat
open Go.RowKit Go.Sort

theorem depthL_mem {l : List Ex} {x : Ex} (h : x ∈ l) : x.depth ≤ Ex.depthL l := by
  induction l with
  | nil => cases h
  | cons y t ih =>
    rw [Ex.depthL_cons]
    rcases List.mem_cons.1 h with rfl | h
    · omega
    · have := ih h; omega
def DepthAt (e : Ex) : Prop := ∀ (B : Nat) (w : World), e.at w B → e.depth ≤ 1000 → Calls Tryz.prog 49 #[.agg #[.int .i64 e.kind, .int .i64 e.rn, .int .i64 e.rd, .string e.name, .int .i64 e.pw, .slice e.a e.l.length e.c]] w fun r w' => r = .returned (.int .i64 (e.depth : Int)) ∧ Kp w w'
set_option maxHeartbeats 2000000 in
set_option maxRecDepth 20000 in
theorem depth_any : ∀ e : Ex, DepthAt e := by
  refine Ex.ind fun e ih B w hat hd => ?_
  have k1 : Kp w (w.alloc (.cells #[.int .i64 e.kind, .int .i64 e.rn, .int .i64 e.rd, .string e.name, .int .i64 e.pw, .slice e.a e.l.length e.c] 26)) := (Kp.refl w).alloc _
  have hS : ((w.alloc (.cells #[.int .i64 e.kind, .int .i64 e.rn, .int .i64 e.rd, .string e.name, .int .i64 e.pw, .slice e.a e.l.length e.c] 26)).cell? ⟨w.heap.size, 0, none⟩ = some (.int .i64 e.kind) ∧ (w.alloc (.cells #[.int .i64 e.kind, .int .i64 e.rn, .int .i64 e.rd, .string e.name, .int .i64 e.pw, .slice e.a e.l.length e.c] 26)).cell? ⟨w.heap.size, 1, none⟩ = some (.int .i64 e.rn) ∧ (w.alloc (.cells #[.int .i64 e.kind, .int .i64 e.rn, .int .i64 e.rd, .string e.name, .int .i64 e.pw, .slice e.a e.l.length e.c] 26)).cell? ⟨w.heap.size, 2, none⟩ = some (.int .i64 e.rd) ∧ (w.alloc (.cells #[.int .i64 e.kind, .int .i64 e.rn, .int .i64 e.rd, .string e.name, .int .i64 e.pw, .slice e.a e.l.length e.c] 26)).cell? ⟨w.heap.size, 3, none⟩ = some (.string e.name) ∧ (w.alloc (.cells #[.int .i64 e.kind, .int .i64 e.rn, .int .i64 e.rd, .string e.name, .int .i64 e.pw, .slice e.a e.l.length e.c] 26)).cell? ⟨w.heap.size, 4, none⟩ = some (.int .i64 e.pw) ∧ (w.alloc (.cells #[.int .i64 e.kind, .int .i64 e.rn, .int .i64 e.rd, .string e.name, .int .i64 e.pw, .slice e.a e.l.length e.c] 26)).cell? ⟨w.heap.size, 5, none⟩ = some (.slice e.a e.l.length e.c)) := by simp
  obtain ⟨⟨hlc, hcm, hnm, hl⟩, hrow, hch⟩ := Ex.at_iff.1 hat
  have HD := Lib.hid e.depth_eq
  have hdl : Ex.depthL e.l ≤ 1000 := by have := e.depth_eq; omega
  go_enter Tryz.func49, Tryz.ntmps49
  go_upto_region 1 with fail
  generalize w.alloc _ = W at *
  have HR := Lib.hid (hrow.kp k1)
  have HC := Lib.hid fun x hx => Ex.at_kp (hch x hx) k1
  have HI := Lib.hid ih
  have K1 := Lib.hid k1
  clear hrow hch ih k1 hat
  obtain ⟨s0, s1, s2, s3, s4, s5⟩ := hS
  go_wp2
  go_loopw [3, 9] (fun x y wr => ∃ k m : Nat, k ≤ e.l.length ∧ x = .int .i64 (m : Int) ∧ y = .int .i64 (k : Int) ∧ max m (Ex.depthL (e.l.drop k)) = Ex.depthL e.l ∧ Kp W wr) (fun _ y _ => e.l.length - (intOf y).toNat)
  case atStart => exact ⟨0, 0, by omega, rfl, rfl, by simp, .refl _⟩
  case round =>
    obtain ⟨k, m, hk, rfl, rfl, hm, hkp⟩ := hrel
    have Hm := Lib.hid hm; clear hm
    by_cases hlt : k < e.l.length
    · obtain ⟨x, hx⟩ : ∃ x, e.l[k]? = some x := ⟨_, List.getElem?_eq_getElem hlt⟩
      have Hd := Lib.hid (show e.l.drop k = x :: e.l.drop (k + 1) from (List.drop_eq_getElem_cons hlt).trans (by rw [(List.getElem?_eq_some_iff.1 hx).2]))
      have hxm := List.mem_of_getElem? hx
      obtain ⟨b, o, ha, hb, h0, h1, h2, h3, h4, h5⟩ := (HR.out.kp hkp) k x hx
      have hxd : x.depth ≤ 1000 := by have := depthL_mem hxm; omega
      have HX := Lib.hid fun W' h => HI.out x hxm B W' (Ex.at_kp (HC.out x hxm) (hkp.trans h)) hxd
      have Hkp := Lib.hid hkp
      clear hx hxm hkp hdl
      rw [ha]
      have HX2 := Lib.hid (HX.out _ ((Kp.refl wr).alloc (.cells #[.int .i64 x.kind, .int .i64 x.rn, .int .i64 x.rd, .string x.name, .int .i64 x.pw, .slice x.a x.l.length x.c] 26)))
      go_wp2_with (go_at_call 49; go_fit HX2.out; rintro r w2 ⟨rfl, k2⟩)
      refine ⟨⟨k + 1, max m x.depth, by omega, by congr 1; omega, by congr 1, ?_, Hkp.out.trans (((Kp.refl wr).alloc _).trans k2)⟩, by simp [intOf]; omega⟩
      have := Hm.out
      rw [Hd.out, Ex.depthL_cons] at this
      omega
    · obtain rfl : k = e.l.length := by omega
      have hf := Hm.out
      rw [List.drop_length, Ex.depthL_nil, Nat.max_zero] at hf
      have Hf := Lib.hid hf
      have hm2 : (m : Int) ≤ 1000 := by omega
      clear hf hdl
      go_wp2
      go_ret
      exact ⟨ret_int (by rw [HD.out, ← Hf.out]; omega), K1.out.trans hkp⟩
/-- the depth of a valid expression; 0 for others -/
def depO (e : Ex) : Int := if e.ok = true then (e.depth : Int) else 0
set_option maxHeartbeats 2000000 in
set_option maxRecDepth 20000 in
/-- tree.Depth -/
theorem tdepth_any (e : Ex) (B : Nat) (w : World) (hat : e.at w B) (hB : B ≤ w.heap.size) : Calls Tryz.prog 21 #[.agg #[.int .i64 e.kind, .int .i64 e.rn, .int .i64 e.rd, .string e.name, .int .i64 e.pw, .slice e.a e.l.length e.c]] w fun r w' => r = .returned (.int .i64 (depO e)) ∧ Kp w w' := by
  have k1 : Kp w (w.alloc (.cells #[.int .i64 e.kind, .int .i64 e.rn, .int .i64 e.rd, .string e.name, .int .i64 e.pw, .slice e.a e.l.length e.c] 26)) := (Kp.refl w).alloc _
  have hS : ((w.alloc (.cells #[.int .i64 e.kind, .int .i64 e.rn, .int .i64 e.rd, .string e.name, .int .i64 e.pw, .slice e.a e.l.length e.c] 26)).cell? ⟨w.heap.size, 0, none⟩ = some (.int .i64 e.kind) ∧ (w.alloc (.cells #[.int .i64 e.kind, .int .i64 e.rn, .int .i64 e.rd, .string e.name, .int .i64 e.pw, .slice e.a e.l.length e.c] 26)).cell? ⟨w.heap.size, 1, none⟩ = some (.int .i64 e.rn) ∧ (w.alloc (.cells #[.int .i64 e.kind, .int .i64 e.rn, .int .i64 e.rd, .string e.name, .int .i64 e.pw, .slice e.a e.l.length e.c] 26)).cell? ⟨w.heap.size, 2, none⟩ = some (.int .i64 e.rd) ∧ (w.alloc (.cells #[.int .i64 e.kind, .int .i64 e.rn, .int .i64 e.rd, .string e.name, .int .i64 e.pw, .slice e.a e.l.length e.c] 26)).cell? ⟨w.heap.size, 3, none⟩ = some (.string e.name) ∧ (w.alloc (.cells #[.int .i64 e.kind, .int .i64 e.rn, .int .i64 e.rd, .string e.name, .int .i64 e.pw, .slice e.a e.l.length e.c] 26)).cell? ⟨w.heap.size, 4, none⟩ = some (.int .i64 e.pw) ∧ (w.alloc (.cells #[.int .i64 e.kind, .int .i64 e.rn, .int .i64 e.rd, .string e.name, .int .i64 e.pw, .slice e.a e.l.length e.c] 26)).cell? ⟨w.heap.size, 5, none⟩ = some (.slice e.a e.l.length e.c)) := by simp
  go_enter Tryz.func21, Tryz.ntmps21
  go_upto_region 1 with fail
  generalize w.alloc _ = W at *
  have HV := Lib.hid (tvalid_any e B W (Ex.at_kp hat k1) (Nat.le_trans hB k1.size))
  have K1 := Lib.hid k1
  have HA := Lib.hid (Ex.at_kp hat k1)
  clear hat k1
  obtain ⟨q0, q1, q2, q3, q4, q5⟩ := hS
  rcases Bool.eq_false_or_eq_true e.ok with hk | hk
  · have hd : e.depth ≤ 1000 := by
      have h := hk
      unfold Ex.ok at h
      simp only [Bool.and_eq_true, decide_eq_true_eq] at h
      omega
    rw [hk] at HV
    have Hk := Lib.hid hk
    clear hk
    have HD := Lib.hid fun W' h => depth_any e B W' (Ex.at_kp HA.out h) hd
    go_wp2_with (first
      | (go_at_call 6; go_fit HV.out; rintro r w2 ⟨rfl, k2⟩; obtain ⟨t0, t1, t2, t3, t4, t5⟩ := keepE6 k2 ⟨q0, q1, q2, q3, q4, q5⟩)
      | (go_at_call 49; go_fit (HD.out _ k2); rintro r w3 ⟨rfl, k3⟩)
      | fail)
    go_ret
    exact ⟨ret_int (by unfold depO; rw [if_pos Hk.out]), (K1.out.trans k2).trans k3⟩
  · rw [hk] at HV
    have Hk := Lib.hid hk
    clear hk
    go_wp2_with (go_at_call 6; go_fit HV.out; rintro r w2 ⟨rfl, k2⟩)
    go_ret
    exact ⟨ret_int (by unfold depO; rw [if_neg (by rw [Hk.out]; decide)]), K1.out.trans k2⟩
end Go.Proofs.YthaphbbeiglolaaGreat
end

section
namespace Go.Proofs.YthaphbbeiglolaaGreat
open Go.RowKit

/-- the six cells of a node -/
def Ex.cells (x : Ex) : List Value := [.int .i64 x.kind, .int .i64 x.rn, .int .i64 x.rd, .string x.name, .int .i64 x.pw, .slice x.a x.l.length x.c]
theorem Ex.cells_len (x : Ex) : x.cells.length = 6 := rfl
theorem flatX_len (zs : List Ex) : (zs.flatMap Ex.cells).length = zs.length * 6 := by
  induction zs with
  | nil => rfl
  | cons z zs ih => rw [List.flatMap_cons, List.length_append, ih, Ex.cells_len, List.length_cons]; omega
theorem flatX_get {zs : List Ex} {i : Nat} {x : Ex} (h : zs[i]? = some x) {j : Nat} (hj : j < 6) : (zs.flatMap Ex.cells)[i * 6 + j]? = x.cells[j]? := by
  induction zs generalizing i with
  | nil => simp at h
  | cons z zs ih =>
    rw [List.flatMap_cons]
    cases i with
    | zero =>
      simp only [List.getElem?_cons_zero, Option.some.injEq] at h
      subst h
      rw [List.getElem?_append_left (by rw [Ex.cells_len]; omega), Nat.zero_mul, Nat.zero_add]
    | succ i =>
      rw [List.getElem?_cons_succ] at h
      rw [List.getElem?_append_right (by rw [Ex.cells_len]; omega), Ex.cells_len, ← ih h]
      congr 1; omega
mutual
/-- the elements lie in blocks from lo on, below hi, each tree behind the one before it; none is frozen -/
def Ex.own (w : World) : Ex → Nat → Nat → Prop
  | .mk _ _ _ _ _ a _ l, lo, hi => lo ≤ hi ∧ (l = [] ∨ ∃ b, a = some ⟨b, 0, none⟩ ∧ lo ≤ b ∧ (∀ i, i < l.length * 6 → w.frozen? ⟨b, i, none⟩ = false) ∧ Ex.ownL w l (b + 1) hi)
def Ex.ownL (w : World) : List Ex → Nat → Nat → Prop
  | [], lo, hi => lo ≤ hi
  | x :: t, lo, hi => ∃ m, x.own w lo m ∧ Ex.ownL w t m hi
end
theorem Ex.own_iff {w : World} {e : Ex} {lo hi : Nat} : e.own w lo hi ↔ lo ≤ hi ∧ (e.l = [] ∨ ∃ b, e.a = some ⟨b, 0, none⟩ ∧ lo ≤ b ∧ (∀ i, i < e.l.length * 6 → w.frozen? ⟨b, i, none⟩ = false) ∧ Ex.ownL w e.l (b + 1) hi) := by
  cases e; rw [Ex.own]; exact Iff.rfl
theorem Ex.ownL_nil {w : World} {lo hi : Nat} : Ex.ownL w [] lo hi ↔ lo ≤ hi := by rw [Ex.ownL]
theorem Ex.ownL_cons {w : World} {x : Ex} {t : List Ex} {lo hi : Nat} : Ex.ownL w (x :: t) lo hi ↔ ∃ m, x.own w lo m ∧ Ex.ownL w t m hi := by rw [Ex.ownL]
theorem Ex.own_le {w : World} {e : Ex} {lo hi : Nat} (h : e.own w lo hi) : lo ≤ hi := (Ex.own_iff.1 h).1
theorem Ex.ownL_le {w : World} : ∀ {l : List Ex} {lo hi : Nat}, Ex.ownL w l lo hi → lo ≤ hi
  | [], _, _, h => Ex.ownL_nil.1 h
  | _ :: _, _, _, h => by
    obtain ⟨m, h1, h2⟩ := Ex.ownL_cons.1 h
    exact Nat.le_trans (Ex.own_le h1) (Ex.ownL_le h2)
theorem Ex.ownL_up {w : World} : ∀ {l : List Ex} {lo hi hi' : Nat}, (∀ x ∈ l, ∀ lo hi hi', hi ≤ hi' → x.own w lo hi → x.own w lo hi') → hi ≤ hi' → Ex.ownL w l lo hi → Ex.ownL w l lo hi'
  | [], _, _, _, _, hh, h => Ex.ownL_nil.2 (Nat.le_trans (Ex.ownL_nil.1 h) hh)
  | x :: t, _, _, _, hx, hh, h => by
    obtain ⟨m, h1, h2⟩ := Ex.ownL_cons.1 h
    exact Ex.ownL_cons.2 ⟨m, h1, Ex.ownL_up (fun y hy => hx y (.tail _ hy)) hh h2⟩
theorem Ex.own_up' {w : World} : ∀ (e : Ex) (lo hi hi' : Nat), hi ≤ hi' → e.own w lo hi → e.own w lo hi' := by
  refine Ex.ind fun e ih lo hi hi' hh h => ?_
  obtain ⟨h1, h2⟩ := Ex.own_iff.1 h
  refine Ex.own_iff.2 ⟨by omega, ?_⟩
  rcases h2 with h2 | ⟨b, h3, h4, h5, h6⟩
  · exact .inl h2
  · exact .inr ⟨b, h3, h4, h5, Ex.ownL_up (fun x hx => ih x hx) hh h6⟩
theorem Ex.own_up {w : World} {e : Ex} {lo hi hi' : Nat} (h : e.own w lo hi) (hh : hi ≤ hi') : e.own w lo hi' := Ex.own_up' e lo hi hi' hh h
theorem Ex.own_down {w : World} {e : Ex} {lo lo' hi : Nat} (h : e.own w lo hi) (hh : lo' ≤ lo) : e.own w lo' hi := by
  obtain ⟨h1, h2⟩ := Ex.own_iff.1 h
  refine Ex.own_iff.2 ⟨by omega, ?_⟩
  rcases h2 with h2 | ⟨b, h3, h4, h5, h6⟩
  · exact .inl h2
  · exact .inr ⟨b, h3, by omega, h5, h6⟩
theorem Ex.ownL_snoc {w : World} {x : Ex} : ∀ {l : List Ex} {lo m hi : Nat}, Ex.ownL w l lo m → x.own w m hi → Ex.ownL w (l ++ [x]) lo hi
  | [], lo, m, hi, h, hx => Ex.ownL_cons.2 ⟨hi, Ex.own_down hx (Ex.ownL_nil.1 h), Ex.ownL_nil.2 (Nat.le_refl _)⟩
  | y :: t, lo, m, hi, h, hx => by
    obtain ⟨m', h1, h2⟩ := Ex.ownL_cons.1 h
    exact Ex.ownL_cons.2 ⟨m', h1, Ex.ownL_snoc h2 hx⟩
/-- what lies below hi alone matters -/
theorem Ex.ownL_same {w w' : World} : ∀ {l : List Ex} {lo hi : Nat}, (∀ x ∈ l, ∀ lo hi, (∀ b i, lo ≤ b → b < hi → w'.frozen? ⟨b, i, none⟩ = w.frozen? ⟨b, i, none⟩) → x.own w lo hi → x.own w' lo hi) →
    (∀ b i, lo ≤ b → b < hi → w'.frozen? ⟨b, i, none⟩ = w.frozen? ⟨b, i, none⟩) → Ex.ownL w l lo hi → Ex.ownL w' l lo hi
  | [], _, _, _, _, h => Ex.ownL_nil.2 (Ex.ownL_nil.1 h)
  | x :: t, lo, hi, hx, hf, h => by
    obtain ⟨m, h1, h2⟩ := Ex.ownL_cons.1 h
    have h3 := Ex.own_le h1
    have h4 := Ex.ownL_le h2
    exact Ex.ownL_cons.2 ⟨m, hx x (.head _) _ _ (fun b i hb hb2 => hf b i hb (by omega)) h1, Ex.ownL_same (fun y hy => hx y (.tail _ hy)) (fun b i hb hb2 => hf b i (by omega) hb2) h2⟩
theorem Ex.own_same {w w' : World} : ∀ (e : Ex) (lo hi : Nat), (∀ b i, lo ≤ b → b < hi → w'.frozen? ⟨b, i, none⟩ = w.frozen? ⟨b, i, none⟩) → e.own w lo hi → e.own w' lo hi := by
  refine Ex.ind fun e ih lo hi hf h => ?_
  obtain ⟨h1, h2⟩ := Ex.own_iff.1 h
  refine Ex.own_iff.2 ⟨h1, ?_⟩
  rcases h2 with h2 | ⟨b, h3, h4, h5, h6⟩
  · exact .inl h2
  · have h7 := Ex.ownL_le h6
    exact .inr ⟨b, h3, h4, fun i hi => (hf b i h4 (by omega)).trans (h5 i hi), Ex.ownL_same (fun x hx => ih x hx) (fun b' i hb hb2 => hf b' i (by omega) hb2) h6⟩
theorem Ex.ownL_kp {w w' : World} {l : List Ex} {lo hi : Nat} (h : Ex.ownL w l lo hi) (hf : ∀ b i, lo ≤ b → b < hi → w'.frozen? ⟨b, i, none⟩ = w.frozen? ⟨b, i, none⟩) : Ex.ownL w' l lo hi := Ex.ownL_same (fun x _ => Ex.own_same x) hf h
/-- a tree that lies in its own blocks stays there if they stay -/
theorem Ex.at_own' {w w' : World} {B B' : Nat} (hB : B ≤ B') : ∀ (e : Ex) (lo hi : Nat), e.own w lo hi → (∀ b i v, lo ≤ b → b < hi → w.cell? ⟨b, i, none⟩ = some v → w'.cell? ⟨b, i, none⟩ = some v) → e.at w B → e.at w' B' := by
  refine Ex.ind fun e ih lo hi ho hc h => ?_
  obtain ⟨h1, h2, h3⟩ := Ex.at_iff.1 h
  obtain ⟨_, ho2⟩ := Ex.own_iff.1 ho
  rcases ho2 with he | ⟨b, ha, hb, _, hL⟩
  · exact Ex.at_iff.2 ⟨h1, fun i x hx => by rw [he] at hx; simp at hx, fun x hx => by rw [he] at hx; simp at hx⟩
  · have hbh := Ex.ownL_le hL
    have key : ∀ (l : List Ex) (lo' : Nat), b + 1 ≤ lo' → Ex.ownL w l lo' hi → (∀ x ∈ l, x ∈ e.l) → ∀ x ∈ l, x.at w' B' := by
      intro l
      induction l with
      | nil => intro _ _ _ _ x hx; cases hx
      | cons y t iht =>
        intro lo' hlo hl hm x hx
        obtain ⟨m, k1, k2⟩ := Ex.ownL_cons.1 hl
        have k3 := Ex.own_le k1
        have k4 := Ex.ownL_le k2
        rcases List.mem_cons.1 hx with rfl | hx
        · exact ih x (hm x (.head _)) lo' m k1 (fun b' i v q1 q2 => hc b' i v (by omega) (by omega)) (h3 x (hm x (.head _)))
        · exact iht m (by omega) k2 (fun z hz => hm z (.tail _ hz)) x hx
    refine Ex.at_iff.2 ⟨h1, fun i x hx => ?_, key e.l (b + 1) (Nat.le_refl _) hL fun x hx => hx⟩
    obtain ⟨b', o, e1, hb', c0, c1, c2, c3, c4, c5⟩ := h2 i x hx
    rw [ha] at e1
    cases e1
    exact ⟨b, 0, ha, by omega, hc _ _ _ hb (by omega) c0, hc _ _ _ hb (by omega) c1, hc _ _ _ hb (by omega) c2, hc _ _ _ hb (by omega) c3, hc _ _ _ hb (by omega) c4, hc _ _ _ hb (by omega) c5⟩
/-- a tree made since the world w0 -/
def Ex.made (w0 w : World) (e : Ex) : Prop := e.at w w.heap.size ∧ e.own w w0.heap.size w.heap.size
theorem Ex.at_up {w : World} {e : Ex} {B B' : Nat} (h : e.at w B) (hB : B ≤ B') : e.at w B' := Ex.same hB (fun _ _ _ _ h => h) e h
theorem frozen_kpT {w w' : World} (k : Kp w w') {b i : Nat} (hb : b < w.heap.size) : w'.frozen? ⟨b, i, none⟩ = w.frozen? ⟨b, i, none⟩ := Below.frozen (p := ⟨b, i, none⟩) k hb
theorem Ex.made_kp {w0 w w' : World} {e : Ex} (h : e.made w0 w) (k : Kp w w') : e.made w0 w' :=
  ⟨Ex.at_up (Ex.at_kp h.1 k) k.size, Ex.own_up (Ex.own_same e _ _ (fun _ _ _ hb => frozen_kpT k hb) h.2) k.size⟩
theorem Ex.made_from {w0 w1 w : World} {e : Ex} (h : e.made w1 w) (k : w0.heap.size ≤ w1.heap.size) : e.made w0 w := ⟨h.1, Ex.own_down h.2 k⟩
/-- block g shows the trees' nodes; none is frozen -/
def RowC (w : World) (g : Nat) (xs : List Ex) : Prop := (∀ (i : Nat) (x : Ex), xs[i]? = some x → w.cell? ⟨g, i * 6, none⟩ = some (.int .i64 x.kind) ∧ w.cell? ⟨g, i * 6 + 1, none⟩ = some (.int .i64 x.rn) ∧ w.cell? ⟨g, i * 6 + 2, none⟩ = some (.int .i64 x.rd) ∧ w.cell? ⟨g, i * 6 + 3, none⟩ = some (.string x.name) ∧ w.cell? ⟨g, i * 6 + 4, none⟩ = some (.int .i64 x.pw) ∧ w.cell? ⟨g, i * 6 + 5, none⟩ = some (.slice x.a x.l.length x.c)) ∧ (∀ i, i < xs.length * 6 → w.frozen? ⟨g, i, none⟩ = false) ∧ g < w.heap.size
theorem RowC.kp {w w' : World} {g : Nat} {xs : List Ex} (h : RowC w g xs) (k : Kp w w') : RowC w' g xs :=
  ⟨fun i x hx => keepE6 k (h.1 i x hx), fun i hi => (frozen_kpT k h.2.2).trans (h.2.1 i hi), Nat.lt_of_lt_of_le h.2.2 k.size⟩
/-- six cells stored into a row -/
theorem RowC.set {w W : World} {g k : Nat} {xs : List Ex} {x y : Ex} (h : RowC w g xs) (hk : xs[k]? = some y)
    (hs : W.cell? ⟨g, k * 6, none⟩ = some (.int .i64 x.kind) ∧ W.cell? ⟨g, k * 6 + 1, none⟩ = some (.int .i64 x.rn) ∧ W.cell? ⟨g, k * 6 + 2, none⟩ = some (.int .i64 x.rd) ∧ W.cell? ⟨g, k * 6 + 3, none⟩ = some (.string x.name) ∧ W.cell? ⟨g, k * 6 + 4, none⟩ = some (.int .i64 x.pw) ∧ W.cell? ⟨g, k * 6 + 5, none⟩ = some (.slice x.a x.l.length x.c)) (ho : ∀ p : Addr, p.block ≠ g ∨ p.off < k * 6 ∨ k * 6 + 6 ≤ p.off → p.spot = none → W.cell? p = w.cell? p) (hf : ∀ p, W.frozen? p = w.frozen? p) (hz : W.heap.size = w.heap.size) : RowC W g (xs.set k x) := by
  refine ⟨fun i z hi => ?_, fun i hi => (hf _).trans (h.2.1 i (by simpa using hi)), by rw [hz]; exact h.2.2⟩
  by_cases hik : k = i
  · subst hik
    have hkl := (List.getElem?_eq_some_iff.1 hk).1
    rw [List.getElem?_set_self hkl] at hi
    cases hi
    exact hs
  · rw [List.getElem?_set_ne hik] at hi
    obtain ⟨h0, h1, h2, h3, h4, h5⟩ := h.1 i z hi
    have q (j : Nat) (hj : j < 6) : W.cell? ⟨g, i * 6 + j, none⟩ = w.cell? ⟨g, i * 6 + j, none⟩ := ho ⟨g, i * 6 + j, none⟩ (by simp only; omega) rfl
    exact ⟨(q 0 (by omega)).trans h0, (q 1 (by omega)).trans h1, (q 2 (by omega)).trans h2, (q 3 (by omega)).trans h3, (q 4 (by omega)).trans h4, (q 5 (by omega)).trans h5⟩
end Go.Proofs.YthaphbbeiglolaaGreat
end

section
namespace Go.Proofs.YthaphbbeiglolaaGreat
open Go.RowKit Go.Sort

theorem infoExp : (Tryz.prog.info? 26).map (fun i => (i.zero, i.size, i.bytes)) = some (some (.agg #[.int .i64 0, .int .i64 0, .int .i64 0, .string ByteArray.empty, .int .i64 0, .slice none 0 0]), 6, 72) := by kernel_rfl
theorem nil_exp (w : World) (a : Option Addr) (n c n' c' : Nat) : (binOp .eql 24 (.slice a n c) (.slice none n' c')).run Tryz.prog w = .ok (.bool a.isNone) w :=
  Lib.run_eql_slice_nil w _ _ a n c n' c' Tryz.underlying24
/-- what an own row of trees shows -/
theorem rowC_of {w : World} {base n : Nat} {v : Value} {xs : List Ex} (h : w.ownsRow base 26 6 v xs.length (xs.flatMap Ex.cells)) (hn : xs.length = n) :
    ∃ a c, v = .slice a n c ∧ n ≤ c ∧ c ≤ maxLen ∧ (xs = [] ∨ ∃ g, a = some ⟨g, 0, none⟩ ∧ base ≤ g ∧ RowC w g xs) := by
  subst hn
  obtain ⟨h2, h3⟩ := h
  rcases h3 with ⟨rfl, h3⟩ | ⟨g, cap, cur, rfl, hb, hg, hn, hc, hs, ht⟩
  · have h0 : xs = [] := List.length_eq_zero_iff.1 h3
    subst h0
    exact ⟨none, 0, rfl, Nat.le_refl _, by decide, .inl rfl⟩
  · refine ⟨_, _, rfl, hn, hc, .inr ⟨g, rfl, hb, fun i x hi => ?_, fun i _ => frozen_of_row w g i cur _ hg, (Array.getElem?_eq_some_iff.1 hg).1⟩⟩
    have hil : i < xs.length := (List.getElem?_eq_some_iff.1 hi).1
    have key (j : Nat) (hj : j < 6) (u : Value) (hu : x.cells[j]? = some u) : w.cell? ⟨g, i * 6 + j, none⟩ = some u := by
      rw [cell_of_row w g _ cur _ _ hg]
      have h5 : (cur.toList.take (xs.length * 6))[i * 6 + j]? = some u := by rw [ht, flatX_get hi hj, hu]
      rw [List.getElem?_take, if_pos (by omega)] at h5
      simpa using h5
    exact ⟨key 0 (by decide) _ rfl, key 1 (by decide) _ rfl, key 2 (by decide) _ rfl, key 3 (by decide) _ rfl, key 4 (by decide) _ rfl, key 5 (by decide) _ rfl⟩
/-- append of trees that are read to the call's own slice -/
theorem wpList_append_exs {w : World} {ops : Array Oper} {rest : List Oper} {o : Oper} {a : Act} {Q : Exit → Act → World → Prop} (hgd : o.guard = none) (s x : Operand)
    (ho : o.op = .call { callee := .builtin .append, args := #[s, x], argTypes := #[24, 24] })
    (base : Nat) (v : Value) (zs : List Ex) (hs : a.eval s = v) (hown : w.ownsRow base 26 6 v zs.length (zs.flatMap Ex.cells)) (hbase : base ≤ w.heap.size)
    (ad : Addr) (B c : Nat) (ys : List Ex) (hx : a.eval x = .slice (some ad) ys.length c)
    (hrow : RowX w B (some ad) ys) (hlen : zs.length + ys.length ≤ 9000000)
    (h : ∀ v' w', w'.ownsRow base 26 6 v' (zs ++ ys).length ((zs ++ ys).flatMap Ex.cells) → Below base w w' → wpList Tryz.prog ops Q rest (a.put o.dst v') w') :
    wpList Tryz.prog ops Q (o :: rest) a w := by
  obtain ⟨i0, hi, hz0, hz1, hz2⟩ := info_parts infoExp
  refine wpList_append_own w hgd s x 24 ho base 26 i0 _ 6 72 Tryz.underlying24 hi hz0 hz1 hz2 rfl (by decide) v zs.length (zs.flatMap Ex.cells) hs hown
    ad ys.length c (ys.flatMap Ex.cells) hx (flatX_len ys) ?_ ?_ (by unfold maxLen; omega) (by omega) hbase ?_
  · intro j u hj
    have hjl : j < ys.length * 6 := by have := (List.getElem?_eq_some_iff.1 hj).1; rwa [flatX_len] at this
    obtain ⟨k, r, hr, rfl⟩ : ∃ k r, r < 6 ∧ j = k * 6 + r := ⟨j / 6, j % 6, Nat.mod_lt _ (by decide), by omega⟩
    have hk : k < ys.length := by omega
    obtain ⟨b', o', e', _, h0, h1, h2, h3, h4, h5⟩ := hrow k ys[k] (List.getElem?_eq_getElem hk)
    cases e'
    rw [flatX_get (List.getElem?_eq_getElem hk) hr] at hj
    rw [Addr.add_lit]
    match r, hr, hj with
    | 0, _, hj => cases hj; exact h0
    | 1, _, hj => cases hj; exact h1
    | 2, _, hj => cases hj; exact h2
    | 3, _, hj => cases hj; exact h3
    | 4, _, hj => cases hj; exact h4
    | 5, _, hj => cases hj; exact h5
    | r + 6, hr, _ => omega
  · intro u hu
    obtain ⟨y, _, hu⟩ := List.mem_flatMap.1 hu
    simp only [Ex.cells, List.mem_cons, List.not_mem_nil, or_false] at hu
    rcases hu with rfl | rfl | rfl | rfl | rfl | rfl <;> rfl
  · intro v' w' h1 h2 _
    have hb : Below base w w' := (Below.refl base w).grown h2 hbase (fun k hk => (hown.lt k hk).1)
    refine h v' w' ?_ hb
    rw [List.flatMap_append, List.length_append]
    exact h1
set_option maxHeartbeats 4000000 in
theorem clonex_any (a : Option Addr) (c B : Nat) (l : List Ex) (w : World) (h : RowX w B a l) (hl : l.length ≤ 1100000) :
    Calls Tryz.prog 76 #[.slice a l.length c] w fun e w' => ∃ a' c', e = .returned (.slice a' l.length c') ∧ l.length ≤ c' ∧ c' ≤ maxLen ∧ Kp w w' ∧ (l = [] ∨ ∃ g, a' = some ⟨g, 0, none⟩ ∧ w.heap.size ≤ g ∧ RowC w' g l) := by
  have hn := nil_exp
  have hrow := h.kp ((Kp.refl w).alloc (.cells #[] 26))
  cases a with
  | none =>
    have hys : l = [] := by
      cases l with
      | nil => rfl
      | cons x t => obtain ⟨b, o, e, _⟩ := h 0 x rfl; cases e
    subst hys
    clear h hrow
    go_enter Tryz.func76, Tryz.ntmps76
    go_wp2_with fail
    go_ret
    exact ⟨none, 0, rfl, Nat.le_refl _, by unfold maxLen; omega, .refl _, .inl (by first | rfl | trivial)⟩
  | some ad =>
    clear h
    go_enter Tryz.func76, Tryz.ntmps76
    go_wp2_with (at_builtin; refine wpList_append_exs rfl _ _ rfl w.heap.size _ [] rfl (World.ownsRow_made w #[] 0 (Nat.le_refl _) (Nat.zero_le _) rfl) (by simp) ad B c l rfl hrow (by simp; omega) ?_; intro v' w5 hown5 hb5; rw [List.nil_append] at hown5; obtain ⟨a', c', rfl, hc1, hc2, hr⟩ := rowC_of hown5 rfl)
    go_ret
    exact ⟨a', c', rfl, hc1, hc2, ((Kp.refl w).alloc _).below.trans hb5, hr⟩
theorem cellset_ne {w : World} {g i : Nat} {p : Addr} {v : Value} (h : (⟨g, i, none⟩ : Addr) ≠ p) : (w.setCell ⟨g, i, none⟩ v).cell? p = w.cell? p := by
  rw [World.cell?_setCell_other]; exact h
theorem cellset_eq {w : World} {g i : Nat} {v u : Value} (h : w.cell? ⟨g, i, none⟩ = some u) : (w.setCell ⟨g, i, none⟩ v).cell? ⟨g, i, none⟩ = some v := by
  apply World.cell?_setCell_same; exact h
/-- six cells stored from offset o on -/
def Stored6 (g o : Nat) (x : Ex) (w W : World) : Prop := (W.cell? ⟨g, o, none⟩ = some (.int .i64 x.kind) ∧ W.cell? ⟨g, o + 1, none⟩ = some (.int .i64 x.rn) ∧ W.cell? ⟨g, o + 2, none⟩ = some (.int .i64 x.rd) ∧ W.cell? ⟨g, o + 3, none⟩ = some (.string x.name) ∧ W.cell? ⟨g, o + 4, none⟩ = some (.int .i64 x.pw) ∧ W.cell? ⟨g, o + 5, none⟩ = some (.slice x.a x.l.length x.c)) ∧ (∀ p : Addr, p.block ≠ g ∨ p.off < o ∨ o + 6 ≤ p.off → W.cell? p = w.cell? p) ∧ (∀ p, W.frozen? p = w.frozen? p) ∧ W.heap.size = w.heap.size ∧ ∀ a : World, Kp a w → a.heap.size ≤ g → Kp a W
theorem stored6X {w : World} {g o : Nat} {y : Ex} (x : Ex) (q : w.cell? ⟨g, o, none⟩ = some (.int .i64 y.kind) ∧ w.cell? ⟨g, o + 1, none⟩ = some (.int .i64 y.rn) ∧ w.cell? ⟨g, o + 2, none⟩ = some (.int .i64 y.rd) ∧ w.cell? ⟨g, o + 3, none⟩ = some (.string y.name) ∧ w.cell? ⟨g, o + 4, none⟩ = some (.int .i64 y.pw) ∧ w.cell? ⟨g, o + 5, none⟩ = some (.slice y.a y.l.length y.c)) :
    Stored6 g o x w ((((((w.setCell ⟨g, o, none⟩ (.int .i64 x.kind)).setCell ⟨g, o + 1, none⟩ (.int .i64 x.rn)).setCell ⟨g, o + 2, none⟩ (.int .i64 x.rd)).setCell ⟨g, o + 3, none⟩ (.string x.name)).setCell ⟨g, o + 4, none⟩ (.int .i64 x.pw)).setCell ⟨g, o + 5, none⟩ (.slice x.a x.l.length x.c)) := by
  obtain ⟨q0, q1, q2, q3, q4, q5⟩ := q
  have ne (i j : Nat) (h : i ≠ j) : (⟨g, i, none⟩ : Addr) ≠ ⟨g, j, none⟩ := fun e => h (by injection e)
  refine ⟨⟨?_, ?_, ?_, ?_, ?_, ?_⟩, fun p hp => ?_, fun p => by simp, by simp, fun a k hg => (((((k.set hg _).set hg _).set hg _).set hg _).set hg _).set hg _⟩
  · rw [cellset_ne (ne _ _ (by omega)), cellset_ne (ne _ _ (by omega)), cellset_ne (ne _ _ (by omega)), cellset_ne (ne _ _ (by omega)), cellset_ne (ne _ _ (by omega))]
    exact cellset_eq q0
  · rw [cellset_ne (ne _ _ (by omega)), cellset_ne (ne _ _ (by omega)), cellset_ne (ne _ _ (by omega)), cellset_ne (ne _ _ (by omega))]
    exact cellset_eq (by rw [cellset_ne (ne _ _ (by omega))]; exact q1)
  · rw [cellset_ne (ne _ _ (by omega)), cellset_ne (ne _ _ (by omega)), cellset_ne (ne _ _ (by omega))]
    exact cellset_eq (by rw [cellset_ne (ne _ _ (by omega)), cellset_ne (ne _ _ (by omega))]; exact q2)
  · rw [cellset_ne (ne _ _ (by omega)), cellset_ne (ne _ _ (by omega))]
    exact cellset_eq (by rw [cellset_ne (ne _ _ (by omega)), cellset_ne (ne _ _ (by omega)), cellset_ne (ne _ _ (by omega))]; exact q3)
  · rw [cellset_ne (ne _ _ (by omega))]
    exact cellset_eq (by rw [cellset_ne (ne _ _ (by omega)), cellset_ne (ne _ _ (by omega)), cellset_ne (ne _ _ (by omega)), cellset_ne (ne _ _ (by omega))]; exact q4)
  · exact cellset_eq (by rw [cellset_ne (ne _ _ (by omega)), cellset_ne (ne _ _ (by omega)), cellset_ne (ne _ _ (by omega)), cellset_ne (ne _ _ (by omega)), cellset_ne (ne _ _ (by omega))]; exact q5)
  · have hne (i : Nat) (hi : i < 6) : (⟨g, o + i, none⟩ : Addr) ≠ p := fun e => by
      rw [← e] at hp
      simp only at hp
      omega
    rw [cellset_ne (hne 5 (by omega)), cellset_ne (hne 4 (by omega)), cellset_ne (hne 3 (by omega)), cellset_ne (hne 2 (by omega)), cellset_ne (hne 1 (by omega))]
    exact cellset_ne (hne 0 (by omega))
theorem RowC.stored {w W : World} {g k : Nat} {xs : List Ex} {x y : Ex} (h : RowC w g xs) (hk : xs[k]? = some y) (hs : Stored6 g (k * 6) x w W) : RowC W g (xs.set k x) :=
  h.set hk hs.1 (fun p hp _ => hs.2.1 p hp) hs.2.2.1 hs.2.2.2.1
end Go.Proofs.YthaphbbeiglolaaGreat
end
