/-
  Walks: tree.count, Valid.
-/
import Derived.Test.YthaphbbeiglolaaNodN
import Derived.Test.YthaphbbeiglolaaIdxX
import Derived.Sort.Row
namespace Go.Proofs.Ythaphbbeiglolaa
open Go.RowKit Go.Sort

theorem setcell_twice (w : World) (g : Nat) (v v' : Value) : (w.setCell ⟨g, 0, none⟩ v).setCell ⟨g, 0, none⟩ v' = w.setCell ⟨g, 0, none⟩ v' := by
  rw [setCell_eq, setCell_eq, mapBlock_mapBlock, setCell_eq]
  congr 1
  funext c
  simp
theorem cell_ltT {w : World} {g i : Nat} {v : Value} (h : w.cell? ⟨g, i, none⟩ = some v) : g < w.heap.size := by
  rcases Nat.lt_or_ge g w.heap.size with h1 | h1
  · exact h1
  · simp [World.cell?, Array.getElem?_eq_none h1] at h
theorem set_same {w : World} {g : Nat} {v : Value} (h : w.cell? ⟨g, 0, none⟩ = some v) : w.setCell ⟨g, 0, none⟩ v = w := by
  have hg := cell_ltT h
  have hh : w.heap[g]? = some (w.heap[g]'hg) := Array.getElem?_eq_getElem hg
  rw [setCell_eq]
  unfold mapBlock
  have he : w.heap.modify g (onCells (·.setIfInBounds 0 v)) = w.heap := by
    apply Array.ext
    · simp
    · intro k h1 h2
      rw [Array.getElem_modify]
      split
      · subst k
        unfold World.cell? at h
        simp only [hh] at h
        cases ho : w.heap[g]'hg with
        | cells c e fr =>
          rw [ho] at h
          simp only [onCells]
          have h' : c[0]? = some v := by simpa using h
          have hc : c.setIfInBounds 0 v = c := by
            apply Array.ext
            · simp
            · intro q q1 q2
              rw [Array.getElem_setIfInBounds]
              split
              · subst q
                rw [Array.getElem?_eq_getElem q2] at h'
                injection h' with h'
                exact h'.symm
              · rfl
          rw [hc]
        | _ => rfl
      · rfl
  rw [he]
theorem keep_set {w : World} {g s i : Nat} {v u : Value} (hs : w.cell? ⟨s, i, none⟩ = some v) (h : g < s) : (w.setCell ⟨g, 0, none⟩ u).cell? ⟨s, i, none⟩ = some v := by
  rw [setcell_ne (fun e => by injection e with e1; omega)]; exact hs
theorem new_cell (u : World) (v : Value) (t : TypeId) (s : Nat) (h : u.heap.size = s) : (u.alloc (.cells #[v] t)).cell? ⟨s, 0, none⟩ = some v := by subst h; simp
/-- count's contract at an expression -/
def CountAt (e : Ex) : Prop := ∀ (dp n B g : Nat) (w : World), e.at w B → B ≤ g → w.cell? ⟨g, 0, none⟩ = some (.int .i64 (n : Int)) → w.frozen? ⟨g, 0, none⟩ = false → dp ≤ 21 → n ≤ 200 →
  Calls Try.prog 51 #[.agg #[.int .i64 e.kind, .int .i64 e.rn, .int .i64 e.rd, .string e.name, .int .i64 e.pw, .slice e.a e.l.length e.c], .int .i64 (dp : Int), .pointer (some ⟨g, 0, none⟩)] w fun r w' => r = .returned (.bool (e.cnt dp n).1) ∧ Kp (w.setCell ⟨g, 0, none⟩ (.int .i64 ((e.cnt dp n).2 : Int))) w'
set_option maxHeartbeats 2000000 in
set_option maxRecDepth 20000 in
/-- the closure of tree.count -/
theorem count1_any (x : Ex) (hx : CountAt x) (dp m B g p1 p2 : Nat) (w : World) (hat : x.at w B) (hB : B ≤ g) (hD : w.cell? ⟨p1, 0, none⟩ = some (.int .i64 (dp : Int))) (hP : w.cell? ⟨p2, 0, none⟩ = some (.pointer (some ⟨g, 0, none⟩)))
    (hg : w.cell? ⟨g, 0, none⟩ = some (.int .i64 (m : Int))) (hf : w.frozen? ⟨g, 0, none⟩ = false) (hdp : dp ≤ 20) (hm : m ≤ 200) :
    Calls Try.prog 70 #[.agg #[.int .i64 x.kind, .int .i64 x.rn, .int .i64 x.rd, .string x.name, .int .i64 x.pw, .slice x.a x.l.length x.c], .pointer (some ⟨p1, 0, none⟩), .pointer (some ⟨p2, 0, none⟩)] w fun r w' => r = .returned (.bool (!(x.cnt (dp + 1) m).1)) ∧ Kp (w.setCell ⟨g, 0, none⟩ (.int .i64 ((x.cnt (dp + 1) m).2 : Int))) w' := by
  have k1 : Kp w (w.alloc (.cells #[.int .i64 x.kind, .int .i64 x.rn, .int .i64 x.rd, .string x.name, .int .i64 x.pw, .slice x.a x.l.length x.c] 26)) := (Kp.refl w).alloc _
  have hS : ((w.alloc (.cells #[.int .i64 x.kind, .int .i64 x.rn, .int .i64 x.rd, .string x.name, .int .i64 x.pw, .slice x.a x.l.length x.c] 26)).cell? ⟨w.heap.size, 0, none⟩ = some (.int .i64 x.kind) ∧ (w.alloc (.cells #[.int .i64 x.kind, .int .i64 x.rn, .int .i64 x.rd, .string x.name, .int .i64 x.pw, .slice x.a x.l.length x.c] 26)).cell? ⟨w.heap.size, 1, none⟩ = some (.int .i64 x.rn) ∧ (w.alloc (.cells #[.int .i64 x.kind, .int .i64 x.rn, .int .i64 x.rd, .string x.name, .int .i64 x.pw, .slice x.a x.l.length x.c] 26)).cell? ⟨w.heap.size, 2, none⟩ = some (.int .i64 x.rd) ∧ (w.alloc (.cells #[.int .i64 x.kind, .int .i64 x.rn, .int .i64 x.rd, .string x.name, .int .i64 x.pw, .slice x.a x.l.length x.c] 26)).cell? ⟨w.heap.size, 3, none⟩ = some (.string x.name) ∧ (w.alloc (.cells #[.int .i64 x.kind, .int .i64 x.rn, .int .i64 x.rd, .string x.name, .int .i64 x.pw, .slice x.a x.l.length x.c] 26)).cell? ⟨w.heap.size, 4, none⟩ = some (.int .i64 x.pw) ∧ (w.alloc (.cells #[.int .i64 x.kind, .int .i64 x.rn, .int .i64 x.rd, .string x.name, .int .i64 x.pw, .slice x.a x.l.length x.c] 26)).cell? ⟨w.heap.size, 5, none⟩ = some (.slice x.a x.l.length x.c)) := by simp
  have HC := fun W (h : Kp w W) => Lib.hid (hx (dp + 1) m B g W (Ex.at_kp hat h) hB (h.cell hg) (h.frozen hg hf) (by omega) hm)
  have hdi := Lib.hid (show ((dp + 1 : Nat) : Int) = (dp : Int) + 1 by omega)
  clear hx
  go_enter Try.func70, Try.ntmps70
  go_upto_region 1 with fail
  generalize w.alloc _ = W at *
  have HC := Lib.hid (HC W k1).out
  rw [hdi.out] at HC
  have hD1 := k1.cell hD
  have hP1 := k1.cell hP
  have K1 := Lib.hid k1
  clear hD hP hg hf hat k1
  go_wp2_with (go_at_call 51; go_fit HC.out; rintro r w2 ⟨rfl, k2⟩)
  go_ret
  exact ⟨rfl, (kp_bothT K1.out _ _).trans k2⟩
set_option maxHeartbeats 2000000 in
set_option maxRecDepth 20000 in
theorem count_any : ∀ e : Ex, CountAt e := by
  refine Ex.ind fun e ih dp n B g w hat hB hg hf hdp hn => ?_
  have k1 : Kp w (((w.alloc (.cells #[.int .i64 e.kind, .int .i64 e.rn, .int .i64 e.rd, .string e.name, .int .i64 e.pw, .slice e.a e.l.length e.c] 26)).alloc (.cells #[.int .i64 (dp : Int)] 3)).alloc (.cells #[.pointer (some ⟨g, 0, none⟩)] 69)) := ((Kp.refl w).alloc _).alloc _ |>.alloc _
  have hS : ((((w.alloc (.cells #[.int .i64 e.kind, .int .i64 e.rn, .int .i64 e.rd, .string e.name, .int .i64 e.pw, .slice e.a e.l.length e.c] 26)).alloc (.cells #[.int .i64 (dp : Int)] 3)).alloc (.cells #[.pointer (some ⟨g, 0, none⟩)] 69)).cell? ⟨w.heap.size, 0, none⟩ = some (.int .i64 e.kind) ∧ (((w.alloc (.cells #[.int .i64 e.kind, .int .i64 e.rn, .int .i64 e.rd, .string e.name, .int .i64 e.pw, .slice e.a e.l.length e.c] 26)).alloc (.cells #[.int .i64 (dp : Int)] 3)).alloc (.cells #[.pointer (some ⟨g, 0, none⟩)] 69)).cell? ⟨w.heap.size, 1, none⟩ = some (.int .i64 e.rn) ∧ (((w.alloc (.cells #[.int .i64 e.kind, .int .i64 e.rn, .int .i64 e.rd, .string e.name, .int .i64 e.pw, .slice e.a e.l.length e.c] 26)).alloc (.cells #[.int .i64 (dp : Int)] 3)).alloc (.cells #[.pointer (some ⟨g, 0, none⟩)] 69)).cell? ⟨w.heap.size, 2, none⟩ = some (.int .i64 e.rd) ∧ (((w.alloc (.cells #[.int .i64 e.kind, .int .i64 e.rn, .int .i64 e.rd, .string e.name, .int .i64 e.pw, .slice e.a e.l.length e.c] 26)).alloc (.cells #[.int .i64 (dp : Int)] 3)).alloc (.cells #[.pointer (some ⟨g, 0, none⟩)] 69)).cell? ⟨w.heap.size, 3, none⟩ = some (.string e.name) ∧ (((w.alloc (.cells #[.int .i64 e.kind, .int .i64 e.rn, .int .i64 e.rd, .string e.name, .int .i64 e.pw, .slice e.a e.l.length e.c] 26)).alloc (.cells #[.int .i64 (dp : Int)] 3)).alloc (.cells #[.pointer (some ⟨g, 0, none⟩)] 69)).cell? ⟨w.heap.size, 4, none⟩ = some (.int .i64 e.pw) ∧ (((w.alloc (.cells #[.int .i64 e.kind, .int .i64 e.rn, .int .i64 e.rd, .string e.name, .int .i64 e.pw, .slice e.a e.l.length e.c] 26)).alloc (.cells #[.int .i64 (dp : Int)] 3)).alloc (.cells #[.pointer (some ⟨g, 0, none⟩)] 69)).cell? ⟨w.heap.size, 5, none⟩ = some (.slice e.a e.l.length e.c)) := keepE6 (((Kp.refl _).alloc _).alloc _) (by simp)
  have hD : (((w.alloc (.cells #[.int .i64 e.kind, .int .i64 e.rn, .int .i64 e.rd, .string e.name, .int .i64 e.pw, .slice e.a e.l.length e.c] 26)).alloc (.cells #[.int .i64 (dp : Int)] 3)).alloc (.cells #[.pointer (some ⟨g, 0, none⟩)] 69)).cell? ⟨w.heap.size + 1, 0, none⟩ = some (.int .i64 (dp : Int)) := ((Kp.refl _).alloc _).cell (new_cell _ _ _ _ (by simp))
  have hP : (((w.alloc (.cells #[.int .i64 e.kind, .int .i64 e.rn, .int .i64 e.rd, .string e.name, .int .i64 e.pw, .slice e.a e.l.length e.c] 26)).alloc (.cells #[.int .i64 (dp : Int)] 3)).alloc (.cells #[.pointer (some ⟨g, 0, none⟩)] 69)).cell? ⟨w.heap.size + 1 + 1, 0, none⟩ = some (.pointer (some ⟨g, 0, none⟩)) := new_cell _ _ _ _ (by simp)
  have hgl : g < w.heap.size := cell_ltT hg
  go_enter Try.func51, Try.ntmps51
  go_upto_region 1 with fail
  generalize World.alloc _ _ = W at *
  have g1 := k1.cell hg
  have g2 := k1.frozen hg hf
  have hn1 := Lib.hid (show (n : Int) + 1 = ((n + 1 : Nat) : Int) by omega)
  go_upto_region 2 with fail
  have k2 := kp_bothT k1 ⟨g, 0, none⟩ (.int .i64 ((n : Int) + 1))
  have q : ((W.setCell ⟨g, 0, none⟩ (.int .i64 ((n : Int) + 1))).cell? ⟨w.heap.size, 0, none⟩ = some (.int .i64 e.kind) ∧ (W.setCell ⟨g, 0, none⟩ (.int .i64 ((n : Int) + 1))).cell? ⟨w.heap.size, 1, none⟩ = some (.int .i64 e.rn) ∧ (W.setCell ⟨g, 0, none⟩ (.int .i64 ((n : Int) + 1))).cell? ⟨w.heap.size, 2, none⟩ = some (.int .i64 e.rd) ∧ (W.setCell ⟨g, 0, none⟩ (.int .i64 ((n : Int) + 1))).cell? ⟨w.heap.size, 3, none⟩ = some (.string e.name) ∧ (W.setCell ⟨g, 0, none⟩ (.int .i64 ((n : Int) + 1))).cell? ⟨w.heap.size, 4, none⟩ = some (.int .i64 e.pw) ∧ (W.setCell ⟨g, 0, none⟩ (.int .i64 ((n : Int) + 1))).cell? ⟨w.heap.size, 5, none⟩ = some (.slice e.a e.l.length e.c)) := by
    obtain ⟨a0, a1, a2, a3, a4, a5⟩ := hS
    exact ⟨keep_set a0 hgl, keep_set a1 hgl, keep_set a2 hgl, keep_set a3 hgl, keep_set a4 hgl, keep_set a5 hgl⟩
  have qD := keep_set (u := .int .i64 ((n : Int) + 1)) hD (show g < w.heap.size + 1 by omega)
  have qP := keep_set (u := .int .i64 ((n : Int) + 1)) hP (show g < w.heap.size + 1 + 1 by omega)
  have qg : (W.setCell ⟨g, 0, none⟩ (.int .i64 ((n : Int) + 1))).cell? ⟨g, 0, none⟩ = some (.int .i64 ((n : Int) + 1)) := by apply World.cell?_setCell_same; exact g1
  have qf : (W.setCell ⟨g, 0, none⟩ (.int .i64 ((n : Int) + 1))).frozen? ⟨g, 0, none⟩ = false := by simpa using g2
  clear hS hD hP g1 g2 hg hf
  generalize W.setCell ⟨g, 0, none⟩ _ = W2 at *
  have K2 := Lib.hid k2
  have HE := Lib.hid (e.cnt_eq dp n)
  clear k2 k1
  by_cases c1 : 20 < dp
  · have c1' : (20 : Int) < dp := by omega
    have he := HE.out
    rw [if_pos (Or.inl c1)] at he
    have He := Lib.hid he
    clear he
    go_wp2_with fail
    go_ret
    exact ⟨ret_bool (by rw [He.out]), by rw [He.out, ← hn1.out]; exact K2.out⟩
  · have c1' : ¬ (20 : Int) < dp := by omega
    by_cases c2 : 200 < n + 1
    · have c2' : (200 : Int) < (n : Int) + 1 := by omega
      have he := HE.out
      rw [if_pos (Or.inr (Or.inl c2))] at he
      have He := Lib.hid he
      clear he
      go_wp2_with fail
      go_ret
      exact ⟨ret_bool (by rw [He.out]), by rw [He.out, ← hn1.out]; exact K2.out⟩
    · have c2' : ¬ (200 : Int) < (n : Int) + 1 := by omega
      obtain ⟨⟨hlc, hcm, hnm, hl⟩, hrow, hch⟩ := Ex.at_iff.1 hat
      have HN := Lib.hid (node_any e W2 (by omega) hnm)
      cases hb : nodeB e with
      | false =>
        have he := HE.out
        rw [if_pos (Or.inr (Or.inr hb))] at he
        have He := Lib.hid he
        rw [hb] at HN
        clear he hb hrow hch
        go_wp2_with (go_at_call 68; go_fit HN.out; rintro r w2 ⟨rfl, j2⟩)
        go_ret
        exact ⟨ret_bool (by rw [He.out]), by rw [He.out, ← hn1.out]; exact K2.out.trans j2⟩
      | true =>
        have he := HE.out
        rw [if_neg (by rw [hb]; intro h; rcases h with h | h | h; exact c1 h; exact c2 h; cases h)] at he
        have He := Lib.hid he
        rw [hb] at HN
        clear he hb
        go_upto_region 4 with (go_at_call 68; go_fit HN.out; rintro r W3 ⟨rfl, j2⟩; obtain ⟨t0, t1, t2, t3, t4, t5⟩ := keepE6 j2 q)
        have K3 := Lib.hid (K2.out.trans j2)
        have u1 := j2.cell qD
        have u2 := j2.cell qP
        have u3 := j2.cell qg
        have u4 := j2.frozen qg qf
        have u5 : ∀ x ∈ e.l, x.at W3 B := fun x hx => Ex.at_kp (Ex.at_set (hch x hx) hB _) K3.out
        have u6 : RowX W3 B e.a e.l := (hrow.set hB _).kp K3.out
        have hg3 : g < W3.heap.size := cell_ltT u3
        have HX := Lib.hid (containsX e.a e.l e.c B 70 #[.pointer (some ⟨w.heap.size + 1, 0, none⟩), .pointer (some ⟨w.heap.size + 1 + 1, 0, none⟩)] W3
          (fun k Wk => ∃ m : Nat, Ex.cntL e.l (dp + 1) (n + 1) = Ex.cntL (e.l.drop k) (dp + 1) m ∧ m ≤ 200 ∧ Kp (W3.setCell ⟨g, 0, none⟩ (.int .i64 (m : Int))) Wk)
          (fun k Wk => ∃ m : Nat, Ex.cntL e.l (dp + 1) (n + 1) = (false, m) ∧ Kp (W3.setCell ⟨g, 0, none⟩ (.int .i64 (m : Int))) Wk)
          (by omega)
          (fun k Wk hJ => by obtain ⟨m, _, _, hk⟩ := hJ; exact (u6.set hB _).kp hk)
          ⟨n + 1, rfl, by omega, by rw [← hn1.out, set_same u3]; exact .refl _⟩
          ⟨fun _ _ => by kernel_rfl, fun k x hx Wk hJ => by
            obtain ⟨m, he, hm, hk⟩ := hJ
            have hxm := List.mem_of_getElem? hx
            have v3 : Wk.cell? ⟨g, 0, none⟩ = some (.int .i64 (m : Int)) := hk.cell (by apply World.cell?_setCell_same; exact u3)
            have v4 : Wk.frozen? ⟨g, 0, none⟩ = false := hk.frozen (v := .int .i64 (m : Int)) (by apply World.cell?_setCell_same; exact u3) (by simpa using u4)
            have v1 := hk.cell (keep_set (u := .int .i64 (m : Int)) u1 (show g < w.heap.size + 1 by omega))
            have v2 := hk.cell (keep_set (u := .int .i64 (m : Int)) u2 (show g < w.heap.size + 1 + 1 by omega))
            have hd : e.l.drop k = x :: e.l.drop (k + 1) := List.drop_eq_getElem_cons (List.getElem?_eq_some_iff.1 hx).1 |>.trans (by rw [(List.getElem?_eq_some_iff.1 hx).2])
            have hc := Ex.cntL_cons x (e.l.drop (k + 1)) (dp + 1) m
            refine (count1_any x (ih x hxm) dp m B g _ _ Wk (Ex.at_kp (Ex.at_set (u5 x hxm) hB _) hk) hB v1 v2 v3 v4 (by omega) hm).mono ?_
            rintro r W' ⟨rfl, hk'⟩
            have hK : Kp (W3.setCell ⟨g, 0, none⟩ (.int .i64 ((x.cnt (dp + 1) m).2 : Int))) W' := by
              have := (kp_bothT hk ⟨g, 0, none⟩ (.int .i64 ((x.cnt (dp + 1) m).2 : Int))).trans hk'
              rwa [setcell_twice] at this
            cases hb : (x.cnt (dp + 1) m).1 with
            | false =>
              rw [if_neg (by rw [hb]; decide)] at hc
              exact .inl ⟨rfl, _, by rw [he, hd, hc], hK⟩
            | true =>
              rw [if_pos hb] at hc
              have hi := cnt_iff x (dp + 1) m
              have h1 := hi.1.1 hb
              have h2 := hi.2 hb
              exact .inr ⟨rfl, _, by rw [he, hd, hc], by omega, hK⟩⟩)
        clear u5 u6 hrow hch ih
        have F0 := hn1.out
        clear F0
        go_wp2_with (go_at_call 69; go_fit HX.out; rintro r W4 (⟨rfl, k, hk, m, hm, hkk⟩ | ⟨rfl, m, hm, hm2, hkk⟩))
        · go_ret
          have hk2 : Kp (w.setCell ⟨g, 0, none⟩ (.int .i64 (m : Int))) W4 := by
            have := (kp_bothT K3.out ⟨g, 0, none⟩ (.int .i64 (m : Int))).trans hkk
            rwa [setcell_twice] at this
          exact ⟨ret_bool (by rw [He.out, hm]), by rw [He.out, hm]; exact hk2⟩
        · go_ret
          have hk2 : Kp (w.setCell ⟨g, 0, none⟩ (.int .i64 (m : Int))) W4 := by
            have := (kp_bothT K3.out ⟨g, 0, none⟩ (.int .i64 (m : Int))).trans hkk
            rwa [setcell_twice] at this
          rw [List.drop_length, Ex.cntL_nil] at hm
          exact ⟨ret_bool (by rw [He.out, hm]), by rw [He.out, hm]; exact hk2⟩
set_option maxHeartbeats 2000000 in
set_option maxRecDepth 20000 in
/-- tree.Valid -/
theorem tvalid_any (e : Ex) (B : Nat) (w : World) (hat : e.at w B) (hB : B ≤ w.heap.size) : Calls Try.prog 31 #[.agg #[.int .i64 e.kind, .int .i64 e.rn, .int .i64 e.rd, .string e.name, .int .i64 e.pw, .slice e.a e.l.length e.c]] w fun r w' => r = .returned (.bool e.ok) ∧ Kp w w' := by
  have hok := Lib.hid (cnt_ok e)
  have k1 : Kp w (w.alloc (.cells #[.int .i64 e.kind, .int .i64 e.rn, .int .i64 e.rd, .string e.name, .int .i64 e.pw, .slice e.a e.l.length e.c] 26)) := (Kp.refl w).alloc _
  have hS : ((w.alloc (.cells #[.int .i64 e.kind, .int .i64 e.rn, .int .i64 e.rd, .string e.name, .int .i64 e.pw, .slice e.a e.l.length e.c] 26)).cell? ⟨w.heap.size, 0, none⟩ = some (.int .i64 e.kind) ∧ (w.alloc (.cells #[.int .i64 e.kind, .int .i64 e.rn, .int .i64 e.rd, .string e.name, .int .i64 e.pw, .slice e.a e.l.length e.c] 26)).cell? ⟨w.heap.size, 1, none⟩ = some (.int .i64 e.rn) ∧ (w.alloc (.cells #[.int .i64 e.kind, .int .i64 e.rn, .int .i64 e.rd, .string e.name, .int .i64 e.pw, .slice e.a e.l.length e.c] 26)).cell? ⟨w.heap.size, 2, none⟩ = some (.int .i64 e.rd) ∧ (w.alloc (.cells #[.int .i64 e.kind, .int .i64 e.rn, .int .i64 e.rd, .string e.name, .int .i64 e.pw, .slice e.a e.l.length e.c] 26)).cell? ⟨w.heap.size, 3, none⟩ = some (.string e.name) ∧ (w.alloc (.cells #[.int .i64 e.kind, .int .i64 e.rn, .int .i64 e.rd, .string e.name, .int .i64 e.pw, .slice e.a e.l.length e.c] 26)).cell? ⟨w.heap.size, 4, none⟩ = some (.int .i64 e.pw) ∧ (w.alloc (.cells #[.int .i64 e.kind, .int .i64 e.rn, .int .i64 e.rd, .string e.name, .int .i64 e.pw, .slice e.a e.l.length e.c] 26)).cell? ⟨w.heap.size, 5, none⟩ = some (.slice e.a e.l.length e.c)) := by simp
  have hz : (w.alloc (.cells #[.int .i64 e.kind, .int .i64 e.rn, .int .i64 e.rd, .string e.name, .int .i64 e.pw, .slice e.a e.l.length e.c] 26)).heap.size = w.heap.size + 1 := by simp
  go_enter Try.func31, Try.ntmps31
  go_upto_region 1 with fail
  generalize w.alloc _ = W at *
  have k2 : Kp w (W.alloc (.cells #[.int .i64 0] 3)) := k1.alloc _
  have kW : Kp W (W.alloc (.cells #[.int .i64 0] 3)) := (Kp.refl W).alloc _
  have hc : (W.alloc (.cells #[.int .i64 0] 3)).cell? ⟨w.heap.size + 1, 0, none⟩ = some (.int .i64 0) := new_cell _ _ _ _ hz
  have hf : (W.alloc (.cells #[.int .i64 0] 3)).frozen? ⟨w.heap.size + 1, 0, none⟩ = false := by rw [← hz]; simp
  have hS2 := keepE6 kW hS
  go_upto_region 2 with fail
  generalize W.alloc _ = W2 at *
  have HC : Calls Try.prog 51 #[.agg #[.int .i64 e.kind, .int .i64 e.rn, .int .i64 e.rd, .string e.name, .int .i64 e.pw, .slice e.a e.l.length e.c], .int .i64 1, .pointer (some ⟨w.heap.size + 1, 0, none⟩)] W2 fun r w' => r = .returned (.bool (e.cnt 1 0).1) ∧ Kp (W2.setCell ⟨w.heap.size + 1, 0, none⟩ (.int .i64 ((e.cnt 1 0).2 : Int))) w' :=
    count_any e 1 0 B (w.heap.size + 1) W2 (Ex.at_kp hat k2) (by omega) hc hf (by omega) (by omega)
  have HC := Lib.hid HC
  have K2 := Lib.hid k2
  clear k1 kW hS hat k2
  obtain ⟨t0, t1, t2, t3, t4, t5⟩ := hS2
  go_wp2_with (go_at_call 51; go_fit HC.out; rintro r w2 ⟨rfl, k3⟩)
  go_ret
  exact ⟨ret_bool hok.out, (K2.out.set (by omega) _).trans k3⟩
end Go.Proofs.Ythaphbbeiglolaa
