/-
  Walks: ratio.size, gcd, Valid.
  Trees in memory.
-/
import Derived.Test.YthaphbbeiglolaaGreatMTreS
import Derived.Deep.CutRange
import Derived.Deep.DeepFit
import Derived.Deep.LoopGhost
import Derived.Deep.RegionWith
import Derived.Test.YthaphbbeiglolaaGreatMNum
section
namespace Go.Proofs.YthaphbbeiglolaaGreat
open Go.RowKit

set_option maxHeartbeats 1000000 in
theorem rsize_any (n : Int) (w : World) (h0 : -1073741824 ≤ n) (h1 : n ≤ 1073741824) : Calls Tryz.prog 65 #[.int .i64 n] w fun e w' => e = .returned (.int .u64 (n.natAbs : Int)) ∧ w' = w := by
  go_enter Tryz.func65, Tryz.ntmps65
  by_cases hn : n < 0
  · go_wp2
    go_ret
    refine ⟨ret_int ?_, rfl⟩
    omega
  · go_wp2
    go_ret
    refine ⟨ret_int ?_, rfl⟩
    omega
set_option maxHeartbeats 1000000 in
theorem rgcd_any (a b : Nat) (w : World) (ha : a ≤ 1073741824) (hb : b ≤ 1073741824) : Calls Tryz.prog 64 #[.int .u64 (a : Int), .int .u64 (b : Int)] w fun e w' => e = .returned (.int .u64 ((Nat.gcd a b : Nat) : Int)) ∧ ∃ m, w' = w.drewN m := by
  go_enter Tryz.func64, Tryz.ntmps64
  go_wp2
  go_loopw [0, 1] (fun x y wr => ∃ c d : Nat, x = .int .u64 (c : Int) ∧ y = .int .u64 (d : Int) ∧ c ≤ 1073741824 ∧ d ≤ 1073741824 ∧ Nat.gcd c d = Nat.gcd a b ∧ ∃ m, wr = w.drewN m) (fun _ y _ => (intOf y).toNat)
  case atStart => exact ⟨a, b, rfl, rfl, ha, hb, rfl, 0, rfl⟩
  case round =>
    obtain ⟨c, d, rfl, rfl, hc, hd, hg, q, rfl⟩ := hrel
    have Hg := Lib.hid hg; clear hg
    by_cases h0 : d = 0
    · subst h0
      go_wp2
      go_ret
      exact ⟨ret_int (by rw [← Hg.out, Nat.gcd_zero_right]), q, rfl⟩
    · have h1 : ((d : Int) != 0) = true := by rw [bne_iff_ne]; omega
      have h2 : (d : Int) ≠ 0 := by omega
      have hm : ((c : Int) % (d : Int)) = ((c % d : Nat) : Int) := by omega
      have hlt : c % d < d := Nat.mod_lt _ (by omega)
      have hle : c % d ≤ 1073741824 := by omega
      have hgc : Nat.gcd d (c % d) = Nat.gcd c d := by rw [Nat.gcd_comm c d, Nat.gcd_rec d c, Nat.gcd_comm]
      have Hm := Lib.hid hm
      have Hc := Lib.hid hgc
      clear hm hgc h0
      go_wp2
      go_region
      go_wp2
      go_roundw
      case rel => exact ⟨d, c % d, rfl, by rw [Hm.out], hd, hle, by rw [Hc.out, Hg.out], q + 1, rfl⟩
      case measure => simp [intOf]; omega
theorem ratB_iff (n d : Int) : ratB n d = (decide (1 ≤ d ∧ d ≤ 1073741824) && (decide (-1073741824 ≤ n ∧ n ≤ 1073741824) && decide (Nat.gcd n.natAbs d.natAbs = 1))) := rfl
theorem intNat_one (k : Nat) : ((k : Int) == 1) = decide (k = 1) := by
  by_cases h : k = 1
  · subst h; rfl
  · rw [decide_eq_false h]; exact beq_eq_false_iff_ne.2 (by omega)
set_option maxHeartbeats 2000000 in
set_option maxRecDepth 20000 in
/-- ratio.Valid -/
theorem rvalid_any (n d : Int) (w : World) : Calls Tryz.prog 28 #[.agg #[.int .i64 n, .int .i64 d]] w fun e w' => e = .returned (.bool (ratB n d)) ∧ Kp w w' := by
  have Hr := Lib.hid (ratB_iff n d)
  have k1 : Kp w (w.alloc (.cells #[.int .i64 n, .int .i64 d] 23)) := (Kp.refl w).alloc _
  have hS : (w.alloc (.cells #[.int .i64 n, .int .i64 d] 23)).cell? ⟨w.heap.size, 0, none⟩ = some (.int .i64 n) ∧ (w.alloc (.cells #[.int .i64 n, .int .i64 d] 23)).cell? ⟨w.heap.size, 1, none⟩ = some (.int .i64 d) := by simp
  go_enter Tryz.func28, Tryz.ntmps28
  go_upto_region 1 with fail
  generalize w.alloc _ = W at *
  have kd := (Kp.refl W).drew
  obtain ⟨s0, s1⟩ := hS
  have e0 := kd.cell s0
  have e1 := kd.cell s1
  have HK := Lib.hid (k1.trans kd)
  have HK1 := Lib.hid k1
  clear kd k1
  by_cases c0 : 1 ≤ d
  · by_cases c1 : d ≤ 1073741824
    · by_cases c2 : -1073741824 ≤ n
      · by_cases c3 : n ≤ 1073741824
        · have hg0 : n.natAbs ≤ 1073741824 := by omega
          have hg1 : d.natAbs ≤ 1073741824 := by omega
          have d0 : -1073741824 ≤ d := by omega
          have hr := Hr.out
          rw [decide_eq_true ⟨c0, c1⟩, decide_eq_true ⟨c2, c3⟩] at hr
          have Hr := Lib.hid hr
          clear hr e0 e1
          go_quiet (first
            | (go_at_call_of 65 n; exact Calls.quiet_of_same (rsize_any n _ c2 c3))
            | (go_at_call_of 65 d; exact Calls.quiet_of_same (rsize_any d _ d0 c1))
            | (go_at_call 64; exact Calls.quiet_of (rgcd_any n.natAbs d.natAbs _ hg0 hg1))
            | fail)
          all_goals
            go_wp2_with fail
            go_ret
            exact ⟨ret_bool (by rw [Hr.out, Bool.true_and, Bool.true_and]; exact intNat_one _), HK1.out.drewN _⟩
        · have hr := Hr.out
          rw [decide_eq_false (p := -1073741824 ≤ n ∧ n ≤ 1073741824) (by omega)] at hr
          have Hr := Lib.hid hr
          clear hr
          clear e0 e1
          go_quiet (fail)
          all_goals
            go_wp2_with fail
            go_ret
            exact ⟨ret_bool (by rw [Hr.out]; simp), HK1.out.drewN _⟩
      · have hr := Hr.out
        rw [decide_eq_false (p := -1073741824 ≤ n ∧ n ≤ 1073741824) (by omega)] at hr
        have Hr := Lib.hid hr
        clear hr
        clear e0 e1
        go_quiet (fail)
        all_goals
          go_wp2_with fail
          go_ret
          exact ⟨ret_bool (by rw [Hr.out]; simp), HK1.out.drewN _⟩
    · have hr := Hr.out
      rw [decide_eq_false (p := 1 ≤ d ∧ d ≤ 1073741824) (by omega)] at hr
      have Hr := Lib.hid hr
      clear hr
      clear e0 e1
      go_quiet (fail)
      all_goals
        go_wp2_with fail
        go_ret
        exact ⟨ret_bool (by rw [Hr.out]; simp), HK1.out.drewN _⟩
  · have hr := Hr.out
    rw [decide_eq_false (p := 1 ≤ d ∧ d ≤ 1073741824) (by omega)] at hr
    have Hr := Lib.hid hr
    clear hr
    clear e0 e1
    go_quiet (fail)
    all_goals
      go_wp2_with fail
      go_ret
      exact ⟨ret_bool (by rw [Hr.out]; simp), HK1.out.drewN _⟩
end Go.Proofs.YthaphbbeiglolaaGreat
end

section
namespace Go.Proofs.YthaphbbeiglolaaGreat
open Go.RowKit

theorem setcell_ne {w : World} {g i : Nat} {p : Addr} {v : Value} (h : (⟨g, i, none⟩ : Addr) ≠ p) : (w.setCell ⟨g, i, none⟩ v).cell? p = w.cell? p := by
  rw [World.cell?_setCell_other]; exact h
theorem below_bothT {B : Nat} {a w : World} (h : Below B a w) (p : Addr) (v : Value) : Below B (a.setCell p v) (w.setCell p v) := by
  have h1 := Below.setCell (Below.refl 0 a) (p := p) (Nat.zero_le _) v
  have h2 := Below.setCell (Below.refl 0 w) (p := p) (Nat.zero_le _) v
  refine ⟨h2.os.trans (h.os.trans h1.os.symm), h2.tape.trans (h.tape.trans h1.tape.symm), h2.output.trans (h.output.trans h1.output.symm), by simpa using h.size, fun k hk => ?_⟩
  by_cases e : k = p.block
  · subst e
    have hb := h.block p.block hk
    unfold World.setCell
    simp only [Array.getElem?_modify, hb]
  · rw [Below.heap_setCell w p v k e, Below.heap_setCell a p v k e]; exact h.block k hk
theorem kp_bothT {a w : World} (h : Kp a w) (p : Addr) (v : Value) : Kp (a.setCell p v) (w.setCell p v) := by
  have := below_bothT h p v
  unfold Kp
  simpa using this
mutual
/-- the elements lie where the slice says, in blocks below B, all the way down -/
def Ex.at (w : World) (B : Nat) : Ex → Prop
  | .mk _ _ _ s _ a c l => (l.length ≤ c ∧ c ≤ maxLen ∧ s.size ≤ maxLen ∧ l.length ≤ 1048576) ∧ (∀ (i : Nat) (x : Ex), l[i]? = some x → ∃ b o, a = some ⟨b, o, none⟩ ∧ b < B ∧ w.cell? ⟨b, o + i * 6, none⟩ = some (.int .i64 x.kind) ∧ w.cell? ⟨b, o + i * 6 + 1, none⟩ = some (.int .i64 x.rn) ∧ w.cell? ⟨b, o + i * 6 + 2, none⟩ = some (.int .i64 x.rd) ∧ w.cell? ⟨b, o + i * 6 + 3, none⟩ = some (.string x.name) ∧ w.cell? ⟨b, o + i * 6 + 4, none⟩ = some (.int .i64 x.pw) ∧ w.cell? ⟨b, o + i * 6 + 5, none⟩ = some (.slice x.a x.l.length x.c)) ∧ Ex.atL w B l
def Ex.atL (w : World) (B : Nat) : List Ex → Prop
  | [] => True
  | x :: t => x.at w B ∧ Ex.atL w B t
end
theorem Ex.atL_iff {w : World} {B : Nat} {l : List Ex} : Ex.atL w B l ↔ ∀ x ∈ l, x.at w B := by
  induction l with
  | nil => rw [Ex.atL]; simp
  | cons x t ih =>
    rw [Ex.atL, ih]
    constructor
    · rintro ⟨h1, h2⟩ y hy
      rcases List.mem_cons.1 hy with rfl | hy
      · exact h1
      · exact h2 y hy
    · exact fun h => ⟨h x (.head _), fun y hy => h y (.tail _ hy)⟩
/-- a slice of trees lies there -/
def RowX (w : World) (B : Nat) (a : Option Addr) (l : List Ex) : Prop := ∀ (i : Nat) (x : Ex), l[i]? = some x → ∃ b o, a = some ⟨b, o, none⟩ ∧ b < B ∧ w.cell? ⟨b, o + i * 6, none⟩ = some (.int .i64 x.kind) ∧ w.cell? ⟨b, o + i * 6 + 1, none⟩ = some (.int .i64 x.rn) ∧ w.cell? ⟨b, o + i * 6 + 2, none⟩ = some (.int .i64 x.rd) ∧ w.cell? ⟨b, o + i * 6 + 3, none⟩ = some (.string x.name) ∧ w.cell? ⟨b, o + i * 6 + 4, none⟩ = some (.int .i64 x.pw) ∧ w.cell? ⟨b, o + i * 6 + 5, none⟩ = some (.slice x.a x.l.length x.c)
theorem Ex.at_iff {w : World} {B : Nat} {e : Ex} : e.at w B ↔ (e.l.length ≤ e.c ∧ e.c ≤ maxLen ∧ e.name.size ≤ maxLen ∧ e.l.length ≤ 1048576) ∧ RowX w B e.a e.l ∧ ∀ x ∈ e.l, x.at w B := by
  cases e
  rw [Ex.at, Ex.atL_iff]
  exact Iff.rfl
theorem RowX.same {w w' : World} {B B' : Nat} {a : Option Addr} {l : List Ex} (h : RowX w B a l) (hB : B ≤ B') (hc : ∀ b i v, b < B → w.cell? ⟨b, i, none⟩ = some v → w'.cell? ⟨b, i, none⟩ = some v) : RowX w' B' a l := by
  intro i x hx
  obtain ⟨b, o, e, hb, h0, h1, h2, h3, h4, h5⟩ := h i x hx
  exact ⟨b, o, e, by omega, hc _ _ _ hb h0, hc _ _ _ hb h1, hc _ _ _ hb h2, hc _ _ _ hb h3, hc _ _ _ hb h4, hc _ _ _ hb h5⟩
theorem Ex.same {w w' : World} {B B' : Nat} (hB : B ≤ B') (hc : ∀ b i v, b < B → w.cell? ⟨b, i, none⟩ = some v → w'.cell? ⟨b, i, none⟩ = some v) : ∀ e : Ex, e.at w B → e.at w' B' := by
  refine Ex.ind fun e ih h => ?_
  obtain ⟨h1, h2, h3⟩ := Ex.at_iff.1 h
  exact Ex.at_iff.2 ⟨h1, h2.same hB hc, fun x hx => ih x hx (h3 x hx)⟩
theorem Ex.at_kp {w w' : World} {B : Nat} {e : Ex} (h : e.at w B) (k : Kp w w') : e.at w' B := Ex.same (Nat.le_refl _) (fun _ _ _ _ hc => k.cell hc) e h
theorem RowX.kp {w w' : World} {B : Nat} {a : Option Addr} {l : List Ex} (h : RowX w B a l) (k : Kp w w') : RowX w' B a l := h.same (Nat.le_refl _) fun _ _ _ _ hc => k.cell hc
theorem Ex.at_set {w : World} {B g i : Nat} {e : Ex} (h : e.at w B) (hg : B ≤ g) (v : Value) : e.at (w.setCell ⟨g, i, none⟩ v) B :=
  Ex.same (Nat.le_refl _) (fun b j u hb hc => by rw [setcell_ne (fun e => by injection e with e1; omega)]; exact hc) e h
theorem RowX.set {w : World} {B g i : Nat} {a : Option Addr} {l : List Ex} (h : RowX w B a l) (hg : B ≤ g) (v : Value) : RowX (w.setCell ⟨g, i, none⟩ v) B a l :=
  h.same (Nat.le_refl _) fun b j u hb hc => by rw [setcell_ne (fun e => by injection e with e1; omega)]; exact hc
theorem keepE6 {w w' : World} (k : Kp w w') {p0 p1 p2 p3 p4 p5 : Addr} {v0 v1 v2 v3 v4 v5 : Value} (h : w.cell? p0 = some v0 ∧ w.cell? p1 = some v1 ∧ w.cell? p2 = some v2 ∧ w.cell? p3 = some v3 ∧ w.cell? p4 = some v4 ∧ w.cell? p5 = some v5) :
    w'.cell? p0 = some v0 ∧ w'.cell? p1 = some v1 ∧ w'.cell? p2 = some v2 ∧ w'.cell? p3 = some v3 ∧ w'.cell? p4 = some v4 ∧ w'.cell? p5 = some v5 := ⟨k.cell h.1, k.cell h.2.1, k.cell h.2.2.1, k.cell h.2.2.2.1, k.cell h.2.2.2.2.1, k.cell h.2.2.2.2.2⟩
end Go.Proofs.YthaphbbeiglolaaGreat
end
