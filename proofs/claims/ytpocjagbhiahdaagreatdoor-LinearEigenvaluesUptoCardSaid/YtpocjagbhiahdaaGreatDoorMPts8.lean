/-
  Walks: the law's points (layer 8); matrices of integers.
-/
import Derived.Test.YtpocjagbhiahdaaGreatDoorMArdN
import Derived.Deep.CutRange
import Derived.Deep.DeepFit
import Derived.Deep.LoopGhost
import Derived.Test.YtpocjagbhiahdaaGreatDoorMIvA
import Derived.Test.YtpocjagbhiahdaaGreatDoorMOwnX
import Derived.Test.YtpocjagbhiahdaaGreatDoorMIdxI
import Derived.Test.YtpocjagbhiahdaaGreatDoorMRoC
import Derived.Test.YtpocjagbhiahdaaGreatDoorMSumH
import Derived.Test.YtpocjagbhiahdaaGreatDoorMRoAdd
import Derived.Test.YtpocjagbhiahdaaGreatDoorMTabP
namespace Go.Proofs.YtpocjagbhiahdaaGreatDoor
open Go.RowKit
def intP (m : List (List Int)) : List (List PI) := m.map fun r => r.map fun n => pnI n n
def rectZ (m : List (List Int)) (k : Nat) : Prop := (1 ≤ m.length ∧ m.length ≤ 8) ∧ (1 ≤ k ∧ k ≤ 8) ∧ ∀ r ∈ m, r.length = k ∧ ∀ x ∈ r, x.natAbs ≤ 9000000
theorem dyM_len {Z : List (List RD)} {m : List (List Int)} (h : dyM Z = intM m) : Z.length = m.length := by have := congrArg List.length h; simpa [dyM, intM] using this
theorem dyM_row {Z : List (List RD)} {m : List (List Int)} (h : dyM Z = intM m) {i : Nat} {r : List RD} (hr : Z[i]? = some r) : ∃ s, m[i]? = some s ∧ r.map RD.dy = s.map intD := by
  have h1 : (dyM Z)[i]? = (intM m)[i]? := by rw [h]
  unfold dyM intM at h1
  rw [List.getElem?_map, List.getElem?_map, hr] at h1
  cases hs : m[i]? with
  | some s => rw [hs] at h1; exact ⟨s, rfl, Option.some.inj h1⟩
  | none => rw [hs] at h1; cases h1
theorem int_vlN {Z : List (List RD)} {m : List (List Int)} {k : Nat} (h : dyM Z = intM m) (hv : ∀ r ∈ Z, ∀ x ∈ r, x.vl = true) (hm : rectZ m k) : vlN Z = true ∧ colsN Z = k := by
  have hl := dyM_len h
  have hrow : ∀ r ∈ Z, r.length = k := fun r hr => by
    obtain ⟨i, hi⟩ := List.getElem?_of_mem hr
    obtain ⟨s, hs, e⟩ := dyM_row h hi
    have := (hm.2.2 s (List.mem_of_getElem? hs)).1
    have e2 := congrArg List.length e
    simp at e2
    omega
  have hc : colsN Z = k := by
    unfold colsN
    cases Z with
    | nil => have := hm.1.1; simp at hl; omega
    | cons r t => exact hrow r (.head _)
  refine ⟨vlN_iff.2 ⟨by rw [hl]; exact hm.1, by rw [hc]; exact hm.2.1, fun r hr => ⟨by rw [hc]; exact hrow r hr, hv r hr⟩⟩, hc⟩
theorem ofF_int {Z : List (List RD)} {m : List (List Int)} {k : Nat} (h : dyM Z = intM m) (hv : ∀ r ∈ Z, ∀ x ∈ r, x.vl = true) (hm : rectZ m k) : ofF Z = intP m := by
  obtain ⟨h1, h2⟩ := int_vlN h hv hm
  have hl := dyM_len h
  unfold ofF
  rw [if_pos h1, h2, hl]
  unfold tabM intP
  refine List.ext_getElem? fun i => ?_
  rw [List.getElem?_map, List.getElem?_map]
  by_cases hi : i < m.length
  rotate_left
  · rw [List.getElem?_eq_none (by simp; omega), List.getElem?_eq_none (by omega)]; rfl
  obtain ⟨r, hr⟩ : ∃ r, Z[i]? = some r := ⟨_, List.getElem?_eq_getElem (by omega)⟩
  obtain ⟨s, hs, e⟩ := dyM_row h hr
  have hk := (hm.2.2 s (List.mem_of_getElem? hs)).1
  have hrk : r.length = k := by have e2 := congrArg List.length e; simp at e2; omega
  rw [List.getElem?_range hi, hs]
  show some (rowF k (fun j => ptP (atN Z i j))) = some (s.map fun n => pnI n n)
  refine congrArg some ?_
  unfold rowF
  refine List.ext_getElem? fun j => ?_
  rw [List.getElem?_map, List.getElem?_map]
  by_cases hj : j < k
  · obtain ⟨x, hx⟩ : ∃ x, r[j]? = some x := ⟨_, List.getElem?_eq_getElem (by omega)⟩
    obtain ⟨n, hn⟩ : ∃ n, s[j]? = some n := ⟨_, List.getElem?_eq_getElem (by omega)⟩
    have e1 := congrArg (fun l => l[j]?) e
    simp only [List.getElem?_map, hx, hn, Option.map_some, Option.some.injEq] at e1
    rw [List.getElem?_range hj, hn]
    show some (ptP (atN Z i j)) = some (pnI n n)
    rw [atN_eq hr hx, ptP_int e1]
  rw [List.getElem?_eq_none (by simp; omega), List.getElem?_eq_none (by omega)]; rfl
set_option maxHeartbeats 2000000 in
theorem points8_any (m : List (List Int)) (k : Nat) (a : Option Addr) (c : Nat) (w : World) (hm : RowZZ w a m) (hr : rectZ m k) :
    Calls Tryz.prog 17 #[.slice a m.length c] w (MatV w (intP m)) := by
  have HN := Lib.hid (numbers8_any m a c w hm hr.1.2 fun r h => ⟨by have := (hr.2.2 r h).1; have := hr.2.1.2; omega, (hr.2.2 r h).2⟩)
  have HR := Lib.hid hr
  clear hm hr
  go_enter Tryz.func17, Tryz.ntmps17
  go_wp2_with fail
  go_fit HN.out
  rintro e w1 ⟨a1, Z, c1, rfl, hZ, pZ, vZ, lZ, k1⟩
  have HO := Lib.hid (r7of_any a1 Z c1 w1 hZ lZ)
  rw [ofF_int pZ vZ HR.out] at HO
  clear hZ pZ vZ lZ
  go_wp2_with fail
  go_fit HO.out
  rintro e w2 ⟨a2, X, c2, rfl, hX, pX, oX, lX, k2⟩
  have HX := Lib.hid (And.intro hX (And.intro pX (And.intro oX lX)))
  clear hX pX oX lX
  go_wp2_with fail
  refine bodyPost_ret (v := .slice a2 X.length c2) (by simp [results, Tryz.results17, go_sem]) rfl ?_
  exact ⟨a2, X, c2, rfl, HX.out.1, HX.out.2.1, HX.out.2.2.1, HX.out.2.2.2, k1.trans k2⟩
theorem rowZ_two (w : World) (p q : Int) : RowZ (w.alloc (.cells #[.int .i64 p, .int .i64 q] 3)) (some ⟨w.heap.size, 0, none⟩) [p, q] := by
  intro i x hi
  match i with
  | 0 => simp only [List.getElem?_cons_zero, Option.some.injEq] at hi; subst hi; exact ⟨_, 0, rfl, by simp⟩
  | 1 => simp only [List.getElem?_cons_succ, List.getElem?_cons_zero, Option.some.injEq] at hi; subst hi; exact ⟨_, 0, rfl, by simp⟩
  | i + 2 => simp at hi
theorem rowZZ_two (w : World) (p q r s : Int) : RowZZ (((w.alloc (.cells #[.int .i64 p, .int .i64 q] 3)).alloc (.cells #[.int .i64 r, .int .i64 s] 3)).alloc (.cells #[.slice (some ⟨w.heap.size, 0, none⟩) 2 2, .slice (some ⟨w.heap.size + 1, 0, none⟩) 2 2] 51)) (some ⟨w.heap.size + 1 + 1, 0, none⟩) [[p, q], [r, s]] := by
  have h1 := (rowZ_two w p q).kp (((Kp.refl _).alloc (.cells #[.int .i64 r, .int .i64 s] 3)).alloc (.cells #[.slice (some ⟨w.heap.size, 0, none⟩) 2 2, .slice (some ⟨w.heap.size + 1, 0, none⟩) 2 2] 51))
  have h2 := (rowZ_two (w.alloc (.cells #[.int .i64 p, .int .i64 q] 3)) r s).kp ((Kp.refl _).alloc (.cells #[.slice (some ⟨w.heap.size, 0, none⟩) 2 2, .slice (some ⟨w.heap.size + 1, 0, none⟩) 2 2] 51))
  rw [World.size_alloc] at h2
  have hg := heap_alloc_new ((w.alloc (.cells #[.int .i64 p, .int .i64 q] 3)).alloc (.cells #[.int .i64 r, .int .i64 s] 3)) (.cells #[.slice (some ⟨w.heap.size, 0, none⟩) 2 2, .slice (some ⟨w.heap.size + 1, 0, none⟩) 2 2] 51)
  rw [World.size_alloc, World.size_alloc] at hg
  intro i x hi
  match i with
  | 0 =>
    simp only [List.getElem?_cons_zero, Option.some.injEq] at hi; subst hi
    exact ⟨_, 0, _, 2, rfl, by rw [cell_of_row _ _ _ _ _ _ hg]; rfl, h1⟩
  | 1 =>
    simp only [List.getElem?_cons_succ, List.getElem?_cons_zero, Option.some.injEq] at hi; subst hi
    exact ⟨_, 0, _, 2, rfl, by rw [cell_of_row _ _ _ _ _ _ hg]; rfl, h2⟩
  | i + 2 => simp at hi
theorem rectZ_two {p q r s : Int} (hp : p.natAbs ≤ 1000) (hq : q.natAbs ≤ 1000) (hr : r.natAbs ≤ 1000) (hs : s.natAbs ≤ 1000) : rectZ [[p, q], [r, s]] 2 := by
  refine ⟨⟨by simp, by simp⟩, ⟨by decide, by decide⟩, fun x hx => ?_⟩
  simp only [List.mem_cons, List.not_mem_nil, or_false] at hx
  rcases hx with rfl | rfl
  · refine ⟨rfl, fun y hy => ?_⟩
    simp only [List.mem_cons, List.not_mem_nil, or_false] at hy
    rcases hy with rfl | rfl <;> omega
  refine ⟨rfl, fun y hy => ?_⟩
  simp only [List.mem_cons, List.not_mem_nil, or_false] at hy
  rcases hy with rfl | rfl <;> omega
theorem exN_of {Z : List (List RD)} {p q r s : Int} (h : dyM Z = intM [[p, q], [r, s]]) (hv : ∀ r ∈ Z, ∀ x ∈ r, x.vl = true) : exN Z p q r s := by
  match Z, h with
  | [[a, b], [c, d]], h =>
    simp only [dyM, intM, List.map_cons, List.map_nil, List.cons.injEq, and_true] at h
    obtain ⟨⟨h1, h2⟩, h3, h4⟩ := h
    exact ⟨a, b, c, d, rfl, ⟨h1, h2, h3, h4⟩, hv [a, b] (by simp) a (by simp), hv [a, b] (by simp) b (by simp), hv [c, d] (by simp) c (by simp), hv [c, d] (by simp) d (by simp)⟩
  | [], h => simp [dyM, intM] at h
  | [x], h => simp [dyM, intM] at h
  | x :: y :: z :: t, h => simp [dyM, intM] at h
  | [[], y], h => simp [dyM, intM] at h
  | [[a], y], h => simp [dyM, intM] at h
  | [a :: b :: c :: t, y], h => simp [dyM, intM] at h
  | [[a, b], []], h => simp [dyM, intM] at h
  | [[a, b], [c]], h => simp [dyM, intM] at h
  | [[a, b], c :: d :: e :: t], h => simp [dyM, intM] at h
def RowY (w : World) (a : Option Addr) (xs : List Nat) : Prop :=
  ∀ (i x : Nat), xs[i]? = some x → ∃ b o, a = some ⟨b, o, none⟩ ∧ w.cell? ⟨b, o + i, none⟩ = some (.int .u8 (x : Int))
theorem RowY.kp {w w' : World} {a : Option Addr} {xs : List Nat} (h : RowY w a xs) (k : Kp w w') : RowY w' a xs := fun i x hi => by
  obtain ⟨b, o, e, hc⟩ := h i x hi
  exact ⟨b, o, e, k.cell hc⟩
def modV (l : List Nat) (a : Nat) : Int := if a < l.length then ((l.getD a 0 % 41 : Nat) : Int) - 20 else 0
def modR (k : Nat) (l : List Nat) (i : Nat) : List Int := (List.range k).map fun j => modV l (i * k + j)
def modF (k : Nat) (l : List Nat) : List (List Int) := (List.range k).map (modR k l)
def modK (n : Nat) : Nat := 1 + n % 3
theorem modV_abs (l : List Nat) (a : Nat) : (modV l a).natAbs ≤ 20 := by
  unfold modV
  split
  · have := Nat.mod_lt (l.getD a 0) (show 0 < 41 by decide)
    omega
  decide
theorem modF_len (k : Nat) (l : List Nat) : (modF k l).length = k := by unfold modF; simp
theorem modF_rect (n : Nat) (l : List Nat) : rectZ (modF (modK n) l) (modK n) := by
  have h := Nat.mod_lt n (show 0 < 3 by decide)
  have hk : modK n = 1 + n % 3 := rfl
  refine ⟨by rw [modF_len]; omega, by omega, fun r hr => ?_⟩
  unfold modF at hr
  obtain ⟨i, _, rfl⟩ := List.mem_map.1 hr
  refine ⟨by unfold modR; simp, fun x hx => ?_⟩
  unfold modR at hx
  obtain ⟨j, _, rfl⟩ := List.mem_map.1 hx
  have := modV_abs l (i * modK n + j)
  omega
def GridE (w : World) (m : List (List Int)) (e : Ending) (w' : World) : Prop := ∃ (g : Nat) (bs : Nat → Nat), e = .returned (.slice (some ⟨g, 0, none⟩) m.length m.length) ∧ GridZ w w' g m bs
set_option maxRecDepth 100000 in
set_option maxHeartbeats 8000000 in
theorem modest_k (n k : Nat) (l : List Nat) (a : Option Addr) (c : Nat) (w : World) (hn : n < 256) (hk : k = modK n) (hk3 : k = 1 ∨ k = 2 ∨ k = 3) (hl : RowY w a l) (_hll : l.length ≤ 1100000) (hb : ∀ x ∈ l, x < 256) :
    Calls Tryz.prog 16 #[.int .u8 (n : Int), .slice a l.length c] w (GridE w (modF k l)) := by
  have HL := Lib.hid hl
  have HB := Lib.hid hb
  have HK := Lib.hid hk
  have HK3 := Lib.hid hk3
  have hmk := make_rowsZ (k : Int) k rfl (by omega)
  clear hl hb
  go_enter Tryz.func16, Tryz.ntmps16
  go_upto_region 1 with fail
  go_cut [5] from 11 to 14 (fun s wx => s = .int .i64 (k : Int) ∧ Kp w wx)
  case first =>
    go_wp2_with fail
    go_meet
    case rel =>
    refine ⟨?_, .refl _⟩
    rw [hk]; unfold modK
    rw [Int.natCast_add, Int.natCast_emod]; rfl
  case rest =>
  obtain ⟨rfl, kw⟩ := hcut
  obtain ⟨w1, hw1⟩ : ∃ X : World, X = wc := ⟨_, rfl⟩
  subst hw1
  have hmk := hmk w1
  have hO := OutY.made w1 k
  have HKW := Lib.hid kw
  clear hk kw
  go_wp2_with fail
  generalize hW : w1.alloc _ = W at *
  have HO := Lib.hid hO
  clear hW hmk hO
  go_loopg [18] k (fun q v wr => ∃ (R : List (List Int)) (bs : Nat → Nat), R.length + q = k ∧ v = .int .i64 (R.length : Int) ∧ OutY w1 wr w1.heap.size k R bs ∧ R = (List.range R.length).map (modR k l))
  case atStart => exact ⟨[], _, by simp, rfl, HO.out, rfl⟩
  case round =>
  obtain ⟨R, bs, hRq, rfl, hO, hR⟩ := hrel
  clear HO
  have HR := Lib.hid hR
  have HOH := Lib.hid hO
  have hkr := hO.2.1
  clear hR hO
  by_cases hlt : R.length < k
  rotate_left
  · have hRe : R.length = k := by omega
    have HRe := Lib.hid hRe
    clear hRe hRq
    go_wp2_with fail
    refine bodyPost_ret (v := .slice (some ⟨w1.heap.size, 0, none⟩) k k) (by simp [results, Tryz.results16, go_sem]) rfl ?_
    have e : R = modF k l := by rw [HR.out, HRe.out]; rfl
    subst e
    refine ⟨w1.heap.size, bs, by rw [modF_len], ?_⟩
    have hG := HOH.out.grid
    have hs := HKW.out.size
    exact ⟨⟨by have := hG.1.1; omega, hG.1.2⟩, HKW.out.trans hG.2.1, hG.2.2.1, fun i r hi => by
      obtain ⟨q1, q2⟩ := hG.2.2.2.1 i r hi
      exact ⟨by omega, q2⟩, hG.2.2.2.2⟩
  have HMO := Lib.hid (HOH.out.open hlt)
  have Hlt := Lib.hid (And.intro hlt hRq)
  clear hRq
  have hj1 : (0 : Int) ≤ (R.length : Int) := by omega
  have hj2 : (R.length : Int) < (k : Int) := by omega
  go_wp2_with fail
  clear HOH
  obtain ⟨gk1, hgk1⟩ : ∃ x : Nat, x = gk := ⟨_, rfl⟩
  subst hgk1
  obtain ⟨wr1, hwr1⟩ : ∃ x : World, x = wr := ⟨_, rfl⟩
  subst hwr1
  go_loopg [22] k (fun q v wr => ∃ (t : Value) (cur : List Int), cur.length + q = k ∧ v = .int .i64 (cur.length : Int) ∧ OutZ w1 wr w1.heap.size k R bs t cur ∧ cur = (List.range cur.length).map (fun j => modV l (R.length * k + j)))
  case atStart => exact ⟨_, [], by simp, rfl, HMO.out, rfl⟩
  case round =>
  obtain ⟨t, cur, hcq, rfl, hM, hC⟩ := hrel
  clear HMO
  by_cases hlt2 : cur.length < k
  rotate_left
  · have hce : cur.length = k := by omega
    obtain ⟨bs', hY⟩ := hM.close (by have := HK3.out; omega)
    have HY := Lib.hid hY
    have HPC := Lib.hid (And.intro hC hce)
    clear hC hcq hM hce hY
    go_wp2_with fail
    go_roundg (gk1 - 1)
    case measure => have := Hlt.out; omega
    case rel =>
    refine ⟨R ++ [cur], bs', by have := Hlt.out; rw [List.length_append, List.length_singleton]; omega, by rw [List.length_append, List.length_singleton]; go_num, HY.out, ?_⟩
    rw [List.length_append, List.length_singleton, List.range_succ, List.map_append, ← HR.out]
    show R ++ [cur] = R ++ [modR k l R.length]
    have e : cur = modR k l R.length := by rw [HPC.out.1, HPC.out.2]; rfl
    rw [← e]
  have HPC := Lib.hid (And.intro hC (And.intro hcq hlt2))
  have HM := Lib.hid hM
  obtain ⟨A, hA⟩ : ∃ A : Nat, A = R.length * k + cur.length := ⟨_, rfl⟩
  have hA2 : A ≤ 100 := by
    have h1 : R.length * k ≤ 3 * 3 := Nat.mul_le_mul (by omega) (by omega)
    omega
  have HA := Lib.hid hA
  clear hC hcq hM
  go_upto_region 10 with fail
  go_cut [10] from 25 to 29 (fun s wx => s = .int .i64 (A : Int) ∧ Kp wr wx)
  case first =>
    have hA3 : (A : Int) = (R.length : Int) * (k : Int) + (cur.length : Int) := by rw [hA, Int.natCast_add, Int.natCast_mul]
    have hw : IntKind.i64.wrap ((R.length : Int) * (k : Int)) = (R.length : Int) * (k : Int) := by
      have h1 : R.length * k ≤ 3 * 3 := Nat.mul_le_mul (by omega) (by omega)
      have h2 : ((R.length * k : Nat) : Int) = (R.length : Int) * (k : Int) := Int.natCast_mul _ _
      rw [IntWalk.i64_in _ (by omega)]
    clear hA
    go_wp2_with fail
    go_meet
    case rel => exact ⟨by rw [hA3], .refl _⟩
  case rest =>
  obtain ⟨rfl, kc⟩ := hcut
  obtain ⟨W2, hW2⟩ : ∃ X : World, X = wc := ⟨_, rfl⟩
  subst hW2
  have hM2 := HM.out.kp kc
  have HK2 := Lib.hid (HKW.out.trans hM2.2.1.1)
  clear HM kc hA
  by_cases hal : A < l.length
  rotate_left
  · have hal1 : ¬ (A : Int) < (l.length : Int) := by omega
    have HV := Lib.hid (show modV l A = 0 by unfold modV; rw [if_neg hal])
    clear hal
    have kA := (Kp.refl W2).alloc (.cells #[.int .i64 (0)] 3)
    have hM3 := hM2.kp kA
    obtain ⟨hc1, hf1⟩ := hM2.cellF
    have hown := hM3.2.1
    have HM3 := Lib.hid hM3
    have hcl : cur.length + 1 ≤ 9000000 := by omega
    clear hM2 hM3
    go_wp2_with (at_builtin; refine wpList_append_int rfl _ _ rfl w1 _ cur rfl hown _ _ rfl (0) (by simp) hcl ?_; intro a' c' w9 hown9 hgrow hblk; obtain ⟨hc1, hf1⟩ := HM3.out.cellG hgrow)
    go_roundg (gk - 1)
    case measure => have := HPC.out.2; omega
    case rel =>
    refine ⟨_, cur ++ [0], by have := HPC.out.2; rw [List.length_append, List.length_singleton]; omega, by rw [List.length_append, List.length_singleton]; go_num, OutZ.step HM3.out hown9 hgrow hblk, ?_⟩
    rw [List.length_append, List.length_singleton, List.range_succ, List.map_append, ← HPC.out.1]
    show cur ++ [0] = cur ++ [modV l (R.length * k + cur.length)]
    rw [← HA.out, HV.out]
  obtain ⟨x, hx⟩ : ∃ x, l[A]? = some x := ⟨_, List.getElem?_eq_getElem hal⟩
  obtain ⟨b, o, rfl, hx0⟩ := (HL.out.kp HK2.out) A x hx
  have hxb := HB.out x (List.mem_of_getElem? hx)
  have HV := Lib.hid (show modV l A = (x : Int) % 41 - 20 by
    unfold modV
    rw [if_pos hal, List.getD_eq_getElem?_getD, hx, Int.natCast_emod]; rfl)
  have hal1 : (A : Int) < (l.length : Int) := by omega
  clear hx hal
  have kA := (Kp.refl W2).alloc (.cells #[.int .i64 ((x : Int) % 41 - 20)] 3)
  have hM3 := hM2.kp kA
  obtain ⟨hc1, hf1⟩ := hM2.cellF
  have hown := hM3.2.1
  have HM3 := Lib.hid hM3
  have hcl : cur.length + 1 ≤ 9000000 := by omega
  clear hM2 hM3
  go_wp2_with (at_builtin; refine wpList_append_int rfl _ _ rfl w1 _ cur rfl hown _ _ rfl ((x : Int) % 41 - 20) (by simp) hcl ?_; intro a' c' w9 hown9 hgrow hblk; obtain ⟨hc1, hf1⟩ := HM3.out.cellG hgrow)
  go_roundg (gk - 1)
  case measure => have := HPC.out.2; omega
  case rel =>
  refine ⟨_, cur ++ [(x : Int) % 41 - 20], by have := HPC.out.2; rw [List.length_append, List.length_singleton]; omega, by rw [List.length_append, List.length_singleton]; go_num, OutZ.step HM3.out hown9 hgrow hblk, ?_⟩
  rw [List.length_append, List.length_singleton, List.range_succ, List.map_append, ← HPC.out.1]
  show cur ++ [(x : Int) % 41 - 20] = cur ++ [modV l (R.length * k + cur.length)]
  rw [← HA.out, HV.out]
end Go.Proofs.YtpocjagbhiahdaaGreatDoor
section
namespace Go.Proofs.YtpocjagbhiahdaaGreatDoor
open Go.ChangeShapes Go.WideShapes Go.ChangeAt Go.RowKit

variable {H : Type} {enc : TypeId × Value → H} {w : World} {base : Nat} {spare : Nat → Bool} {held : Bool}
theorem wfY_bd {n : Int} (h : (Lit.int .u8 n).wf = true) : 0 ≤ n ∧ n < 256 := by
  simp [Lit.wf, IntKind.min, IntKind.max, IntKind.signed, IntKind.bits] at h
  omega
theorem cellsY : Tryz.prog.cellsOf 5 = 1 := by kernel_rfl
theorem open_rowY {fuel : Nat} {cs : List Value} {x : DataW H × List MemPlace} (h : DataW.trod enc Tryz.prog w base spare held fuel 47 cs = some x) (hb : Rows.uptoBulk x.1 ≤ 1048576) :
    ∃ (a : Option Addr) (xs : List Nat) (c : Nat), cs = [.slice a xs.length c] ∧ (RowY w a xs ∧ ∀ y ∈ xs, y < 256) ∧ xs.length ≤ 1048576 := by
  rcases open_ints Tryz.underlying47 Tryz.underlying5 cellsY h with ⟨hcs, hx⟩ | ⟨a, len, cap, zs, hcs, _, hl, hm, hz, hx, hcell, hwz⟩
  · exact ⟨none, [], 0, hcs, ⟨fun i y h => by simp at h, fun y h => by simp at h⟩, by simp⟩
  have hle : len ≤ zs.length := by rw [hz]; split <;> omega
  have hlen : ((zs.take len).map Int.toNat).length = len := by simp; omega
  refine ⟨some a, (zs.take len).map Int.toNat, cap, by rw [hlen]; exact hcs, ⟨fun i y hi => ?_, fun y hy => ?_⟩, ?_⟩
  · have hi2 : i < len := by have := (List.getElem?_eq_some_iff.1 hi).1; omega
    obtain ⟨b, o, rfl⟩ := cell_spot (hcell 0 (by omega))
    have hc := hcell i (by omega)
    rw [Addr.add_lit] at hc
    have hw := wfY_bd (hwz (zs[i]'(by omega)) (List.getElem_mem _))
    have e2 : zs.getD i 0 = zs[i]'(by omega) := by simp [List.getD, List.getElem?_eq_getElem (show i < zs.length by omega)]
    rw [e2] at hc
    rw [List.getElem?_map, List.getElem?_take, if_pos hi2, List.getElem?_eq_getElem (show i < zs.length by omega)] at hi
    have e3 : (zs[i]'(by omega)).toNat = y := by simpa using hi
    exact ⟨b, o, rfl, by rw [hc, ← e3, Int.toNat_of_nonneg hw.1]⟩
  · obtain ⟨z, hz', rfl⟩ := List.mem_map.1 hy
    have := wfY_bd (hwz z (List.mem_of_mem_take hz'))
    omega
  refine Nat.le_trans ?_ hb
  rw [hx]
  show _ ≤ Rows.uptoBulk (DataW.slice _ _)
  refine Nat.le_trans ?_ (bulk_slice _ _)
  simp [lits]
end Go.Proofs.YtpocjagbhiahdaaGreatDoor
end
namespace Go.Proofs.YtpocjagbhiahdaaGreatDoor
open Go.RowKit


theorem OwnI.empty {wb w : World} (k : Kp wb w) : OwnI wb (w.alloc (.cells #[] 44)) (.slice (some ⟨w.heap.size, 0, none⟩) 0 0) [] :=
  ⟨⟨fun _ h => by simp at h, k.alloc _⟩, World.ownsRow_made w #[] 0 k.size (Nat.zero_le _) rfl⟩
theorem OwnI.block {wb w : World} {g n c : Nat} {zs : List RI} (h : OwnI wb w (.slice (some ⟨g, 0, none⟩) n c) zs) : wb.heap.size ≤ g ∧ g < w.heap.size ∧ (∀ i, w.frozen? ⟨g, i, none⟩ = false) := by
  obtain ⟨h1, h2, h3⟩ := h
  rcases h3 with ⟨h4, _⟩ | ⟨g', cap, cur, h4, hb, hg, hn, hc, hs, ht⟩
  · cases h4
  cases h4
  exact ⟨hb, (Array.getElem?_eq_some_iff.1 hg).1, fun i => frozen_of_row w g _ _ _ hg⟩

theorem eqR_of {w w' : World} {x y : RD} (hx : x.rd w) (hy : y.rd w') (vx : x.vl = true) (vy : y.vl = true) (h : x.dy = y.dy) : eqR x y = true := by
  unfold eqR
  have h1 : x.neg = y.neg := congrArg Dy.neg h
  have h2 : x.e = y.e := congrArg Dy.e h
  have h3 : x.xs = y.xs := by rw [← RD.limbs hx vx, ← RD.limbs hy vy, h]
  simp [h1, h2, h3]
def eqI8 (x y : RI) : Bool := (x.all == y.all) && (eqR x.lo y.lo && eqR x.hi y.hi)
theorem eqI8_pl {w w' : World} {x y : RI} (hx : x.rd w) (hy : y.rd w') (vx : x.vl = true) (vy : y.vl = true) (h : x.pl = y.pl) : eqI8 x y = true := by
  have ha := pl_all h
  unfold eqI8
  cases hxa : x.all with
  | false =>
    have hya : y.all = false := by rw [← ha]; exact hxa
    have ox : x.ok w := ⟨hx, hxa, vx⟩
    have oy : y.ok w' := ⟨hy, hya, vy⟩
    rw [hya, eqR_of ox.lo.1 oy.lo.1 ox.lo.2 oy.lo.2 (pl_lo h), eqR_of ox.hi.1 oy.hi.1 ox.hi.2 oy.hi.2 (pl_hi h)]
    rfl
  | true =>
  have hya : y.all = true := by rw [← ha]; exact hxa
  unfold RI.vl at vx vy
  rw [hxa, if_pos rfl, Bool.and_eq_true] at vx
  rw [hya, if_pos rfl, Bool.and_eq_true] at vy
  obtain ⟨a1, a2, a3⟩ := RD.zr_parts.1 vx.1
  obtain ⟨b1, b2, b3⟩ := RD.zr_parts.1 vx.2
  obtain ⟨c1, c2, c3⟩ := RD.zr_parts.1 vy.1
  obtain ⟨d1, d2, d3⟩ := RD.zr_parts.1 vy.2
  rw [hya]
  unfold eqR
  rw [a1, a2, a3, b1, b2, b3, c1, c2, c3, d1, d2, d3]
  rfl
set_option maxRecDepth 100000 in
set_option maxHeartbeats 4000000 in
theorem r5equal_any (x y : RI) (w : World) (hx : x.rd w) (hy : y.rd w) :
    Calls Tryz.prog 15 #[.agg #[.bool x.lo.neg, .slice x.lo.a x.lo.xs.length x.lo.c, .int .i64 x.lo.e, .bool x.hi.neg, .slice x.hi.a x.hi.xs.length x.hi.c, .int .i64 x.hi.e, .bool x.all], .agg #[.bool y.lo.neg, .slice y.lo.a y.lo.xs.length y.lo.c, .int .i64 y.lo.e, .bool y.hi.neg, .slice y.hi.a y.hi.xs.length y.hi.c, .int .i64 y.hi.e, .bool y.all]] w fun e w' => e = .returned (.bool (eqI8 x y)) ∧ Kp w w' := by
  have H := Lib.hid (show eqI8 x y = ((x.all == y.all) && (eqR x.lo y.lo && eqR x.hi y.hi)) from rfl)
  by_cases hn : x.all = y.all
  rotate_left
  · have hn1 : (x.all == y.all) = false := by cases h1 : x.all <;> cases h2 : y.all <;> simp_all
    rw [hn1] at H
    clear hn
    go_enter Tryz.func15, Tryz.ntmps15
    go_wp2_with fail
    go_ret
    exact ⟨ret_bool (by rw [H.out]; simp), ((Kp.refl w).alloc _).alloc _⟩
  have hn1 : (x.all == y.all) = true := by rw [hn]; cases y.all <;> rfl
  have Hn := Lib.hid hn1
  clear hn
  go_enter Tryz.func15, Tryz.ntmps15
  go_wp2_with fail
  generalize hW : ((w.alloc _).alloc _) = W at *
  have hk : Kp w W := hW ▸ ((Kp.refl w).alloc _).alloc _
  have hS : (W.cell? ⟨w.heap.size, 0, none⟩ = some (.bool x.lo.neg) ∧ W.cell? ⟨w.heap.size, 1, none⟩ = some (.slice x.lo.a x.lo.xs.length x.lo.c) ∧ W.cell? ⟨w.heap.size, 2, none⟩ = some (.int .i64 x.lo.e) ∧ W.cell? ⟨w.heap.size, 3, none⟩ = some (.bool x.hi.neg) ∧ W.cell? ⟨w.heap.size, 4, none⟩ = some (.slice x.hi.a x.hi.xs.length x.hi.c) ∧ W.cell? ⟨w.heap.size, 5, none⟩ = some (.int .i64 x.hi.e) ∧ W.cell? ⟨w.heap.size, 6, none⟩ = some (.bool x.all)) ∧ W.cell? ⟨w.heap.size + 1, 0, none⟩ = some (.bool y.lo.neg) ∧ W.cell? ⟨w.heap.size + 1, 1, none⟩ = some (.slice y.lo.a y.lo.xs.length y.lo.c) ∧ W.cell? ⟨w.heap.size + 1, 2, none⟩ = some (.int .i64 y.lo.e) ∧ W.cell? ⟨w.heap.size + 1, 3, none⟩ = some (.bool y.hi.neg) ∧ W.cell? ⟨w.heap.size + 1, 4, none⟩ = some (.slice y.hi.a y.hi.xs.length y.hi.c) ∧ W.cell? ⟨w.heap.size + 1, 5, none⟩ = some (.int .i64 y.hi.e) ∧ W.cell? ⟨w.heap.size + 1, 6, none⟩ = some (.bool y.all) := by rw [← hW]; exact keep77 (Kp.refl _) (by simp)
  clear hW
  go_fit (r2Equal_any x.lo y.lo _ (hx.1.kp hk) (hy.1.kp hk))
  rintro e w1 ⟨rfl, hk1⟩
  cases hl : eqR x.lo y.lo with
  | false =>
    rw [hl] at H
    clear hl
    go_wp2_with fail
    go_ret
    exact ⟨ret_bool (by rw [H.out]; simp), hk.trans hk1⟩
  | true =>
  rw [hl] at H
  clear hl
  obtain ⟨⟨s0, s1, s2, s3, s4, s5, s6⟩, t0, t1, t2, t3, t4, t5, t6⟩ := keep77 hk1 hS
  clear hS
  go_wp2_with fail
  have hk2 := hk.trans hk1
  go_fit (r2Equal_any x.hi y.hi _ (hx.2.kp hk2) (hy.2.kp hk2))
  rintro e w2 ⟨rfl, hk3⟩
  go_wp2_with fail
  go_ret
  exact ⟨ret_bool (by rw [H.out, Hn.out]; simp), hk2.trans hk3⟩
set_option maxHeartbeats 1000000 in
theorem eqrow8_any (zs ys : List RI) (a b : Option Addr) (c d : Nat) (w : World) (hz : RowI w a zs) (hy : RowI w b ys) (hl : zs.length ≤ 1100000) :
    Calls Tryz.prog 14 #[.slice a zs.length c, .slice b ys.length d, .func (.func 15) #[] #[]] w fun e w' => e = .returned (.bool (allII eqI8 zs ys)) ∧ Kp w w' := by
  have hp : AnsII Tryz.prog 15 #[] w zs ys eqI8 :=
    ⟨fun _ _ => by kernel_rfl, fun x hx y hy' w1 k => r5equal_any x y w1 ((hz.rdI hx).kp k) ((hy.rdI hy').kp k)⟩
  exact eqfII a b zs ys c d _ _ w eqI8 hl hz hy hp
set_option maxHeartbeats 1000000 in
theorem eq8row_any (zs ys : List RI) (a b : Option Addr) (c d : Nat) (w : World) (hz : RowI w a zs) (hy : RowI w b ys) (hl : zs.length ≤ 1100000) :
    Calls Tryz.prog 49 #[.slice a zs.length c, .slice b ys.length d] w fun e w' => e = .returned (.bool (allII eqI8 zs ys)) ∧ Kp w w' := by
  have HC := Lib.hid (eqrow8_any zs ys a b c d w hz hy hl)
  clear hz hy
  go_enter Tryz.func49, Tryz.ntmps49
  go_wp2_with fail
  go_fit HC.out
  rintro e w1 ⟨rfl, k1⟩
  go_wp2_with fail
  go_ret
  exact ⟨rfl, k1⟩
def eqM8 (m n : List (List RI)) : Bool := allRR (allII eqI8) m n
set_option maxHeartbeats 1000000 in
theorem equal8_any (m n : List (List RI)) (a b : Option Addr) (c d : Nat) (w : World) (hm : RowM w a m) (hn : RowM w b n) (hl : m.length ≤ 1100000) :
    Calls Tryz.prog 10 #[.slice a m.length c, .slice b n.length d] w fun e w' => e = .returned (.bool (eqM8 m n)) ∧ Kp w w' := by
  have hp : AnsRR Tryz.prog 49 #[] w m n (allII eqI8) :=
    ⟨fun _ _ => by kernel_rfl, fun x hx y hy a1 c1 a2 c2 w1 k h1 h2 => eq8row_any x y a1 a2 c1 c2 w1 h1.1 h2.1 h1.2⟩
  have HC := Lib.hid (eqfRR a b m n c d _ _ w (allII eqI8) hl hm hn hp)
  clear hp hm hn
  go_enter Tryz.func10, Tryz.ntmps10
  go_wp2_with fail
  go_fit HC.out
  rintro e w1 ⟨rfl, k1⟩
  go_wp2_with fail
  go_ret
  exact ⟨rfl, k1⟩
theorem eqR8_pl {w w' : World} {a b : Option Addr} {x y : List RI} (rx : RowI w a x) (ry : RowI w' b y) (ox : ∀ z ∈ x, z.vl = true) (oy : ∀ z ∈ y, z.vl = true) (hr : plR x = plR y) : allII eqI8 x y = true := by
  have hl2 : x.length = y.length := by have := congrArg List.length hr; simpa [plR] using this
  refine allII_true.2 ⟨hl2, fun j u v hu hv => ?_⟩
  have hp : u.pl = v.pl := by
    have h1 : (plR x)[j]? = (plR y)[j]? := by rw [hr]
    simpa [plR, hu, hv] using h1
  exact eqI8_pl (rx.rdI (List.mem_of_getElem? hu)) (ry.rdI (List.mem_of_getElem? hv)) (ox u (List.mem_of_getElem? hu)) (oy v (List.mem_of_getElem? hv)) hp
theorem eqM8_pl {w w' : World} {a b : Option Addr} {m n : List (List RI)} (hm : RowM w a m) (hn : RowM w' b n) (om : okM m) (on : okM n) (h : plM m = plM n) : eqM8 m n = true := by
  have hl : m.length = n.length := by have := congrArg List.length h; simpa [plM] using this
  refine allRR_true.2 ⟨hl, fun i x y hx hy => ?_⟩
  obtain ⟨_, _, _, _, _, _, rx, _⟩ := hm i x hx
  obtain ⟨_, _, _, _, _, _, ry, _⟩ := hn i y hy
  have hr : plR x = plR y := by
    have h1 : (plM m)[i]? = (plM n)[i]? := by rw [h]
    simpa [plM, hx, hy] using h1
  exact eqR8_pl rx ry (om x (List.mem_of_getElem? hx)) (on y (List.mem_of_getElem? hy)) hr
end Go.Proofs.YtpocjagbhiahdaaGreatDoor
