/-
  Walks: the eighth reference's Det.
-/
import Derived.Deep.CutRange
import Derived.Deep.DeepFit
import Derived.Deep.LoopGhost
import Derived.Deep.QuietTactic
import Derived.BigQuiet
import Derived.Test.YtpocjagbhiahdaaGreatDoorMPts8
namespace Go.Proofs.YtpocjagbhiahdaaGreatDoor
open Go.RowKit

def detZ : List (List Int) → Int
  | [[a]] => a
  | [[a, b], [c, d]] => a * d - b * c
  | [[a, b, c], [d, e, f], [g, h, i]] => a * (e * i - f * h) + b * (f * g - d * i) + c * (d * h - e * g)
  | _ => 0
theorem list1 {α : Type} {l : List α} (h : l.length = 1) : ∃ a, l = [a] := by
  match l, h with
  | [a], _ => exact ⟨a, rfl⟩
theorem list2 {α : Type} {l : List α} (h : l.length = 2) : ∃ a b, l = [a, b] := by
  match l, h with
  | [a, b], _ => exact ⟨a, b, rfl⟩
theorem list3z {α : Type} {l : List α} (h : l.length = 3) : ∃ a b c, l = [a, b, c] := by
  match l, h with
  | [a, b, c], _ => exact ⟨a, b, c, rfl⟩
theorem sq_cases {m : List (List Int)} {k : Nat} (hm : rectZ m k) (hl : m.length = k) (hk : k ≤ 3) : (∃ a, m = [[a]]) ∨ (∃ a b c d, m = [[a, b], [c, d]]) ∨ ∃ a b c d e f g h i, m = [[a, b, c], [d, e, f], [g, h, i]] := by
  obtain ⟨_, h2, h3⟩ := hm
  obtain rfl | rfl | rfl : k = 1 ∨ k = 2 ∨ k = 3 := by omega
  · obtain ⟨r, rfl⟩ := list1 hl
    obtain ⟨a, rfl⟩ := list1 (h3 r (by simp)).1
    exact .inl ⟨a, rfl⟩
  · obtain ⟨r, s, rfl⟩ := list2 hl
    obtain ⟨a, b, rfl⟩ := list2 (h3 r (by simp)).1
    obtain ⟨c, d, rfl⟩ := list2 (h3 s (by simp)).1
    exact .inr (.inl ⟨a, b, c, d, rfl⟩)
  obtain ⟨r, s, t, rfl⟩ := list3z hl
  obtain ⟨a, b, c, rfl⟩ := list3z (h3 r (by simp)).1
  obtain ⟨d, e, f, rfl⟩ := list3z (h3 s (by simp)).1
  obtain ⟨g, h, i, rfl⟩ := list3z (h3 t (by simp)).1
  exact .inr (.inr ⟨a, b, c, d, e, f, g, h, i, rfl⟩)
theorem row1 {w : World} {a : Option Addr} {x : Int} {t : List Int} (h : RowZ w a (x :: t)) : ∃ b o, a = some ⟨b, o, none⟩ ∧ w.cell? ⟨b, o, none⟩ = some (.int .i64 x) ∧ ∀ j y, t[j]? = some y → w.cell? ⟨b, o + (j + 1), none⟩ = some (.int .i64 y) := by
  obtain ⟨b, o, rfl, hc⟩ := h 0 x rfl
  refine ⟨b, o, rfl, by simpa using hc, fun j y hj => ?_⟩
  obtain ⟨b2, o2, e, hc2⟩ := h (j + 1) y hj
  cases e
  exact hc2
theorem wrap64_in {n : Int} (h : n.natAbs ≤ 9000000000000) : wrap64 n = n := (IntWalk.i64_left n).symm.trans (IntWalk.i64_in n (by omega))
theorem mul_small {a b : Int} {A B : Nat} (ha : a.natAbs ≤ A) (hb : b.natAbs ≤ B) : (a * b).natAbs ≤ A * B := by rw [Int.natAbs_mul]; exact Nat.mul_le_mul ha hb
set_option maxRecDepth 100000 in
set_option maxHeartbeats 4000000 in
theorem det1_any (x : Int) (a : Option Addr) (c : Nat) (w : World) (hm : RowZZ w a [[x]]) :
    Calls Tryz.prog 18 #[.slice a 1 c] w fun e w' => e = .returned (.int .i64 x) ∧ Kp w w' := by
  obtain ⟨b, o, ra, rc, rfl, hc, hr⟩ := hm 0 [x] rfl
  obtain ⟨b0, o0, rfl, h0, _⟩ := row1 hr
  rw [Nat.add_zero] at hc
  clear hm hr
  go_enter Tryz.func18, Tryz.ntmps18
  go_wp2_with fail
  go_ret
  exact ⟨rfl, .refl _⟩
set_option maxRecDepth 100000 in
set_option maxHeartbeats 4000000 in
theorem det2_any (p q r s : Int) (a : Option Addr) (c : Nat) (w : World) (hm : RowZZ w a [[p, q], [r, s]]) (hp : p.natAbs ≤ 1000) (hq : q.natAbs ≤ 1000) (hr : r.natAbs ≤ 1000) (hs : s.natAbs ≤ 1000) :
    Calls Tryz.prog 18 #[.slice a 2 c] w fun e w' => e = .returned (.int .i64 (p * s - q * r)) ∧ Kp w w' := by
  obtain ⟨b, o, ra, rc, rfl, hc, h1⟩ := hm 0 [p, q] rfl
  obtain ⟨b', o', rb, rd, e, hd, h2⟩ := hm 1 [r, s] rfl
  cases e
  obtain ⟨b0, o0, rfl, h00, h0⟩ := row1 h1
  have h01 := h0 0 q rfl
  obtain ⟨b1, o1, rfl, h10, h0'⟩ := row1 h2
  have h11 := h0' 0 s rfl
  rw [Nat.add_zero] at hc
  have m1 := mul_small hp hs
  have m2 := mul_small hq hr
  have w1 : IntKind.i64.wrap (p * s) = p * s := IntWalk.i64_in _ (by omega)
  have w2 : IntKind.i64.wrap (q * r) = q * r := IntWalk.i64_in _ (by omega)
  have w3 : IntKind.i64.wrap (p * s - q * r) = p * s - q * r := IntWalk.i64_in _ (by omega)
  clear hm h1 h2 h0 h0' m1 m2 hp hq hr hs
  go_enter Tryz.func18, Tryz.ntmps18
  go_upto_region 5 with fail
  go_quiet (fail)
  go_wp2_with fail
  go_ret
  exact ⟨by first | rfl | (simp only [w1, w2, w3]), (Kp.refl _).drewN _⟩
def det3S (a b c d e f g h i : Int) : Nat → Int
  | 0 => 0
  | 1 => a * (e * i - f * h)
  | 2 => a * (e * i - f * h) + b * (f * g - d * i)
  | _ => a * (e * i - f * h) + b * (f * g - d * i) + c * (d * h - e * g)
set_option maxRecDepth 100000 in
set_option maxHeartbeats 8000000 in
theorem det3_any (m00 m01 m02 m10 m11 m12 m20 m21 m22 : Int) (a : Option Addr) (c : Nat) (w : World) (hm : RowZZ w a [[m00, m01, m02], [m10, m11, m12], [m20, m21, m22]])
    (hb : ∀ x ∈ [m00, m01, m02, m10, m11, m12, m20, m21, m22], x.natAbs ≤ 1000) :
    Calls Tryz.prog 18 #[.slice a 3 c] w fun e w' => e = .returned (.int .i64 (m00 * (m11 * m22 - m12 * m21) + m01 * (m12 * m20 - m10 * m22) + m02 * (m10 * m21 - m11 * m20))) ∧ Kp w w' := by
  obtain ⟨b, o, ra, rc, rfl, hc0, h1⟩ := hm 0 _ rfl
  obtain ⟨b', o', rb, rd, e, hc1, h2⟩ := hm 1 _ rfl
  cases e
  obtain ⟨b', o', re, rf, e, hc2, h3⟩ := hm 2 _ rfl
  cases e
  obtain ⟨b0, o0, rfl, h00, h0⟩ := row1 h1
  have h01 := h0 0 m01 rfl
  have h02 := h0 1 m02 rfl
  obtain ⟨b1, o1, rfl, h10, h0'⟩ := row1 h2
  have h11 := h0' 0 m11 rfl
  have h12 := h0' 1 m12 rfl
  obtain ⟨b2, o2, rfl, h20, h0''⟩ := row1 h3
  have h21 := h0'' 0 m21 rfl
  have h22 := h0'' 1 m22 rfl
  rw [Nat.add_zero] at hc0
  have B : ∀ x ∈ [m00, m01, m02, m10, m11, m12, m20, m21, m22], x.natAbs ≤ 1000 := hb
  have W : ∀ x y : Int, x.natAbs ≤ 1000 → y.natAbs ≤ 1000 → wrap64 (x * y) = x * y := fun x y hx hy => wrap64_in (by have := mul_small hx hy; omega)
  have p1 := mul_small (B m11 (by simp)) (B m22 (by simp))
  have p2 := mul_small (B m12 (by simp)) (B m21 (by simp))
  have p3 := mul_small (B m12 (by simp)) (B m20 (by simp))
  have p4 := mul_small (B m10 (by simp)) (B m22 (by simp))
  have p5 := mul_small (B m10 (by simp)) (B m21 (by simp))
  have p6 := mul_small (B m11 (by simp)) (B m20 (by simp))
  have w1 := W m11 m22 (B _ (by simp)) (B _ (by simp))
  have w2 := W m12 m21 (B _ (by simp)) (B _ (by simp))
  have w3 := W m12 m20 (B _ (by simp)) (B _ (by simp))
  have w4 := W m10 m22 (B _ (by simp)) (B _ (by simp))
  have w5 := W m10 m21 (B _ (by simp)) (B _ (by simp))
  have w6 := W m11 m20 (B _ (by simp)) (B _ (by simp))
  have q1 := mul_small (a := m00) (b := m11 * m22 - m12 * m21) (B m00 (by simp)) (B := 2000000) (by omega)
  have q2 := mul_small (a := m01) (b := m12 * m20 - m10 * m22) (B m01 (by simp)) (B := 2000000) (by omega)
  have q3 := mul_small (a := m02) (b := m10 * m21 - m11 * m20) (B m02 (by simp)) (B := 2000000) (by omega)
  have s1 : wrap64 (m11 * m22 - m12 * m21) = m11 * m22 - m12 * m21 := wrap64_in (by omega)
  have s2 : wrap64 (m12 * m20 - m10 * m22) = m12 * m20 - m10 * m22 := wrap64_in (by omega)
  have s3 : wrap64 (m10 * m21 - m11 * m20) = m10 * m21 - m11 * m20 := wrap64_in (by omega)
  have t1 : wrap64 (m00 * (m11 * m22 - m12 * m21)) = m00 * (m11 * m22 - m12 * m21) := wrap64_in (by omega)
  have t2 : wrap64 (m01 * (m12 * m20 - m10 * m22)) = m01 * (m12 * m20 - m10 * m22) := wrap64_in (by omega)
  have t3 : wrap64 (m02 * (m10 * m21 - m11 * m20)) = m02 * (m10 * m21 - m11 * m20) := wrap64_in (by omega)
  have u2 : wrap64 (m00 * (m11 * m22 - m12 * m21) + m01 * (m12 * m20 - m10 * m22)) = m00 * (m11 * m22 - m12 * m21) + m01 * (m12 * m20 - m10 * m22) := wrap64_in (by omega)
  have u3 : wrap64 (m00 * (m11 * m22 - m12 * m21) + m01 * (m12 * m20 - m10 * m22) + m02 * (m10 * m21 - m11 * m20)) = m00 * (m11 * m22 - m12 * m21) + m01 * (m12 * m20 - m10 * m22) + m02 * (m10 * m21 - m11 * m20) := wrap64_in (by omega)
  have HW := Lib.hid (And.intro (And.intro w1 (And.intro w2 (And.intro s1 t1))) (And.intro (And.intro w3 (And.intro w4 (And.intro s2 (And.intro t2 u2)))) (And.intro w5 (And.intro w6 (And.intro s3 (And.intro t3 u3))))))
  have HC := Lib.hid (And.intro (And.intro hc0 (And.intro hc1 hc2)) (And.intro (And.intro h00 (And.intro h01 h02)) (And.intro (And.intro h10 (And.intro h11 h12)) (And.intro h20 (And.intro h21 h22)))))
  clear hm h1 h2 h3 h0 h0' h0'' p1 p2 p3 p4 p5 p6 q1 q2 q3 hb B W w1 w2 w3 w4 w5 w6 s1 s2 s3 t1 t2 t3 u2 u3 hc0 hc1 hc2 h00 h01 h02 h10 h11 h12 h20 h21 h22
  go_enter Tryz.func18, Tryz.ntmps18
  go_wp2_with fail
  go_loopg [3, 4] 3 (fun n v t wr => ∃ j : Nat, j + n = 3 ∧ t = .int .i64 (j : Int) ∧ v = .int .i64 (det3S m00 m01 m02 m10 m11 m12 m20 m21 m22 j) ∧ Kp w wr)
  case atStart => exact ⟨0, rfl, rfl, rfl, .refl _⟩
  case round =>
  obtain ⟨j, hj, rfl, rfl, hk⟩ := hrel
  obtain ⟨⟨w1, w2, s1, t1⟩, ⟨w3, w4, s2, t2, u2⟩, w5, w6, s3, t3, u3⟩ := HW.out
  obtain ⟨⟨hc0, hc1, hc2⟩, ⟨h00, h01, h02⟩, ⟨h10, h11, h12⟩, h20, h21, h22⟩ := HC.out
  replace hc0 := hk.cell hc0
  replace hc1 := hk.cell hc1
  replace hc2 := hk.cell hc2
  replace h00 := hk.cell h00
  replace h01 := hk.cell h01
  replace h02 := hk.cell h02
  replace h10 := hk.cell h10
  replace h11 := hk.cell h11
  replace h12 := hk.cell h12
  replace h20 := hk.cell h20
  replace h21 := hk.cell h21
  replace h22 := hk.cell h22
  obtain rfl | rfl | rfl | rfl : j = 0 ∨ j = 1 ∨ j = 2 ∨ j = 3 := by omega
  · clear w3 w4 s2 t2 u2 w5 w6 s3 t3 u3
    go_upto_region 11 with fail
    go_quiet (fail)
    go_wp2_with fail
    go_roundg (gk - 1)
    case rel => exact ⟨1, by omega, rfl, by simp only [det3S, Int.zero_add, t1], hk.drewN _⟩
    case measure => omega
  · clear w1 w2 s1 t1 w5 w6 s3 t3 u3
    go_upto_region 11 with fail
    go_quiet (fail)
    go_wp2_with fail
    go_roundg (gk - 1)
    case rel => exact ⟨2, by omega, rfl, by simp only [det3S, u2], hk.drewN _⟩
    case measure => omega
  · clear w1 w2 s1 t1 w3 w4 s2 t2 u2
    go_upto_region 11 with fail
    go_quiet (fail)
    go_wp2_with fail
    go_roundg (gk - 1)
    case rel => exact ⟨3, by omega, rfl, by simp only [det3S, u3], hk.drewN _⟩
    case measure => omega
  go_wp2_with fail
  go_ret
  exact ⟨rfl, hk⟩
theorem r8det_any (m : List (List Int)) (k : Nat) (a : Option Addr) (c : Nat) (w : World) (hm : RowZZ w a m) (hr : rectZ m k) (hl : m.length = k) (hk : k ≤ 3) (hb : ∀ r ∈ m, ∀ x ∈ r, x.natAbs ≤ 1000) :
    Calls Tryz.prog 18 #[.slice a m.length c] w fun e w' => e = .returned (.int .i64 (detZ m)) ∧ Kp w w' := by
  rcases sq_cases hr hl hk with ⟨x, rfl⟩ | ⟨p, q, r, s, rfl⟩ | ⟨m00, m01, m02, m10, m11, m12, m20, m21, m22, rfl⟩
  · exact det1_any x a c w hm
  · exact det2_any p q r s a c w hm (hb [p, q] (by simp) p (by simp)) (hb [p, q] (by simp) q (by simp)) (hb [r, s] (by simp) r (by simp)) (hb [r, s] (by simp) s (by simp))
  refine det3_any m00 m01 m02 m10 m11 m12 m20 m21 m22 a c w hm fun x hx => ?_
  simp only [List.mem_cons, List.not_mem_nil, or_false] at hx
  rcases hx with rfl | rfl | rfl | rfl | rfl | rfl | rfl | rfl | rfl
  · exact hb [x, m01, m02] (by simp) x (by simp)
  · exact hb [m00, x, m02] (by simp) x (by simp)
  · exact hb [m00, m01, x] (by simp) x (by simp)
  · exact hb [x, m11, m12] (by simp) x (by simp)
  · exact hb [m10, x, m12] (by simp) x (by simp)
  · exact hb [m10, m11, x] (by simp) x (by simp)
  · exact hb [x, m21, m22] (by simp) x (by simp)
  · exact hb [m20, x, m22] (by simp) x (by simp)
  exact hb [m20, m21, x] (by simp) x (by simp)
end Go.Proofs.YtpocjagbhiahdaaGreatDoor
