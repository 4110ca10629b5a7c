/-
  Walks: the reference's Sum.
-/
import Derived.Test.YtndbnfeapdkoaaaDoorMR2I
namespace Go.Proofs.YtndbnfeapdkoaaaDoor
open Go.RowKit

theorem r2Of_lim (s : Bool) (a : Option Addr) (V : Nat) (c : Nat) (ex : Int) (w : World) (h : Rd w a (limbs V)) (hc : (limbs V).length ≤ c) (hm : c ≤ maxLen) (hl : (limbs V).length ≤ 100000) (he0 : -16384 ≤ ex) (he1 : ex ≤ 16384) :
    Calls Tryd.prog 54 #[.bool s, .slice a (limbs V).length c, .int .i64 ex] w (DyOut w (canon s V ex)) := by
  have := r2Of_any s a (limbs V) c ex w h hc hm (by omega) (by omega) (by omega)
  rwa [val_limbs] at this
theorem cmpL_lim {P Q : Nat} : (Q ≤ P → 0 ≤ cmpL (limbs P) (limbs Q)) ∧ (P < Q → cmpL (limbs P) (limbs Q) < 0) := by
  unfold cmpL
  constructor
  · intro h
    have := limbs_length_mono h
    rw [if_neg (by omega)]
    split
    · decide
    · rw [val_limbs, val_limbs]; have := cmpN_nlt h; omega
  · intro h
    have := limbs_length_mono (Nat.le_of_lt h)
    split
    · decide
    · rw [if_neg (by omega), val_limbs, val_limbs]; exact cmpN_isneg h
theorem wide_len {d f : Dy} (hd : d.ok) (hf : f.ok) (hd0 : d.m ≠ 0) (hf0 : f.m ≠ 0) : bits (d.m * 2 ^ (d.e - min d.e f.e).toNat) ≤ 40000 ∧ bits (f.m * 2 ^ (f.e - min d.e f.e).toNat) ≤ 40000 := by
  have bd : (bits d.m : Int) ≤ 4096 := by rcases hd with ⟨h, _⟩ | ⟨_, h, _⟩; exact absurd h hd0; omega
  have bf : (bits f.m : Int) ≤ 4096 := by rcases hf with ⟨h, _⟩ | ⟨_, h, _⟩; exact absurd h hf0; omega
  have hed := ok_e hd
  have hef := ok_e hf
  rw [bits_mul_pow hd0, bits_mul_pow hf0]
  omega
theorem set6 {w : World} {o g h : Nat} (n : g ≠ o) (n' : h ≠ o) {d f : Dy} {a b : Option Addr} {c k : Nat} {v0 v1 v2 : Value} (hS : w.cell? ⟨g, 0, none⟩ = some (.bool d.neg) ∧ w.cell? ⟨g, 1, none⟩ = some (.slice a (limbs d.m).length c) ∧ w.cell? ⟨g, 2, none⟩ = some (.int .i64 d.e) ∧ w.cell? ⟨h, 0, none⟩ = some (.bool f.neg) ∧ w.cell? ⟨h, 1, none⟩ = some (.slice b (limbs f.m).length k) ∧ w.cell? ⟨h, 2, none⟩ = some (.int .i64 f.e)) :
    (((w.setCell ⟨o, 0, none⟩ v0).setCell ⟨o, 1, none⟩ v1).setCell ⟨o, 2, none⟩ v2).cell? ⟨g, 0, none⟩ = some (.bool d.neg) ∧ (((w.setCell ⟨o, 0, none⟩ v0).setCell ⟨o, 1, none⟩ v1).setCell ⟨o, 2, none⟩ v2).cell? ⟨g, 1, none⟩ = some (.slice a (limbs d.m).length c) ∧ (((w.setCell ⟨o, 0, none⟩ v0).setCell ⟨o, 1, none⟩ v1).setCell ⟨o, 2, none⟩ v2).cell? ⟨g, 2, none⟩ = some (.int .i64 d.e) ∧ (((w.setCell ⟨o, 0, none⟩ v0).setCell ⟨o, 1, none⟩ v1).setCell ⟨o, 2, none⟩ v2).cell? ⟨h, 0, none⟩ = some (.bool f.neg) ∧ (((w.setCell ⟨o, 0, none⟩ v0).setCell ⟨o, 1, none⟩ v1).setCell ⟨o, 2, none⟩ v2).cell? ⟨h, 1, none⟩ = some (.slice b (limbs f.m).length k) ∧ (((w.setCell ⟨o, 0, none⟩ v0).setCell ⟨o, 1, none⟩ v1).setCell ⟨o, 2, none⟩ v2).cell? ⟨h, 2, none⟩ = some (.int .i64 f.e) := by
  obtain ⟨a0, a1, a2, b0, b1, b2⟩ := hS
  obtain ⟨c0, c1, c2⟩ := set3x (x0 := v0) (x1 := v1) (x2 := v2) n ⟨a0, a1, a2⟩
  obtain ⟨d0, d1, d2⟩ := set3x (x0 := v0) (x1 := v1) (x2 := v2) n' ⟨b0, b1, b2⟩
  exact ⟨c0, c1, c2, d0, d1, d2⟩
end Go.Proofs.YtndbnfeapdkoaaaDoor
