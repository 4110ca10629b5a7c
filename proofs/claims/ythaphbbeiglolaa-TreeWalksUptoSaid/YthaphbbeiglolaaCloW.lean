/-
  Walks: tree.clone.
-/
import Derived.Test.YthaphbbeiglolaaCloM
namespace Go.Proofs.Ythaphbbeiglolaa
open Go.RowKit Go.Sort

set_option maxHeartbeats 4000000 in
set_option maxRecDepth 20000 in
theorem clone_anyT : ∀ e : Ex, CloneAt e := by
  refine Ex.ind fun e ih B w hat hB => ?_
  have k1 : Kp w ((w.alloc (.cells #[.int .i64 e.kind, .int .i64 e.rn, .int .i64 e.rd, .string e.name, .int .i64 e.pw, .slice e.a e.l.length e.c] 26)).alloc (.cells #[.int .i64 0, .int .i64 0, .int .i64 0, .string ⟨#[]⟩, .int .i64 0, .slice none 0 0] 26)) := ((Kp.refl w).alloc _).alloc _
  have hB1 : BoxX ((w.alloc (.cells #[.int .i64 e.kind, .int .i64 e.rn, .int .i64 e.rd, .string e.name, .int .i64 e.pw, .slice e.a e.l.length e.c] 26)).alloc (.cells #[.int .i64 0, .int .i64 0, .int .i64 0, .string ⟨#[]⟩, .int .i64 0, .slice none 0 0] 26)) w.heap.size e := (BoxX.new w e _ rfl).kp ((Kp.refl _).alloc _)
  have hB2 : BoxX ((w.alloc (.cells #[.int .i64 e.kind, .int .i64 e.rn, .int .i64 e.rd, .string e.name, .int .i64 e.pw, .slice e.a e.l.length e.c] 26)).alloc (.cells #[.int .i64 0, .int .i64 0, .int .i64 0, .string ⟨#[]⟩, .int .i64 0, .slice none 0 0] 26)) (w.heap.size + 1) Ex.zero := BoxX.new _ Ex.zero _ (by simp)
  have hz0 : ((w.alloc (.cells #[.int .i64 e.kind, .int .i64 e.rn, .int .i64 e.rd, .string e.name, .int .i64 e.pw, .slice e.a e.l.length e.c] 26)).alloc (.cells #[.int .i64 0, .int .i64 0, .int .i64 0, .string ⟨#[]⟩, .int .i64 0, .slice none 0 0] 26)).heap.size = w.heap.size + 2 := by simp
  obtain ⟨⟨hlc, hcm, hnm, hl⟩, hrow, hch⟩ := Ex.at_iff.1 hat
  go_enter Try.func45, Try.ntmps45
  go_upto_region 1 with fail
  generalize World.alloc _ _ = W at *
  have HC := Lib.hid (clonex_any e.a e.c B e.l W (hrow.kp k1) (by omega))
  have HI := Lib.hid fun x hx => ih x hx
  have HA := Lib.hid fun x hx => Ex.at_kp (hch x hx) k1
  have K1 := Lib.hid k1
  have HZ := Lib.hid hz0
  have HB2 := Lib.hid hB2
  have HB1 := Lib.hid hB1
  obtain ⟨⟨q0, q1, q2, q3, q4, q5⟩, qf, _⟩ := hB1
  clear hrow hch ih k1 hat hB2 hz0 qf
  go_upto_region 2 with (go_at_call 58; go_fit HC.out; rintro r W2 ⟨a', c', rfl, hc1, hc2, k2, hd⟩)
  have hS := CopyS.start (f := Ex.er) k2 (hd.imp id fun ⟨g, h1, h2, h3⟩ => ⟨g, h1, h2, h3⟩)
  clear k2 hd q0 q1 q2 q3 q4 q5 HC
  go_wp2
  go_loopw [10] (fun x wr => ∃ (k : Nat) (done : List Ex), x = .int .i64 (k : Int) ∧ CopyS W wr a' e.l Ex.er k done) (fun x _ => e.l.length - (intOf x).toNat)
  case atStart => exact ⟨0, [], rfl, hS⟩
  case round =>
    obtain ⟨k, done, rfl, hs⟩ := hrel
    clear hS
    have hk := hs.1.1
    by_cases hlt : k < e.l.length
    · obtain ⟨x, hx⟩ : ∃ x, e.l[k]? = some x := ⟨_, List.getElem?_eq_getElem hlt⟩
      have hxm := List.mem_of_getElem? hx
      obtain ⟨g, rfl, hg, hr⟩ : ∃ g, a' = some ⟨g, 0, none⟩ ∧ W.heap.size ≤ g ∧ RowC wr g (done ++ e.l.drop k) := by
        rcases hs.2.2.2 with h | ⟨g, h1, h2, h3, _⟩
        · rw [h] at hlt; exact absurd hlt (Nat.not_lt_zero _)
        · exact ⟨g, h1, h2, h3⟩
      obtain ⟨h0, h1, h2, h3, h4, h5⟩ := hr.1 k x ((get_done hs.1.2.1).trans hx)
      have HX := Lib.hid (HI.out x hxm B wr (Ex.at_kp (HA.out x hxm) hs.2.2.1) (by have := hs.2.2.1.size; have := HZ.out; omega))
      have Hs := Lib.hid hs
      have Hx := Lib.hid hx
      have Hr := Lib.hid hr
      clear hs hx hxm hr
      go_wp2_with (go_at_call 45; go_fit HX.out; rintro r w3 ⟨e', rfl, he, k3, hm⟩; obtain ⟨f0, f1, f2, f3, f4, f5⟩ := (Hr.out.kp k3).fr6 (k := k) (by have := Hs.out.1.2.1; simp; omega); obtain ⟨t0, t1, t2, t3, t4, t5⟩ := (Hr.out.kp k3).1 k x ((get_done Hs.out.1.2.1).trans Hx.out))
      generalize hW4 : ((((((w3.setCell _ _).setCell _ _).setCell _ _).setCell _ _).setCell _ _).setCell _ _) = W4
      have hst : Stored6 g (k * 6) e' w3 W4 := by
        subst hW4
        exact stored6X e' ((Hr.out.kp k3).1 k x ((get_done Hs.out.1.2.1).trans Hx.out))
      clear hW4
      go_roundw
      case rel => exact ⟨k + 1, done ++ [e'], by go_num, Hs.out.step Hx.out rfl (.refl _) k3 he hm hst⟩
      case measure => simp [intOf]; omega
    · obtain rfl : k = e.l.length := by omega
      obtain ⟨⟨q0, q1, q2, q3, q4, q5⟩, qf, _⟩ := HB1.out.kp hs.2.2.1
      obtain ⟨⟨z0, z1, z2, z3, z4, z5⟩, zf, _⟩ := HB2.out.kp hs.2.2.1
      have f5 := qf 5
      have g0 := zf 0
      have g1 := zf 1
      have g2 := zf 2
      have g3 := zf 3
      have g4 := zf 4
      have g5 := zf 5
      have Hs := Lib.hid hs
      clear hs qf zf
      go_wp2
      generalize hW4 : (((((((wr.setCell _ _).setCell _ _).setCell _ _).setCell _ _).setCell _ _).setCell _ _).setCell _ _) = W4
      have hn := Hs.out.1.2.1
      have kw := K1.out.trans Hs.out.2.2.1
      have hz := HZ.out
      rw [← hn] at hW4
      have hb2 : BoxX (wr.setCell ⟨w.heap.size, 5, none⟩ (.slice a' done.length c')) (w.heap.size + 1) Ex.zero := (HB2.out.kp Hs.out.2.2.1).other (fun p hp => cellset_ne (fun e => by rw [← e] at hp; simp only at hp; omega)) (fun p => by simp) (by simp)
      have hst : Stored6 (w.heap.size + 1) 0 (.mk e.kind e.rn e.rd e.name e.pw a' c' done) (wr.setCell ⟨w.heap.size, 5, none⟩ (.slice a' done.length c')) W4 := stored60 (.mk e.kind e.rn e.rd e.name e.pw a' c' done) hb2 hW4
      obtain ⟨r1, r2, r3⟩ := Hs.out.end (W4 := W4) (k := e.kind) (r := e.rn) (d := e.rd) (p := e.pw) (s := e.name) (c' := c') (lo := w.heap.size) (by omega)
        (fun b i v hb hc => by
          rw [hst.2.1 ⟨b, i, none⟩ (.inl (by show b ≠ w.heap.size + 1; omega)), cellset_ne (fun e => by injection e with e1; omega)]; exact hc)
        (fun p => (hst.2.2.1 p).trans (by simp)) (hst.2.2.2.1.trans (by simp)) hc1 hc2 hnm hl
      obtain ⟨⟨s0, s1, s2, s3, s4, s5⟩, _⟩ := hb2.stored hst
      refine bodyPost_ret (v := .agg #[.int .i64 e.kind, .int .i64 e.rn, .int .i64 e.rd, .string e.name, .int .i64 e.pw, .slice a' done.length c']) (by simp [results, Try.results45, go_sem, s0, s1, s2, s3, s4, s5, Ex.kind, Ex.rn, Ex.rd, Ex.name, Ex.pw, Ex.a, Ex.c, Ex.l]) rfl ?_
      refine ⟨.mk e.kind e.rn e.rd e.name e.pw a' c' done, rfl, ?_, hst.2.2.2.2 w (kw.set (Nat.le_refl _) _) (by omega), r1, r2⟩
      rw [Ex.er_iff]
      exact ⟨⟨rfl, rfl, rfl, rfl, rfl⟩, r3⟩
end Go.Proofs.Ythaphbbeiglolaa
