/-
  Walks: tree.change.
-/
import Derived.Test.YthaphbbeiglolaaMapN
namespace Go.Proofs.Ythaphbbeiglolaa
open Go.RowKit Go.Sort

/-- every entry of the map is a tree below B -/
def FunX (w : World) (B : Nat) (f : ByteArray → Option Ex) : Prop := ∀ s x, f s = some x → x.at w B
def ChangeAt (e : Ex) : Prop := ∀ (B b n : Nat) (f : ByteArray → Option Ex) (w : World), e.at w B → B ≤ w.heap.size → MapX w b n f → FunX w B f →
  Calls Try.prog 39 #[.agg #[.int .i64 e.kind, .int .i64 e.rn, .int .i64 e.rd, .string e.name, .int .i64 e.pw, .slice e.a e.l.length e.c], .map (some b)] w fun r w' => ∃ e' : Ex, r = .returned (.agg #[.int .i64 e'.kind, .int .i64 e'.rn, .int .i64 e'.rd, .string e'.name, .int .i64 e'.pw, .slice e'.a e'.l.length e'.c]) ∧ e'.er = (e.sub f).er ∧ Kp w w' ∧ e'.made w w'
set_option maxHeartbeats 4000000 in
set_option maxRecDepth 20000 in
theorem change_any : ∀ e : Ex, ChangeAt e := by
  refine Ex.ind fun e ih B b n f w hat hB hmap hfun => ?_
  have k1 : Kp w ((w.alloc (.cells #[.int .i64 e.kind, .int .i64 e.rn, .int .i64 e.rd, .string e.name, .int .i64 e.pw, .slice e.a e.l.length e.c] 26)).alloc (.cells #[.int .i64 0, .int .i64 0, .int .i64 0, .string ⟨#[]⟩, .int .i64 0, .slice none 0 0] 26)) := ((Kp.refl w).alloc _).alloc _
  have hB1 : BoxX ((w.alloc (.cells #[.int .i64 e.kind, .int .i64 e.rn, .int .i64 e.rd, .string e.name, .int .i64 e.pw, .slice e.a e.l.length e.c] 26)).alloc (.cells #[.int .i64 0, .int .i64 0, .int .i64 0, .string ⟨#[]⟩, .int .i64 0, .slice none 0 0] 26)) w.heap.size e := (BoxX.new w e _ rfl).kp ((Kp.refl _).alloc _)
  have hB2 : BoxX ((w.alloc (.cells #[.int .i64 e.kind, .int .i64 e.rn, .int .i64 e.rd, .string e.name, .int .i64 e.pw, .slice e.a e.l.length e.c] 26)).alloc (.cells #[.int .i64 0, .int .i64 0, .int .i64 0, .string ⟨#[]⟩, .int .i64 0, .slice none 0 0] 26)) (w.heap.size + 1) Ex.zero := BoxX.new _ Ex.zero _ (by simp)
  have hz0 : ((w.alloc (.cells #[.int .i64 e.kind, .int .i64 e.rn, .int .i64 e.rd, .string e.name, .int .i64 e.pw, .slice e.a e.l.length e.c] 26)).alloc (.cells #[.int .i64 0, .int .i64 0, .int .i64 0, .string ⟨#[]⟩, .int .i64 0, .slice none 0 0] 26)).heap.size = w.heap.size + 2 := by simp
  obtain ⟨⟨hlc, hcm, hnm, hl⟩, hrow, hch⟩ := Ex.at_iff.1 hat
  have HSub := Lib.hid (Ex.sub_eq f e)
  go_enter Try.func39, Try.ntmps39
  go_upto_region 1 with fail
  generalize World.alloc _ _ = W at *
  have HM := Lib.hid (hmap.kp k1)
  have HF := Lib.hid fun s x (h : f s = some x) => Ex.at_kp (hfun s x h) k1
  have HC := Lib.hid (hrow.kp k1)
  have HI := Lib.hid fun x hx => ih x hx
  have HA := Lib.hid fun x hx => Ex.at_kp (hch x hx) k1
  have K1 := Lib.hid k1
  have HZ := Lib.hid hz0
  have HB2 := Lib.hid hB2
  have HB1 := Lib.hid hB1
  obtain ⟨y, hy⟩ : ∃ y, (f e.name).getD Ex.zero = y := ⟨_, rfl⟩
  obtain ⟨ok, hok⟩ : ∃ ok, (f e.name).isSome = ok := ⟨_, rfl⟩
  have HY := Lib.hid hy
  have HO := Lib.hid hok
  obtain ⟨⟨q0, q1, q2, q3, q4, q5⟩, qf, _⟩ := hB1
  clear hrow hch ih k1 hat hB2 hz0 qf hmap hfun hy hok
  go_upto_region 2 with (at_lookup; refine wpList_lookup_map rfl _ _ rfl b n f rfl HM.out e.name rfl hnm y ok HO.out HY.out ?_)
  have kv : Kp W (W.alloc (.cells #[.int .i64 y.kind, .int .i64 y.rn, .int .i64 y.rd, .string y.name, .int .i64 y.pw, .slice y.a y.l.length y.c] 26)) := (Kp.refl W).alloc _
  have hB3 : BoxX (W.alloc (.cells #[.int .i64 y.kind, .int .i64 y.rn, .int .i64 y.rd, .string y.name, .int .i64 y.pw, .slice y.a y.l.length y.c] 26)) W.heap.size y := BoxX.new W y _ rfl
  have hzv : (W.alloc (.cells #[.int .i64 y.kind, .int .i64 y.rn, .int .i64 y.rd, .string y.name, .int .i64 y.pw, .slice y.a y.l.length y.c] 26)).heap.size = W.heap.size + 1 := by simp
  generalize W.alloc _ = V at *
  have HA := Lib.hid fun x hx => Ex.at_kp (HA.out x hx) kv
  have HF := Lib.hid fun s x h => Ex.at_kp (HF.out s x h) kv
  have HM := Lib.hid (HM.out.kp kv)
  have hrow := HC.out.kp kv
  have HB1 := Lib.hid (HB1.out.kp kv)
  have HB2 := Lib.hid (HB2.out.kp kv)
  have K1 := Lib.hid (K1.out.trans kv)
  have HZ := Lib.hid (show w.heap.size + 2 ≤ V.heap.size by have := HZ.out; omega)
  have HC := Lib.hid (clonex_any e.a e.c B e.l V hrow (by omega))
  obtain ⟨q0, q1, q2, q3, q4, q5⟩ := keepE6 kv ⟨q0, q1, q2, q3, q4, q5⟩
  obtain ⟨⟨y0, y1, y2, y3, y4, y5⟩, _⟩ := hB3
  clear kv hzv hrow
  cases ok with
  | true =>
    by_cases c2 : e.kind = 2
    · have ck : (e.kind == 2) = true := by rw [c2]; rfl
      have hsome : f e.name = some y := by
        have h1 := HO.out
        have h2 := HY.out
        cases hf : f e.name with
        | none => rw [hf] at h1; cases h1
        | some z => rw [hf] at h2; exact congrArg some h2
      have HN := Lib.hid (clone_anyT y B V (HF.out e.name y hsome) (by have := HZ.out; omega))
      have HE := Lib.hid (show e.sub f = y by rw [HSub.out, if_pos ⟨c2, HO.out⟩, hsome]; rfl)
      clear HA HF HM HC HI HSub c2 hsome HY HO hlc hcm hl hnm
      go_wp2_with (go_at_call 45; go_fit HN.out; rintro r w3 ⟨e', rfl, he, k3, hm⟩; obtain ⟨⟨z0, z1, z2, z3, z4, z5⟩, zf, _⟩ := HB2.out.kp k3; have g0 := zf 0; have g1 := zf 1; have g2 := zf 2; have g3 := zf 3; have g4 := zf 4; have g5 := zf 5)
      generalize hW4 : ((((((w3.setCell _ _).setCell _ _).setCell _ _).setCell _ _).setCell _ _).setCell _ _) = W4
      have hb2 := HB2.out.kp k3
      have hst : Stored6 (w.heap.size + 1) 0 e' w3 W4 := stored60 e' hb2 hW4
      obtain ⟨⟨s0, s1, s2, s3, s4, s5⟩, _⟩ := hb2.stored hst
      have hz := HZ.out
      have hz3 : W4.heap.size = w3.heap.size := hst.2.2.2.1
      refine bodyPost_ret (v := .agg #[.int .i64 e'.kind, .int .i64 e'.rn, .int .i64 e'.rd, .string e'.name, .int .i64 e'.pw, .slice e'.a e'.l.length e'.c]) (by simp [results, Try.results39, go_sem, s0, s1, s2, s3, s4, s5]) rfl ?_
      refine ⟨e', rfl, by rw [HE.out, he], hst.2.2.2.2 w (K1.out.trans k3) (by omega), ?_, ?_⟩
      · exact Ex.at_own' (by rw [hz3]; exact Nat.le_refl _) e' _ _ hm.2 (fun b i v hb _ hc => by rw [hst.2.1 ⟨b, i, none⟩ (.inl (by show b ≠ w.heap.size + 1; omega))]; exact hc) hm.1
      · rw [hz3]
        exact Ex.own_same _ _ _ (fun b i _ _ => hst.2.2.1 _) (Ex.own_down hm.2 (by omega))
    · have ck : (e.kind == 2) = false := by rw [beq_eq_false_iff_ne]; exact c2
      have HSub := Lib.hid (show e.sub f = _ from HSub.out.trans (if_neg fun h => c2 h.1))
      clear c2 HY HO
      go_upto_region 5 with (go_at_call 58; go_fit HC.out; rintro r W2 ⟨a', c', rfl, hc1, hc2, k2, hd⟩)
      have hS := CopyS.start (f := fun x => (Ex.sub f x).er) k2 (hd.imp id fun ⟨g, h1, h2, h3⟩ => ⟨g, h1, h2, h3⟩)
      clear k2 hd q0 q1 q2 q3 q4 q5 y0 y1 y2 y3 y4 y5 HC
      go_wp2
      go_loopw [29] (fun x wr => ∃ (k : Nat) (done : List Ex), x = .int .i64 (k : Int) ∧ CopyS V wr a' e.l (fun x => (Ex.sub f x).er) k done) (fun x _ => e.l.length - (intOf x).toNat)
      case atStart => exact ⟨0, [], rfl, hS⟩
      case round =>
        obtain ⟨k, done, rfl, hs⟩ := hrel
        clear hS
        have hk := hs.1.1
        by_cases hlt : k < e.l.length
        · obtain ⟨x, hx⟩ : ∃ x, e.l[k]? = some x := ⟨_, List.getElem?_eq_getElem hlt⟩
          have hxm := List.mem_of_getElem? hx
          obtain ⟨g, rfl, hg, hr⟩ : ∃ g, a' = some ⟨g, 0, none⟩ ∧ V.heap.size ≤ g ∧ RowC wr g (done ++ e.l.drop k) := by
            rcases hs.2.2.2 with h | ⟨g, h1, h2, h3, _⟩
            · rw [h] at hlt; exact absurd hlt (Nat.not_lt_zero _)
            · exact ⟨g, h1, h2, h3⟩
          obtain ⟨h0, h1, h2, h3, h4, h5⟩ := hr.1 k x ((get_done hs.1.2.1).trans hx)
          have HX := Lib.hid (HI.out x hxm B b n f wr (Ex.at_kp (HA.out x hxm) hs.2.2.1) (by have := hs.2.2.1.size; have := HZ.out; omega) (HM.out.kp hs.2.2.1) (fun s z hz => Ex.at_kp (HF.out s z hz) hs.2.2.1))
          have Hs := Lib.hid hs
          have Hx := Lib.hid hx
          have Hr := Lib.hid hr
          clear hs hx hxm hr
          go_wp2_with (go_at_call 39; go_fit HX.out; rintro r w3 ⟨e', rfl, he, k3, hm⟩; obtain ⟨f0, f1, f2, f3, f4, f5⟩ := (Hr.out.kp k3).fr6 (k := k) (by have := Hs.out.1.2.1; simp; omega); obtain ⟨t0, t1, t2, t3, t4, t5⟩ := (Hr.out.kp k3).1 k x ((get_done Hs.out.1.2.1).trans Hx.out))
          generalize hW4 : ((((((w3.setCell _ _).setCell _ _).setCell _ _).setCell _ _).setCell _ _).setCell _ _) = W4
          have hst : Stored6 g (k * 6) e' w3 W4 := by
            subst hW4
            exact stored6X e' ((Hr.out.kp k3).1 k x ((get_done Hs.out.1.2.1).trans Hx.out))
          clear hW4
          go_roundw
          case rel => exact ⟨k + 1, done ++ [e'], by go_num, Hs.out.step Hx.out rfl (.refl _) k3 he hm hst⟩
          case measure => simp [intOf]; omega
        · obtain rfl : k = e.l.length := by omega
          obtain ⟨⟨q0, q1, q2, q3, q4, q5⟩, qf, _⟩ := HB1.out.kp hs.2.2.1
          obtain ⟨⟨z0, z1, z2, z3, z4, z5⟩, zf, _⟩ := HB2.out.kp hs.2.2.1
          have f5 := qf 5
          have g0 := zf 0
          have g1 := zf 1
          have g2 := zf 2
          have g3 := zf 3
          have g4 := zf 4
          have g5 := zf 5
          have Hs := Lib.hid hs
          clear hs qf zf
          go_wp2
          generalize hW4 : (((((((wr.setCell _ _).setCell _ _).setCell _ _).setCell _ _).setCell _ _).setCell _ _).setCell _ _) = W4
          have hn := Hs.out.1.2.1
          have kw := K1.out.trans Hs.out.2.2.1
          have hz := HZ.out
          rw [← hn] at hW4
          have hb2 : BoxX (wr.setCell ⟨w.heap.size, 5, none⟩ (.slice a' done.length c')) (w.heap.size + 1) Ex.zero := (HB2.out.kp Hs.out.2.2.1).other (fun p hp => cellset_ne (fun e => by rw [← e] at hp; simp only at hp; omega)) (fun p => by simp) (by simp)
          have hst : Stored6 (w.heap.size + 1) 0 (.mk e.kind e.rn e.rd e.name e.pw a' c' done) (wr.setCell ⟨w.heap.size, 5, none⟩ (.slice a' done.length c')) W4 := stored60 (.mk e.kind e.rn e.rd e.name e.pw a' c' done) hb2 hW4
          obtain ⟨r1, r2, r3⟩ := Hs.out.end (W4 := W4) (k := e.kind) (r := e.rn) (d := e.rd) (p := e.pw) (s := e.name) (c' := c') (lo := w.heap.size) (by omega)
            (fun b i v hb hc => by
              rw [hst.2.1 ⟨b, i, none⟩ (.inl (by show b ≠ w.heap.size + 1; omega)), cellset_ne (fun e => by injection e with e1; omega)]; exact hc)
            (fun p => (hst.2.2.1 p).trans (by simp)) (hst.2.2.2.1.trans (by simp)) hc1 hc2 hnm hl
          obtain ⟨⟨s0, s1, s2, s3, s4, s5⟩, _⟩ := hb2.stored hst
          refine bodyPost_ret (v := .agg #[.int .i64 e.kind, .int .i64 e.rn, .int .i64 e.rd, .string e.name, .int .i64 e.pw, .slice a' done.length c']) (by simp [results, Try.results39, go_sem, s0, s1, s2, s3, s4, s5, Ex.kind, Ex.rn, Ex.rd, Ex.name, Ex.pw, Ex.a, Ex.c, Ex.l]) rfl ?_
          refine ⟨.mk e.kind e.rn e.rd e.name e.pw a' c' done, rfl, ?_, hst.2.2.2.2 w (kw.set (Nat.le_refl _) _) (by omega), r1, r2⟩
          rw [HSub.out, Ex.er_iff]
          exact ⟨⟨rfl, rfl, rfl, rfl, rfl⟩, r3.trans (by rw [show (Ex.mk e.kind e.rn e.rd e.name e.pw none 0 (e.l.map (Ex.sub f))).l = e.l.map (Ex.sub f) from rfl, List.map_map]; rfl)⟩
  | false =>
    have HSub := Lib.hid (show e.sub f = _ from HSub.out.trans (if_neg fun h => by rw [HO.out] at h; exact absurd h.2 (by decide)))
    clear HY HO
    go_upto_region 5 with (go_at_call 58; go_fit HC.out; rintro r W2 ⟨a', c', rfl, hc1, hc2, k2, hd⟩)
    have hS := CopyS.start (f := fun x => (Ex.sub f x).er) k2 (hd.imp id fun ⟨g, h1, h2, h3⟩ => ⟨g, h1, h2, h3⟩)
    clear k2 hd q0 q1 q2 q3 q4 q5 y0 y1 y2 y3 y4 y5 HC
    go_wp2
    go_loopw [29] (fun x wr => ∃ (k : Nat) (done : List Ex), x = .int .i64 (k : Int) ∧ CopyS V wr a' e.l (fun x => (Ex.sub f x).er) k done) (fun x _ => e.l.length - (intOf x).toNat)
    case atStart => exact ⟨0, [], rfl, hS⟩
    case round =>
      obtain ⟨k, done, rfl, hs⟩ := hrel
      clear hS
      have hk := hs.1.1
      by_cases hlt : k < e.l.length
      · obtain ⟨x, hx⟩ : ∃ x, e.l[k]? = some x := ⟨_, List.getElem?_eq_getElem hlt⟩
        have hxm := List.mem_of_getElem? hx
        obtain ⟨g, rfl, hg, hr⟩ : ∃ g, a' = some ⟨g, 0, none⟩ ∧ V.heap.size ≤ g ∧ RowC wr g (done ++ e.l.drop k) := by
          rcases hs.2.2.2 with h | ⟨g, h1, h2, h3, _⟩
          · rw [h] at hlt; exact absurd hlt (Nat.not_lt_zero _)
          · exact ⟨g, h1, h2, h3⟩
        obtain ⟨h0, h1, h2, h3, h4, h5⟩ := hr.1 k x ((get_done hs.1.2.1).trans hx)
        have HX := Lib.hid (HI.out x hxm B b n f wr (Ex.at_kp (HA.out x hxm) hs.2.2.1) (by have := hs.2.2.1.size; have := HZ.out; omega) (HM.out.kp hs.2.2.1) (fun s z hz => Ex.at_kp (HF.out s z hz) hs.2.2.1))
        have Hs := Lib.hid hs
        have Hx := Lib.hid hx
        have Hr := Lib.hid hr
        clear hs hx hxm hr
        go_wp2_with (go_at_call 39; go_fit HX.out; rintro r w3 ⟨e', rfl, he, k3, hm⟩; obtain ⟨f0, f1, f2, f3, f4, f5⟩ := (Hr.out.kp k3).fr6 (k := k) (by have := Hs.out.1.2.1; simp; omega); obtain ⟨t0, t1, t2, t3, t4, t5⟩ := (Hr.out.kp k3).1 k x ((get_done Hs.out.1.2.1).trans Hx.out))
        generalize hW4 : ((((((w3.setCell _ _).setCell _ _).setCell _ _).setCell _ _).setCell _ _).setCell _ _) = W4
        have hst : Stored6 g (k * 6) e' w3 W4 := by
          subst hW4
          exact stored6X e' ((Hr.out.kp k3).1 k x ((get_done Hs.out.1.2.1).trans Hx.out))
        clear hW4
        go_roundw
        case rel => exact ⟨k + 1, done ++ [e'], by go_num, Hs.out.step Hx.out rfl (.refl _) k3 he hm hst⟩
        case measure => simp [intOf]; omega
      · obtain rfl : k = e.l.length := by omega
        obtain ⟨⟨q0, q1, q2, q3, q4, q5⟩, qf, _⟩ := HB1.out.kp hs.2.2.1
        obtain ⟨⟨z0, z1, z2, z3, z4, z5⟩, zf, _⟩ := HB2.out.kp hs.2.2.1
        have f5 := qf 5
        have g0 := zf 0
        have g1 := zf 1
        have g2 := zf 2
        have g3 := zf 3
        have g4 := zf 4
        have g5 := zf 5
        have Hs := Lib.hid hs
        clear hs qf zf
        go_wp2
        generalize hW4 : (((((((wr.setCell _ _).setCell _ _).setCell _ _).setCell _ _).setCell _ _).setCell _ _).setCell _ _) = W4
        have hn := Hs.out.1.2.1
        have kw := K1.out.trans Hs.out.2.2.1
        have hz := HZ.out
        rw [← hn] at hW4
        have hb2 : BoxX (wr.setCell ⟨w.heap.size, 5, none⟩ (.slice a' done.length c')) (w.heap.size + 1) Ex.zero := (HB2.out.kp Hs.out.2.2.1).other (fun p hp => cellset_ne (fun e => by rw [← e] at hp; simp only at hp; omega)) (fun p => by simp) (by simp)
        have hst : Stored6 (w.heap.size + 1) 0 (.mk e.kind e.rn e.rd e.name e.pw a' c' done) (wr.setCell ⟨w.heap.size, 5, none⟩ (.slice a' done.length c')) W4 := stored60 (.mk e.kind e.rn e.rd e.name e.pw a' c' done) hb2 hW4
        obtain ⟨r1, r2, r3⟩ := Hs.out.end (W4 := W4) (k := e.kind) (r := e.rn) (d := e.rd) (p := e.pw) (s := e.name) (c' := c') (lo := w.heap.size) (by omega)
          (fun b i v hb hc => by
            rw [hst.2.1 ⟨b, i, none⟩ (.inl (by show b ≠ w.heap.size + 1; omega)), cellset_ne (fun e => by injection e with e1; omega)]; exact hc)
          (fun p => (hst.2.2.1 p).trans (by simp)) (hst.2.2.2.1.trans (by simp)) hc1 hc2 hnm hl
        obtain ⟨⟨s0, s1, s2, s3, s4, s5⟩, _⟩ := hb2.stored hst
        refine bodyPost_ret (v := .agg #[.int .i64 e.kind, .int .i64 e.rn, .int .i64 e.rd, .string e.name, .int .i64 e.pw, .slice a' done.length c']) (by simp [results, Try.results39, go_sem, s0, s1, s2, s3, s4, s5, Ex.kind, Ex.rn, Ex.rd, Ex.name, Ex.pw, Ex.a, Ex.c, Ex.l]) rfl ?_
        refine ⟨.mk e.kind e.rn e.rd e.name e.pw a' c' done, rfl, ?_, hst.2.2.2.2 w (kw.set (Nat.le_refl _) _) (by omega), r1, r2⟩
        rw [HSub.out, Ex.er_iff]
        exact ⟨⟨rfl, rfl, rfl, rfl, rfl⟩, r3.trans (by rw [show (Ex.mk e.kind e.rn e.rd e.name e.pw none 0 (e.l.map (Ex.sub f))).l = e.l.map (Ex.sub f) from rfl, List.map_map]; rfl)⟩
end Go.Proofs.Ythaphbbeiglolaa
