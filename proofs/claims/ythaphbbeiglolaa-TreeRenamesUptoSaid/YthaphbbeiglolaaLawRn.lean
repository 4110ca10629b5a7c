/-
  Walks: TreeRenames.
-/
import Derived.SliceStrings
import Derived.Deep.RegionHeld3
import Derived.Test.YthaphbbeiglolaaAwkW
import Derived.Test.YthaphbbeiglolaaSwpN
import Derived.Test.YthaphbbeiglolaaOpnT
import Derived.Test.YthaphbbeiglolaaLawRp
namespace Go.Proofs.Ythaphbbeiglolaa
open Go.RowKit Go.Sort Go.Shelf Go.Deep Go.ChangeShapes Go.WideShapes Go.ChangeAt

section
variable {H : Type} {enc : TypeId × Value → H} {w : World} {base : Nat} {spare : Nat → Bool} {held : Bool}
/-- an argument []string -/
theorem open_strs {fuel : Nat} {cs : List Value} {x : DataW H × List MemPlace} (h : DataW.trod enc Try.prog w base spare held fuel 34 cs = some x) (hu : Rows.uptoBulk x.1 ≤ 1048576) :
    ∃ (a : Option Addr) (z : List ByteArray) (c : Nat), cs = [.slice a z.length c] ∧ RowS w a z ∧ (z.length ≤ 1048576 ∧ z.length ≤ c) ∧ ∀ s ∈ z, s.size ≤ maxLen := by
  rcases open_strings Try.underlying34 Try.underlying9 cellsSt h with ⟨rfl, _⟩ | ⟨ad, len, cap, ss, rfl, hb, hlc, hcm, hsl, hx, hc, hs⟩
  · exact ⟨none, [], 0, rfl, fun i s h => by simp at h, ⟨by simp, by simp⟩, fun s h => by simp at h⟩
  · have hle : len ≤ ss.length := by rw [hsl]; split <;> omega
    have htl : (ss.take len).length = len := by rw [List.length_take]; omega
    have hcell : ∀ (i : Nat) (s : ByteArray), (ss.take len)[i]? = some s → w.cell? (ad.add i) = some (.string s) := fun i s hi => by
      rw [List.getElem?_take] at hi
      split at hi
      · have hil := (List.getElem?_eq_some_iff.1 hi).1
        have := hc i hil
        rw [List.getD_eq_getElem?_getD, hi] at this
        exact this
      · cases hi
    refine ⟨some ad, ss.take len, cap, by rw [htl], fun i s hi => ?_, ⟨?_, by rw [htl]; exact hlc⟩, fun s h => hs s (List.mem_of_mem_take h)⟩
    · have hpos : 0 < ss.length := by
        have := (List.getElem?_eq_some_iff.1 hi).1
        rw [htl] at this
        omega
      obtain ⟨b, o, rfl⟩ := cell_spot (hc 0 hpos)
      have := hcell i s hi
      rw [Addr.add_lit] at this
      exact ⟨b, o, rfl, this⟩
    · have h1 := bulk_slice (strs (ss.take len)) (strs (H := H) (ss.drop len))
      rw [hx] at hu
      have h2 : (strs (H := H) (ss.take len)).length = (ss.take len).length := by simp [strs]
      have h3 : (strs (H := H) (ss.take len)).length ≤ Rows.uptoBulk (.slice (strs (H := H) (ss.take len)) (strs (ss.drop len))) := bulk_slice _ _
      have h4 : Rows.uptoBulk (.slice (strs (H := H) (ss.take len)) (strs (ss.drop len))) ≤ 1048576 := hu
      omega
end
/-- is a name in a list? -/
def hasS (ss : List ByteArray) (x : ByteArray) : Bool := ss.any fun y => decide (y = x)
theorem hasS_iff {ss : List ByteArray} {x : ByteArray} : hasS ss x = true ↔ x ∈ ss := by
  unfold hasS
  rw [List.any_eq_true]
  exact ⟨fun ⟨y, hy, e⟩ => of_decide_eq_true e ▸ hy, fun h => ⟨x, h, decide_eq_true rfl⟩⟩
theorem hasS_any (a : Option Addr) (n c : Nat) (ss : List ByteArray) (x : ByteArray) (w : World) (hn : ss.length = n) (h : RowS w a ss) (hl : n ≤ 1100000) :
    Calls Try.prog 32 #[.slice a n c, .string x] w fun e w' => e = .returned (.bool (hasS ss x)) ∧ w' = w := by
  subst hn
  by_cases h0 : ss = []
  · subst h0
    refine (Any.slices_Contains_string_empty lays110 a c x w).mono fun e w' hh => ?_
    obtain ⟨e1, e2⟩ := hh
    exact ⟨e1, e2⟩
  · obtain ⟨b, o, rfl, hc⟩ := rowS_cells h h0
    refine (Any.slices_Contains_string lays110 b o ss.length c ss x w (Nat.le_refl _) (by omega) hc).mono fun e w' hh => ?_
    obtain ⟨e1, e2⟩ := hh
    rw [List.take_length] at e1
    refine ⟨e1.trans (ret_bool ?_), e2⟩
    rw [Bool.eq_iff_iff, hasS_iff]
    exact Lib.containsS_iff ss x
set_option maxHeartbeats 1000000 in
theorem names1_any (s : ByteArray) (w : World) (hs : s.size ≤ maxLen) : Calls Try.prog 54 #[.string s] w fun r w' => r = .returned (.bool (!nameB s)) ∧ Kp w w' := by
  have HN := Lib.hid (r12name_any s w hs)
  generalize nameB s = q at *
  go_enter Try.func54, Try.ntmps54
  go_wp2_with (go_at_call 13; go_fit HN.out; rintro r w2 ⟨rfl, k2⟩)
  go_ret
  exact ⟨rfl, k2⟩
set_option maxHeartbeats 1000000 in
/-- the law's names -/
theorem names_any (a : Option Addr) (n c : Nat) (ss : List ByteArray) (w : World) (hn : ss.length = n) (h : RowS w a ss) (hl : n ≤ 1100000) (hs : ∀ s ∈ ss, s.size ≤ maxLen) :
    Calls Try.prog 33 #[.slice a n c] w fun r w' => r = .returned (.bool (ss.all nameB)) ∧ Kp w w' := by
  subst hn
  have he : (!ss.any fun s => !nameB s) = ss.all nameB := by simp [List.all_eq_not_any_not]
  have HC := Lib.hid (containsS a ss c 54 #[] w (fun s => !nameB s) hl h ⟨fun _ _ => by kernel_rfl, fun s hm w1 _ => names1_any s w1 (hs s hm)⟩)
  obtain ⟨q, hq⟩ : ∃ q, (ss.any fun s => !nameB s) = q := ⟨_, rfl⟩
  rw [hq] at he HC
  have He := Lib.hid he
  clear hq he
  go_enter Try.func33, Try.ntmps33
  go_wp2_with (go_at_call 53; go_fit HC.out; rintro r w2 ⟨rfl, k2⟩)
  go_ret
  exact ⟨ret_bool He.out, k2⟩
theorem fold_luk : ∀ (fs ts : List ByteArray) (f : ByteArray → Option Ex) (n : ByteArray), fs.Nodup → fs.length = ts.length → ((fs.zip ts).foldl (fun f q => updF f q.1 (varE q.2)) f) n = (lukF fs (ts.map varE) n).or (f n)
  | [], ts, f, n, _, _ => by simp [lukF]
  | x :: fs, [], _, _, _, h => by simp at h
  | x :: fs, t :: ts, f, n, hd, hl => by
    rw [List.zip_cons_cons, List.foldl_cons, fold_luk fs ts _ n (List.nodup_cons.1 hd).2 (by simpa using hl)]
    show _ = ((if x = n then some (varE t) else lukF fs (ts.map varE) n).or (f n))
    by_cases h : x = n
    · subst h
      rw [if_pos rfl, lukF_miss fs _ x fun j m hm e => (List.nodup_cons.1 hd).1 (e ▸ List.mem_of_getElem? hm)]
      show updF f x (varE t) x = _
      unfold updF
      rw [if_pos rfl]; rfl
    · rw [if_neg h]
      congr 1
      unfold updF
      rw [if_neg (fun e => h e.symm)]
theorem luk_ren {fs ts : List ByteArray} (hd : fs.Nodup) (hl : fs.length = ts.length) : lukF fs (ts.map varE) = renM (fs.zip ts) := by
  funext n
  unfold renM
  rw [fold_luk fs ts _ n hd hl]
  cases lukF fs (ts.map varE) n <;> rfl
theorem nodup_step {fs : List ByteArray} {k : Nat} {s : ByteArray} (hs : fs[k]? = some s) : (fs.take (k + 1)).Nodup ↔ (fs.take k).Nodup ∧ hasS (fs.take k) s = false := by
  constructor
  · intro h
    have h1 : (fs.take k).Nodup := by
      rw [List.take_add_one] at h
      exact (List.nodup_append.1 h).1
    refine ⟨h1, ?_⟩
    cases hq : hasS (fs.take k) s with
    | false => rfl
    | true =>
      rw [List.take_add_one, hs] at h
      exact absurd rfl ((List.nodup_append.1 h).2.2 s (hasS_iff.1 hq) s (by simp))
  · rintro ⟨h1, h2⟩
    exact nodup_take hs h1 fun h => by rw [hasS_iff.2 h] at h2; cases h2
theorem keepRn {w w' : World} (k : Kp w w') {p0 p1 p2 p3 p4 p5 q0 q1 q2 q3 q4 q5 : Addr} {v0 v1 v2 v3 v4 v5 u0 u1 u2 u3 u4 u5 : Value}
    (h : (w.cell? p0 = some v0 ∧ w.cell? p1 = some v1 ∧ w.cell? p2 = some v2 ∧ w.cell? p3 = some v3 ∧ w.cell? p4 = some v4 ∧ w.cell? p5 = some v5) ∧ (w.cell? q0 = some u0 ∧ w.cell? q1 = some u1 ∧ w.cell? q2 = some u2 ∧ w.cell? q3 = some u3 ∧ w.cell? q4 = some u4 ∧ w.cell? q5 = some u5)) :
    (w'.cell? p0 = some v0 ∧ w'.cell? p1 = some v1 ∧ w'.cell? p2 = some v2 ∧ w'.cell? p3 = some v3 ∧ w'.cell? p4 = some v4 ∧ w'.cell? p5 = some v5) ∧ (w'.cell? q0 = some u0 ∧ w'.cell? q1 = some u1 ∧ w'.cell? q2 = some u2 ∧ w'.cell? q3 = some u3 ∧ w'.cell? q4 = some u4 ∧ w'.cell? q5 = some u5) := ⟨keepE6 k h.1, keepE6 k h.2⟩
theorem OwnT.nil (w : World) : OwnT w w (.slice none 0 0) [] := ⟨.refl _, World.ownsRow_nil _ _ _ _⟩
theorem rowX_one (w : World) (s : ByteArray) : RowX (w.alloc (.cells #[.int .i64 2, .int .i64 0, .int .i64 0, .string s, .int .i64 0, .slice none 0 0] 26)) (w.heap.size + 1) (some ⟨w.heap.size, 0, none⟩) [varE s] := fun i x hx => by
  match i, hx with
  | 0, hx => cases hx; exact ⟨_, _, rfl, Nat.lt_succ_self _, (BoxX.new w (varE s) _ rfl).1⟩
  | i + 1, hx => simp at hx
set_option maxHeartbeats 8000000 in
set_option maxRecDepth 100000 in
theorem Renames_ok (e : Ex) (fs ts : List ByteArray) (fa ta : Option Addr) (fc tc : Nat) (w : World) (hat : e.at w w.heap.size) (hfs : RowS w fa fs) (hts : RowS w ta ts)
    (hl1 : fs.length ≤ 1048576 ∧ fs.length ≤ fc) (hl2 : ts.length ≤ 1048576 ∧ ts.length ≤ tc) (hm1 : ∀ s ∈ fs, s.size ≤ maxLen) (hm2 : ∀ s ∈ ts, s.size ≤ maxLen) :
    Calls Try.prog 8 #[.agg #[.int .i64 e.kind, .int .i64 e.rn, .int .i64 e.rd, .string e.name, .int .i64 e.pw, .slice e.a e.l.length e.c], .slice fa fs.length fc, .slice ta ts.length tc] w fun r w' => r = .returned (.bool true) ∧ Kp w w' := by
  have k1 : Kp w (w.alloc (.cells #[.int .i64 e.kind, .int .i64 e.rn, .int .i64 e.rd, .string e.name, .int .i64 e.pw, .slice e.a e.l.length e.c] 26)) := (Kp.refl w).alloc _
  have hB1 : BoxX (w.alloc (.cells #[.int .i64 e.kind, .int .i64 e.rn, .int .i64 e.rd, .string e.name, .int .i64 e.pw, .slice e.a e.l.length e.c] 26)) w.heap.size e := BoxX.new w e _ rfl
  have hrf := renF_eq e fs ts
  have HRN := Lib.hid fun W (h1 : e.at W w.heap.size) (h2 : w.heap.size ≤ W.heap.size) (h3 : RowS W fa fs) (h4 : RowS W ta ts) => rename_any e fs ts fa ta fc tc w.heap.size W h1 h2 h3 h4 hl1.1 hl2.1 hm1 hm2
  generalize hn1 : fs.length = n1 at *
  generalize hn2 : ts.length = n2 at *
  go_enter Try.func8, Try.ntmps8
  go_upto_region 1 with fail
  generalize World.alloc _ _ = W at *
  have KC := Lib.hid k1
  have HE := Lib.hid (Ex.at_kp hat k1)
  have HFS := Lib.hid (hfs.kp k1)
  have HTS := Lib.hid (hts.kp k1)
  have HB1 := Lib.hid hB1
  have HRF := Lib.hid hrf
  have HN1 := Lib.hid hn1
  have HN2 := Lib.hid hn2
  have HM1 := Lib.hid hm1
  have HM2 := Lib.hid hm2
  obtain ⟨hl1, hc1⟩ := hl1
  obtain ⟨hl2, hc2⟩ := hl2
  clear hat hB1 k1 hrf hn1 hn2 hm1 hm2 hfs hts
  go_upto_region 3 with (first | (go_at_call 10; go_fit (awake_one _); rintro r w1 ⟨rfl, k1⟩) | fail)
  have KC := Lib.hid (KC.out.trans k1)
  have HE := Lib.hid (Ex.at_kp HE.out k1)
  have HFS := Lib.hid (HFS.out.kp k1)
  have HTS := Lib.hid (HTS.out.kp k1)
  have HB1 := Lib.hid (HB1.out.kp k1)
  have hs1 : w.heap.size ≤ w1.heap.size := KC.out.size
  clear k1
  by_cases g1 : n1 ≤ 300
  rotate_left
  · have g1' : (300 : Int) < n1 := by omega
    go_wp2_with fail
    go_ret
    exact ⟨rfl, KC.out⟩
  have g1' : ¬ (300 : Int) < n1 := by omega
  by_cases g2 : n2 ≤ 300
  rotate_left
  · have g2' : (300 : Int) < n2 := by omega
    go_wp2_with fail
    go_ret
    exact ⟨rfl, KC.out⟩
  have g2' : ¬ (300 : Int) < n2 := by omega
  obtain ⟨⟨p0, p1, p2, p3, p4, p5⟩, _⟩ := id HB1.out
  have HR := Lib.hid (HRN.out w1 HE.out hs1 HFS.out HTS.out)
  obtain ⟨f, hf⟩ : ∃ f, renF e fs ts = f := ⟨_, rfl⟩
  have HF := Lib.hid hf
  rw [hf] at HR
  clear hf
  go_upto_region 6 with (first | (go_at_call 29; go_fit HR.out; rintro r w2 ⟨a, rfl, k2, hma, hea⟩) | fail)
  clear HR p0 p1 p2 p3 p4 p5
  have k2 := k2.trans ((Kp.refl w2).alloc (.cells #[.int .i64 a.kind, .int .i64 a.rn, .int .i64 a.rd, .string a.name, .int .i64 a.pw, .slice a.a a.l.length a.c] 26))
  have hba : BoxX (w2.alloc (.cells #[.int .i64 a.kind, .int .i64 a.rn, .int .i64 a.rd, .string a.name, .int .i64 a.pw, .slice a.a a.l.length a.c] 26)) w2.heap.size a := BoxX.new w2 a _ rfl
  have HMA := Lib.hid (Ex.made_kp hma ((Kp.refl w2).alloc (.cells #[.int .i64 a.kind, .int .i64 a.rn, .int .i64 a.rd, .string a.name, .int .i64 a.pw, .slice a.a a.l.length a.c] 26))).1
  have HEA := Lib.hid hea
  clear hma hea
  generalize hW : w2.alloc _ = w3 at *
  clear hW
  have KC := Lib.hid (KC.out.trans k2)
  have HE := Lib.hid (Ex.at_kp HE.out k2)
  have HFS := Lib.hid (HFS.out.kp k2)
  have HTS := Lib.hid (HTS.out.kp k2)
  have HB1 := Lib.hid (HB1.out.kp k2)
  have HBA := Lib.hid hba
  have hs3 : w.heap.size ≤ w3.heap.size := Nat.le_trans hs1 k2.size
  clear k2 hba
  go_wp2
  go_loopw [9, 34] (fun x y wr => ∃ (k : Nat) (b : Bool), k ≤ n1 ∧ x = .bool b ∧ y = .int .i64 (k : Int) ∧ (b = false ↔ (fs.take k).Nodup) ∧ wr = w3) (fun _ y _ => n1 - (intOf y).toNat)
  case atStart => exact ⟨0, false, by omega, rfl, rfl, by simp, rfl⟩
  case round =>
    obtain ⟨k, b, hk, rfl, rfl, hb, rfl⟩ := hrel
    have Hb := Lib.hid hb; clear hb
    by_cases hlt : k < n1
    · obtain ⟨s, hs⟩ : ∃ s, fs[k]? = some s := ⟨_, List.getElem?_eq_getElem (by rw [HN1.out]; exact hlt)⟩
      obtain ⟨b0, o0, ha0, h0⟩ := HFS.out k s hs
      have Hnd := Lib.hid (nodup_step hs)
      have hrt : RowS wr (some ⟨b0, o0, none⟩) (fs.take k) := fun i z hz => by
        rw [List.getElem?_take] at hz
        split at hz
        · rw [← ha0]; exact HFS.out i z hz
        · cases hz
      have HC := Lib.hid (hasS_any (some ⟨b0, o0, none⟩) k fc (fs.take k) s wr (by rw [List.length_take, HN1.out]; omega) hrt (by omega))
      have hkc : (k : Int) ≤ fc := by omega
      clear hs hrt
      rw [ha0]
      cases b with
      | true =>
        go_wp2
        go_roundw
        case rel => exact ⟨k + 1, true, by omega, rfl, by go_num, ⟨fun h => (by cases h), fun h => absurd (Hb.out.2 (Hnd.out.1 h).1) (by decide)⟩, by trivial⟩
        case measure => simp [intOf]; omega
      | false =>
        obtain ⟨q, hq⟩ : ∃ q, hasS (fs.take k) s = q := ⟨_, rfl⟩
        rw [hq] at HC Hnd
        clear hq
        go_wp2_with (first | (go_at_call 32; go_fit HC.out; rintro r w4 ⟨rfl, h4⟩; subst h4) | fail)
        go_roundw
        case rel =>
          refine ⟨k + 1, q, by omega, rfl, by go_num, ?_, by trivial⟩
          rw [Hnd.out]
          exact ⟨fun h => ⟨Hb.out.1 (by trivial), h⟩, fun h => h.2⟩
        case measure => simp [intOf]; omega
    · obtain rfl : k = n1 := by omega
      have hbb : b = false ↔ fs.Nodup := by
        have := Hb.out
        rwa [List.take_of_length_le (by rw [HN1.out]; exact Nat.le_refl _)] at this
      have HBB := Lib.hid hbb
      obtain ⟨w8, hw8⟩ : ∃ x : World, x = wr := ⟨_, rfl⟩
      subst hw8
      have HVe := Lib.hid fun W' (k : Kp w8 W') => rvalid13_any e w.heap.size W' (Ex.at_kp HE.out k)
      have HNf := Lib.hid fun W' (k' : Kp w8 W') => names_any fa k fc fs W' HN1.out (HFS.out.kp k') (by omega) HM1.out
      have HNt := Lib.hid fun W' (k' : Kp w8 W') => names_any ta n2 tc ts W' HN2.out (HTS.out.kp k') (by omega) HM2.out
      have KJ := Lib.hid (Kp.refl w8)
      obtain ⟨⟨p0, p1, p2, p3, p4, p5⟩, _⟩ := id HB1.out
      obtain ⟨⟨l0, l1, l2, l3, l4, l5⟩, _⟩ := id HBA.out
      clear hbb
      cases h1 : e.ok with
      | false =>
        rw [h1] at HVe
        have hf : f = 1 := by rw [← HF.out, HRF.out, if_neg (by rw [h1]; exact fun h => absurd h.1 (by decide))]
        subst hf
        have ha : a = Ex.zero := HEA.out.elim (fun h => absurd (HF.out.symm.trans h.1) (by decide)) And.right
        subst ha
        clear h1
        go_wp2_with (first
          | (go_at_call 12; go_fit (HVe.out _ KJ.out); rintro r w4 ⟨rfl, k4⟩; replace KJ := Lib.hid (KJ.out.trans k4); obtain ⟨⟨a0, a1, a2, a3, a4, a5⟩, _⟩ := HBA.out.kp KJ.out)
          | (go_at_call 33; go_fit (HNf.out _ KJ.out); rintro r w5 ⟨rfl, k5⟩; replace KJ := Lib.hid (KJ.out.trans k5); obtain ⟨⟨c0, c1, c2, c3, c4, c5⟩, _⟩ := HBA.out.kp KJ.out)
          | (go_at_call 33; go_fit (HNt.out _ KJ.out); rintro r w6 ⟨rfl, k6⟩; replace KJ := Lib.hid (KJ.out.trans k6); obtain ⟨⟨d0, d1, d2, d3, d4, d5⟩, _⟩ := HBA.out.kp KJ.out)
          | (go_at_call 14; go_fit (zero_any _); rintro r w7 ⟨rfl, k7⟩; replace KJ := Lib.hid (KJ.out.trans k7))
          | fail)
        go_ret
        exact ⟨rfl, KC.out.trans KJ.out⟩
      | true =>
        rw [h1] at HVe
        by_cases h2 : k = n2
        rotate_left
        · have h2' : ((k : Int) != (n2 : Int)) = true := bne_iff_ne.2 (by omega)
          have hf : f = 1 := by rw [← HF.out, HRF.out, if_neg (fun h => h2 h.2.1)]
          subst hf
          have ha : a = Ex.zero := HEA.out.elim (fun h => absurd (HF.out.symm.trans h.1) (by decide)) And.right
          subst ha
          clear h1 h2
          go_wp2_with (first
            | (go_at_call 12; go_fit (HVe.out _ KJ.out); rintro r w4 ⟨rfl, k4⟩; replace KJ := Lib.hid (KJ.out.trans k4); obtain ⟨⟨a0, a1, a2, a3, a4, a5⟩, _⟩ := HBA.out.kp KJ.out)
            | (go_at_call 33; go_fit (HNf.out _ KJ.out); rintro r w5 ⟨rfl, k5⟩; replace KJ := Lib.hid (KJ.out.trans k5); obtain ⟨⟨c0, c1, c2, c3, c4, c5⟩, _⟩ := HBA.out.kp KJ.out)
            | (go_at_call 33; go_fit (HNt.out _ KJ.out); rintro r w6 ⟨rfl, k6⟩; replace KJ := Lib.hid (KJ.out.trans k6); obtain ⟨⟨d0, d1, d2, d3, d4, d5⟩, _⟩ := HBA.out.kp KJ.out)
            | (go_at_call 14; go_fit (zero_any _); rintro r w7 ⟨rfl, k7⟩; replace KJ := Lib.hid (KJ.out.trans k7))
            | fail)
          go_ret
          exact ⟨rfl, KC.out.trans KJ.out⟩
        subst h2
        have h2' : ((k : Int) != (k : Int)) = false := by simp
        by_cases h3 : k ≤ 200
        rotate_left
        · have h3' : (200 : Int) < k := by omega
          have hf : f = 1 := by rw [← HF.out, HRF.out, if_neg (fun h => h3 h.2.2.1)]
          subst hf
          have ha : a = Ex.zero := HEA.out.elim (fun h => absurd (HF.out.symm.trans h.1) (by decide)) And.right
          subst ha
          clear h1 h3
          go_wp2_with (first
            | (go_at_call 12; go_fit (HVe.out _ KJ.out); rintro r w4 ⟨rfl, k4⟩; replace KJ := Lib.hid (KJ.out.trans k4); obtain ⟨⟨a0, a1, a2, a3, a4, a5⟩, _⟩ := HBA.out.kp KJ.out)
            | (go_at_call 33; go_fit (HNf.out _ KJ.out); rintro r w5 ⟨rfl, k5⟩; replace KJ := Lib.hid (KJ.out.trans k5); obtain ⟨⟨c0, c1, c2, c3, c4, c5⟩, _⟩ := HBA.out.kp KJ.out)
            | (go_at_call 33; go_fit (HNt.out _ KJ.out); rintro r w6 ⟨rfl, k6⟩; replace KJ := Lib.hid (KJ.out.trans k6); obtain ⟨⟨d0, d1, d2, d3, d4, d5⟩, _⟩ := HBA.out.kp KJ.out)
            | (go_at_call 14; go_fit (zero_any _); rintro r w7 ⟨rfl, k7⟩; replace KJ := Lib.hid (KJ.out.trans k7))
            | fail)
          go_ret
          exact ⟨rfl, KC.out.trans KJ.out⟩
        have h3' : ¬ (200 : Int) < k := by omega
        cases h4 : fs.all nameB with
        | false =>
          rw [h4] at HNf
          have hf : f = 1 := by rw [← HF.out, HRF.out, if_neg (by rw [h4]; exact fun h => absurd h.2.2.2.1 (by decide))]
          subst hf
          have ha : a = Ex.zero := HEA.out.elim (fun h => absurd (HF.out.symm.trans h.1) (by decide)) And.right
          subst ha
          clear h1 h3 h4
          go_wp2_with (first
            | (go_at_call 12; go_fit (HVe.out _ KJ.out); rintro r w4 ⟨rfl, k4⟩; replace KJ := Lib.hid (KJ.out.trans k4); obtain ⟨⟨a0, a1, a2, a3, a4, a5⟩, _⟩ := HBA.out.kp KJ.out)
            | (go_at_call 33; go_fit (HNf.out _ KJ.out); rintro r w5 ⟨rfl, k5⟩; replace KJ := Lib.hid (KJ.out.trans k5); obtain ⟨⟨c0, c1, c2, c3, c4, c5⟩, _⟩ := HBA.out.kp KJ.out)
            | (go_at_call 33; go_fit (HNt.out _ KJ.out); rintro r w6 ⟨rfl, k6⟩; replace KJ := Lib.hid (KJ.out.trans k6); obtain ⟨⟨d0, d1, d2, d3, d4, d5⟩, _⟩ := HBA.out.kp KJ.out)
            | (go_at_call 14; go_fit (zero_any _); rintro r w7 ⟨rfl, k7⟩; replace KJ := Lib.hid (KJ.out.trans k7))
            | fail)
          go_ret
          exact ⟨rfl, KC.out.trans KJ.out⟩
        | true =>
          rw [h4] at HNf
          cases h5 : ts.all nameB with
          | false =>
            rw [h5] at HNt
            have hf : f = 1 := by rw [← HF.out, HRF.out, if_neg (by rw [h5]; exact fun h => absurd h.2.2.2.2.1 (by decide))]
            subst hf
            have ha : a = Ex.zero := HEA.out.elim (fun h => absurd (HF.out.symm.trans h.1) (by decide)) And.right
            subst ha
            clear h1 h3 h4 h5
            go_wp2_with (first
              | (go_at_call 12; go_fit (HVe.out _ KJ.out); rintro r w4 ⟨rfl, k4⟩; replace KJ := Lib.hid (KJ.out.trans k4); obtain ⟨⟨a0, a1, a2, a3, a4, a5⟩, _⟩ := HBA.out.kp KJ.out)
              | (go_at_call 33; go_fit (HNf.out _ KJ.out); rintro r w5 ⟨rfl, k5⟩; replace KJ := Lib.hid (KJ.out.trans k5); obtain ⟨⟨c0, c1, c2, c3, c4, c5⟩, _⟩ := HBA.out.kp KJ.out)
              | (go_at_call 33; go_fit (HNt.out _ KJ.out); rintro r w6 ⟨rfl, k6⟩; replace KJ := Lib.hid (KJ.out.trans k6); obtain ⟨⟨d0, d1, d2, d3, d4, d5⟩, _⟩ := HBA.out.kp KJ.out)
              | (go_at_call 14; go_fit (zero_any _); rintro r w7 ⟨rfl, k7⟩; replace KJ := Lib.hid (KJ.out.trans k7))
              | fail)
            go_ret
            exact ⟨rfl, KC.out.trans KJ.out⟩
          | true =>
            rw [h5] at HNt
            cases b with
            | true =>
              have hf : f = 1 := by rw [← HF.out, HRF.out, if_neg (fun h => absurd (HBB.out.2 h.2.2.2.2.2) (by decide))]
              subst hf
              have ha : a = Ex.zero := HEA.out.elim (fun h => absurd (HF.out.symm.trans h.1) (by decide)) And.right
              subst ha
              clear h1 h3 h4 h5
              go_wp2_with (first
                | (go_at_call 12; go_fit (HVe.out _ KJ.out); rintro r w4 ⟨rfl, k4⟩; replace KJ := Lib.hid (KJ.out.trans k4); obtain ⟨⟨a0, a1, a2, a3, a4, a5⟩, _⟩ := HBA.out.kp KJ.out)
                | (go_at_call 33; go_fit (HNf.out _ KJ.out); rintro r w5 ⟨rfl, k5⟩; replace KJ := Lib.hid (KJ.out.trans k5); obtain ⟨⟨c0, c1, c2, c3, c4, c5⟩, _⟩ := HBA.out.kp KJ.out)
                | (go_at_call 33; go_fit (HNt.out _ KJ.out); rintro r w6 ⟨rfl, k6⟩; replace KJ := Lib.hid (KJ.out.trans k6); obtain ⟨⟨d0, d1, d2, d3, d4, d5⟩, _⟩ := HBA.out.kp KJ.out)
                | (go_at_call 14; go_fit (zero_any _); rintro r w7 ⟨rfl, k7⟩; replace KJ := Lib.hid (KJ.out.trans k7))
                | fail)
              go_ret
              exact ⟨rfl, KC.out.trans KJ.out⟩
            | false =>
              have hnd := HBB.out.1 rfl
              have hf := HRF.out
              rw [if_pos ⟨h1, rfl, h3, h4, h5, hnd⟩, HF.out] at hf
              subst hf
              have HND := Lib.hid hnd
              clear h1 h3 h4 h5 hnd
              go_upto_region 15 with (first
                | (go_at_call 12; go_fit (HVe.out _ KJ.out); rintro r w4 ⟨rfl, k4⟩; replace KJ := Lib.hid (KJ.out.trans k4))
                | (go_at_call 33; go_fit (HNf.out _ KJ.out); rintro r w5 ⟨rfl, k5⟩; replace KJ := Lib.hid (KJ.out.trans k5))
                | (go_at_call 33; go_fit (HNt.out _ KJ.out); rintro r w6 ⟨rfl, k6⟩; replace KJ := Lib.hid (KJ.out.trans k6))
                | fail)
              clear p0 p1 p2 p3 p4 p5 l0 l1 l2 l3 l4 l5
              have HO := Lib.hid (OwnT.nil w6)
              have HTS6 := Lib.hid (HTS.out.kp KJ.out)
              go_wp2
              go_loopw [12, 84] (fun x y wr => ∃ j : Nat, j ≤ k ∧ y = .int .i64 (j : Int) ∧ OwnT w6 wr x ((ts.take j).map varE)) (fun _ y _ => k - (intOf y).toNat)
              case atStart => exact ⟨0, by omega, rfl, HO.out⟩
              case round =>
                obtain ⟨j, hj, rfl, hown⟩ := hrel
                have HW := Lib.hid hown; clear hown
                by_cases hlt : j < k
                · obtain ⟨s, hs⟩ : ∃ s, ts[j]? = some s := ⟨_, List.getElem?_eq_getElem (by rw [HN2.out]; exact hlt)⟩
                  obtain ⟨b0, o0, ha0, h0⟩ := (HTS6.out.kp HW.out.1) j s hs
                  have Hst := Lib.hid (show (ts.take (j + 1)).map varE = (ts.take j).map varE ++ [varE s] by rw [List.take_add_one, hs, List.map_append]; rfl)
                  have HLn := Lib.hid (show ((ts.take j).map varE).length = j by rw [List.length_map, List.length_take, HN2.out]; omega)
                  clear hs
                  rw [ha0]
                  go_wp2_with (first
                    | (go_at_call 34; go_fit (lawv_any s _); rintro r w9 ⟨rfl, k9⟩)
                    | (at_builtin; refine wpList_append_tr rfl _ _ rfl w6 _ _ rfl (HW.out.kp (k9.trans ((Kp.refl _).alloc _))) ⟨w9.heap.size, 0, none⟩ _ _ [varE s] j 1 HLn.out rfl rfl (rowX_one w9 s) (by omega) (by omega) ?_; intro g' c' w10 hO)
                    | fail)
                  go_roundw
                  case rel => exact ⟨j + 1, by omega, by go_num, by rw [Hst.out]; exact hO⟩
                  case measure => simp [intOf]; omega
                · obtain rfl : j = k := by omega
                  have hL : ((ts.take j).map varE).length = j := by rw [List.length_map, List.length_take, HN2.out]; omega
                  have hT : ts.take j = ts := List.take_of_length_le (by rw [HN2.out]; exact Nat.le_refl _)
                  obtain ⟨ya, yc, rfl, _, _, hr⟩ := rowC_of HW.out.2 hL
                  rw [hT] at HW hL hr
                  have hrow : RowX wr wr.heap.size ya (ts.map varE) := by
                    rcases hr with hr | ⟨g, rfl, _, hr⟩
                    · rw [hr]; intro i x hx; simp at hx
                    · exact hr.row (Nat.le_refl _)
                  have KA := Lib.hid (KJ.out.trans HW.out.1)
                  have hs8 : w.heap.size ≤ wr.heap.size := Nat.le_trans hs3 KA.out.size
                  have HSw := Lib.hid fun W' (q : Kp wr W') => swap_any e wr.heap.size W' fs (ts.map varE) fa ya j fc yc (at_grow hs8 (Ex.at_kp HE.out (KA.out.trans q))) q.size (HFS.out.kp (KA.out.trans q)) (hrow.kp q) (fun y hy => by
                    obtain ⟨s, hs, rfl⟩ := List.mem_map.1 hy
                    exact varE_at (HM2.out s hs)) HN1.out hL (by omega)
                  rw [luk_ren HND.out (HN1.out.trans HN2.out.symm)] at HSw
                  have hea : a.er = (e.sub (renM (fs.zip ts))).er := HEA.out.elim (fun h => h.2) (fun h => absurd HF.out h.1)
                  have HEa := Lib.hid hea
                  have HMa := Lib.hid (Ex.at_kp HMA.out KA.out)
                  have hsA := KA.out.size
                  have HEq := Lib.hid fun (x : Ex) W' (q : Kp wr W') (h : x.at W' W'.heap.size) (hx : x.er = (e.sub (renM (fs.zip ts))).er) => (requal_any a x W'.heap.size W' (at_grow (Nat.le_trans hsA q.size) (Ex.at_kp HMa.out q)) h).mono (fun _ _ hh => (⟨hh.1.trans (ret_bool ((eqv_iff a x).2 (HEa.out.trans hx.symm))), hh.2⟩ : _ = Ending.returned (.bool true) ∧ _))
                  have kd := (Kp.refl wr).drew
                  have hSd := keepRn kd ⟨(HB1.out.kp KA.out).1, (HBA.out.kp KA.out).1⟩
                  have HKd := Lib.hid kd
                  clear hrow hr hL hT hea kd
                  go_upto_region 20 with fail
                  go_region_held3 (fun w' => (w'.cell? ⟨w.heap.size, 0, none⟩ = some (.int .i64 e.kind) ∧ w'.cell? ⟨w.heap.size, 1, none⟩ = some (.int .i64 e.rn) ∧ w'.cell? ⟨w.heap.size, 2, none⟩ = some (.int .i64 e.rd) ∧ w'.cell? ⟨w.heap.size, 3, none⟩ = some (.string e.name) ∧ w'.cell? ⟨w.heap.size, 4, none⟩ = some (.int .i64 e.pw) ∧ w'.cell? ⟨w.heap.size, 5, none⟩ = some (.slice e.a e.l.length e.c)) ∧ (w'.cell? ⟨w2.heap.size, 0, none⟩ = some (.int .i64 a.kind) ∧ w'.cell? ⟨w2.heap.size, 1, none⟩ = some (.int .i64 a.rn) ∧ w'.cell? ⟨w2.heap.size, 2, none⟩ = some (.int .i64 a.rd) ∧ w'.cell? ⟨w2.heap.size, 3, none⟩ = some (.string a.name) ∧ w'.cell? ⟨w2.heap.size, 4, none⟩ = some (.int .i64 a.pw) ∧ w'.cell? ⟨w2.heap.size, 5, none⟩ = some (.slice a.a a.l.length a.c))) (first | with_reducible assumption | with_reducible exact keepRn (by assumption) (by assumption) | fail) (first
                    | (go_at_call 15; go_fit (HSw.out _ HKd.out); rintro r w11 ⟨x, rfl, k11, hx1, _, hx3⟩)
                    | (go_at_call 16; go_fit (HEq.out x _ (HKd.out.trans k11) hx1 hx3); rintro r w12 ⟨rfl, k12⟩)
                    | fail)
                  go_wp2
                  go_ret
                  exact ⟨rfl, KC.out.trans (KA.out.trans (HKd.out.trans (k11.trans k12)))⟩
end Go.Proofs.Ythaphbbeiglolaa
