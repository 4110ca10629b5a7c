/-
  Walks: TreeOwn.
-/
import Derived.Test.YthaphbbeiglolaaSpoT
namespace Go.Proofs.Ythaphbbeiglolaa
open Go.RowKit Go.Sort Go.Shelf

set_option maxHeartbeats 2000000 in
theorem alloc_cell6 {w W : World} {x y z : Ex} {t : TypeId} (i : Nat) (v : Ex) (h : [x, y, z][i]? = some v)
    (hW : w.alloc (.cells #[.int .i64 x.kind, .int .i64 x.rn, .int .i64 x.rd, .string x.name, .int .i64 x.pw, .slice x.a x.l.length x.c, .int .i64 y.kind, .int .i64 y.rn, .int .i64 y.rd, .string y.name, .int .i64 y.pw, .slice y.a y.l.length y.c, .int .i64 z.kind, .int .i64 z.rn, .int .i64 z.rd, .string z.name, .int .i64 z.pw, .slice z.a z.l.length z.c] t) = W) :
    W.cell? ⟨w.heap.size, i * 6, none⟩ = some (.int .i64 v.kind) ∧ W.cell? ⟨w.heap.size, i * 6 + 1, none⟩ = some (.int .i64 v.rn) ∧ W.cell? ⟨w.heap.size, i * 6 + 2, none⟩ = some (.int .i64 v.rd) ∧ W.cell? ⟨w.heap.size, i * 6 + 3, none⟩ = some (.string v.name) ∧ W.cell? ⟨w.heap.size, i * 6 + 4, none⟩ = some (.int .i64 v.pw) ∧ W.cell? ⟨w.heap.size, i * 6 + 5, none⟩ = some (.slice v.a v.l.length v.c) := by
  subst hW
  match i, h with
  | 0, h => cases h; refine ⟨?_, ?_, ?_, ?_, ?_, ?_⟩ <;> simp
  | 1, h => cases h; refine ⟨?_, ?_, ?_, ?_, ?_, ?_⟩ <;> simp
  | 2, h => cases h; refine ⟨?_, ?_, ?_, ?_, ?_, ?_⟩ <;> simp
  | i + 3, h => simp at h
/-- the three results, where they lie, before the k-th is spoiled -/
def Own3S (w wr : World) (B lo hi : Nat) (es : List Ex) (k : Nat) : Prop :=
  k ≤ es.length ∧ Away lo hi w wr ∧ ∃ lk, lo ≤ lk ∧ Ex.ownL wr (es.drop k) lk hi ∧ ∀ x ∈ es.drop k, x.at wr B
theorem Own3S.kp {w wr w' : World} {B lo hi k : Nat} {es : List Ex} (h : Own3S w wr B lo hi es k) (hsz : hi ≤ w.heap.size) (k1 : Kp wr w') : Own3S w w' B lo hi es k := by
  obtain ⟨h1, h2, lk, h3, h4, h5⟩ := h
  have := h2.size
  exact ⟨h1, h2.trans (Away.of k1), lk, h3, Ex.ownL_kp h4 fun b i _ h => frozen_kpT k1 (by omega), fun x hx => Ex.at_kp (h5 x hx) k1⟩
/-- the k-th is handed to spoil -/
theorem Own3S.call {w wr : World} {B lo hi k : Nat} {es : List Ex} {x : Ex} (h : Own3S w wr B lo hi es k) (hsz : hi ≤ w.heap.size) (hx : es[k]? = some x) :
    Calls Try.prog 30 #[.agg #[.int .i64 x.kind, .int .i64 x.rn, .int .i64 x.rd, .string x.name, .int .i64 x.pw, .slice x.a x.l.length x.c]] wr fun r w' => r = .returned (.tuple #[]) ∧ Own3S w w' B lo hi es (k + 1) := by
  obtain ⟨h1, h2, lk, h3, h4, h5⟩ := h
  have hkl := (List.getElem?_eq_some_iff.1 hx).1
  rw [drop_cons hx] at h4 h5
  obtain ⟨m, o1, o2⟩ := Ex.ownL_cons.1 h4
  have hm := Ex.ownL_le o2
  have hlm := Ex.own_le o1
  have hs := h2.size
  refine (spoil_any x B lk m wr (h5 x (.head _)) o1 (by omega)).mono fun r w' ⟨e1, e2⟩ => ⟨e1, by omega, h2.trans (e2.wide h3 hm), m, by omega, ?_, fun y hy => ?_⟩
  · exact ownL_away e2 o2 (.inr (Nat.le_refl _)) (by omega)
  · obtain ⟨l', h', q1, q2, q3⟩ := ownL_mem o2 hy
    exact at_away e2 q3 (.inr q1) (h5 y (.tail _ hy))
theorem own3 {w w1 w2 w3 W : World} {a b x : Ex} (h1 : a.made w w1) (h2 : b.made w1 w2) (h3 : x.made w2 w3) (k1 : Kp w1 W) (k2 : Kp w2 W) (k3 : Kp w3 W) : Ex.ownL W [a, b, x] w.heap.size w3.heap.size ∧ ∀ y ∈ [a, b, x], y.at W W.heap.size := by
  refine ⟨?_, fun y hy => ?_⟩
  · refine Ex.ownL_cons.2 ⟨_, Ex.own_same a _ _ (fun _ _ _ hb => frozen_kpT k1 hb) h1.2, Ex.ownL_cons.2 ⟨_, Ex.own_same b _ _ (fun _ _ _ hb => frozen_kpT k2 hb) h2.2, Ex.ownL_cons.2 ⟨_, Ex.own_same x _ _ (fun _ _ _ hb => frozen_kpT k3 hb) h3.2, Ex.ownL_nil.2 (Nat.le_refl _)⟩⟩⟩
  · simp only [List.mem_cons, List.not_mem_nil, or_false] at hy
    rcases hy with rfl | rfl | rfl
    · exact (Ex.made_kp h1 k1).1
    · exact (Ex.made_kp h2 k2).1
    · exact (Ex.made_kp h3 k3).1
theorem row1O {w : World} {s : Nat} {t : ByteArray} (hc : w.cell? ⟨s, 0, none⟩ = some (.string t)) : RowS w (some ⟨s, 0, none⟩) [t] := fun i z hz => by
  match i, hz with
  | 0, hz => cases hz; exact ⟨s, 0, rfl, hc⟩
  | i + 1, hz => simp at hz
theorem replF_zero {e y : Ex} {name : ByteArray} (h : replF e name y = 0) : e.ok = true ∧ y.ok = true ∧ (e.sub (oneF name y)).ok = true := by
  rw [replF_eq] at h
  split at h
  · next h1 =>
    split at h
    · next h2 => exact ⟨h1.1, h1.2.1, h2⟩
    · cases h
  · cases h
theorem renF_zero {e : Ex} {fs ts : List ByteArray} (h : renF e fs ts = 0) : e.ok = true := by
  rw [renF_eq] at h
  split at h
  · next h1 => exact h1.1
  · cases h
set_option maxHeartbeats 8000000 in
set_option maxRecDepth 20000 in
theorem Own_ok (e y : Ex) (name : ByteArray) (w : World) (hat : e.at w w.heap.size) (hay : y.at w w.heap.size) (hn : name.size ≤ maxLen) :
    Calls Try.prog 7 #[.agg #[.int .i64 e.kind, .int .i64 e.rn, .int .i64 e.rd, .string e.name, .int .i64 e.pw, .slice e.a e.l.length e.c], .agg #[.int .i64 y.kind, .int .i64 y.rn, .int .i64 y.rd, .string y.name, .int .i64 y.pw, .slice y.a y.l.length y.c], .string name] w fun r w' => r = .returned (.bool true) ∧ Kp w w' := by
  have k1 : Kp w ((w.alloc (.cells #[.int .i64 e.kind, .int .i64 e.rn, .int .i64 e.rd, .string e.name, .int .i64 e.pw, .slice e.a e.l.length e.c] 26)).alloc (.cells #[.int .i64 y.kind, .int .i64 y.rn, .int .i64 y.rd, .string y.name, .int .i64 y.pw, .slice y.a y.l.length y.c] 26)) := ((Kp.refl w).alloc _).alloc _
  have hB1 : BoxX ((w.alloc (.cells #[.int .i64 e.kind, .int .i64 e.rn, .int .i64 e.rd, .string e.name, .int .i64 e.pw, .slice e.a e.l.length e.c] 26)).alloc (.cells #[.int .i64 y.kind, .int .i64 y.rn, .int .i64 y.rd, .string y.name, .int .i64 y.pw, .slice y.a y.l.length y.c] 26)) w.heap.size e := (BoxX.new w e _ rfl).kp ((Kp.refl _).alloc _)
  have hB2 : BoxX ((w.alloc (.cells #[.int .i64 e.kind, .int .i64 e.rn, .int .i64 e.rd, .string e.name, .int .i64 e.pw, .slice e.a e.l.length e.c] 26)).alloc (.cells #[.int .i64 y.kind, .int .i64 y.rn, .int .i64 y.rd, .string y.name, .int .i64 y.pw, .slice y.a y.l.length y.c] 26)) (w.heap.size + 1) y := BoxX.new _ y _ (by simp)
  obtain ⟨f, hf⟩ : ∃ f, replF e name y = f := ⟨_, rfl⟩
  obtain ⟨g, hg⟩ : ∃ g, renF e [name] [⟨#[111, 116, 104, 101, 114]⟩] = g := ⟨_, rfl⟩
  obtain ⟨h, hh⟩ : ∃ h, replF e ⟨#[117, 110, 117, 115, 101, 100]⟩ y = h := ⟨_, rfl⟩
  go_enter Try.func7, Try.ntmps7
  go_upto_region 1 with fail
  have hsz2 : ((w.alloc (.cells #[.int .i64 e.kind, .int .i64 e.rn, .int .i64 e.rd, .string e.name, .int .i64 e.pw, .slice e.a e.l.length e.c] 26)).alloc (.cells #[.int .i64 y.kind, .int .i64 y.rn, .int .i64 y.rd, .string y.name, .int .i64 y.pw, .slice y.a y.l.length y.c] 26)).heap.size = w.heap.size + 2 := by simp
  generalize World.alloc _ _ = W at *
  have KC := Lib.hid k1
  have HE := Lib.hid (Ex.at_kp hat k1)
  have HY := Lib.hid (Ex.at_kp hay k1)
  have HB1 := Lib.hid hB1
  have HB2 := Lib.hid hB2
  have HF := Lib.hid hf
  have HG := Lib.hid hg
  have HH := Lib.hid hh
  have HSZ := Lib.hid hsz2
  clear hat hay hB1 hB2 k1 hf hg hh hsz2
  go_upto_region 3 with (first | (go_at_call 10; go_fit (awake_one _); rintro r w1 ⟨rfl, k1⟩) | fail)
  have KC := Lib.hid (KC.out.trans k1)
  have HE := Lib.hid (Ex.at_kp HE.out k1)
  have HY := Lib.hid (Ex.at_kp HY.out k1)
  have HB1 := Lib.hid (HB1.out.kp k1)
  have HB2 := Lib.hid (HB2.out.kp k1)
  have HSZ := Lib.hid (Nat.le_trans (Nat.le_of_eq HSZ.out.symm) k1.size)
  have hs1 : w.heap.size ≤ w1.heap.size := KC.out.size
  have HE1 := HE
  have HY1 := HY
  have HBE := HB1
  have HBY := HB2
  clear k1
  obtain ⟨⟨p0, p1, p2, p3, p4, p5⟩, _⟩ := id HB1.out
  obtain ⟨⟨y0, y1, y2, y3, y4, y5⟩, _⟩ := id HB2.out
  have HR := Lib.hid (replace_any e y name w.heap.size w1 HE.out HY.out hs1 hn)
  rw [HF.out] at HR
  go_upto_region 4 with (first | (go_at_call 11; go_fit HR.out; rintro r w2 ⟨a, rfl, k2, hma, hea⟩) | fail)
  clear HR p0 p1 p2 p3 p4 p5 y0 y1 y2 y3 y4 y5 hea
  have k2 := k2.trans ((Kp.refl w2).alloc (.cells #[.int .i64 a.kind, .int .i64 a.rn, .int .i64 a.rd, .string a.name, .int .i64 a.pw, .slice a.a a.l.length a.c] 26))
  have hba : BoxX (w2.alloc (.cells #[.int .i64 a.kind, .int .i64 a.rn, .int .i64 a.rd, .string a.name, .int .i64 a.pw, .slice a.a a.l.length a.c] 26)) w2.heap.size a := BoxX.new w2 a _ rfl
  have HMA := Lib.hid (Ex.made_kp hma ((Kp.refl w2).alloc (.cells #[.int .i64 a.kind, .int .i64 a.rn, .int .i64 a.rd, .string a.name, .int .i64 a.pw, .slice a.a a.l.length a.c] 26)))
  clear hma
  generalize hW : w2.alloc _ = w3 at *
  clear hW
  have HE := Lib.hid (Ex.at_kp HE.out k2)
  have HY := Lib.hid (Ex.at_kp HY.out k2)
  have HB1 := Lib.hid (HB1.out.kp k2)
  have HB2 := Lib.hid (HB2.out.kp k2)
  have HK1 := Lib.hid k2
  have HBA := Lib.hid hba
  have hs3 : w.heap.size ≤ w3.heap.size := Nat.le_trans hs1 k2.size
  clear k2 hba
  obtain ⟨⟨p0, p1, p2, p3, p4, p5⟩, _⟩ := id HB1.out
  have HR := Lib.hid fun W' (k : Kp w3 W') (s t : Nat) (hs : W'.cell? ⟨s, 0, none⟩ = some (.string name)) (ht : W'.cell? ⟨t, 0, none⟩ = some (.string ⟨#[111, 116, 104, 101, 114]⟩)) =>
    rename_any e [name] [⟨#[111, 116, 104, 101, 114]⟩] (some ⟨s, 0, none⟩) (some ⟨t, 0, none⟩) 1 1 w.heap.size W' (Ex.at_kp HE.out k) (Nat.le_trans hs3 k.size) (row1O hs) (row1O ht) (by show (1 : Nat) ≤ 1048576; decide) (by show (1 : Nat) ≤ 1048576; decide) (fun z hz => by rw [List.mem_singleton.1 hz]; exact hn) (fun z hz => by rw [List.mem_singleton.1 hz]; decide)
  rw [HG.out] at HR
  go_upto_region 5 with (first
    | (go_at_call 29; go_fit (HR.out _ (((Kp.refl w3).alloc _).alloc _) w3.heap.size (w3.heap.size + 1) (((Kp.refl _).alloc _).cell (new_cell _ _ _ _ rfl)) (new_cell _ _ _ _ (by simp))); rintro r w4 ⟨b, rfl, k4, hmb, heb⟩)
    | fail)
  replace hmb : b.made w3 w4 := Ex.made_from hmb ((((Kp.refl w3).alloc _).alloc _).size)
  replace k4 : Kp w3 w4 := (((Kp.refl w3).alloc _).alloc _).trans k4
  clear HR p0 p1 p2 p3 p4 p5 heb
  have k4 := k4.trans ((Kp.refl w4).alloc (.cells #[.int .i64 b.kind, .int .i64 b.rn, .int .i64 b.rd, .string b.name, .int .i64 b.pw, .slice b.a b.l.length b.c] 26))
  have hbb : BoxX (w4.alloc (.cells #[.int .i64 b.kind, .int .i64 b.rn, .int .i64 b.rd, .string b.name, .int .i64 b.pw, .slice b.a b.l.length b.c] 26)) w4.heap.size b := BoxX.new w4 b _ rfl
  have HMB := Lib.hid (Ex.made_kp hmb ((Kp.refl w4).alloc (.cells #[.int .i64 b.kind, .int .i64 b.rn, .int .i64 b.rd, .string b.name, .int .i64 b.pw, .slice b.a b.l.length b.c] 26)))
  clear hmb
  generalize hW : w4.alloc _ = w5 at *
  clear hW
  have HE := Lib.hid (Ex.at_kp HE.out k4)
  have HY := Lib.hid (Ex.at_kp HY.out k4)
  have HB1 := Lib.hid (HB1.out.kp k4)
  have HB2 := Lib.hid (HB2.out.kp k4)
  have HK3 := Lib.hid k4
  have HBA := Lib.hid (HBA.out.kp k4)
  have HBB := Lib.hid hbb
  have hs5 : w.heap.size ≤ w5.heap.size := Nat.le_trans hs3 k4.size
  clear k4 hbb
  obtain ⟨⟨p0, p1, p2, p3, p4, p5⟩, _⟩ := id HB1.out
  obtain ⟨⟨y0, y1, y2, y3, y4, y5⟩, _⟩ := id HB2.out
  have HR := Lib.hid (replace_any e y ⟨#[117, 110, 117, 115, 101, 100]⟩ w.heap.size w5 HE.out HY.out hs5 (by decide))
  rw [HH.out] at HR
  go_upto_region 6 with (first | (go_at_call 11; go_fit HR.out; rintro r w6 ⟨x, rfl, k6, hmx, hex⟩) | fail)
  clear HR p0 p1 p2 p3 p4 p5 y0 y1 y2 y3 y4 y5 hex
  have k6 := k6.trans ((Kp.refl w6).alloc (.cells #[.int .i64 x.kind, .int .i64 x.rn, .int .i64 x.rd, .string x.name, .int .i64 x.pw, .slice x.a x.l.length x.c] 26))
  have hbx : BoxX (w6.alloc (.cells #[.int .i64 x.kind, .int .i64 x.rn, .int .i64 x.rd, .string x.name, .int .i64 x.pw, .slice x.a x.l.length x.c] 26)) w6.heap.size x := BoxX.new w6 x _ rfl
  have HMX := Lib.hid (Ex.made_kp hmx ((Kp.refl w6).alloc (.cells #[.int .i64 x.kind, .int .i64 x.rn, .int .i64 x.rd, .string x.name, .int .i64 x.pw, .slice x.a x.l.length x.c] 26)))
  clear hmx
  generalize hW : w6.alloc _ = w7 at *
  clear hW
  have HE := Lib.hid (Ex.at_kp HE.out k6)
  have HY := Lib.hid (Ex.at_kp HY.out k6)
  have HB1 := Lib.hid (HB1.out.kp k6)
  have HB2 := Lib.hid (HB2.out.kp k6)
  have HK5 := Lib.hid k6
  have hs7 : w.heap.size ≤ w7.heap.size := Nat.le_trans hs5 k6.size
  obtain ⟨⟨p0, p1, p2, p3, p4, p5⟩, _⟩ := HBA.out.kp k6
  obtain ⟨⟨q0, q1, q2, q3, q4, q5⟩, _⟩ := HBB.out.kp k6
  obtain ⟨⟨x0, x1, x2, x3, x4, x5⟩, _⟩ := id hbx
  clear k6 hbx
  go_upto_region 7 with fail
  clear p0 p1 p2 p3 p4 p5 q0 q1 q2 q3 q4 q5 x0 x1 x2 x3 x4 x5 HE HY HB1 HB2 HBA HBB
  have hcel : ∀ (W : World), w7.alloc (.cells #[.int .i64 a.kind, .int .i64 a.rn, .int .i64 a.rd, .string a.name, .int .i64 a.pw, .slice a.a a.l.length a.c, .int .i64 b.kind, .int .i64 b.rn, .int .i64 b.rd, .string b.name, .int .i64 b.pw, .slice b.a b.l.length b.c, .int .i64 x.kind, .int .i64 x.rn, .int .i64 x.rd, .string x.name, .int .i64 x.pw, .slice x.a x.l.length x.c] 26) = W → ∀ (i : Nat) (v : Ex), [a, b, x][i]? = some v → W.cell? ⟨w7.heap.size, i * 6, none⟩ = some (.int .i64 v.kind) ∧ W.cell? ⟨w7.heap.size, i * 6 + 1, none⟩ = some (.int .i64 v.rn) ∧ W.cell? ⟨w7.heap.size, i * 6 + 2, none⟩ = some (.int .i64 v.rd) ∧ W.cell? ⟨w7.heap.size, i * 6 + 3, none⟩ = some (.string v.name) ∧ W.cell? ⟨w7.heap.size, i * 6 + 4, none⟩ = some (.int .i64 v.pw) ∧ W.cell? ⟨w7.heap.size, i * 6 + 5, none⟩ = some (.slice v.a v.l.length v.c) := fun W hW i v h => alloc_cell6 i v h hW
  have k8 : Kp w7 (w7.alloc (.cells #[.int .i64 a.kind, .int .i64 a.rn, .int .i64 a.rd, .string a.name, .int .i64 a.pw, .slice a.a a.l.length a.c, .int .i64 b.kind, .int .i64 b.rn, .int .i64 b.rd, .string b.name, .int .i64 b.pw, .slice b.a b.l.length b.c, .int .i64 x.kind, .int .i64 x.rn, .int .i64 x.rd, .string x.name, .int .i64 x.pw, .slice x.a x.l.length x.c] 26)) := (Kp.refl w7).alloc _
  generalize hW : w7.alloc _ = W8 at *
  have hcel := hcel W8 rfl
  clear hW
  have hown := own3 HMA.out HMB.out HMX.out (HK3.out.trans (HK5.out.trans k8)) (HK5.out.trans k8) k8
  have K18 := Lib.hid (HK1.out.trans (HK3.out.trans (HK5.out.trans k8)))
  have HS0 := Lib.hid (show Own3S W8 W8 W8.heap.size w1.heap.size w7.heap.size [a, b, x] 0 from ⟨Nat.zero_le _, Away.of (.refl _), _, Nat.le_refl _, hown.1, hown.2⟩)
  have hs78 := k8.size
  clear HMA HMB HMX HK1 HK3 HK5 k8 hown
  go_loopw [45] (fun z wr => ∃ k : Nat, z = .int .i64 k ∧ k ≤ 3 ∧ Own3S W8 wr W8.heap.size w1.heap.size w7.heap.size [a, b, x] k) (fun z _ => 3 - (intOf z).toNat)
  case atStart => exact ⟨0, rfl, Nat.zero_le _, HS0.out⟩
  case round =>
    obtain ⟨k, rfl, hk, hs⟩ := hrel
    clear HS0
    by_cases hlt : k < 3
    · obtain ⟨v, hv⟩ : ∃ v, [a, b, x][k]? = some v := ⟨_, List.getElem?_eq_getElem hlt⟩
      obtain ⟨c0, c1, c2, c3, c4, c5⟩ := hcel k v hv
      replace c0 := hs.2.1.cell (.inr (Nat.le_refl _)) c0
      replace c1 := hs.2.1.cell (.inr (Nat.le_refl _)) c1
      replace c2 := hs.2.1.cell (.inr (Nat.le_refl _)) c2
      replace c3 := hs.2.1.cell (.inr (Nat.le_refl _)) c3
      replace c4 := hs.2.1.cell (.inr (Nat.le_refl _)) c4
      replace c5 := hs.2.1.cell (.inr (Nat.le_refl _)) c5
      have HX := Lib.hid ((hs.kp hs78 ((Kp.refl wr).alloc (.cells #[.int .i64 v.kind, .int .i64 v.rn, .int .i64 v.rd, .string v.name, .int .i64 v.pw, .slice v.a v.l.length v.c] 26))).call hs78 hv)
      clear hs hcel hv
      go_wp2_with (first
        | (go_at_call 30; go_fit HX.out; rintro r w9 ⟨rfl, s9⟩)
        | fail)
      refine ⟨⟨k + 1, by congr, by omega, s9⟩, ?_⟩
      simp [intOf]
      omega
    · obtain rfl : k = 3 := by omega
      have K := Lib.hid (hs.2.1.kp K18.out (Nat.le_refl _))
      clear hs hcel hs78
      by_cases hf0 : f = 0
      · subst hf0
        have hsz : w.heap.size ≤ wr.heap.size := Nat.le_trans hs1 K.out.size
        have HR := Lib.hid (replace_any e y name w.heap.size wr (Ex.at_kp HE1.out K.out) (Ex.at_kp HY1.out K.out) hsz hn)
        rw [HF.out] at HR
        obtain ⟨⟨p0, p1, p2, p3, p4, p5⟩, _⟩ := HBE.out.kp K.out
        obtain ⟨⟨y0, y1, y2, y3, y4, y5⟩, _⟩ := HBY.out.kp K.out
        go_upto_region 13 with (first | (go_at_call 11; go_fit HR.out; rintro r w9 ⟨ag, rfl, k9, hma, hea⟩) | fail)
        clear HR p0 p1 p2 p3 p4 p5 y0 y1 y2 y3 y4 y5
        have hok : ag.ok = true := by
          rcases hea with ⟨_, hea⟩ | ⟨hea, _⟩
          · rw [ok_er hea]; exact (replF_zero HF.out).2.2
          · exact absurd HF.out hea
        have k9 := k9.trans ((Kp.refl w9).alloc (.cells #[.int .i64 ag.kind, .int .i64 ag.rn, .int .i64 ag.rd, .string ag.name, .int .i64 ag.pw, .slice ag.a ag.l.length ag.c] 26))
        have hba : BoxX (w9.alloc (.cells #[.int .i64 ag.kind, .int .i64 ag.rn, .int .i64 ag.rd, .string ag.name, .int .i64 ag.pw, .slice ag.a ag.l.length ag.c] 26)) w9.heap.size ag := BoxX.new w9 ag _ rfl
        have hma := (Ex.made_kp hma ((Kp.refl w9).alloc (.cells #[.int .i64 ag.kind, .int .i64 ag.rn, .int .i64 ag.rd, .string ag.name, .int .i64 ag.pw, .slice ag.a ag.l.length ag.c] 26))).1
        generalize hW : w9.alloc _ = w10 at *
        clear hW
        have HVa := Lib.hid (tvalid_any ag w10.heap.size w10 hma (Nat.le_refl _))
        rw [hok] at HVa
        have KZ := Lib.hid (K.out.trans k9)
        obtain ⟨⟨p0, p1, p2, p3, p4, p5⟩, _⟩ := hba
        clear k9 hma hea hok hsz
        go_upto_region 15 with (first
          | (go_at_call 31; go_fit HVa.out; rintro r wz ⟨rfl, kz⟩)
          | fail)
        have KZ := Lib.hid (KZ.out.trans kz)
        clear p0 p1 p2 p3 p4 p5 kz HVa
        have hsz : w.heap.size ≤ wz.heap.size := Nat.le_trans hs1 KZ.out.size
        have HV := Lib.hid (tvalid_any e w.heap.size wz (Ex.at_kp HE1.out KZ.out) hsz)
        have HVy := Lib.hid fun W' (k : Kp wz W') => tvalid_any y w.heap.size W' (Ex.at_kp HY1.out (KZ.out.trans k)) (Nat.le_trans hsz k.size)
        obtain ⟨⟨p0, p1, p2, p3, p4, p5⟩, _⟩ := HBE.out.kp KZ.out
        obtain ⟨⟨y0, y1, y2, y3, y4, y5⟩, _⟩ := HBY.out.kp KZ.out
        by_cases hg0 : g = 0
        · subst hg0
          rw [renF_zero HG.out] at HV
          by_cases hh0 : h = 0
          · subst hh0
            rw [(replF_zero HH.out).2.1] at HVy
            go_wp2_with (first
              | (go_at_call 31; go_fit HV.out; rintro r w11 ⟨rfl, k11⟩; clear HV; have y0 := k11.cell y0; have y1 := k11.cell y1; have y2 := k11.cell y2; have y3 := k11.cell y3; have y4 := k11.cell y4; have y5 := k11.cell y5)
              | (go_at_call 31; go_fit (HVy.out _ k11); rintro r w12 ⟨rfl, k12⟩)
              | fail)
            go_ret
            exact ⟨rfl, KC.out.trans (KZ.out.trans (k11.trans k12))⟩
          · skip
            go_wp2_with (first
              | (go_at_call 31; go_fit HV.out; rintro r w11 ⟨rfl, k11⟩; clear HV; have y0 := k11.cell y0; have y1 := k11.cell y1; have y2 := k11.cell y2; have y3 := k11.cell y3; have y4 := k11.cell y4; have y5 := k11.cell y5)
              | (go_at_call 31; go_fit (HVy.out _ k11); rintro r w12 ⟨rfl, k12⟩)
              | fail)
            go_ret
            exact ⟨rfl, KC.out.trans (KZ.out.trans k11)⟩
        · by_cases hh0 : h = 0
          · subst hh0
            rw [(replF_zero HH.out).2.1] at HVy
            go_wp2_with (first
              | (go_at_call 31; go_fit (HVy.out _ (.refl _)); rintro r w12 ⟨rfl, k12⟩)
              | fail)
            go_ret
            exact ⟨rfl, KC.out.trans (KZ.out.trans k12)⟩
          · skip
            go_wp2_with (first
              | (go_at_call 31; go_fit (HVy.out _ (.refl _)); rintro r w12 ⟨rfl, k12⟩)
              | fail)
            go_ret
            exact ⟨rfl, KC.out.trans KZ.out⟩
      · have KZ := K
        have hsz : w.heap.size ≤ wr.heap.size := Nat.le_trans hs1 KZ.out.size
        have HV := Lib.hid (tvalid_any e w.heap.size wr (Ex.at_kp HE1.out KZ.out) hsz)
        have HVy := Lib.hid fun W' (k : Kp wr W') => tvalid_any y w.heap.size W' (Ex.at_kp HY1.out (KZ.out.trans k)) (Nat.le_trans hsz k.size)
        obtain ⟨⟨p0, p1, p2, p3, p4, p5⟩, _⟩ := HBE.out.kp KZ.out
        obtain ⟨⟨y0, y1, y2, y3, y4, y5⟩, _⟩ := HBY.out.kp KZ.out
        by_cases hg0 : g = 0
        · subst hg0
          rw [renF_zero HG.out] at HV
          by_cases hh0 : h = 0
          · subst hh0
            rw [(replF_zero HH.out).2.1] at HVy
            go_wp2_with (first
              | (go_at_call 31; go_fit HV.out; rintro r w11 ⟨rfl, k11⟩; clear HV; have y0 := k11.cell y0; have y1 := k11.cell y1; have y2 := k11.cell y2; have y3 := k11.cell y3; have y4 := k11.cell y4; have y5 := k11.cell y5)
              | (go_at_call 31; go_fit (HVy.out _ k11); rintro r w12 ⟨rfl, k12⟩)
              | fail)
            go_ret
            exact ⟨rfl, KC.out.trans (KZ.out.trans (k11.trans k12))⟩
          · skip
            go_wp2_with (first
              | (go_at_call 31; go_fit HV.out; rintro r w11 ⟨rfl, k11⟩; clear HV; have y0 := k11.cell y0; have y1 := k11.cell y1; have y2 := k11.cell y2; have y3 := k11.cell y3; have y4 := k11.cell y4; have y5 := k11.cell y5)
              | (go_at_call 31; go_fit (HVy.out _ k11); rintro r w12 ⟨rfl, k12⟩)
              | fail)
            go_ret
            exact ⟨rfl, KC.out.trans (KZ.out.trans k11)⟩
        · by_cases hh0 : h = 0
          · subst hh0
            rw [(replF_zero HH.out).2.1] at HVy
            go_wp2_with (first
              | (go_at_call 31; go_fit (HVy.out _ (.refl _)); rintro r w12 ⟨rfl, k12⟩)
              | fail)
            go_ret
            exact ⟨rfl, KC.out.trans (KZ.out.trans k12)⟩
          · skip
            go_wp2_with (first
              | (go_at_call 31; go_fit (HVy.out _ (.refl _)); rintro r w12 ⟨rfl, k12⟩)
              | fail)
            go_ret
            exact ⟨rfl, KC.out.trans KZ.out⟩
end Go.Proofs.Ythaphbbeiglolaa
