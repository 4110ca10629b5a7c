/-
  Walks: the law's example.
-/
import Derived.Test.YthaphbbeiglolaaAwkTP
import Derived.Deep.RegionHeld3
namespace Go.Proofs.Ythaphbbeiglolaa
open Go.RowKit Go.Sort Go.Shelf

theorem rowN_new (w : World) (x y : Ex) (B s : Nat) (h : w.heap.size = s) (hB : s < B) : RowX (w.alloc (.cells #[.int .i64 x.kind, .int .i64 x.rn, .int .i64 x.rd, .string x.name, .int .i64 x.pw, .slice x.a x.l.length x.c, .int .i64 y.kind, .int .i64 y.rn, .int .i64 y.rd, .string y.name, .int .i64 y.pw, .slice y.a y.l.length y.c] 26)) B (some ⟨s, 0, none⟩) [x, y] := by
  subst h
  intro i z hz
  match i, hz with
  | 0, hz => cases hz; exact ⟨_, 0, rfl, hB, by simp, by simp, by simp, by simp, by simp, by simp⟩
  | 1, hz => cases hz; exact ⟨_, 0, rfl, hB, by simp, by simp, by simp, by simp, by simp, by simp⟩
  | i + 2, hz => simp at hz
theorem row1_new (w : World) (x : Ex) (B s : Nat) (h : w.heap.size = s) (hB : s < B) : RowX (w.alloc (.cells #[.int .i64 x.kind, .int .i64 x.rn, .int .i64 x.rd, .string x.name, .int .i64 x.pw, .slice x.a x.l.length x.c] 26)) B (some ⟨s, 0, none⟩) [x] := by
  subst h
  intro i z hz
  match i, hz with
  | 0, hz => cases hz; exact ⟨_, 0, rfl, hB, by simp, by simp, by simp, by simp, by simp, by simp⟩
  | i + 1, hz => simp at hz
theorem exE_at {w : World} {B : Nat} {a1 a2 : Option Addr} (h1 : RowX w B a1 [varE nX, varE nX]) (h2 : RowX w B a2 [.mk 5 0 0 ⟨#[]⟩ 0 a1 2 [varE nX, varE nX], .mk 1 1 1 ⟨#[]⟩ 0 none 0 []]) : (exE a1 a2).at w B := by
  refine Ex.at_iff.2 ⟨⟨Nat.le_refl _, (by show (2:Nat) ≤ maxLen; decide), Nat.zero_le _, (by show (2:Nat) ≤ 1048576; decide)⟩, h2, fun x hx => ?_⟩
  rcases List.mem_cons.1 hx with rfl | hx
  · refine Ex.at_iff.2 ⟨⟨Nat.le_refl _, (by show (2:Nat) ≤ maxLen; decide), Nat.zero_le _, (by show (2:Nat) ≤ 1048576; decide)⟩, h1, fun x hx => ?_⟩
    rcases List.mem_cons.1 hx with rfl | hx
    · exact varE_at (by decide)
    · rcases List.mem_cons.1 hx with rfl | hx
      · exact varE_at (by decide)
      · cases hx
  · rcases List.mem_cons.1 hx with rfl | hx
    · exact Ex.at_iff.2 ⟨⟨Nat.le_refl _, by decide, by decide, by decide⟩, fun i x hx => by simp [Ex.l] at hx, fun x hx => by simp [Ex.l] at hx⟩
    · cases hx
theorem exY_at {w : World} {B : Nat} {a : Option Addr} (h1 : RowX w B a [varE nY]) : (exY a).at w B := by
  refine Ex.at_iff.2 ⟨⟨Nat.le_refl _, (by show (1:Nat) ≤ maxLen; decide), Nat.zero_le _, (by show (1:Nat) ≤ 1048576; decide)⟩, h1, fun x hx => ?_⟩
  rcases List.mem_cons.1 hx with rfl | hx
  · exact varE_at (by decide)
  · cases hx
theorem row_alloc {w : World} {a : Option Addr} {l : List Ex} {o : Obj} (h : RowX w w.heap.size a l) : RowX (w.alloc o) (w.alloc o).heap.size a l := (h.kp ((Kp.refl w).alloc o)).same (by simp) fun _ _ _ _ h => h
theorem replace_ex (a1 a2 a : Option Addr) (W5 w : World) (hat : (exE a1 a2).at W5 W5.heap.size) (K : Kp W5 w) (R : RowX w w.heap.size a [varE nY]) :
    Calls Try.prog 11 #[.agg #[.int .i64 3, .int .i64 0, .int .i64 0, .string ⟨#[]⟩, .int .i64 0, .slice a2 2 2], .string ⟨#[120]⟩, .agg #[.int .i64 7, .int .i64 0, .int .i64 0, .string ⟨#[]⟩, .int .i64 0, .slice a 1 1]] w
      fun r w' => ∃ x : Ex, r = .returned (.tuple #[.agg #[.int .i64 x.kind, .int .i64 x.rn, .int .i64 x.rd, .string x.name, .int .i64 x.pw, .slice x.a x.l.length x.c], .int .i64 0]) ∧ Kp w w' ∧ Kp W5 w' ∧ x.made w w' ∧ x.er = ((exE none none).sub (oneF nX (exY none))).er := by
  have h := replace_any (exE a1 a2) (exY a) nX w.heap.size w (Ex.at_up (Ex.at_kp hat K) K.size) (exY_at R) (Nat.le_refl _) (by decide)
  rw [replF_ex] at h
  refine h.mono fun r w' hh => ?_
  obtain ⟨x, e1, h1, h2, h3⟩ := hh
  refine ⟨x, e1, h1, K.trans h1, h2, ?_⟩
  rcases h3 with ⟨_, h3⟩ | ⟨h3, _⟩
  · rw [h3, sub_exE, sub_exE]; rfl
  · exact absurd (replF_ex a1 a2 a) h3
abbrev rowYc : Obj := .cells #[.int .i64 2, .int .i64 0, .int .i64 0, .string ⟨#[121]⟩, .int .i64 0, .slice none 0 0] 26
abbrev zeroXc : Obj := .cells #[.int .i64 0, .int .i64 0, .int .i64 0, .string ⟨#[]⟩, .int .i64 0, .slice none 0 0] 26
theorem row1_k {X w : World} (k : Kp (X.alloc rowYc) w) : RowX w w.heap.size (some ⟨X.heap.size, 0, none⟩) [varE nY] := by
  have h := k.size
  rw [World.size_alloc] at h
  exact ((row1_new X (varE nY) (X.heap.size + 1) _ rfl (Nat.lt_succ_self _)).kp k).same (by omega) fun _ _ _ _ h => h
theorem row1_k2 {X w : World} {o : Obj} (k : Kp ((X.alloc rowYc).alloc o) w) : RowX w w.heap.size (some ⟨X.heap.size, 0, none⟩) [varE nY] := row1_k (((Kp.refl _).alloc o).trans k)
theorem row1_k3 {X w : World} {o : Obj} (k : Kp ((X.alloc o).alloc rowYc) w) : RowX w w.heap.size (some ⟨X.heap.size + 1, 0, none⟩) [varE nY] := by
  have := row1_k k
  rwa [World.size_alloc] at this
theorem keepZ {w : World} {g b1 : Nat} {a1 a2 : Option Addr} (h : w.cell? ⟨b1, 0, none⟩ = some (.int .i64 (exE a1 a2).kind) ∧ w.cell? ⟨b1, 1, none⟩ = some (.int .i64 (exE a1 a2).rn) ∧ w.cell? ⟨b1, 2, none⟩ = some (.int .i64 (exE a1 a2).rd) ∧ w.cell? ⟨b1, 3, none⟩ = some (.string (exE a1 a2).name) ∧ w.cell? ⟨b1, 4, none⟩ = some (.int .i64 (exE a1 a2).pw) ∧ w.cell? ⟨b1, 5, none⟩ = some (.slice (exE a1 a2).a (exE a1 a2).l.length (exE a1 a2).c)) (hz : BoxX w g Ex.zero) (x : Ex) :
    ((((((w.setCell ⟨g, 0, none⟩ (.int .i64 x.kind)).setCell ⟨g, 1, none⟩ (.int .i64 x.rn)).setCell ⟨g, 2, none⟩ (.int .i64 x.rd)).setCell ⟨g, 3, none⟩ (.string x.name)).setCell ⟨g, 4, none⟩ (.int .i64 x.pw)).setCell ⟨g, 5, none⟩ (.slice x.a x.l.length x.c)).cell? ⟨b1, 0, none⟩ = some (.int .i64 (exE a1 a2).kind) ∧ ((((((w.setCell ⟨g, 0, none⟩ (.int .i64 x.kind)).setCell ⟨g, 1, none⟩ (.int .i64 x.rn)).setCell ⟨g, 2, none⟩ (.int .i64 x.rd)).setCell ⟨g, 3, none⟩ (.string x.name)).setCell ⟨g, 4, none⟩ (.int .i64 x.pw)).setCell ⟨g, 5, none⟩ (.slice x.a x.l.length x.c)).cell? ⟨b1, 1, none⟩ = some (.int .i64 (exE a1 a2).rn) ∧ ((((((w.setCell ⟨g, 0, none⟩ (.int .i64 x.kind)).setCell ⟨g, 1, none⟩ (.int .i64 x.rn)).setCell ⟨g, 2, none⟩ (.int .i64 x.rd)).setCell ⟨g, 3, none⟩ (.string x.name)).setCell ⟨g, 4, none⟩ (.int .i64 x.pw)).setCell ⟨g, 5, none⟩ (.slice x.a x.l.length x.c)).cell? ⟨b1, 2, none⟩ = some (.int .i64 (exE a1 a2).rd) ∧ ((((((w.setCell ⟨g, 0, none⟩ (.int .i64 x.kind)).setCell ⟨g, 1, none⟩ (.int .i64 x.rn)).setCell ⟨g, 2, none⟩ (.int .i64 x.rd)).setCell ⟨g, 3, none⟩ (.string x.name)).setCell ⟨g, 4, none⟩ (.int .i64 x.pw)).setCell ⟨g, 5, none⟩ (.slice x.a x.l.length x.c)).cell? ⟨b1, 3, none⟩ = some (.string (exE a1 a2).name) ∧ ((((((w.setCell ⟨g, 0, none⟩ (.int .i64 x.kind)).setCell ⟨g, 1, none⟩ (.int .i64 x.rn)).setCell ⟨g, 2, none⟩ (.int .i64 x.rd)).setCell ⟨g, 3, none⟩ (.string x.name)).setCell ⟨g, 4, none⟩ (.int .i64 x.pw)).setCell ⟨g, 5, none⟩ (.slice x.a x.l.length x.c)).cell? ⟨b1, 4, none⟩ = some (.int .i64 (exE a1 a2).pw) ∧ ((((((w.setCell ⟨g, 0, none⟩ (.int .i64 x.kind)).setCell ⟨g, 1, none⟩ (.int .i64 x.rn)).setCell ⟨g, 2, none⟩ (.int .i64 x.rd)).setCell ⟨g, 3, none⟩ (.string x.name)).setCell ⟨g, 4, none⟩ (.int .i64 x.pw)).setCell ⟨g, 5, none⟩ (.slice x.a x.l.length x.c)).cell? ⟨b1, 5, none⟩ = some (.slice (exE a1 a2).a (exE a1 a2).l.length (exE a1 a2).c) := by
  have hne : b1 ≠ g := fun e => by
    subst e
    have := h.1.symm.trans hz.1.1
    cases this
  have hs := stored60 x hz rfl
  obtain ⟨h0, h1, h2, h3, h4, h5⟩ := h
  exact ⟨(hs.2.1 _ (.inl hne)).trans h0, (hs.2.1 _ (.inl hne)).trans h1, (hs.2.1 _ (.inl hne)).trans h2, (hs.2.1 _ (.inl hne)).trans h3, (hs.2.1 _ (.inl hne)).trans h4, (hs.2.1 _ (.inl hne)).trans h5⟩
theorem endA {W5 w' w8 : World} {x : Ex} (hm : x.made w' w8) (k8 : Kp W5 w8) (her : x.er = ((exE none none).sub (oneF nX (exY none))).er) :
    ∃ (Bz : Nat) (y : Ex), Value.pointer (some ⟨w8.heap.size, 0, none⟩) = .pointer (some ⟨Bz, 0, none⟩) ∧ Value.int .i64 0 = .int .i64 0 ∧ BoxX (w8.alloc (.cells #[.int .i64 x.kind, .int .i64 x.rn, .int .i64 x.rd, .string x.name, .int .i64 x.pw, .slice x.a x.l.length x.c] 26)) Bz y ∧ y.at (w8.alloc (.cells #[.int .i64 x.kind, .int .i64 x.rn, .int .i64 x.rd, .string x.name, .int .i64 x.pw, .slice x.a x.l.length x.c] 26)) (w8.alloc (.cells #[.int .i64 x.kind, .int .i64 x.rn, .int .i64 x.rd, .string x.name, .int .i64 x.pw, .slice x.a x.l.length x.c] 26)).heap.size ∧ y.er = ((exE none none).sub (oneF nX (exY none))).er ∧ Kp W5 (w8.alloc (.cells #[.int .i64 x.kind, .int .i64 x.rn, .int .i64 x.rd, .string x.name, .int .i64 x.pw, .slice x.a x.l.length x.c] 26)) := by
  have k := (Kp.refl w8).alloc (.cells #[.int .i64 x.kind, .int .i64 x.rn, .int .i64 x.rd, .string x.name, .int .i64 x.pw, .slice x.a x.l.length x.c] 26)
  exact ⟨_, x, rfl, rfl, BoxX.new w8 x _ rfl, Ex.at_up (Ex.at_kp hm.1 k) k.size, her, k8.trans k⟩
theorem endB {W5 w' w8 : World} {x : Ex} {g : Nat} (hm : x.made w' w8) (k8 : Kp W5 w8) (her : x.er = ((exE none none).sub (oneF nX (exY none))).er) (hz : BoxX w8 g Ex.zero) (hg : W5.heap.size ≤ g) (hl : g < w'.heap.size)
    {W : World} (hW : ((((((w8.setCell ⟨g, 0, none⟩ (.int .i64 x.kind)).setCell ⟨g, 1, none⟩ (.int .i64 x.rn)).setCell ⟨g, 2, none⟩ (.int .i64 x.rd)).setCell ⟨g, 3, none⟩ (.string x.name)).setCell ⟨g, 4, none⟩ (.int .i64 x.pw)).setCell ⟨g, 5, none⟩ (.slice x.a x.l.length x.c)) = W) :
    ∃ (Bz : Nat) (y : Ex), Value.pointer (some ⟨g, 0, none⟩) = .pointer (some ⟨Bz, 0, none⟩) ∧ Value.int .i64 0 = .int .i64 0 ∧ BoxX W Bz y ∧ y.at W W.heap.size ∧ y.er = ((exE none none).sub (oneF nX (exY none))).er ∧ Kp W5 W := by
  have hs := stored60 x hz hW
  have hz9 := hs.2.2.2.1
  exact ⟨_, x, rfl, rfl, hz.stored hs, Ex.at_own' (by rw [hz9]; exact Nat.le_refl _) x _ _ hm.2 (fun b i v hb _ hc => by rw [hs.2.1 ⟨b, i, none⟩ (.inl (by show b ≠ g; omega))]; exact hc) hm.1, her, hs.2.2.2.2 W5 k8 hg⟩
theorem boxz_new (X : World) : BoxX (X.alloc (.cells #[.int .i64 0, .int .i64 0, .int .i64 0, .string ⟨#[]⟩, .int .i64 0, .slice none 0 0] 26)) X.heap.size Ex.zero := BoxX.new X Ex.zero _ rfl
theorem boxz_k {X w : World} (k : Kp (X.alloc zeroXc) w) : BoxX w X.heap.size Ex.zero := (BoxX.new X Ex.zero _ rfl).kp k
theorem boxz_kd {X w : World} (k : Kp (X.alloc zeroXc).drew w) : BoxX w X.heap.size Ex.zero := (BoxX.new X Ex.zero _ rfl).kp ((Kp.refl _).drew.trans k)
theorem boxz_k2 {X w : World} {o : Obj} (k : Kp ((X.alloc zeroXc).alloc o) w) : BoxX w X.heap.size Ex.zero := boxz_k (((Kp.refl _).alloc o).trans k)
theorem boxz_k3 {X w : World} {o : Obj} (k : Kp ((X.alloc o).alloc zeroXc) w) : BoxX w (X.heap.size + 1) Ex.zero := by
  have := boxz_k k
  rwa [World.size_alloc] at this
set_option maxHeartbeats 4000000 in
set_option maxRecDepth 20000 in
theorem awake_one (w : World) : Calls Try.prog 10 #[] w fun r w' => r = .returned (.bool true) ∧ Kp w w' := by
  have KJ := Lib.hid (Kp.refl w)
  go_enter Try.func10, Try.ntmps10
  go_upto_region 2 with (first
    | (go_at_call 34; go_fit (lawv_any nX _); rintro r wv ⟨rfl, kv⟩; replace KJ := Lib.hid (KJ.out.trans kv); clear kv)
    | (go_at_call 37; go_fit (lawnum_any 1 _); rintro r wn ⟨rfl, kn⟩; have KN := Lib.hid kn.size; replace R1 := Lib.hid (R1.out.kp kn); replace KJ := Lib.hid (KJ.out.trans kn); clear kn)
    | (go_at_call 36; go_fit (lawop_any 5 _ 2 2 _); rintro r w3 ⟨rfl, k3⟩; have R1 := Lib.hid ((rowN_new wv (varE nX) (varE nX) (wv.heap.size + 1) _ rfl (Nat.lt_succ_self _)).kp k3); replace KJ := Lib.hid (KJ.out.trans (((Kp.refl wv).alloc _).trans k3)); have L1 := Lib.hid k3.size; clear k3)
    | (go_at_call 36; go_fit (lawop_any 3 _ 2 2 _); rintro r w4 ⟨rfl, k4⟩; have R2 := Lib.hid ((rowN_new wn (.mk 5 0 0 ⟨#[]⟩ 0 (some ⟨wv.heap.size, 0, none⟩) 2 [varE nX, varE nX]) (.mk 1 1 1 ⟨#[]⟩ 0 none 0 []) (wn.heap.size + 1) _ rfl (Nat.lt_succ_self _)).kp k4); replace R1 := Lib.hid (R1.out.kp (((Kp.refl wn).alloc _).trans k4)); replace KJ := Lib.hid (KJ.out.trans (((Kp.refl wn).alloc _).trans k4)); have L2 := Lib.hid k4.size; clear k4)
    | fail)
  have k5 : Kp w4 (w4.alloc (.cells #[.int .i64 3, .int .i64 0, .int .i64 0, .string ⟨#[]⟩, .int .i64 0, .slice (some ⟨wn.heap.size, 0, none⟩) 2 2] 26)) := (Kp.refl w4).alloc _
  have hb5 : BoxX (w4.alloc (.cells #[.int .i64 3, .int .i64 0, .int .i64 0, .string ⟨#[]⟩, .int .i64 0, .slice (some ⟨wn.heap.size, 0, none⟩) 2 2] 26)) w4.heap.size (exE (some ⟨wv.heap.size, 0, none⟩) (some ⟨wn.heap.size, 0, none⟩)) := BoxX.new w4 (exE (some ⟨wv.heap.size, 0, none⟩) (some ⟨wn.heap.size, 0, none⟩)) _ rfl
  have hl1 := L1.out
  have hl2 := L2.out
  rw [World.size_alloc] at hl1 hl2
  have hsz : (w4.alloc (.cells #[.int .i64 3, .int .i64 0, .int .i64 0, .string ⟨#[]⟩, .int .i64 0, .slice (some ⟨wn.heap.size, 0, none⟩) 2 2] 26)).heap.size = w4.heap.size + 1 := by simp
  have HAT := Lib.hid (Ex.at_up (Ex.at_kp (exE_at (R1.out.same (B' := w4.heap.size) (by have := KN.out; omega) (fun _ _ _ _ h => h)) (R2.out.same (B' := w4.heap.size) (by omega) (fun _ _ _ _ h => h))) k5) k5.size)
  generalize hW5 : w4.alloc _ = W5 at *
  clear hW5
  replace KJ := Lib.hid (KJ.out.trans k5)
  clear L1 L2 hl1 hl2 R1 R2 k5 hsz KN
  obtain ⟨a1, ha1⟩ : ∃ a, a = some (⟨wv.heap.size, 0, none⟩ : Addr) := ⟨_, rfl⟩
  obtain ⟨a2, ha2⟩ : ∃ a, a = some (⟨wn.heap.size, 0, none⟩ : Addr) := ⟨_, rfl⟩
  rw [← ha1, ← ha2] at HAT hb5
  clear ha1 ha2
  generalize (Value.agg #[.int .i64 2, .int .i64 0, .int .i64 0, .string nX, .int .i64 0, .slice none 0 0]) = u4
  generalize (Value.agg #[.int .i64 5, .int .i64 0, .int .i64 0, .string ⟨#[]⟩, .int .i64 0, .slice (some ⟨wv.heap.size, 0, none⟩) 2 2]) = u7
  generalize (Value.agg #[.int .i64 1, .int .i64 1, .int .i64 1, .string ⟨#[]⟩, .int .i64 0, .slice none 0 0]) = u8
  generalize (Value.agg #[.int .i64 3, .int .i64 0, .int .i64 0, .string ⟨#[]⟩, .int .i64 0, .slice (some ⟨wn.heap.size, 0, none⟩) 2 2]) = u10
  generalize (Value.slice (some ⟨wv.heap.size, 0, none⟩) 2 2) = u6
  generalize (Value.slice (some ⟨wn.heap.size, 0, none⟩) 2 2) = u9
  generalize w4.heap.size = b1 at *
  go_cut [2, 3] from 11 to 18 (fun s2 s3 wx => ∃ (Bz : Nat) (x : Ex), s2 = .pointer (some ⟨Bz, 0, none⟩) ∧ s3 = .int .i64 0 ∧ BoxX wx Bz x ∧ x.at wx wx.heap.size ∧ x.er = ((exE none none).sub (oneF nX (exY none))).er ∧ Kp W5 wx)
  case first =>
    have HRep := Lib.hid fun (w' : World) (a : Option Addr) (K : Kp W5 w') (R : RowX w' w'.heap.size a [varE nY]) => replace_ex a1 a2 a W5 w' HAT.out K R
    have K0 := Lib.hid (Kp.refl W5)
    have hSd : W5.drew.cell? ⟨b1, 0, none⟩ = some (.int .i64 (exE a1 a2).kind) ∧ W5.drew.cell? ⟨b1, 1, none⟩ = some (.int .i64 (exE a1 a2).rn) ∧ W5.drew.cell? ⟨b1, 2, none⟩ = some (.int .i64 (exE a1 a2).rd) ∧ W5.drew.cell? ⟨b1, 3, none⟩ = some (.string (exE a1 a2).name) ∧ W5.drew.cell? ⟨b1, 4, none⟩ = some (.int .i64 (exE a1 a2).pw) ∧ W5.drew.cell? ⟨b1, 5, none⟩ = some (.slice (exE a1 a2).a (exE a1 a2).l.length (exE a1 a2).c) := (hb5.kp ((Kp.refl W5).drew)).1
    have HS5 := Lib.hid hb5.1
    clear hb5
    go_region_held3 (fun w' => w'.cell? ⟨b1, 0, none⟩ = some (.int .i64 (exE a1 a2).kind) ∧ w'.cell? ⟨b1, 1, none⟩ = some (.int .i64 (exE a1 a2).rn) ∧ w'.cell? ⟨b1, 2, none⟩ = some (.int .i64 (exE a1 a2).rd) ∧ w'.cell? ⟨b1, 3, none⟩ = some (.string (exE a1 a2).name) ∧ w'.cell? ⟨b1, 4, none⟩ = some (.int .i64 (exE a1 a2).pw) ∧ w'.cell? ⟨b1, 5, none⟩ = some (.slice (exE a1 a2).a (exE a1 a2).l.length (exE a1 a2).c)) (first | with_reducible assumption | with_reducible exact keepE6 (by assumption) (by assumption) | with_reducible exact keepE6 ((Kp.refl _).alloc _) (by assumption) | with_reducible exact keepE6 (((Kp.refl _).alloc _).drew) HS5.out | with_reducible exact keepE6 ((Kp.refl _).alloc _) HS8.out | with_reducible exact keepZ HS8.out BZ.out _ | fail) (first
      | (go_at_call 34; go_fit (lawv_any ⟨#[121]⟩ _); rintro r wv2 ⟨rfl, kv2⟩; (first | (replace BZ := Lib.hid (BZ.out.kp kv2)) | (replace BZ := Lib.hid (BZ.out.kp (((Kp.refl _).alloc _).trans kv2))) | (have BZ := Lib.hid (boxz_kd kv2)) | (have BZ := Lib.hid (boxz_k3 kv2)) | (have BZ := Lib.hid (boxz_k2 kv2)) | (have BZ := Lib.hid (boxz_k kv2)) | skip); (first | (have KV := Lib.hid (K0.out.drew.trans kv2)) | (have KV := Lib.hid ((K0.out.alloc _).drew.trans kv2)) | fail))
      | (go_at_call 36; go_fit (lawop_any 7 _ 1 1 _); rintro r w7 ⟨rfl, k7⟩; (first | (replace BZ := Lib.hid (BZ.out.kp k7)) | (replace BZ := Lib.hid (BZ.out.kp (((Kp.refl _).alloc _).trans k7))) | (have BZ := Lib.hid (boxz_kd k7)) | (have BZ := Lib.hid (boxz_k3 k7)) | (have BZ := Lib.hid (boxz_k2 k7)) | (have BZ := Lib.hid (boxz_k k7)) | skip); (first | (have R3 := Lib.hid (row1_k3 k7)) | (have R3 := Lib.hid (row1_k2 k7)) | (have R3 := Lib.hid (row1_k k7)) | fail); (first | (have KJ7 := Lib.hid ((KV.out.alloc _).trans k7)) | (have KJ7 := Lib.hid (((KV.out.alloc _).alloc _).trans k7)) | fail); clear kv2)
      | (go_at_call 11; (first | go_fit (HRep.out w7 _ KJ7.out R3.out) | go_fit (HRep.out (w7.alloc zeroXc) _ (KJ7.out.alloc _) (row_alloc R3.out)) | fail); (first | (have HLT := Lib.hid BZ.out.2.2) | (have HLT := Lib.hid (boxz_new w7).2.2)); rintro r w8 ⟨x, rfl, kx, k8, hat8, her⟩; clear k7; have HS8 := Lib.hid (keepE6 k8 HS5.out); replace k8 := Lib.hid k8; (first | (replace BZ := Lib.hid (BZ.out.kp kx)) | (replace BZ := Lib.hid (BZ.out.kp (((Kp.refl _).alloc _).trans kx))) | (have BZ := Lib.hid (boxz_kd kx)) | (have BZ := Lib.hid (boxz_k3 kx)) | (have BZ := Lib.hid (boxz_k2 kx)) | (have BZ := Lib.hid (boxz_k kx)) | skip); (first | (obtain ⟨⟨z0, z1, z2, z3, z4, z5⟩, zf, _⟩ := BZ.out; have g0 := zf 0; have g1 := zf 1; have g2 := zf 2; have g3 := zf 3; have g4 := zf 4; have g5 := zf 5) | (obtain ⟨⟨z0, z1, z2, z3, z4, z5⟩, zf, _⟩ := boxz_new w8; have g0 := zf 0; have g1 := zf 1; have g2 := zf 2; have g3 := zf 3; have g4 := zf 4; have g5 := zf 5) | fail))
      | fail)
    all_goals
      go_wp2_with fail
      go_meet
      case rel => first
        | with_reducible exact endA hat8 k8.out her
        | with_reducible exact endB hat8 k8.out her BZ.out (Nat.le_refl _) HLT.out rfl
        | with_reducible exact endB hat8 k8.out her BZ.out KV.out.size HLT.out rfl
        | with_reducible exact endB hat8 k8.out her BZ.out (Nat.le_succ_of_le KV.out.size) HLT.out rfl
        | with_reducible exact endB hat8 k8.out her BZ.out KJ7.out.size HLT.out rfl
  case rest =>
  obtain ⟨Bz, x, rfl, rfl, hbx, hatx, herx, kcx⟩ := hcut
  obtain ⟨W6, hW6⟩ : ∃ X : World, X = wc := ⟨_, rfl⟩
  subst hW6
  have HV := Lib.hid fun W' (k : Kp W6 W') => tvalid_any (exE a1 a2) W5.heap.size W' (Ex.at_kp HAT.out (kcx.trans k)) (kcx.trans k).size
  have HN := Lib.hid fun W' (k : Kp W6 W') => tnames_any (exE a1 a2) W5.heap.size W' (Ex.at_kp HAT.out (kcx.trans k)) (kcx.trans k).size
  have HS := Lib.hid fun W' (k : Kp W6 W') => tsize_any (exE a1 a2) W5.heap.size W' (Ex.at_kp HAT.out (kcx.trans k)) (kcx.trans k).size
  have HD := Lib.hid fun W' (k : Kp W6 W') => tdepth_any (exE a1 a2) W5.heap.size W' (Ex.at_kp HAT.out (kcx.trans k)) (kcx.trans k).size
  have HZ := Lib.hid fun W' (k : Kp W6 W') => tsize_any x W6.heap.size W' (Ex.at_kp hatx k) k.size
  have HQ := Lib.hid fun (W W' : World) (a : Option Addr) (c s : Nat) (h : RowS W a [nX]) (k : Kp W W') (hc : W'.cell? ⟨s, 0, none⟩ = some (.string nX)) => eqS_any a (some ⟨s, 0, none⟩) c 1 [nX] [nX] W' (h.kp k) (fun i z hz => by
    match i, hz with
    | 0, hz => cases hz; exact ⟨s, 0, rfl, hc⟩
    | i + 1, hz => simp at hz) (by decide) (by decide)
  have e1 : sizO (exE a1 a2) = 5 := by rw [sizO_ok (exE_ok _ _), exE_size]; rfl
  have e2 : depO (exE a1 a2) = 3 := by unfold depO; rw [if_pos (exE_ok _ _), exE_depth]; rfl
  have e3 : sizO x = 7 := by rw [sizO_ok (by rw [ok_er herx]; exact sub_ok _ _ _), ← x.er_size, herx, Ex.er_size, sub_size7]; rfl
  rw [exE_ok] at HV
  rw [namO_ex] at HN
  rw [e1] at HS
  rw [e2] at HD
  rw [e3] at HZ
  have hb6 := hb5.kp kcx
  have HE5 := Lib.hid hb6
  have HX6 := Lib.hid hbx
  have KC := Lib.hid (Kp.refl W6)
  have KW := Lib.hid (KJ.out.trans kcx)
  obtain ⟨⟨p0, p1, p2, p3, p4, p5⟩, _⟩ := hb6
  clear e1 e2 e3 herx hatx hbx hb5 kcx HAT KJ
  go_wp2_with (first
    | (go_at_call 31; go_fit (HV.out _ KC.out); rintro r w1 ⟨rfl, k1⟩; replace KC := Lib.hid (KC.out.trans k1); obtain ⟨⟨p0, p1, p2, p3, p4, p5⟩, _⟩ := HE5.out.kp KC.out; obtain ⟨⟨r0, r1, r2, r3, r4, r5⟩, _⟩ := HX6.out.kp KC.out; clear k1)
    | (go_at_call 20; go_fit (HN.out _ KC.out); rintro r w2 ⟨v, rfl, hv, k2⟩; obtain ⟨va, vc, rfl, hrow⟩ := rowS_own hv; replace KC := Lib.hid (KC.out.trans k2); obtain ⟨⟨p0, p1, p2, p3, p4, p5⟩, _⟩ := HE5.out.kp KC.out; obtain ⟨⟨r0, r1, r2, r3, r4, r5⟩, _⟩ := HX6.out.kp KC.out; clear k2 hv)
    | (go_at_call 22; go_fit (HQ.out w2 _ va vc w2.heap.size hrow ((Kp.refl _).alloc _) (new_cell _ _ _ _ rfl)); rintro r w3 ⟨rfl, k3⟩; replace KC := Lib.hid (KC.out.trans (((Kp.refl _).alloc _).trans k3)); obtain ⟨⟨p0, p1, p2, p3, p4, p5⟩, _⟩ := HE5.out.kp KC.out; obtain ⟨⟨r0, r1, r2, r3, r4, r5⟩, _⟩ := HX6.out.kp KC.out; clear k3)
    | (go_at_call 18; go_fit (HS.out _ KC.out); rintro r w4 ⟨rfl, k4⟩; clear HS; replace KC := Lib.hid (KC.out.trans k4); obtain ⟨⟨p0, p1, p2, p3, p4, p5⟩, _⟩ := HE5.out.kp KC.out; obtain ⟨⟨r0, r1, r2, r3, r4, r5⟩, _⟩ := HX6.out.kp KC.out; clear k4)
    | (go_at_call 19; go_fit (HD.out _ KC.out); rintro r w5 ⟨rfl, k5⟩; replace KC := Lib.hid (KC.out.trans k5); obtain ⟨⟨p0, p1, p2, p3, p4, p5⟩, _⟩ := HE5.out.kp KC.out; obtain ⟨⟨r0, r1, r2, r3, r4, r5⟩, _⟩ := HX6.out.kp KC.out; clear k5)
    | (go_at_call 18; go_fit (HZ.out _ KC.out); rintro r w6 ⟨rfl, k6⟩; replace KC := Lib.hid (KC.out.trans k6); obtain ⟨⟨p0, p1, p2, p3, p4, p5⟩, _⟩ := HE5.out.kp KC.out; obtain ⟨⟨r0, r1, r2, r3, r4, r5⟩, _⟩ := HX6.out.kp KC.out; clear k6)
    | fail)
  go_ret
  exact ⟨rfl, KW.out.trans KC.out⟩
end Go.Proofs.Ythaphbbeiglolaa
