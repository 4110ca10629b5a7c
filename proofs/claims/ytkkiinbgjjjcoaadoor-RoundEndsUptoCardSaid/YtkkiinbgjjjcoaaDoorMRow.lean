/-
  What both rows of this seat share: the table that the row lists, a world that holds it, three slices opened, the step from a call that leaves all that was there to the row's own words.
  Walks: dyadic.checked, Make.
  Walks: dyadic.Make.
-/
import Derived.Test.YtkkiinbgjjjcoaaDoorCards
import Derived.Test.YtkkiinbgjjjcoaaDoorTie
import Derived.Test.YtkkiinbgjjjcoaaDoorMIvF
import Derived.Test.YtkkiinbgjjjcoaaDoorMMul
import Derived.WideKeyArgs
import Derived.WalkKit
import Derived.Below
import Derived.ChangeSame
import Derived.Deep.DeepHandedRow
import Derived.Lib.LaidTab
import Derived.Test.YtkkiinbgjjjcoaaDoorMDyB
section
namespace Go.Proofs.YtkkiinbgjjjcoaaDoor
open Go.ChangeShapes Go.WideShapes Go.ChangeAt Go.RowKit

theorem ownKnobs : ownKnob Tryd.prog.godebug = none := by kernel_rfl
theorem laidOutSeat : laidOutB Tryd.prog = true := by kernel_rfl
theorem gTab : Tryd.prog.globalNamed "math/bits.deBruijn32tab" = some 0 := by kernel_rfl
theorem gTabType : (Tryd.prog.globals[0]?).map (·.type) = some 91 := by kernel_rfl
theorem cellsTab : Tryd.prog.cellsOf 91 = 32 := by kernel_rfl
theorem cellsByte : Tryd.prog.cellsOf 5 = 1 := by kernel_rfl
def tabInts : List Int := [0, 1, 28, 2, 29, 14, 24, 3, 30, 22, 20, 15, 25, 17, 4, 8, 31, 27, 13, 23, 21, 19, 16, 7, 26, 12, 18, 6, 11, 5, 10, 9]

/-- what the row's list gives: the table's cells hold its numbers -/
theorem tab_of_laid {W : World} (h : laidMetH Tryd.prog [("math/bits.deBruijn32tab", Rows.laid_math_bits_deBruijn32tab)] W) : Tab W := by
  have T : Lib.TabIs Tryd.prog W "math/bits.deBruijn32tab" .u8 tabInts :=
    Lib.tabIs_of_head (rest := []) gTab gTabType Tryd.underlying91 Tryd.underlying5 cellsByte cellsTab h
  intro j hj
  have hc := T.cell gTab j hj
  rw [hc]
  have e : ∀ j : Fin 32, tabInts.getD j.1 0 = ((Lib.deBruijn32tab.getD j.1 0 : Nat) : Int) := by decide
  exact congrArg some (congrArg (Value.int IntKind.u8) (e ⟨j, hj⟩))

/-- a world for the witness: the settled one, the table holding what its initialiser lays -/
noncomputable def laidWorld (os : Os) : World :=
  { World.holding Tryd.prog os ⟨#[], #[], []⟩ with heap := (World.holding Tryd.prog os ⟨#[], #[], []⟩).heap.modify 0 fun
      | .cells _ t frozen => .cells (tabInts.map fun z => Value.int .u8 z).toArray t frozen
      | o => o }

section
variable {H : Type} {enc : TypeId × Value → H} {P : Program}
theorem post_of_below {f : Func} {s : ChangeSpec} {apart fresh handsOn again : Bool} {W W' : World} {args : Array Value} {v : Value} {ds gs : List (DataW H)} {before pa pv : List MemPlace}
    (hW : DataW.Whole enc P f.params.toList s.vars apart W args.toList ds gs before)
    (hres : ∀ (b : Nat) (sp : Nat → Bool) (hd : Bool), DataW.TrodAll enc P W' b sp hd f.resultTypes.toList (v.resultList f.resultTypes.size) (s.fn H (ds ++ gs)).results [])
    (hargs : ∀ sp : Nat → Bool, (∀ p ∈ before, sp p.block = true) → DataW.TrodAll enc P W' 0 sp true f.params.toList args.toList (s.fn H (ds ++ gs)).args pa)
    (hvars : ∀ sp : Nat → Bool, (∀ p ∈ before, sp p.block = true) → DataW.TrodVars enc P W' sp s.vars (s.fn H (ds ++ gs)).vars pv)
    (hps : before = pa ++ pv) (hb : Below W.heap.size W W')
    (hok : ∀ (j : Nat) (t : TypeId) (r : Value), f.resultTypes[j]? = some t → (v.resultList f.resultTypes.size)[j]? = some r → Value.okWide P W' .any 0 t r) :
    s.post enc P f apart fresh handsOn again W args v W' := by
  have hlt : ∀ p ∈ before, p.block < W.heap.size := fun p hp => hW.lt p hp
  have hold : ∀ p ∈ before, (fun b => decide (b < W.heap.size)) p.block = true := fun p hp => by simpa using hlt p hp
  refine ⟨ds, gs, before, [], pa, pv, hW, hres _ _ _, hargs _ hold, hvars _ hold, World.keptBut_mono (fun p hp => ⟨hp, ?_⟩) (hb.frame (· ∈ before)), fun _ => ?_⟩
  · rw [hps, List.mem_append] at hp
    exact Or.inr hp
  · obtain ⟨_, _, _, _, _, hz, hn⟩ := hW
    refine ⟨hok, _, _, ([] ++ pa) ++ pv, ⟨[] ++ pa, pv, trodAll_append (hargs _ (fun _ _ => rfl)) (hres _ _ _), hvars _ (fun _ _ => rfl), rfl, ?_, ?_⟩, ?_⟩
    · intro b off hp
      have hin : MemPlace.cell b off ∈ before := by rw [hps]; simpa using hp
      rw [hb.frozen (hlt _ hin)]
      exact hz b off hin
    · intro ha
      have := hn ha
      rw [hps] at this
      simpa using this
    · intro p hp _
      rw [hps]
      simpa using hp
end
/-- the bound, as the form hands it over -/
theorem bulk_bound {H : Type} {l : List (DataW H)} {d : DataW H} (hk : Rows.uptoSmall H l = true) (h : d ∈ l) : Rows.uptoBulk d ≤ 1048576 :=
  Nat.le_trans (bulk_part h) (of_decide_eq_true hk)
end Go.Proofs.YtkkiinbgjjjcoaaDoor
end

section
namespace Go.Proofs.YtkkiinbgjjjcoaaDoor
open Go.RowKit

/-- the result is the dyadic number d and the error f -/
def DyE (w : World) (d : Dy) (f : Int) (e : Ending) (w' : World) : Prop :=
  ∃ a c, e = .returned (.tuple #[.agg #[.bool d.neg, .slice a (limbs d.m).length c, .int .i64 d.e], .int .i64 f]) ∧ Rd w' a (limbs d.m) ∧ (limbs d.m).length ≤ c ∧ c ≤ maxLen ∧ Kp w w'
theorem dyE_zero {w w' : World} {f : Int} {e : Ending} (he : e = .returned (.tuple #[.agg #[.bool false, .slice none 0 0, .int .i64 0], .int .i64 f])) (hk : Kp w w') : DyE w .zero f e w' := by
  subst he
  refine ⟨none, 0, ?_, ?_, ?_, by unfold maxLen; omega, hk⟩
  · show _ = Ending.returned (.tuple #[.agg #[.bool false, .slice none (limbs 0).length 0, .int .i64 0], .int .i64 f])
    rw [limbs_zero]; rfl
  · show Rd w' none (limbs 0)
    rw [limbs_zero]; exact .nil _ _
  · show (limbs 0).length ≤ 0
    rw [limbs_zero]; exact Nat.le_refl _
/-- checked -/
def chk (d : Dy) : Dy × Int := if inrB d.m d.e then (d, 0) else (.zero, 9)

set_option maxHeartbeats 2000000 in
theorem checked_any (d : Dy) (a : Option Addr) (c : Nat) (w : World) (h : Rd w a (limbs d.m)) (hc : (limbs d.m).length ≤ c) (hm : c ≤ maxLen) (hl : (limbs d.m).length ≤ 1100000) (he : I64 d.e) :
    Calls Tryd.prog 46 #[.agg #[.bool d.neg, .slice a (limbs d.m).length c, .int .i64 d.e]] w (DyE w (chk d).1 (chk d).2) := by
  have hr := inRange_any d.neg a (limbs d.m) c d.e ((w.alloc (.cells #[.bool d.neg, .slice a (limbs d.m).length c, .int .i64 d.e] 24)).alloc (.cells #[.bool false, .slice none 0 0, .int .i64 0] 24)) (h.kp (((Kp.refl w).alloc _).alloc _)) hc hm hl he
  rw [val_limbs] at hr
  have Hr := Lib.hid hr
  clear hr
  cases hi : inrB d.m d.e with
  | true =>
    rw [hi] at Hr
    have Hd := Lib.hid (show chk d = (d, 0) by unfold chk; rw [hi]; rfl)
    clear hi
    go_enter Tryd.func46, Tryd.ntmps46
    go_wp2_with fail
    refine Hr.out.mono ?_
    rintro e w1 ⟨rfl, hk⟩
    obtain ⟨c0, c1, c2, _⟩ := (Box3.new1 w (.bool d.neg) (.slice a (limbs d.m).length c) (.int .i64 d.e) 24 (.cells #[.bool false, .slice none 0 0, .int .i64 0] 24)).kp hk
    obtain ⟨q0, q1, q2, f0, f1, f2⟩ := (Box3.new2 w (.bool false) (.slice none 0 0) (.int .i64 0) 24 (.cells #[.bool d.neg, .slice a (limbs d.m).length c, .int .i64 d.e] 24)).kp hk
    have hk2 := (((Kp.refl w).alloc _).alloc _).trans hk
    go_wp2_with fail
    have hst := stored q0 q1 q2 (fun _ h => by cases h) (fun _ h => by cases h) (fun _ h => by cases h) (.bool d.neg) (.slice a (limbs d.m).length c) (.int .i64 d.e)
    generalize (((w1.setCell _ _).setCell _ _).setCell _ _) = W at hst ⊢
    obtain ⟨s0, s1, s2, _, s4, s5, _, _⟩ := hst
    refine bodyPost_ret (v := .tuple #[.agg #[.bool d.neg, .slice a (limbs d.m).length c, .int .i64 d.e], .int .i64 0]) (by simp [results, Tryd.results46, go_sem, s0, s1, s2]) rfl ?_
    rw [Hd.out]
    exact ⟨a, c, rfl, s4 _ _ (h.kp hk2), hc, hm, s5 _ hk2 (by omega)⟩
  | false =>
    rw [hi] at Hr
    have Hd := Lib.hid (show chk d = (.zero, 9) by unfold chk; rw [hi]; rfl)
    clear hi
    go_enter Tryd.func46, Tryd.ntmps46
    go_wp2_with fail
    refine Hr.out.mono ?_
    rintro e w1 ⟨rfl, hk⟩
    obtain ⟨q0, q1, q2, f0, f1, f2⟩ := (Box3.new2 w (.bool false) (.slice none 0 0) (.int .i64 0) 24 (.cells #[.bool d.neg, .slice a (limbs d.m).length c, .int .i64 d.e] 24)).kp hk
    have hk2 := (((Kp.refl w).alloc _).alloc _).trans hk
    go_wp2_with fail
    have hst := stored q0 q1 q2 (fun _ h => by cases h) (fun _ h => by cases h) (fun _ h => by cases h) (.bool false) (.slice none 0 0) (.int .i64 0)
    generalize (((w1.setCell _ _).setCell _ _).setCell _ _) = W at hst ⊢
    obtain ⟨s0, s1, s2, _, s4, s5, _, _⟩ := hst
    refine bodyPost_ret (v := .tuple #[.agg #[.bool false, .slice none 0 0, .int .i64 0], .int .i64 9]) (by simp [results, Tryd.results46, go_sem, s0, s1, s2]) rfl ?_
    rw [Hd.out]
    exact dyE_zero rfl (s5 _ hk2 (by omega))
end Go.Proofs.YtkkiinbgjjjcoaaDoor
end

section
namespace Go.Proofs.YtkkiinbgjjjcoaaDoor
open Go.RowKit

theorem canon_len (s : Bool) (n : Nat) (e : Int) : (limbs (canon s n e).m).length ≤ (limbs n).length := by
  unfold canon
  split
  · show (limbs 0).length ≤ _; rw [limbs_zero]; exact Nat.zero_le _
  · exact limbs_length_mono (Nat.div_le_self _ _)
theorem canon_e (s : Bool) {n : Nat} {e : Int} (h0 : -1000000000 ≤ e) (h1 : e ≤ 1000000000) (hb : (limbs n).length ≤ 256) : -1000000000 ≤ (canon s n e).e ∧ (canon s n e).e ≤ 1000010000 := by
  unfold canon
  split
  · exact ⟨by decide, by decide⟩
  · next h =>
    have e1 := bits_oddp h
    obtain ⟨k, hk⟩ : ∃ k : Nat, k = 256 := ⟨_, rfl⟩
    rw [← hk] at hb
    have e2 : bits n ≤ 32 * k := bits_le.2 (by rw [← pow32]; exact limbs_length_le.1 hb)
    simp only []
    omega

set_option maxHeartbeats 2000000 in
theorem Make_any (s : Bool) (a : Option Addr) (xs : List Nat) (c : Nat) (ex : Int) (w : World) (h : Rd w a xs) (hc : xs.length ≤ c) (hm : c ≤ maxLen) (hl : xs.length ≤ 256) (he0 : -32768 ≤ ex) (he1 : ex ≤ 32768) (hT : Tab w) :
    Calls Tryd.prog 82 #[.bool s, .slice a xs.length c, .int .i64 ex] w (DyE w (chk (canon s (val xs) ex)).1 (chk (canon s (val xs) ex)).2) := by
  have hE := exponent_any ex (w.alloc (.cells #[.bool false, .slice none 0 0, .int .i64 0] 24)) ⟨by omega, by omega⟩
  rw [show expB ex = true from decide_eq_true ⟨he0, he1⟩] at hE
  have HE := Lib.hid hE
  have hll := limbs_len_le h.lt32
  have hlen := canon_len s (val xs) ex
  have hee := canon_e s (show -1000000000 ≤ ex by omega) (show ex ≤ 1000000000 by omega) (show (limbs (val xs)).length ≤ 256 by omega)
  clear hE
  go_enter Tryd.func82, Tryd.ntmps82
  go_wp2_with fail
  refine HE.out.mono ?_
  rintro e w1 ⟨rfl, rfl⟩
  go_wp2_with fail
  refine (canonical_any s a xs c ex _ (h.kp ((Kp.refl w).alloc _)) hc hm hl (by omega) (by omega) (hT.kp ((Kp.refl w).alloc _))).mono ?_
  rintro e w2 ⟨a2, c2, rfl, h2, h3, h4, h5⟩
  generalize canon s (val xs) ex = D at *
  go_wp2_with fail
  refine (checked_any D a2 c2 _ h2 h3 h4 (by omega) ⟨by omega, by omega⟩).mono ?_
  rintro e w3 ⟨a3, c3, rfl, h6, h7, h8, h9⟩
  generalize (chk D).1 = F at *
  generalize (chk D).2 = f at *
  have hk := h5.trans h9
  obtain ⟨q0, q1, q2, f0, f1, f2⟩ := (Box3.new w (.bool false) (.slice none 0 0) (.int .i64 0) 24).kp hk
  have hk2 := ((Kp.refl w).alloc _).trans hk
  go_wp2_with fail
  have hst := stored q0 q1 q2 (fun _ h => by cases h) (fun _ h => by cases h) (fun _ h => by cases h) (.bool F.neg) (.slice a3 (limbs F.m).length c3) (.int .i64 F.e)
  generalize (((w3.setCell _ _).setCell _ _).setCell _ _) = W at hst ⊢
  obtain ⟨s0, s1, s2, _, s4, s5, _, _⟩ := hst
  refine bodyPost_ret (v := .tuple #[.agg #[.bool F.neg, .slice a3 (limbs F.m).length c3, .int .i64 F.e], .int .i64 f]) (by simp [results, Tryd.results82, go_sem, s0, s1, s2]) rfl ?_
  exact ⟨a3, c3, rfl, s4 _ _ h6, h7, h8, s5 _ hk2 (by omega)⟩
end Go.Proofs.YtkkiinbgjjjcoaaDoor
end
