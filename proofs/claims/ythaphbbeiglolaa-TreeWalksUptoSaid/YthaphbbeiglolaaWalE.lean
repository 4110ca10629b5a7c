/-
  Walks: a range over tree.Walk whose end says where the nodes that came lie.
-/
import Derived.Test.YthaphbbeiglolaaNamX
namespace Go
open Go.RowKit
variable {F : Fence} {n : Nat} {P : Program}
/-- an iterator whose end speaks of the world too -/
def SeqEndK {α : Type} (F : Fence) (n : Nat) (P : Program) (g : Nat) (lb : Array Value) (encs : α → Array Value) (Kp : World → World → Prop) (S : List α → World → Prop) (Sp : List α → Prop) (N : Nat) (w : World) : Prop :=
  ∀ (l : Nat) (J Jx : List α → World → Prop) (W : World), Below w.heap.size w W → AbidesFrom W.heap.size J → AbidesFrom W.heap.size Jx →
    (∀ pre x W1, J pre W1 → pre.length < N → YieldAt F (n - 1) P l (encs x) W1 fun e W' =>
      (e = .returned (.bool true) ∧ J (pre ++ [x]) W' ∧ Kp W1 W') ∨ (e = .returned (.bool false) ∧ Jx (pre ++ [x]) W')) →
    J [] W →
    CallsIn F n P g (#[.func (.yield l) #[] #[]] ++ lb) W fun e W' => (∃ v, e = .returned v) ∧ ((∃ xs, S xs W' ∧ J xs W') ∨ (∃ pre, Sp pre ∧ Jx pre W'))
/-- a range over such an iterator: its end's word holds where the walk goes on, if it bears a store of what is no cells -/
theorem wpIn_rangeFunc_end {α : Type} {g : Operand} {ps : Array Tmp} {assign body : Code} {Q : Exit → Act → World → Prop} {a : Act} {w : World}
    (hro : F.round = none) (h1 : 1 ≤ n) {gf : Nat} {lb : Array Value} (hg : a.eval g = .func (.func gf) #[] lb) (hFg : F.fn gf) (eg : ∀ args w, (callFunc gf args).run P w = .ok (.enter gf args) w)
    {encs : α → Array Value} {Kp : World → World → Prop} {S : List α → World → Prop} {Sp : List α → Prop} {N : Nat} {w0 : World} (hseq : SeqEndK F (n - 1) P gf lb encs Kp S Sp N w0)
    (hS : ∀ xs W l o o', S xs W → W.heap[l]? = some o → o.isCells = false → S xs (W.putObj l o'))
    (hKt : ∀ {A B C : World}, Kp A B → Kp B C → Kp A C) (hKb : ∀ (W : World) (l : Nat) (o o' : Obj), W.heap[l]? = some o → o.isCells = false → Kp W (W.putObj l o')) (hb0 : Below w0.heap.size w0 w) (hps : ∀ x, (encs x).size = ps.size)
    (I : List α → World → Prop) (Ix : Code → List α → World → Prop) (hI : OwnFrom w.heap.size I) (hIx : ∀ c, OwnFrom w.heap.size (Ix c)) (h0 : I [] w) (Ax : α → Act → World → Prop) (hAx : ∀ x a', OwnFrom w.heap.size (fun (_ : Unit) W => Ax x a' W))
    (hassign : ∀ (l : Nat) (pre : List α) (x : α) (W : World) (K : Act → World → Prop), I pre W → (∀ a' W', KeepsFrom w.heap.size W W' → Kp W W' → I pre W' → Ax x a' W' → K a' W') →
      assign.wpIn (F.inRound l) (n - 1 - 1) P (Exit.then K (fun _ _ _ => False)) { tmps := (ps.zip (encs x)).foldl (fun t (p, v) => t.setIfInBounds p v) a.tmps, defers := [] } W)
    (hbody : ∀ (l : Nat) (pre : List α) (x : α) (a' : Act) (W : World), w.heap.size ≤ l → (∃ r, W.heap[l]? = some (.loop r)) → I pre W → Ax x a' W → pre.length < N → body.wpIn (F.inRound l) (n - 1 - 1) P (ownPostG w.heap.size Kp I Ix (pre ++ [x]) W) a' W)
    (hdone : ∀ (D : Nat) (xs : List α) (W : World), w.heap.size ≤ D → S xs W → I xs W → W.heap[D]? = some (.deferred (some [])) → Q .normal { a with defers := { target := .collected D, args := #[] } :: a.defers } W)
    (hstop : ∀ (D : Nat) (c : Code) (pre : List α) (W : World), w.heap.size ≤ D → Sp pre → Ix c pre W → W.heap[D]? = some (.deferred (some [])) → c.wpIn F n P Q { a with defers := { target := .collected D, args := #[] } :: a.defers } W) :
    (Code.rangeFunc g ps assign body).wpIn F n P Q a w := by
  -- the law of the kit, at the same iterator seen without the end's word, gives all but that word; here the steps are taken again with it
  refine wpIn_rangeFunc fun fn hfn => ?_
  rw [hro]
  obtain ⟨rec, hrec⟩ : ∃ rec : LoopState → Option Code → Loop, rec = fun st pe => { state := st, pending := pe, fn, tmps := a.tmps, params := ps, assign, body, defers := w.heap.size } := ⟨_, rfl⟩
  obtain ⟨V, hV⟩ : ∃ V, (w.alloc (.deferred (some []))).alloc (.loop (rec .ready none)) = V := ⟨_, rfl⟩
  have hVs : V.heap.size = w.heap.size + 2 := by rw [← hV]; simp
  have hVl : V.heap[w.heap.size + 1]? = some (.loop (rec .ready none)) := by
    have := World.alloc_heap_new (w.alloc (.deferred (some []))) (.loop (rec .ready none))
    rw [World.size_alloc, hV] at this
    exact this
  have hVd : V.heap[w.heap.size]? = some (.deferred (some [])) := by
    rw [← hV]; exact (Below.heap_alloc _ _ _ (by simp)).trans (World.alloc_heap_new w _)
  have hVI : I [] V := by rw [← hV]; exact hI.alloc _ (hI.alloc _ h0)
  have hVb : Below w0.heap.size w0 V := by
    rw [← hV]; exact hb0.trans ((((Below.refl _ w).alloc (Nat.le_refl _) _).alloc (by simp) _).mono hb0.size)
  refine ⟨w.heap.size + 1, [{ target := .collected w.heap.size, args := #[] }], V, { target := .fn (.func gf) lb, args := #[.func (.yield (w.heap.size + 1)) #[] #[]] }, V, gf,
    #[.func (.yield (w.heap.size + 1)) #[] #[]] ++ lb, V, by rw [← hV, hrec]; exact run_enterLoop_outer _ _ _ _ _, by simp only [resolve, hg]; simp [go_sem],
    fun f' hf' => by simp [Target.leads] at hf'; subst hf'; exact hFg, by simp [invoke, go_sem, eg], fun _ => h1, ?_⟩
  -- the two records of the loop: the one, the other
  have keep2 : ∀ {A B : World} {row : Option Nat}, A.grownBy B row → (∀ r, row = some r → V.heap.size ≤ r ∧ ∃ o : Obj, A.heap[r]? = some o ∧ o.isWalk = true) →
      ∀ (k : Nat) (o : Obj), A.heap[k]? = some o → o.isWalk = false → B.heap[k]? = some o := fun hg' hr k o hk ho => (grownBy_keeps hg' (fun r e => (hr r e).2) hk ho).trans hk
  have own2 : ∀ {A : World} {row : Option Nat}, (∀ r, row = some r → V.heap.size ≤ r ∧ ∃ o : Obj, A.heap[r]? = some o ∧ o.isWalk = true) → (∀ r, row = some r → w.heap.size ≤ r ∧ ∃ o : Obj, A.heap[r]? = some o ∧ o.isCells = false) :=
    fun hr r e => by obtain ⟨hB, o, ho, hw⟩ := hr r e; exact ⟨by omega, o, ho, Obj.not_cells_of_walk hw⟩
  refine (hseq (w.heap.size + 1)
    (fun pre W => I pre W ∧ W.heap[w.heap.size + 1]? = some (.loop (rec .ready none)) ∧ W.heap[w.heap.size]? = some (.deferred (some [])))
    (fun pre W => ∃ c, Ix c pre W ∧ W.heap[w.heap.size + 1]? = some (.loop (rec .done (some c))) ∧ W.heap[w.heap.size]? = some (.deferred (some [])))
    V hVb
    (fun s A B row hs hg' hr => ⟨hI s A B row hs.1 hg' (own2 hr), keep2 hg' hr _ _ hs.2.1 rfl, keep2 hg' hr _ _ hs.2.2 rfl⟩)
    (fun s A B row ⟨c, hc, hl, hk⟩ hg' hr => ⟨c, hIx c s A B row hc hg' (own2 hr), keep2 hg' hr _ _ hl rfl, keep2 hg' hr _ _ hk rfl⟩)
    (fun pre x W ⟨hi, hl, hk⟩ hlen => ?_) ⟨hVI, hVl, hVd⟩).mono ?_
  · have hy := run_yield (P := P) (args := encs x) hl (by rw [hrec]; exact hps x)
    rw [hrec] at hy
    refine ⟨fn, _, assign, body, hy, roundIn_of_wpIn hfn (hassign _ pre x W _ hi ?_)⟩
    intro a' U hkU hpU hiU hax
    have hlU := hkU.same _ _ (by omega) hl rfl
    have hdU := hkU.same _ _ (Nat.le_refl _) hk rfl
    obtain ⟨busy, hbusy⟩ : ∃ b : Loop, b = { rec .ready none with state := .busy } := ⟨_, rfl⟩
    refine ⟨_, run_beginRound hlU (by rw [hrec]), ?_⟩
    have hl2 : (U.putObj (w.heap.size + 1) (.loop busy)).heap[w.heap.size + 1]? = some (.loop busy) := World.putObj_heap_same (Array.getElem?_eq_some_iff.1 hlU).1
    have hd2 : (U.putObj (w.heap.size + 1) (.loop busy)).heap[w.heap.size]? = some (.deferred (some [])) := (World.putObj_heap_other (by omega)).trans hdU
    rw [← hbusy]
    refine wpIn_mono (hbody _ pre x a' _ (by omega) ⟨_, hl2⟩ (hI.putObj _ hiU (by omega) hlU rfl) ((hAx x a').putObj (s := ()) _ hax (by omega) hlU rfl) hlen) ?_
    have fin : ∀ (jump : Option Code) (Z : World), KeepsFrom w.heap.size (U.putObj (w.heap.size + 1) (.loop busy)) Z →
        (Instr.endRound (w.heap.size + 1) jump).run P Z = .ok (.bool jump.isNone) (Z.putObj (w.heap.size + 1) (.loop (rec (if jump.isNone then .ready else .done) jump))) ∧
        Z.heap[w.heap.size + 1]? = some (.loop busy) ∧
        (Z.putObj (w.heap.size + 1) (.loop (rec (if jump.isNone then .ready else .done) jump))).heap[w.heap.size + 1]? = some (.loop (rec (if jump.isNone then .ready else .done) jump)) ∧
        (Z.putObj (w.heap.size + 1) (.loop (rec (if jump.isNone then .ready else .done) jump))).heap[w.heap.size]? = some (.deferred (some [])) := fun jump Z hZ => by
      have h3 := hZ.same _ _ (by omega) hl2 rfl
      refine ⟨?_, h3, World.putObj_heap_same (Array.getElem?_eq_some_iff.1 h3).1, (World.putObj_heap_other (by omega)).trans (hZ.same _ _ (Nat.le_refl _) hd2 rfl)⟩
      have := run_endRound (P := P) jump h3
      rw [hbusy, hrec] at this
      rw [hrec]
      exact this
    have leave : ∀ (c : Code) (Z : World), KeepsFrom w.heap.size (U.putObj (w.heap.size + 1) (.loop busy)) Z → Ix c (pre ++ [x]) Z →
        ∃ v Z', (Instr.endRound (w.heap.size + 1) (some c)).run P Z = .ok v Z' ∧ ((Ending.returned v = .returned (.bool true) ∧ (I (pre ++ [x]) Z' ∧ Z'.heap[w.heap.size + 1]? = some (.loop (rec .ready none)) ∧ Z'.heap[w.heap.size]? = some (.deferred (some []))) ∧ Kp W Z') ∨
          (Ending.returned v = .returned (.bool false) ∧ ∃ c, Ix c (pre ++ [x]) Z' ∧ Z'.heap[w.heap.size + 1]? = some (.loop (rec .done (some c))) ∧ Z'.heap[w.heap.size]? = some (.deferred (some [])))) := fun c Z hZ hc => by
      obtain ⟨hr, h3, h4, h5⟩ := fin (some c) Z hZ
      exact ⟨_, _, hr, .inr ⟨rfl, c, (hIx c).putObj _ hc (by omega) h3 rfl, h4, h5⟩⟩
    rintro e a3 Z hp
    cases e with
    | normal =>
      obtain ⟨hZ, hkp, hi3⟩ := hp
      obtain ⟨hr, h3, h4, h5⟩ := fin none Z hZ
      exact ⟨_, _, hr, .inl ⟨rfl, ⟨hI.putObj _ hi3 (by omega) h3 rfl, h4, h5⟩, hKt hpU (hKt (hKt (hKb _ _ _ _ hlU rfl) hkp) (hKb _ _ _ _ h3 rfl))⟩⟩
    | ret => exact leave .ret Z hp.1 hp.2
    | exit id => exact leave (.exit id) Z hp.1 hp.2
    | goto t => exact leave (.goto t) Z hp.1 hp.2
    | panic ch => exact hp.elim
    | outgrown => exact hp.elim
  · rintro e Z ⟨⟨v, rfl⟩, h⟩
    rcases h with ⟨xs, hSZ, hi, hl, hk⟩ | ⟨pre, hSp, c, hi, hl, hk⟩
    · exact ⟨none, _, by have := run_endLoop (P := P) hl (by rw [hrec]; simp); rw [hrec] at this; exact this, hdone _ xs _ (Nat.le_refl _) (hS xs Z _ _ _ hSZ hl rfl) (hI.putObj _ hi (by omega) hl rfl) ((World.putObj_heap_other (by omega)).trans hk)⟩
    · exact ⟨some c, _, by have := run_endLoop (P := P) hl (by rw [hrec]; simp); rw [hrec] at this; exact this, hstop _ c pre _ (Nat.le_refl _) hSp ((hIx c).putObj _ hi (by omega) hl rfl) ((World.putObj_heap_other (by omega)).trans hk)⟩
end Go
namespace Go.Proofs.Ythaphbbeiglolaa
open Go.RowKit Go.Sort Go.Shelf
attribute [local go_sem] Oper.semAt_some
/-- where the nodes that came lie: they are those of a tree like e -/
def EndE (e : Ex) (xs : List Ex) (W : World) : Prop := (e.ok = true ∧ ∃ (e' : Ex) (B' : Nat), e'.er = e.er ∧ xs = e'.flat ∧ e'.at W B') ∨ (e.ok = false ∧ xs = [])
theorem EndE.put {e : Ex} (xs : List Ex) (W : World) (l : Nat) (o o' : Obj) (h : EndE e xs W) (hl : W.heap[l]? = some o) (ho : o.isCells = false) : EndE e xs (W.putObj l o') := by
  rcases h with ⟨h1, e', B', h2, h3, h4⟩ | h
  · refine .inl ⟨h1, e', B', h2, h3, Ex.same (Nat.le_refl _) (fun b i v _ hc => ?_) e' h4⟩
    obtain ⟨vs, t, fr, hb⟩ := cellsAt_of hc
    have hne : b ≠ l := fun e => by subst e; rw [hb] at hl; injection hl with hl; subst hl; cases ho
    exact (cell_same (World.putObj_heap_other hne) i).trans hc
  · exact .inr h
theorem EndE.er {e : Ex} {xs : List Ex} {W : World} (h : EndE e xs W) : xs.map Ex.er = flatE e := by
  rcases h with ⟨h1, e', _, h2, h3, _⟩ | ⟨h1, h2⟩
  · subst h3; unfold flatE; rw [if_pos h1]; exact flat_er h2
  · subst h2; unfold flatE; rw [if_neg (by rw [h1]; decide)]; rfl
set_option maxHeartbeats 2000000 in
set_option maxRecDepth 20000 in
theorem walkc_ends (n : Nat) (e : Ex) (eb B : Nat) (w : World) (T : Turf) (hG : T.G w) (hat : e.at w B) (hB : B ≤ w.heap.size) (hb : BoxX w eb e) :
    SeqEndK Fence.wide n Try.prog 43 #[.pointer (some ⟨eb, 0, none⟩)] (fun x : Ex => #[.agg #[.int .i64 x.kind, .int .i64 x.rn, .int .i64 x.rd, .string x.name, .int .i64 x.pw, .slice x.a x.l.length x.c]]) (KpT T) (EndE e) (fun pre => pre.map Ex.er <+: flatE e) (flatE e).length w := fun l J Jx W hW hJ hJx hY h0 => by
  refine callsIn_wide.2 ?_
  show Calls Try.prog 43 #[.func (.yield l) #[] #[], .pointer (some ⟨eb, 0, none⟩)] W _
  have kW : Kp w W := hW
  have hat1 := Ex.at_kp hat kW
  have hB1 := Nat.le_trans hB kW.size
  have hbW := hb.kp kW
  have HGW := Lib.hid (T.kp w W hG kW).1
  have HV := Lib.hid (tvalid_any e B W hat1 hB1)
  have HC := Lib.hid fun W' (k : Kp W W') => clone_anyT e B W' (Ex.at_kp hat1 k) (Nat.le_trans hB1 k.size)
  have HF := Lib.hid (show flatE e = _ from rfl)
  have HJ := Lib.hid hJ
  have H0 := Lib.hid h0
  have HB := Lib.hid hbW
  obtain ⟨⟨q0, q1, q2, q3, q4, q5⟩, _⟩ := hbW
  have HY := Lib.hid hY
  clear hY hJx hJ h0 hat1 hat hb hG kW hW
  rcases Bool.eq_false_or_eq_true e.ok with h1 | h1
  · rw [h1] at HV
    have H1 := Lib.hid h1
    have HWk := Lib.hid (walk_any n l e.size W.heap.size T J Jx HJ.out fun m pre x W1 hj hl => yieldAny m (HY.out pre x W1 hj (by rw [flatE_len h1]; exact hl)))
    clear h1 HY
    go_enter Try.func43, Try.ntmps43
    go_wp2_with (first
      | (go_at_call 31; go_fit HV.out; rintro r w2 ⟨rfl, k2⟩; obtain ⟨⟨t0, t1, t2, t3, t4, t5⟩, _⟩ := HB.out.kp k2)
      | (go_at_call 45; go_loud (go_fit (HC.out _ k2); rintro r w3 ⟨e', rfl, he, k3, hm⟩; obtain ⟨M, hs, hin, hsz⟩ := safe_clone HGW.out k2 k3 he hm))
      | (go_at_call 44; go_fit (HWk.out e' [] w3 M _ hm.1 hin hs (abides_kp HJ.out H0.out (k2.trans k3)) (hsz)); rintro r w4 (⟨rfl, g1, g2⟩ | ⟨rfl, q, g1, g2⟩))
      | fail)
    · go_end0
      exact ⟨⟨_, rfl⟩, .inl ⟨e'.flat, .inl ⟨H1.out, e', _, he, rfl, Ex.at_inM g2.2 e' hin hm.1⟩, by simpa using g1⟩⟩
    · go_end0
      refine ⟨⟨_, rfl⟩, .inr ⟨q, ?_, by simpa using g2⟩⟩
      unfold flatE
      rw [if_pos H1.out, ← flat_er he]
      exact g1.map Ex.er
  · rw [h1] at HV
    have H1 := Lib.hid h1
    clear h1 HC HY
    go_enter Try.func43, Try.ntmps43
    go_wp2_with (go_at_call 31; go_fit HV.out; rintro r w2 ⟨rfl, k2⟩)
    go_end0
    exact ⟨⟨_, rfl⟩, .inl ⟨[], .inr ⟨H1.out, rfl⟩, abides_kp HJ.out H0.out k2⟩⟩
end Go.Proofs.Ythaphbbeiglolaa
