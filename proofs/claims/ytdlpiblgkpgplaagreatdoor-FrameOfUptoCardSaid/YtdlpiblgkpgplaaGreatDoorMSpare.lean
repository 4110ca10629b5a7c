/-
  append to a call's own slice: what all the cells of its block are, those behind its length with them.
  The call's own slices of rows of intervals: rows that are appended; rows that grow in place.
-/
import Derived.Test.YtdlpiblgkpgplaaGreatDoorMIvMl
import Derived.Test.YtdlpiblgkpgplaaGreatDoorMIvF
import Derived.OneCell
section
namespace Go.Proofs.YtdlpiblgkpgplaaGreatDoor
open Go.RowKit

/-- all the cells of v's own block are such values -/
def AllC (p : Value → Prop) (w : World) (v : Value) : Prop := ∀ g, v.ownBlock = some g → ∀ j u, w.cell? ⟨g, j, none⟩ = some u → p u
theorem AllC.nil (p : Value → Prop) (w : World) : AllC p w (.slice none 0 0) := fun g h => by simp [Value.ownBlock] at h
theorem zeros_mem {z : Array Value} {n : Nat} {u : Value} (hz : 0 < z.size) (h : u ∈ Builtin.zeroCells z n) : u ∈ z := by
  unfold Builtin.zeroCells at h
  rw [Array.mem_map] at h
  obtain ⟨i, _, rfl⟩ := h
  have : i % z.size < z.size := Nat.mod_lt _ hz
  rw [getElem!_pos z _ this]
  exact Array.getElem_mem this
theorem append_all {P : Program} (w : World) (p : Value → Prop) (t ty : TypeId) (base : Nat) (e : TypeId) (i : TypeInfo) (z : Value) (size bytes : Nat) (ht : P.underlying t = some (.slice e)) (hi : P.info? e = some i) (hz : i.zero = some z)
    (hsize : i.size = size) (hby : i.bytes = bytes) (hzs : z.cells.size = size) (hsz : 0 < size)
    (v : Value) (n : Nat) (xs : List Value) (hown : w.ownsRow base e size v n xs)
    (ad : Addr) (m c : Nat) (news : List Value) (hl : news.length = m * size) (hnews : ∀ j u, news[j]? = some u → w.cell? (ad.add j) = some u) (h1 : ∀ u ∈ news, u.oneCell' = true)
    (hm : 0 < m) (h63 : n + m ≤ maxLen) (hbytes : (n + m) * bytes ≤ 140737488355328) (hbase : base ≤ w.heap.size)
    (hp : AllC p w v) (hpn : ∀ u ∈ news, p u) (hpz : ∀ u ∈ z.cells, p u) :
    ∃ g cap w', (Builtin.append_ #[t, t] ty #[v, .slice (some ad) m c]).run P w = .ok (.slice (some ⟨g, 0, none⟩) (n + m) cap) w' ∧
      w'.ownsRow base e size (.slice (some ⟨g, 0, none⟩) (n + m) cap) (n + m) (xs ++ news) ∧ w.grownBy w' v.ownBlock ∧ (v.ownBlock = some g ∨ g = w.heap.size) ∧ AllC p w' (.slice (some ⟨g, 0, none⟩) (n + m) cap) := by
  obtain ⟨g, cap, w', hr, h2, h3, h4, h5⟩ := run_append_lies (P := P) w t ty base e i z size bytes ht hi hz hsize hby hzs hsz v n xs hown ad m c news hl hnews h1 hm h63 hbytes hbase w.heap.size rfl
  refine ⟨g, cap, w', hr, h2, h3, h4, ?_⟩
  intro g' hg' j u hu
  have hgg : g = g' := by simpa [Value.ownBlock] using hg'
  subst hgg
  subst hsize
  subst hby
  have hsmall : n + m ≤ 9223372036854775807 := by simp only [maxLen] at h63; omega
  have zc : ∀ k, ∀ u ∈ Builtin.zeroCells z.cells k, p u := fun k u hu => hpz u (zeros_mem (by omega) hu)
  rcases hown.2 with ⟨rfl, rfl⟩ | ⟨g0, cap0, cur, rfl, hbg, hg, hnc, hcm, hcs, htake⟩
  · have hr2 := run_append_nil (P := P) w t ty e i z ht hi hz ad m c news hl hnews hm (by omega) (by have hb := hbytes; simp only [Nat.zero_add] at hb; omega)
    rw [hr2] at hr
    injection hr with e1 e2
    subst e2
    have e3 : w.heap.size = g := by simp at e1; exact e1.1
    subst e3
    have hh : (w.drew.alloc (.cells (news.toArray ++ Builtin.zeroCells z.cells (grownCap w m 0 e - m)) e)).heap[w.heap.size]? = some _ := heap_alloc_new w.drew _
    rw [cell_of_row _ _ j _ _ _ hh] at hu
    rcases Array.mem_append.1 (Array.mem_of_getElem? hu) with h | h
    · exact hpn u (by simpa using h)
    · exact zc _ u h
  · have hpx : ∀ u ∈ xs, p u := fun u hu => by
      obtain ⟨j, hj⟩ := List.getElem?_of_mem hu
      have h6 := hown.cells (g := g0) rfl j u hj
      have hadd : (⟨g0, 0, none⟩ : Addr).add j = ⟨g0, j, none⟩ := by unfold Addr.add; split <;> simp_all
      rw [hadd] at h6
      exact hp g0 rfl j u h6
    by_cases hroom : n + m ≤ cap0
    · have hfit : n * i.size + news.length ≤ cur.size := by rw [hl, hcs, ← Nat.add_mul]; exact Nat.mul_le_mul_right _ hroom
      have hr2 := run_append_room (P := P) w t ty e i ht hi g0 n cap0 cur hg ad m c news hl hnews h1 hroom hfit
      rw [hr2] at hr
      injection hr with e1 e2
      subst e2
      have e3 : g0 = g := by simp at e1; exact e1.1
      subst e3
      rw [cell_of_row _ _ j _ _ _ (setRow_heap w g0 cur _ e _ hg)] at hu
      have hc : ∀ u ∈ cur.toList, p u := fun u hu => by
        obtain ⟨k, hk⟩ := List.getElem?_of_mem hu
        exact hp g0 rfl k u (by rw [cell_of_row w g0 k cur _ _ hg]; simpa using hk)
      have hmem : u ∈ cur.toList.take (n * i.size) ++ news ++ cur.toList.drop (n * i.size + news.length) := by
        have := Array.mem_of_getElem? hu
        simpa using this
      rcases List.mem_append.1 hmem with h | h
      · rcases List.mem_append.1 h with h | h
        · exact hc u (List.mem_of_mem_take h)
        · exact hpn u h
      · exact hc u (List.mem_of_mem_drop h)
    · have holds : ∀ j u, xs[j]? = some u → w.cell? ((⟨g0, 0, none⟩ : Addr).add j) = some u := hown.cells (g := g0) rfl
      have hr2 := run_append_grow (P := P) w t ty e i z ht hi hz ⟨g0, 0, none⟩ n cap0 xs hown.1 holds ad m c news hl hnews (by omega) (by omega) (growslice_fits (by omega) hbytes)
      rw [hr2] at hr
      injection hr with e1 e2
      subst e2
      have e3 : w.heap.size = g := by simp at e1; exact e1.1
      subst e3
      have hh : (w.drew.alloc (.cells (xs.toArray ++ news.toArray ++ Builtin.zeroCells z.cells (grownCap w (n + m) cap0 e - (n + m))) e)).heap[w.heap.size]? = some _ := heap_alloc_new w.drew _
      rw [cell_of_row _ _ j _ _ _ hh] at hu
      rcases Array.mem_append.1 (Array.mem_of_getElem? hu) with h | h
      · rcases Array.mem_append.1 h with h | h
        · exact hpx u (by simpa using h)
        · exact hpn u (by simpa using h)
      · exact zc _ u h

/-- at a region in the order of the text -/
theorem wpList_append_all {P : Program} (w : World) (p : Value → Prop) {ops : Array Oper} {rest : List Oper} {o : Oper} {a : Act} {Q : Exit → Act → World → Prop} (hgd : o.guard = none) (s x : Operand) (t : TypeId)
    (ho : o.op = .call { callee := .builtin .append, args := #[s, x], argTypes := #[t, t] })
    (base : Nat) (e : TypeId) (i : TypeInfo) (z : Value) (size bytes : Nat) (ht : P.underlying t = some (.slice e)) (hi : P.info? e = some i) (hz : i.zero = some z)
    (hsize : i.size = size) (hby : i.bytes = bytes) (hzs : z.cells.size = size) (hsz : 0 < size)
    (v : Value) (n : Nat) (xs : List Value) (hs : a.eval s = v) (hown : w.ownsRow base e size v n xs)
    (ad : Addr) (m c : Nat) (news : List Value) (hx : a.eval x = .slice (some ad) m c) (hl : news.length = m * size) (hnews : ∀ j u, news[j]? = some u → w.cell? (ad.add j) = some u) (h1 : ∀ u ∈ news, u.oneCell' = true)
    (hm : 0 < m) (h63 : n + m ≤ maxLen) (hbytes : (n + m) * bytes ≤ 140737488355328) (hbase : base ≤ w.heap.size)
    (hp : AllC p w v) (hpn : ∀ u ∈ news, p u) (hpz : ∀ u ∈ z.cells, p u)
    (h : ∀ g cap w', w'.ownsRow base e size (.slice (some ⟨g, 0, none⟩) (n + m) cap) (n + m) (xs ++ news) → w.grownBy w' v.ownBlock → (v.ownBlock = some g ∨ g = w.heap.size) → AllC p w' (.slice (some ⟨g, 0, none⟩) (n + m) cap) → wpList P ops Q rest (a.put o.dst (.slice (some ⟨g, 0, none⟩) (n + m) cap)) w') :
    wpList P ops Q (o :: rest) a w := by
  obtain ⟨g, cap, w', hr, h2, h3, h4, h5⟩ := append_all (P := P) w p t o.type base e i z size bytes ht hi hz hsize hby hzs hsz v n xs hown ad m c news hl hnews h1 hm h63 hbytes hbase hp hpn hpz
  refine wpList_plain hgd fun K hK => ?_
  unfold Oper.wp execOp
  simp only [ho, resolve, invoke, builtin, Sem.run_bind, Sem.run_pure, Result.andThen_ok, List.map_toArray, List.map_cons, List.map_nil, hs, hx, hr]
  exact hK _ _ (h g cap w' h2 h3 h4 h5)

/-- no limb -/
def NoU (u : Value) : Prop := ∀ x, u ≠ .int .u32 x
theorem rd_far {w w' : World} {v : Value} {a : Option Addr} {xs : List Nat} (h : Rd w a xs) (hg : w.grownBy w' v.ownBlock) (hn : AllC NoU w v) : Rd w' a xs := by
  refine ⟨h.1, ?_⟩
  rcases h.2 with h0 | ⟨b', o', e, hc⟩
  · exact .inl h0
  · refine .inr ⟨b', o', e, fun i hi => ?_⟩
    have h3 := hc i hi
    have hlt : b' < w.heap.size := by
      rcases Nat.lt_or_ge b' w.heap.size with h | h
      · exact h
      · simp [World.cell?, Array.getElem?_eq_none h] at h3
    rw [hg.cell_far _ hlt (fun e => hn b' e.symm _ _ h3 _ rfl)]
    exact h3
theorem RD.rd.far {w w' : World} {v : Value} {x : RD} (h : x.rd w) (hg : w.grownBy w' v.ownBlock) (hn : AllC NoU w v) : x.rd w' := ⟨rd_far h.1 hg hn, h.2⟩
theorem RI.rd.far {w w' : World} {v : Value} {x : RI} (h : x.rd w) (hg : w.grownBy w' v.ownBlock) (hn : AllC NoU w v) : x.rd w' := ⟨h.1.far hg hn, h.2.far hg hn⟩
theorem AllC.kp {p : Value → Prop} {w w' : World} {base : Nat} {e : TypeId} {size n : Nat} {xs : List Value} {v : Value} (h : AllC p w v) (ho : w.ownsRow base e size v n xs) (k : Kp w w') : AllC p w' v := by
  intro g hg j u hu
  rcases ho.2 with ⟨rfl, h3⟩ | ⟨g', cap, cur, rfl, hb, hgg, hr⟩
  · simp [Value.ownBlock] at hg
  · have e1 : g' = g := by simpa [Value.ownBlock] using hg
    subst e1
    refine h g' hg j u ?_
    rw [cell_of_row _ _ j _ _ _ hgg]
    rw [cell_of_row _ _ j _ _ _ (k.heap hgg)] at hu
    exact hu
theorem Kp.owns {wb w w' : World} {e : TypeId} {size n : Nat} {xs : List Value} {v : Value} (h : w.ownsRow wb.heap.size e size v n xs) (k : Kp w w') : w'.ownsRow wb.heap.size e size v n xs := by
  refine ⟨h.1, ?_⟩
  rcases h.2 with h3 | ⟨g, cap, cur, h4, hb, hg, hr⟩
  · exact .inl h3
  · exact .inr ⟨g, cap, cur, h4, hb, k.heap hg, hr⟩

/-- the call's own slice v of these intervals, whose numbers may be new -/
def OwnN (wb w : World) (v : Value) (zs : List RI) : Prop :=
  Kp wb w ∧ w.ownsRow wb.heap.size 35 7 v zs.length (zs.flatMap RI.cells) ∧ AllC NoU w v ∧ ∀ x, x ∈ zs → x.rd w
theorem OwnN.nil {wb w : World} (k : Kp wb w) : OwnN wb w (.slice none 0 0) [] := ⟨k, World.ownsRow_nil _ _ _ _, AllC.nil _ _, fun x h => by simp at h⟩
theorem OwnN.kp {wb w w' : World} {v : Value} {zs : List RI} (h : OwnN wb w v zs) (k : Kp w w') : OwnN wb w' v zs :=
  ⟨h.1.trans k, Kp.owns h.2.1 k, h.2.2.1.kp h.2.1 k, fun x hx => (h.2.2.2 x hx).kp k⟩
theorem OwnN.value {wb w : World} {v : Value} {zs : List RI} (h : OwnN wb w v zs) : ∃ a c, v = .slice a zs.length c ∧ zs.length ≤ c ∧ c ≤ maxLen ∧ RowI w a zs := by
  obtain ⟨h1, ⟨h2, h3⟩, h6, h4⟩ := h
  rcases h3 with ⟨rfl, h3⟩ | ⟨g, cap, cur, rfl, hb, hg, hn, hc, hs, ht⟩
  · have h0 : zs = [] := List.length_eq_zero_iff.1 h3
    subst h0
    exact ⟨none, 0, rfl, Nat.le_refl _, by decide, fun i x hi => by simp at hi⟩
  · refine ⟨_, _, rfl, hn, hc, fun i x hi => ⟨g, 0, rfl, h4 x (List.mem_of_getElem? hi), ?_⟩⟩
    have hil : i < zs.length := (List.getElem?_eq_some_iff.1 hi).1
    have key (j : Nat) (hj : j < 7) (u : Value) (hu : x.cells[j]? = some u) : w.cell? ⟨g, i * 7 + j, none⟩ = some u := by
      rw [cell_of_row w g _ cur _ _ hg]
      have h5 : (cur.toList.take (zs.length * 7))[i * 7 + j]? = some u := by rw [ht, flat_get hi hj, hu]
      rw [List.getElem?_take, if_pos (by omega)] at h5
      simpa using h5
    simp only [Nat.zero_add]
    exact ⟨key 0 (by decide) _ rfl, key 1 (by decide) _ rfl, key 2 (by decide) _ rfl, key 3 (by decide) _ rfl, key 4 (by decide) _ rfl, key 5 (by decide) _ rfl, key 6 (by decide) _ rfl⟩
theorem noU_cells {x : RI} : ∀ u ∈ x.cells, NoU u := by
  intro u hu y e
  simp only [RI.cells, List.mem_cons, List.not_mem_nil, or_false] at hu
  rcases hu with rfl | rfl | rfl | rfl | rfl | rfl | rfl <;> cases e
/-- the call's own slice v of these numbers, which may be new -/
def OwnE (wb w : World) (v : Value) (zs : List RD) : Prop :=
  Kp wb w ∧ w.ownsRow wb.heap.size 33 3 v zs.length (zs.flatMap RD.cells) ∧ AllC NoU w v ∧ ∀ x, x ∈ zs → x.rd w
theorem OwnE.nil {wb w : World} (k : Kp wb w) : OwnE wb w (.slice none 0 0) [] := ⟨k, World.ownsRow_nil _ _ _ _, AllC.nil _ _, fun x h => by simp at h⟩
theorem OwnE.kp {wb w w' : World} {v : Value} {zs : List RD} (h : OwnE wb w v zs) (k : Kp w w') : OwnE wb w' v zs :=
  ⟨h.1.trans k, Kp.owns h.2.1 k, h.2.2.1.kp h.2.1 k, fun x hx => (h.2.2.2 x hx).kp k⟩
theorem OwnE.value {wb w : World} {v : Value} {zs : List RD} (h : OwnE wb w v zs) : ∃ a c, v = .slice a zs.length c ∧ zs.length ≤ c ∧ c ≤ maxLen ∧ RowD w a zs := by
  obtain ⟨h1, ⟨h2, h3⟩, h6, h4⟩ := h
  rcases h3 with ⟨rfl, h3⟩ | ⟨g, cap, cur, rfl, hb, hg, hn, hc, hs, ht⟩
  · have h0 : zs = [] := List.length_eq_zero_iff.1 h3
    subst h0
    exact ⟨none, 0, rfl, Nat.le_refl _, by decide, fun i x hi => by simp at hi⟩
  · refine ⟨_, _, rfl, hn, hc, fun i x hi => ⟨g, 0, rfl, h4 x (List.mem_of_getElem? hi), ?_⟩⟩
    have hil : i < zs.length := (List.getElem?_eq_some_iff.1 hi).1
    have key (j : Nat) (hj : j < 3) (u : Value) (hu : x.cells[j]? = some u) : w.cell? ⟨g, i * 3 + j, none⟩ = some u := by
      rw [cell_of_row w g _ cur _ _ hg]
      have h5 : (cur.toList.take (zs.length * 3))[i * 3 + j]? = some u := by rw [ht, flatD_get hi hj, hu]
      rw [List.getElem?_take, if_pos (by omega)] at h5
      simpa using h5
    simp only [Nat.zero_add]
    exact ⟨key 0 (by decide) _ rfl, key 1 (by decide) _ rfl, key 2 (by decide) _ rfl⟩
theorem noU_cellsD {x : RD} : ∀ u ∈ x.cells, NoU u := by
  intro u hu y e
  simp only [RD.cells, List.mem_cons, List.not_mem_nil, or_false] at hu
  rcases hu with rfl | rfl | rfl <;> cases e
/-- append of a number to it, in a region in the order of the text -/
theorem wpList_append_dyn {w : World} {ops : Array Oper} {rest : List Oper} {o : Oper} {a : Act} {Q : Exit → Act → World → Prop} (hgd : o.guard = none) (s x : Operand)
    (ho : o.op = .call { callee := .builtin .append, args := #[s, x], argTypes := #[22, 22] })
    (wb : World) (v : Value) (zs : List RD) (hs : a.eval s = v) (hown : OwnE wb w v zs)
    (g c : Nat) (hx : a.eval x = .slice (some ⟨g, 0, none⟩) 1 c) (y : RD) (hy : y.rd w)
    (hcell : w.cell? ⟨g, 0, none⟩ = some (.bool y.neg) ∧ w.cell? ⟨g, 1, none⟩ = some (.slice y.a y.xs.length y.c) ∧ w.cell? ⟨g, 2, none⟩ = some (.int .i64 y.e)) (hlen : zs.length + 1 ≤ 9000000)
    (h : ∀ a' c' w', OwnE wb w' (.slice a' (zs.length + 1) c') (zs ++ [y]) → Below wb.heap.size w w' → w.grownBy w' v.ownBlock → wpList Tryz.prog ops Q rest (a.put o.dst (.slice a' (zs.length + 1) c')) w') :
    wpList Tryz.prog ops Q (o :: rest) a w := by
  obtain ⟨i0, hi, hz0, hz1, hz2⟩ := info_parts infoDyd
  obtain ⟨hk, hown1, hall, hrows⟩ := hown
  refine wpList_append_all w NoU hgd s x 22 ho wb.heap.size 33 i0 (.agg #[.bool false, .slice none 0 0, .int .i64 0]) 3 40 Tryz.underlying22 hi hz0 hz1 hz2 rfl (by decide) v zs.length (zs.flatMap RD.cells) hs hown1
    ⟨g, 0, none⟩ 1 c y.cells hx rfl ?_ ?_ (by decide) (by unfold maxLen; omega) (by omega) hk.size hall noU_cellsD ?_ ?_
  · intro j u hj
    obtain ⟨h0, h1, h2⟩ := hcell
    match j, hj with
    | 0, hj => cases hj; simpa [Addr.add] using h0
    | 1, hj => cases hj; simpa [Addr.add] using h1
    | 2, hj => cases hj; simpa [Addr.add] using h2
    | j + 3, hj => simp [RD.cells] at hj
  · intro u hu
    simp only [RD.cells, List.mem_cons, List.not_mem_nil, or_false] at hu
    rcases hu with rfl | rfl | rfl <;> rfl
  · intro u hu y e
    simp [Value.cells] at hu
    rcases hu with rfl | rfl | rfl <;> cases e
  · intro g' cap w' h1 h2 h3 h6
    have hb : Below wb.heap.size w w' := (Below.refl wb.heap.size w).grown h2 hk.size (fun k hk => (hown1.lt k hk).1)
    refine h _ _ w' ⟨Below.trans hk hb, ?_, h6, fun q hq => ?_⟩ hb h2
    · rw [List.flatMap_append, List.length_append]
      simpa using h1
    · rcases List.mem_append.1 hq with hq | hq
      · exact (hrows q hq).far h2 hall
      · simp only [List.mem_singleton] at hq
        subst hq
        exact hy.far h2 hall

/-- two of the call's own slices of numbers, apart from one another -/
def Two (wb w : World) (v u : Value) (L M : List RD) : Prop := OwnE wb w v L ∧ OwnE wb w u M ∧ ∀ g, v.ownBlock = some g → u.ownBlock ≠ some g
theorem Two.nil {wb w : World} (k : Kp wb w) : Two wb w (.slice none 0 0) (.slice none 0 0) [] [] := ⟨.nil k, .nil k, fun g h => by simp [Value.ownBlock] at h⟩
theorem Two.kp {wb w w' : World} {v u : Value} {L M : List RD} (h : Two wb w v u L M) (k : Kp w w') : Two wb w' v u L M := ⟨h.1.kp k, h.2.1.kp k, h.2.2⟩
theorem OwnE.lt {wb w : World} {v : Value} {L : List RD} (h : OwnE wb w v L) : ∀ g, v.ownBlock = some g → g < w.heap.size := fun g hg => (h.2.1.lt g hg).2
theorem OwnE.far {wb w w' : World} {v u : Value} {L M : List RD} (h : OwnE wb w u M) (hv : OwnE wb w v L) (hap : ∀ g, v.ownBlock = some g → u.ownBlock ≠ some g) (hg : w.grownBy w' v.ownBlock) (k : Kp wb w') : OwnE wb w' u M := by
  obtain ⟨h1, h2, h3, h4⟩ := h
  have hne : u.ownBlock = none ∨ u.ownBlock ≠ v.ownBlock := by
    cases hu : u.ownBlock with
    | none => exact .inl rfl
    | some g => exact .inr fun e => hap g e.symm hu
  refine ⟨k, h2.kept hg hne, ?_, fun x hx => (h4 x hx).far hg hv.2.2.1⟩
  intro g hg' j val hc
  have hlt := (h2.lt g hg').2
  have hne2 : some g ≠ v.ownBlock := fun e => hap g e.symm hg'
  exact h3 g hg' j val (by rw [← hg.cell_far ⟨g, j, none⟩ hlt hne2]; exact hc)
end Go.Proofs.YtdlpiblgkpgplaaGreatDoor
end

section
namespace Go.Proofs.YtdlpiblgkpgplaaGreatDoor
open Go.RowKit

/-- the row that lies at a is not in v's own block -/
def Off (v : Value) (a : Option Addr) (w : World) : Prop := ∀ p, a = some p → v.ownBlock ≠ some p.block ∧ p.block < w.heap.size
theorem Off.kp {v : Value} {a : Option Addr} {w w' : World} (h : Off v a w) (k : w.heap.size ≤ w'.heap.size) : Off v a w' := fun p hp => ⟨(h p hp).1, Nat.lt_of_lt_of_le (h p hp).2 k⟩
theorem RowI.rdI {w : World} {a : Option Addr} {zs : List RI} (h : RowI w a zs) {x : RI} (hx : x ∈ zs) : x.rd w := by
  obtain ⟨i, hi⟩ := List.getElem?_of_mem hx
  obtain ⟨_, _, _, hr, _⟩ := h i x hi
  exact hr
theorem RowI.far {w w' : World} {v : Value} {a : Option Addr} {r : List RI} (h : RowI w a r) (hg : w.grownBy w' v.ownBlock) (hn : AllC NoU w v) (ho : Off v a w) : RowI w' a r := by
  intro i x hi
  obtain ⟨b, o, e, hr, h0, h1, h2, h3, h4, h5, h6⟩ := h i x hi
  obtain ⟨hne, _⟩ := ho _ e
  have hne' : ∀ j, some (⟨b, j, none⟩ : Addr).block ≠ v.ownBlock := fun j e => hne e.symm
  exact ⟨b, o, e, hr.far hg hn, hg.cell h0 (hne' _), hg.cell h1 (hne' _), hg.cell h2 (hne' _), hg.cell h3 (hne' _), hg.cell h4 (hne' _), hg.cell h5 (hne' _), hg.cell h6 (hne' _)⟩
theorem Off.far {w w' : World} {v u : Value} {a : Option Addr} (h : Off v a w) (hs : w.heap.size ≤ w'.heap.size) (hu : v.ownBlock = u.ownBlock ∨ u.ownBlock = some w.heap.size) : Off u a w' := by
  intro p hp
  obtain ⟨h1, h2⟩ := h p hp
  refine ⟨?_, by omega⟩
  rcases hu with hu | hu
  · rw [← hu]; exact h1
  · rw [hu]; intro e; injection e with e; omega
/-- a row of intervals behind a store to a cell that holds no limb, in another block -/
theorem RowI.store {w : World} {a : Option Addr} {r : List RI} (h : RowI w a r) {g i : Nat} {u : Value} (hc : w.cell? ⟨g, i, none⟩ = some u) (hu : NoU u) (ha : ∀ p, a = some p → p.block ≠ g) (v : Value) : RowI (w.setCell ⟨g, i, none⟩ v) a r := by
  intro j x hj
  obtain ⟨b, o, e, hr, h0, h1, h2, h3, h4, h5, h6⟩ := h j x hj
  have hb := ha _ e
  have d (k : Nat) : (⟨g, i, none⟩ : Addr) ≠ ⟨b, k, none⟩ := fun e => hb (by injection e with e1; exact e1.symm)
  have hd (y : RD) (hy : y.rd w) : y.rd (w.setCell ⟨g, i, none⟩ v) := ⟨hy.1.other hc hu, hy.2⟩
  refine ⟨b, o, e, ⟨hd _ hr.1, hd _ hr.2⟩, ?_, ?_, ?_, ?_, ?_, ?_, ?_⟩ <;> (rw [cell_set_ne (d _)]; assumption)
theorem OwnN.store {wb w : World} {v : Value} {zs : List RI} (h : OwnN wb w v zs) {g i : Nat} {u : Value} (hg : wb.heap.size ≤ g) (hc : w.cell? ⟨g, i, none⟩ = some u) (hu : NoU u) (hv : v.ownBlock ≠ some g) (y : Value) : OwnN wb (w.setCell ⟨g, i, none⟩ y) v zs := by
  obtain ⟨h1, h2, h3, h4⟩ := h
  refine ⟨h1.set hg y, ownsRow_setCell_other h2 hv y, fun b hb j z hz => ?_, fun x hx => ?_⟩
  · rw [cell_set_ne (fun e => by injection e with e1; subst e1; exact hv hb)] at hz
    exact h3 b hb j z hz
  · have hd (q : RD) (hq : q.rd w) : q.rd (w.setCell ⟨g, i, none⟩ y) := ⟨hq.1.other hc hu, hq.2⟩
    exact ⟨hd _ (h4 x hx).1, hd _ (h4 x hx).2⟩
/-- append of an interval to the call's own slice: the walk's law, and what else stays -/
theorem wpList_append_ivg {w : World} {ops : Array Oper} {rest : List Oper} {o : Oper} {a : Act} {Q : Exit → Act → World → Prop} (hgd : o.guard = none) (s x : Operand)
    (ho : o.op = .call { callee := .builtin .append, args := #[s, x], argTypes := #[24, 24] })
    (wb : World) (v : Value) (zs : List RI) (hs : a.eval s = v) (hown : OwnN wb w v zs)
    (g c : Nat) (hx : a.eval x = .slice (some ⟨g, 0, none⟩) 1 c) (y : RI) (hy : y.rd w)
    (hcell : w.cell? ⟨g, 0, none⟩ = some (.bool y.lo.neg) ∧ w.cell? ⟨g, 1, none⟩ = some (.slice y.lo.a y.lo.xs.length y.lo.c) ∧ w.cell? ⟨g, 2, none⟩ = some (.int .i64 y.lo.e) ∧ w.cell? ⟨g, 3, none⟩ = some (.bool y.hi.neg) ∧ w.cell? ⟨g, 4, none⟩ = some (.slice y.hi.a y.hi.xs.length y.hi.c) ∧ w.cell? ⟨g, 5, none⟩ = some (.int .i64 y.hi.e) ∧ w.cell? ⟨g, 6, none⟩ = some (.bool y.all)) (hlen : zs.length + 1 ≤ 9000000)
    (h : ∀ a' c' w', OwnN wb w' (.slice a' (zs.length + 1) c') (zs ++ [y]) → w.grownBy w' v.ownBlock → (v.ownBlock = (Value.slice a' (zs.length + 1) c').ownBlock ∨ (Value.slice a' (zs.length + 1) c').ownBlock = some w.heap.size) → wpList Tryz.prog ops Q rest (a.put o.dst (.slice a' (zs.length + 1) c')) w') :
    wpList Tryz.prog ops Q (o :: rest) a w := by
  obtain ⟨i0, hi, hz0, hz1, hz2⟩ := info_parts infoIvl
  obtain ⟨hk, hown1, hall, hrows⟩ := hown
  refine wpList_append_all w NoU hgd s x 24 ho wb.heap.size 35 i0 (.agg #[.bool false, .slice none 0 0, .int .i64 0, .bool false, .slice none 0 0, .int .i64 0, .bool false]) 7 88 Tryz.underlying24 hi hz0 hz1 hz2 rfl (by decide) v zs.length (zs.flatMap RI.cells) hs hown1
    ⟨g, 0, none⟩ 1 c y.cells hx rfl ?_ ?_ (by decide) (by unfold maxLen; omega) (by omega) hk.size hall noU_cells ?_ ?_
  · intro j u hj
    obtain ⟨h0, h1, h2, h3, h4, h5, h6⟩ := hcell
    match j, hj with
    | 0, hj => cases hj; simpa [Addr.add] using h0
    | 1, hj => cases hj; simpa [Addr.add] using h1
    | 2, hj => cases hj; simpa [Addr.add] using h2
    | 3, hj => cases hj; simpa [Addr.add] using h3
    | 4, hj => cases hj; simpa [Addr.add] using h4
    | 5, hj => cases hj; simpa [Addr.add] using h5
    | 6, hj => cases hj; simpa [Addr.add] using h6
    | j + 7, hj => simp [RI.cells] at hj
  · intro u hu
    simp only [RI.cells, List.mem_cons, List.not_mem_nil, or_false] at hu
    rcases hu with rfl | rfl | rfl | rfl | rfl | rfl | rfl <;> rfl
  · intro u hu y e
    simp [Value.cells] at hu
    rcases hu with rfl | rfl | rfl | rfl | rfl | rfl | rfl <;> cases e
  · intro g' cap w' h1 h2 h3 h6
    have hb : Below wb.heap.size w w' := (Below.refl wb.heap.size w).grown h2 hk.size (fun k hk => (hown1.lt k hk).1)
    refine h _ _ w' ⟨Below.trans hk hb, ?_, h6, fun q hq => ?_⟩ h2 ?_
    · rw [List.flatMap_append, List.length_append]
      simpa using h1
    · rcases List.mem_append.1 hq with hq | hq
      · exact (hrows q hq).far h2 hall
      · simp only [List.mem_singleton] at hq
        subst hq
        exact hy.far h2 hall
    · rcases h3 with h3 | h3
      · exact .inl h3
      · subst h3; exact .inr rfl
theorem OwnN.new {wb w : World} {v : Value} {zs : List RI} (h : OwnN wb w v zs) : ∀ g, v.ownBlock = some g → g < w.heap.size := fun g hg => (h.2.1.lt g hg).2

/-- Block g is the call's own slice of n rows. The rows R are done; of the next one, whose slice is v, the intervals cur; the others are nil. -/
def OutM (wb w : World) (g n : Nat) (R : List (List RI)) (v : Value) (cur : List RI) : Prop :=
  (wb.heap.size ≤ g ∧ g < w.heap.size ∧ R.length < n ∧ v.ownBlock ≠ some g) ∧ OwnN wb w v cur ∧ w.cell? ⟨g, R.length, none⟩ = some v ∧
  (∀ i, i < n → w.frozen? ⟨g, i, none⟩ = false) ∧ (∀ i, R.length < i → i < n → w.cell? ⟨g, i, none⟩ = some (.slice none 0 0)) ∧
  ∀ i r, R[i]? = some r → r.length ≤ 1100000 ∧ ∃ ra rc, w.cell? ⟨g, i, none⟩ = some (.slice ra r.length rc) ∧ RowI w ra r ∧ Off v ra w ∧ ∀ p, ra = some p → p.block ≠ g
/-- .. between two rows -/
def OutH (wb w : World) (g n : Nat) (R : List (List RI)) : Prop :=
  (wb.heap.size ≤ g ∧ g < w.heap.size ∧ R.length ≤ n) ∧ Kp wb w ∧
  (∀ i, i < n → w.frozen? ⟨g, i, none⟩ = false) ∧ (∀ i, R.length ≤ i → i < n → w.cell? ⟨g, i, none⟩ = some (.slice none 0 0)) ∧
  ∀ i r, R[i]? = some r → r.length ≤ 1100000 ∧ ∃ ra rc, w.cell? ⟨g, i, none⟩ = some (.slice ra r.length rc) ∧ RowI w ra r ∧ ∀ p, ra = some p → p.block ≠ g ∧ p.block < w.heap.size
theorem OutH.open {wb w : World} {g n : Nat} {R : List (List RI)} (h : OutH wb w g n R) (hn : R.length < n) : OutM wb w g n R (.slice none 0 0) [] := by
  obtain ⟨⟨h1, h2, h3⟩, hk, hf, hz, hr⟩ := h
  refine ⟨⟨h1, h2, hn, by simp [Value.ownBlock]⟩, .nil hk, hz _ (Nat.le_refl _) hn, hf, fun i h h' => hz i (by omega) h', fun i r hi => ?_⟩
  obtain ⟨q1, ra, rc, q2, q3, q4⟩ := hr i r hi
  exact ⟨q1, ra, rc, q2, q3, fun p hp => ⟨by simp [Value.ownBlock], (q4 p hp).2⟩, fun p hp => (q4 p hp).1⟩
theorem OutM.close {wb w : World} {g n : Nat} {R : List (List RI)} {v : Value} {cur : List RI} (h : OutM wb w g n R v cur) (hc : cur.length ≤ 1100000) : OutH wb w g n (R ++ [cur]) := by
  obtain ⟨⟨h1, h2, h3, h4⟩, ho, hv, hf, hz, hr⟩ := h
  refine ⟨⟨h1, h2, by simp; omega⟩, ho.1, hf, fun i h h' => hz i (by simp at h; omega) h', fun i r hi => ?_⟩
  by_cases hi2 : i < R.length
  · rw [List.getElem?_append_left hi2] at hi
    obtain ⟨q1, ra, rc, q2, q3, q4, q5⟩ := hr i r hi
    exact ⟨q1, ra, rc, q2, q3, fun p hp => ⟨q5 p hp, (q4 p hp).2⟩⟩
  · rw [List.getElem?_append_right (by omega)] at hi
    have hi3 : i = R.length := by
      have := (List.getElem?_eq_some_iff.1 hi).1
      simp at this; omega
    subst hi3
    simp at hi
    subst hi
    obtain ⟨a, c, e, _, _, hrow⟩ := ho.value
    subst e
    refine ⟨hc, a, c, hv, hrow, fun p hp => ?_⟩
    subst hp
    have hown := ho.new
    obtain ⟨_, ⟨_, hq⟩, _⟩ := ho
    rcases hq with ⟨e, _⟩ | ⟨b, cap, cu, e, _⟩
    · cases e
    · cases e
      refine ⟨fun e => h4 (by rw [← e]; rfl), hown _ rfl⟩
theorem OutH.kp {wb w w' : World} {g n : Nat} {R : List (List RI)} (h : OutH wb w g n R) (k : Kp w w') : OutH wb w' g n R := by
  obtain ⟨⟨h1, h2, h3⟩, hk, hf, hz, hr⟩ := h
  have hs := k.size
  refine ⟨⟨h1, by omega, h3⟩, hk.trans k, fun i hi => ?_, fun i h h' => k.cell (hz i h h'), fun i r hi => ?_⟩
  · rw [k.below.frozen h2]; exact hf i hi
  · obtain ⟨q1, ra, rc, q2, q3, q4⟩ := hr i r hi
    exact ⟨q1, ra, rc, k.cell q2, q3.kp k, fun p hp => ⟨(q4 p hp).1, by have := (q4 p hp).2; omega⟩⟩
theorem OutM.kp {wb w w' : World} {g n : Nat} {R : List (List RI)} {v : Value} {cur : List RI} (h : OutM wb w g n R v cur) (k : Kp w w') : OutM wb w' g n R v cur := by
  obtain ⟨⟨h1, h2, h3, h4⟩, ho, hv, hf, hz, hr⟩ := h
  have hs := k.size
  refine ⟨⟨h1, by omega, h3, h4⟩, ho.kp k, k.cell hv, fun i hi => ?_, fun i h h' => k.cell (hz i h h'), fun i r hi => ?_⟩
  · rw [k.below.frozen h2]; exact hf i hi
  · obtain ⟨q1, ra, rc, q2, q3, q4, q5⟩ := hr i r hi
    exact ⟨q1, ra, rc, k.cell q2, q3.kp k, q4.kp hs, q5⟩
/-- one more interval, appended and stored -/
theorem OutM.step {wb w w' : World} {g n : Nat} {R : List (List RI)} {v v' : Value} {cur : List RI} {x : RI} (h : OutM wb w g n R v cur)
    (ho : OwnN wb w' v' (cur ++ [x])) (hg : w.grownBy w' v.ownBlock) (hv : v.ownBlock = v'.ownBlock ∨ v'.ownBlock = some w.heap.size) (hn : NoU v) :
    OutM wb (w'.setCell ⟨g, R.length, none⟩ v') g n R v' (cur ++ [x]) := by
  obtain ⟨⟨h1, h2, h3, h4⟩, ho0, hv0, hf, hz, hr⟩ := h
  have hs : w.heap.size ≤ w'.heap.size := hg.size
  have hgn : v'.ownBlock ≠ some g := by
    rcases hv with hv | hv
    · rw [← hv]; exact h4
    · rw [hv]; intro e; injection e with e; omega
  have keep (i : Nat) (u : Value) (hc : w.cell? ⟨g, i, none⟩ = some u) : w'.cell? ⟨g, i, none⟩ = some u := hg.cell hc (fun e => h4 e.symm)
  have hv1 := keep _ _ hv0
  refine ⟨⟨h1, by simpa using (by omega : g < w'.heap.size), h3, hgn⟩, ho.store h1 hv1 hn hgn v', cell_set_eq hv1, fun i hi => ?_, fun i h h' => ?_, fun i r hi => ?_⟩
  · have hfi : w'.frozen? ⟨g, i, none⟩ = false := by
      have := hg.block g h2 (fun e => h4 e.symm)
      have hh := hf i hi
      unfold World.frozen? at hh ⊢
      rw [this]; exact hh
    simpa using hfi
  · rw [cell_set_ne (fun e => by injection e with _ e2; omega)]
    exact keep _ _ (hz i h h')
  · obtain ⟨q1, ra, rc, q2, q3, q4, q5⟩ := hr i r hi
    have hir := (List.getElem?_eq_some_iff.1 hi).1
    refine ⟨q1, ra, rc, ?_, (q3.far hg ho0.2.2.1 q4).store hv1 hn q5 v', (q4.far hs hv).kp (by simp), q5⟩
    rw [cell_set_ne (fun e => by injection e with _ e2; omega)]
    exact keep _ _ q2
theorem OutH.rowM {wb w : World} {g n : Nat} {R : List (List RI)} (h : OutH wb w g n R) : RowM w (some ⟨g, 0, none⟩) R := by
  obtain ⟨_, _, _, _, hr⟩ := h
  intro i r hi
  obtain ⟨q1, ra, rc, q2, q3, _⟩ := hr i r hi
  exact ⟨g, 0, ra, rc, rfl, by rw [Nat.zero_add]; exact q2, q3, q1⟩

theorem infoSlI : (Tryz.prog.info? 24).map (fun i => (i.zero, i.size, i.bytes)) = some (some (.slice none 0 0), 1, 24) := by kernel_rfl
/-- The call's own slice v of slices us, which show the rows R. -/
def OwnM (wb w : World) (v : Value) (us : List Value) (R : List (List RI)) : Prop :=
  Kp wb w ∧ w.ownsRow wb.heap.size 24 1 v us.length us ∧ AllC NoU w v ∧ us.length = R.length ∧
  ∀ (i : Nat) (r : List RI), R[i]? = some r → r.length ≤ 1100000 ∧ ∃ ra rc, us[i]? = some (Value.slice ra r.length rc) ∧ RowI w ra r ∧ Off v ra w
theorem OwnM.nil {wb w : World} (k : Kp wb w) : OwnM wb w (.slice none 0 0) [] [] := ⟨k, World.ownsRow_nil _ _ _ _, AllC.nil _ _, rfl, fun i r h => by simp at h⟩
theorem OwnM.kp {wb w w' : World} {v : Value} {us : List Value} {R : List (List RI)} (h : OwnM wb w v us R) (k : Kp w w') : OwnM wb w' v us R := by
  obtain ⟨h1, h2, h3, h4, h5⟩ := h
  refine ⟨h1.trans k, Kp.owns h2 k, h3.kp h2 k, h4, fun i r hi => ?_⟩
  obtain ⟨q1, ra, rc, q2, q3, q4⟩ := h5 i r hi
  exact ⟨q1, ra, rc, q2, q3.kp k, q4.kp k.size⟩
theorem OwnM.value {wb w : World} {v : Value} {us : List Value} {R : List (List RI)} (h : OwnM wb w v us R) : ∃ a c, v = .slice a R.length c ∧ R.length ≤ c ∧ c ≤ maxLen ∧ RowM w a R := by
  obtain ⟨h1, ⟨h2, h3⟩, h6, h4, h5⟩ := h
  rcases h3 with ⟨rfl, h3⟩ | ⟨g, cap, cur, rfl, hb, hg, hn, hc, hs, ht⟩
  · have h0 : R = [] := List.length_eq_zero_iff.1 (by omega)
    subst h0
    exact ⟨none, 0, rfl, Nat.le_refl _, by decide, fun i x hi => by simp at hi⟩
  · rw [h4]
    refine ⟨_, _, rfl, by omega, hc, fun i r hi => ?_⟩
    obtain ⟨q1, ra, rc, q2, q3, q4⟩ := h5 i r hi
    have hil : i < us.length := (List.getElem?_eq_some_iff.1 q2).1
    refine ⟨g, 0, ra, rc, rfl, ?_, q3, q1⟩
    rw [Nat.zero_add, cell_of_row w g _ cur _ _ hg]
    have h7 : (cur.toList.take (us.length * 1))[i]? = some (.slice ra r.length rc) := by rw [ht]; exact q2
    rw [List.getElem?_take, if_pos (by omega)] at h7
    simpa using h7
/-- the row that was built is in another block -/
theorem OwnN.off {w wo w' : World} {v u : Value} {zs : List RI} {a : Option Addr} {n c : Nat} (h : OwnN wo w v zs) (hv : v = .slice a n c) (hu : ∀ g, u.ownBlock = some g → g < wo.heap.size) (hs : w.heap.size ≤ w'.heap.size) : Off u a w' := by
  intro p hp
  subst hp
  subst hv
  have hl := h.new
  obtain ⟨_, ⟨_, hq⟩, _⟩ := h
  rcases hq with ⟨e, _⟩ | ⟨b, cap, cu, e, hb, _⟩
  · cases e
  · cases e
    have := hl b rfl
    exact ⟨fun e => by have h9 : b < wo.heap.size := hu _ e; omega, by show b < _; omega⟩
theorem OwnM.new {wb w : World} {v : Value} {us : List Value} {R : List (List RI)} (h : OwnM wb w v us R) : ∀ g, v.ownBlock = some g → g < w.heap.size := fun g hg => (h.2.1.lt g hg).2
end Go.Proofs.YtdlpiblgkpgplaaGreatDoor
end
