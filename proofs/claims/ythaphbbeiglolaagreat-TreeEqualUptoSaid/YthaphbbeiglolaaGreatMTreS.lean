/-
  Plain: renaming back; the names of a tree, sorted; no program in sight.
  Plain: sorted lists of names; no program in sight.
  Plain: what sort and Compact leave of a list of names.
  The library's sort, Compact, Equal, Contains at texts: their contracts laid at this program.
  Plain: the bytes of a text; words.
-/
import Derived.Test.YthaphbbeiglolaaGreatMNum
import Derived.Lib.SlicesCompact
import Derived.Test.YthaphbbeiglolaaGreatProg
import Derived.Shelf.Sort.Plain
import Derived.Shelf.Slices.In.SortNone
import Derived.Shelf.Slices.CompactS
import Derived.Shelf.Slices.Equal
import Derived.Shelf.Slices.Empties2
import Derived.Shelf.Slices.Turned
section
namespace Go.Proofs.YthaphbbeiglolaaGreat

/-- a variable -/
def varE (s : ByteArray) : Ex := .mk 2 0 0 s 0 none 0 []
/-- the names of the variables, in the order of the nodes -/
def Ex.vars (e : Ex) : List ByteArray := (e.flat.filter fun x => decide (x.kind = 2)).map Ex.name
end Go.Proofs.YthaphbbeiglolaaGreat
end

section
namespace Go.Proofs.YthaphbbeiglolaaGreat

theorem bl_irrefl : ∀ x : List UInt8, Op.bytesLess x x = false
  | [] => rfl
  | a :: x => by
    unfold Op.bytesLess
    rw [bl_irrefl x]
    simp
theorem bl_trans : ∀ x y z : List UInt8, Op.bytesLess x y = true → Op.bytesLess y z = true → Op.bytesLess x z = true
  | _, [], _, h, _ => by unfold Op.bytesLess at h; cases h
  | _, _ :: _, [], _, h => by unfold Op.bytesLess at h; cases h
  | [], _ :: _, _ :: _, _, _ => rfl
  | a :: x, b :: y, c :: z, h1, h2 => by
    unfold Op.bytesLess at h1 h2 ⊢
    simp only [Bool.or_eq_true, decide_eq_true_eq, Bool.and_eq_true, beq_iff_eq] at h1 h2 ⊢
    rcases h1 with h1 | ⟨rfl, h1⟩
    · rcases h2 with h2 | ⟨rfl, h2⟩
      · exact .inl (UInt8.lt_trans h1 h2)
      · exact .inl h1
    · rcases h2 with h2 | ⟨rfl, h2⟩
      · exact .inl h2
      · exact .inr ⟨rfl, bl_trans x y z h1 h2⟩
theorem bl_total : ∀ x y : List UInt8, Op.bytesLess x y = false → Op.bytesLess y x = false → x = y
  | [], [], _, _ => rfl
  | [], _ :: _, h, _ => by unfold Op.bytesLess at h; cases h
  | _ :: _, [], _, h => by unfold Op.bytesLess at h; cases h
  | a :: x, b :: y, h1, h2 => by
    unfold Op.bytesLess at h1 h2
    simp only [Bool.or_eq_false_iff, decide_eq_false_iff_not, Bool.and_eq_false_iff, beq_eq_false_iff_ne] at h1 h2
    have hab : a = b := by
      have e1 : ¬ a.toNat < b.toNat := fun h => h1.1 (UInt8.lt_iff_toNat_lt.2 h)
      have e2 : ¬ b.toNat < a.toNat := fun h => h2.1 (UInt8.lt_iff_toNat_lt.2 h)
      exact UInt8.toNat_inj.1 (by omega)
    subst hab
    rw [bl_total x y (by rcases h1.2 with h | h; exact absurd rfl h; exact h) (by rcases h2.2 with h | h; exact absurd rfl h; exact h)]
/-- ahead of -/
def blt (x y : ByteArray) : Bool := Op.bytesLess x.toList y.toList
theorem blt_irrefl (x : ByteArray) : blt x x = false := bl_irrefl _
theorem blt_trans {x y z : ByteArray} (h1 : blt x y = true) (h2 : blt y z = true) : blt x z = true := bl_trans _ _ _ h1 h2
theorem blt_total {x y : ByteArray} (h1 : blt x y = false) (h2 : blt y x = false) : x = y := by
  have h := bl_total _ _ h1 h2
  rw [ByteArray.toList_eq, ByteArray.toList_eq] at h
  exact Go.WideShapes.bytes_inj h
theorem blt_ne {x y : ByteArray} (h : blt x y = true) : x ≠ y := fun e => by rw [e, blt_irrefl] at h; cases h
/-- strictly ascending -/
def Asc : List ByteArray → Prop
  | [] => True
  | x :: t => (∀ y ∈ t, blt x y = true) ∧ Asc t
/-- the reference's Insert -/
def insS : List ByteArray → ByteArray → List ByteArray
  | [], s => [s]
  | x :: t, s => if blt x s = true then x :: insS t s else if x = s then x :: t else s :: x :: t
theorem insS_mem {y s : ByteArray} : ∀ {l : List ByteArray}, y ∈ insS l s ↔ y = s ∨ y ∈ l
  | [] => by unfold insS; simp
  | x :: t => by
    unfold insS
    split
    · rw [List.mem_cons, insS_mem (l := t), List.mem_cons]
      constructor
      · rintro (h | h | h)
        · exact .inr (.inl h)
        · exact .inl h
        · exact .inr (.inr h)
      · rintro (h | h | h)
        · exact .inr (.inl h)
        · exact .inl h
        · exact .inr (.inr h)
    · split
      · next hx =>
        subst hx
        constructor
        · exact fun h => .inr h
        · rintro (h | h)
          · rw [h]; exact .head _
          · exact h
      · simp
theorem insS_asc {s : ByteArray} : ∀ {l : List ByteArray}, Asc l → Asc (insS l s)
  | [], _ => by unfold insS; exact ⟨fun y h => by simp at h, trivial⟩
  | x :: t, h => by
    unfold insS
    split
    · next hx =>
      refine ⟨fun y hy => ?_, insS_asc h.2⟩
      rcases insS_mem.1 hy with rfl | hy
      · exact hx
      · exact h.1 y hy
    · split
      · exact h
      · next h1 h2 =>
        have hsx : blt s x = true := by
          cases hb : blt s x with
          | true => rfl
          | false => exact absurd (blt_total (by simpa using h1) hb) h2
        refine ⟨fun y hy => ?_, h⟩
        rcases List.mem_cons.1 hy with rfl | hy
        · exact hsx
        · exact blt_trans hsx (h.1 y hy)
/-- ascending lists of the same names are one -/
theorem asc_uniq : ∀ {l m : List ByteArray}, Asc l → Asc m → (∀ y, y ∈ l ↔ y ∈ m) → l = m
  | [], [], _, _, _ => rfl
  | [], y :: u, _, _, h => absurd ((h y).2 (.head _)) (by simp)
  | x :: t, [], _, _, h => absurd ((h x).1 (.head _)) (by simp)
  | x :: t, y :: u, hl, hm, h => by
    have hxy : x = y := by
      have h1 := (h x).1 (.head _)
      have h2 := (h y).2 (.head _)
      rcases List.mem_cons.1 h1 with e | h1
      · exact e
      · rcases List.mem_cons.1 h2 with e | h2
        · exact e.symm
        · have := blt_trans (hl.1 y h2) (hm.1 x h1)
          rw [blt_irrefl] at this; cases this
    subst hxy
    rw [asc_uniq hl.2 hm.2 fun z => ?_]
    constructor
    · intro hz
      rcases List.mem_cons.1 ((h z).1 (.tail _ hz)) with e | h1
      · exact absurd e (blt_ne (hl.1 z hz)).symm
      · exact h1
    · intro hz
      rcases List.mem_cons.1 ((h z).2 (.tail _ hz)) with e | h1
      · exact absurd e (blt_ne (hm.1 z hz)).symm
      · exact h1
/-- the names of a list, ascending -/
def namesL (vs : List ByteArray) : List ByteArray := vs.foldl insS []
theorem foldl_asc : ∀ (vs l : List ByteArray), Asc l → Asc (vs.foldl insS l) ∧ ∀ y, y ∈ vs.foldl insS l ↔ y ∈ l ∨ y ∈ vs
  | [], l, h => ⟨h, fun y => by simp⟩
  | v :: vs, l, h => by
    obtain ⟨h1, h2⟩ := foldl_asc vs (insS l v) (insS_asc h)
    refine ⟨h1, fun y => ?_⟩
    rw [List.foldl_cons, h2 y, insS_mem, List.mem_cons]
    constructor
    · rintro ((h | h) | h)
      · exact .inr (.inl h)
      · exact .inl h
      · exact .inr (.inr h)
    · rintro (h | h | h)
      · exact .inl (.inr h)
      · exact .inl (.inl h)
      · exact .inr h
theorem namesL_asc (vs : List ByteArray) : Asc (namesL vs) := (foldl_asc vs [] trivial).1
theorem namesL_mem {vs : List ByteArray} {y : ByteArray} : y ∈ namesL vs ↔ y ∈ vs := by rw [show y ∈ namesL vs ↔ _ from (foldl_asc vs [] trivial).2 y]; simp
end Go.Proofs.YthaphbbeiglolaaGreat
end

section
namespace Go.Proofs.YthaphbbeiglolaaGreat

theorem bl_lt : ∀ x y : List UInt8, Op.bytesLess x y = true ↔ x < y
  | [], [] => by unfold Op.bytesLess; simp
  | [], _ :: _ => by unfold Op.bytesLess; simp
  | _ :: _, [] => by unfold Op.bytesLess; simp
  | a :: x, b :: y => by
    unfold Op.bytesLess
    rw [Bool.or_eq_true, decide_eq_true_eq, Bool.and_eq_true, bl_lt x y, List.cons_lt_cons_iff, beq_iff_eq]
/-- the library's order -/
def leB (x y : List UInt8) : Bool := decide (x ≤ y)
theorem leB_iff (x y : List UInt8) : leB x y = !Op.bytesLess y x := by
  unfold leB
  rw [Bool.eq_iff_iff, decide_eq_true_eq, Bool.not_eq_true', ← Bool.not_eq_true, bl_lt, List.not_lt]
/-- by places: sorted lists have only smaller ones before -/
theorem sortB_sorted (l : List (List UInt8)) : (l.mergeSort leB).Pairwise fun x y => leB x y = true := by
  refine List.pairwise_mergeSort (fun a b c h1 h2 => ?_) (fun a b => ?_) l
  · rw [leB_iff, Bool.not_eq_true'] at h1 h2 ⊢
    cases h3 : Op.bytesLess c a with
    | false => rfl
    | true =>
      cases h4 : Op.bytesLess a b with
      | true => rw [bl_trans _ _ _ h3 h4] at h2; cases h2
      | false => rw [bl_total _ _ h4 h1] at h3; rw [h3] at h2; cases h2
  · rw [leB_iff, leB_iff]
    cases h1 : Op.bytesLess b a with
    | false => rfl
    | true =>
      cases h2 : Op.bytesLess a b with
      | false => rfl
      | true => have := bl_trans _ _ _ h1 h2; rw [bl_irrefl] at this; cases this
theorem sortB_perm (l : List (List UInt8)) : (l.mergeSort leB).Perm l := List.mergeSort_perm l leB
/-- Compact of a sorted list: the same elements, strictly ascending -/
theorem compact_go {l : List (List UInt8)} (hs : l.Pairwise fun x y => leB x y = true) : ∀ m, m ≤ l.length → (Lib.compactUpTo l.toArray m).Pairwise (fun x y => Op.bytesLess x y = true) ∧ ∀ y, y ∈ Lib.compactUpTo l.toArray m ↔ y ∈ l.take m
  | 0, _ => by simp [Lib.compactUpTo]
  | m + 1, hm => by
    obtain ⟨h1, h2⟩ := compact_go hs m (by omega)
    have hg : ∀ j, j < l.length → l.toArray[j]! = l[j]! := fun j hj => by simp [getElem!_pos, hj]
    have hget : ∀ j (hj : j < l.length), l[j]! = l[j] := fun j hj => getElem!_pos l j hj
    have hle : ∀ i j, i < j → (hj : j < l.length) → leB l[i]! l[j]! = true := fun i j hij hj => by
      rw [hget i (by omega), hget j hj]
      exact List.pairwise_iff_getElem.1 hs i j (by omega) hj hij
    rw [Lib.compactUpTo_succ]
    have htk : l.take (m + 1) = l.take m ++ [l[m]!] := by rw [List.take_add_one, List.getElem?_eq_getElem (by omega), hget m (by omega)]; rfl
    by_cases hk : Lib.keeps l.toArray m = true
    · rw [if_pos hk, hg m (by omega)]
      refine ⟨List.pairwise_append.2 ⟨h1, by simp, fun a ha b hb => ?_⟩, fun y => ?_⟩
      · rw [List.mem_singleton] at hb
        subst hb
        obtain ⟨i, hi⟩ := List.getElem?_of_mem ((h2 a).1 ha)
        rw [List.getElem?_take] at hi
        split at hi
        · next him =>
          have ha' : a = l[i]! := by rw [hget i (by omega)]; rw [List.getElem?_eq_getElem (by omega)] at hi; injection hi with hi; exact hi.symm
          have hne : l[m]! ≠ l[m - 1]! := by
            unfold Lib.keeps at hk
            rw [decide_eq_true_eq, hg m (by omega), hg (m - 1) (by omega)] at hk
            rcases hk with hk | hk
            · omega
            · exact hk
          cases hb : Op.bytesLess a l[m]! with
          | true => rfl
          | false =>
            exfalso
            have e1 := hle i m him (by omega)
            rw [leB_iff, ← ha', Bool.not_eq_true'] at e1
            have e2 : a = l[m]! := bl_total _ _ hb e1
            by_cases hmi : i = m - 1
            · subst hmi; exact hne (by rw [← e2, ha'])
            · have e3 := hle i (m - 1) (by omega) (by omega)
              have e4 := hle (m - 1) m (by omega) (by omega)
              rw [leB_iff, Bool.not_eq_true'] at e3 e4
              rw [← ha', e2] at e3
              exact hne (bl_total _ _ e4 e3)
        · cases hi
      · rw [List.mem_append, h2 y, htk, List.mem_append]
    · rw [if_neg hk, List.append_nil]
      refine ⟨h1, fun y => ?_⟩
      rw [h2 y, htk, List.mem_append]
      constructor
      · exact .inl
      · rintro (h | h)
        · exact h
        · rw [List.mem_singleton] at h
          unfold Lib.keeps at hk
          rw [decide_eq_true_eq, hg m (by omega)] at hk
          have hm0 : m ≠ 0 := fun h0 => hk (.inl h0)
          rw [hg (m - 1) (by omega)] at hk
          have he : l[m]! = l[m - 1]! := Decidable.byContradiction fun hn => hk (.inr hn)
          rw [h, he, hget (m - 1) (by omega)]
          exact List.mem_of_getElem? (i := m - 1) (by rw [List.getElem?_take, if_pos (by omega), List.getElem?_eq_getElem (by omega)])
/-- sorted, then compacted: the names, ascending -/
theorem sort_names (vs : List ByteArray) : ∃ rs : List ByteArray, Lib.compact ((vs.map (·.data.toList)).mergeSort leB) = rs.map (·.data.toList) ∧ rs = namesL vs := by
  generalize hl : (vs.map (·.data.toList)).mergeSort leB = l
  have hs : l.Pairwise fun x y => leB x y = true := by rw [← hl]; exact sortB_sorted _
  have hp : l.Perm (vs.map (·.data.toList)) := by rw [← hl]; exact sortB_perm _
  obtain ⟨h1, h2⟩ := compact_go hs l.length (Nat.le_refl _)
  rw [List.take_length] at h2
  refine ⟨(Lib.compact l).map fun x => ⟨x.toArray⟩, ?_, ?_⟩
  · rw [List.map_map]
    conv => lhs; rw [← List.map_id (Lib.compact l)]
    exact List.map_congr_left fun x _ => by simp
  · have hasc : ∀ t : List (List UInt8), t.Pairwise (fun x y => Op.bytesLess x y = true) → Asc (t.map fun x => (⟨x.toArray⟩ : ByteArray)) := by
      intro t
      induction t with
      | nil => intro _; trivial
      | cons x t ih =>
        intro h
        rw [List.pairwise_cons] at h
        refine ⟨fun y hy => ?_, ih h.2⟩
        obtain ⟨z, hz, rfl⟩ := List.mem_map.1 hy
        unfold blt
        rw [ByteArray.toList_eq, ByteArray.toList_eq]
        exact h.1 z hz
    refine asc_uniq (hasc _ h1) (namesL_asc vs) fun y => ?_
    rw [namesL_mem]
    constructor
    · intro hy
      obtain ⟨x, hx, rfl⟩ := List.mem_map.1 hy
      obtain ⟨v, hv, e⟩ := List.mem_map.1 (hp.mem_iff.1 ((h2 x).1 hx))
      rw [← e]
      exact hv
    · intro hy
      exact List.mem_map.2 ⟨y.data.toList, (h2 _).2 (hp.mem_iff.2 (List.mem_map.2 ⟨y, hy, rfl⟩)), rfl⟩
end Go.Proofs.YthaphbbeiglolaaGreat
end

section
namespace Go.Proofs.YthaphbbeiglolaaGreat
open Go.RowKit Go.Shelf Go.Sort

def lays190_ren : Go.Shelf.Ren := ⟨fun | 190 => 47 | 125 => 80 | 258 => 79 | 128 => 106 | 129 => 107 | 302 => 97 | 303 => 98 | 304 => 99 | 305 => 100 | 306 => 101 | 307 => 102 | 308 => 103 | 309 => 104 | 310 => 105 | 333 => 116 | 329 => 117 | 330 => 118 | 334 => 119 | 335 => 120 | 336 => 121 | 344 => 126 | n => n, fun | 31 => 45 | 9 => 9 | 3 => 3 | 46 => 106 | 0 => 0 | 51 => 124 | 53 => 95 | 4 => 4 | 183 => 116 | 182 => 115 | 131 => 121 | 5 => 5 | 218 => 132 | 222 => 49 | 228 => 138 | 229 => 111 | n => n, fun | n => n⟩
theorem lays190 : Go.Proofs.Lays.n190 Tryz.prog lays190_ren := {
  mixed := by kernel_rfl
  f125 := Tryz.func80.trans (congrArg some (by kernel_rfl))
  f128 := Tryz.func106.trans (congrArg some (by kernel_rfl))
  f129 := Tryz.func107.trans (congrArg some (by kernel_rfl))
  f190 := Tryz.func47.trans (congrArg some (by kernel_rfl))
  f258 := Tryz.func79.trans (congrArg some (by kernel_rfl))
  f302 := Tryz.func97.trans (congrArg some (by kernel_rfl))
  f303 := Tryz.func98.trans (congrArg some (by kernel_rfl))
  f304 := Tryz.func99.trans (congrArg some (by kernel_rfl))
  f305 := Tryz.func100.trans (congrArg some (by kernel_rfl))
  f306 := Tryz.func101.trans (congrArg some (by kernel_rfl))
  f307 := Tryz.func102.trans (congrArg some (by kernel_rfl))
  f308 := Tryz.func103.trans (congrArg some (by kernel_rfl))
  f309 := Tryz.func104.trans (congrArg some (by kernel_rfl))
  f310 := Tryz.func105.trans (congrArg some (by kernel_rfl))
  f329 := Tryz.func117.trans (congrArg some (by kernel_rfl))
  f330 := Tryz.func118.trans (congrArg some (by kernel_rfl))
  f333 := Tryz.func116.trans (congrArg some (by kernel_rfl))
  f334 := Tryz.func119.trans (congrArg some (by kernel_rfl))
  f335 := Tryz.func120.trans (congrArg some (by kernel_rfl))
  f336 := Tryz.func121.trans (congrArg some (by kernel_rfl))
  f344 := Tryz.func126.trans (congrArg some (by kernel_rfl))
  t0 := Tryz.underlying0
  a0 := Tryz.isAgg0
  z0 := Tryz.sizeOf0
  v0 := Tryz.zeroValue0
  t3 := Tryz.underlying3
  a3 := Tryz.isAgg3
  z3 := Tryz.sizeOf3
  v3 := Tryz.zeroValue3
  t4 := Tryz.underlying4
  a4 := Tryz.isAgg4
  z4 := Tryz.sizeOf4
  v4 := Tryz.zeroValue4
  t5 := Tryz.underlying5
  a5 := Tryz.isAgg5
  z5 := Tryz.sizeOf5
  v5 := Tryz.zeroValue5
  t9 := Tryz.underlying9
  a9 := Tryz.isAgg9
  z9 := Tryz.sizeOf9
  v9 := Tryz.zeroValue9
  t31 := Tryz.underlying45
  a31 := Tryz.isAgg45
  z31 := Tryz.sizeOf45
  v31 := Tryz.zeroValue45
  t46 := Tryz.underlying106
  a46 := Tryz.isAgg106
  z46 := Tryz.sizeOf106
  v46 := Tryz.zeroValue106
  t51 := Tryz.underlying124
  a51 := Tryz.isAgg124
  z51 := Tryz.sizeOf124
  v51 := Tryz.zeroValue124
  t53 := Tryz.underlying95
  a53 := Tryz.isAgg95
  z53 := Tryz.sizeOf95
  v53 := Tryz.zeroValue95
  t131 := Tryz.underlying121
  a131 := Tryz.isAgg121
  z131 := Tryz.sizeOf121
  v131 := Tryz.zeroValue121
  t182 := Tryz.underlying115
  a182 := Tryz.isAgg115
  z182 := Tryz.sizeOf115
  v182 := Tryz.zeroValue115
  t183 := Tryz.underlying116
  a183 := Tryz.isAgg116
  z183 := Tryz.sizeOf116
  v183 := Tryz.zeroValue116
  t218 := Tryz.underlying132
  a218 := Tryz.isAgg132
  z218 := Tryz.sizeOf132
  v218 := Tryz.zeroValue132
  t222 := Tryz.underlying49
  a222 := Tryz.isAgg49
  z222 := Tryz.sizeOf49
  v222 := Tryz.zeroValue49
  t228 := Tryz.underlying138
  a228 := Tryz.isAgg138
  z228 := Tryz.sizeOf138
  v228 := Tryz.zeroValue138
  t229 := Tryz.underlying111
  a229 := Tryz.isAgg111
  z229 := Tryz.sizeOf111
  v229 := Tryz.zeroValue111 }
def lays194_ren : Go.Shelf.Ren := ⟨fun | 194 => 48 | n => n, fun | 31 => 45 | 9 => 9 | 3 => 3 | 4 => 4 | 0 => 0 | n => n, fun | n => n⟩
theorem lays194 : Go.Proofs.Lays.n194 Tryz.prog lays194_ren := {
  mixed := by kernel_rfl
  f194 := Tryz.func48.trans (congrArg some (by kernel_rfl))
  t0 := Tryz.underlying0
  a0 := Tryz.isAgg0
  z0 := Tryz.sizeOf0
  v0 := Tryz.zeroValue0
  t3 := Tryz.underlying3
  a3 := Tryz.isAgg3
  z3 := Tryz.sizeOf3
  v3 := Tryz.zeroValue3
  t4 := Tryz.underlying4
  a4 := Tryz.isAgg4
  z4 := Tryz.sizeOf4
  v4 := Tryz.zeroValue4
  t9 := Tryz.underlying9
  a9 := Tryz.isAgg9
  z9 := Tryz.sizeOf9
  v9 := Tryz.zeroValue9
  t31 := Tryz.underlying45
  a31 := Tryz.isAgg45
  z31 := Tryz.sizeOf45
  v31 := Tryz.zeroValue45 }
def lays193_ren : Go.Shelf.Ren := ⟨fun | 193 => 18 | n => n, fun | 31 => 45 | 9 => 9 | 4 => 4 | 3 => 3 | 0 => 0 | n => n, fun | n => n⟩
theorem lays193 : Go.Proofs.Lays.n193 Tryz.prog lays193_ren := {
  mixed := by kernel_rfl
  f193 := Tryz.func18.trans (congrArg some (by kernel_rfl))
  t0 := Tryz.underlying0
  a0 := Tryz.isAgg0
  z0 := Tryz.sizeOf0
  v0 := Tryz.zeroValue0
  t3 := Tryz.underlying3
  a3 := Tryz.isAgg3
  z3 := Tryz.sizeOf3
  v3 := Tryz.zeroValue3
  t4 := Tryz.underlying4
  a4 := Tryz.isAgg4
  z4 := Tryz.sizeOf4
  v4 := Tryz.zeroValue4
  t9 := Tryz.underlying9
  a9 := Tryz.isAgg9
  z9 := Tryz.sizeOf9
  v9 := Tryz.zeroValue9
  t31 := Tryz.underlying45
  a31 := Tryz.isAgg45
  z31 := Tryz.sizeOf45
  v31 := Tryz.zeroValue45 }
end Go.Proofs.YthaphbbeiglolaaGreat
end

section
namespace Go.Proofs.YthaphbbeiglolaaGreat

theorem str_eq (a b : ByteArray) : (a.toList == b.toList) = decide (a = b) := by
  by_cases h : a = b
  · subst h; simp
  · have : a.toList ≠ b.toList := fun e => h (by
      rw [ByteArray.toList_eq, ByteArray.toList_eq] at e
      cases a; cases b
      simp only [] at e
      congr 1
      exact Array.toList_inj.1 e)
    rw [decide_eq_false h]
    exact beq_eq_false_iff_ne.2 this
theorem byte_at {s : ByteArray} {i : Nat} (h : i < s.size) : s.data.toList[i]? = some (s[i]'h) := by
  have h1 : i < s.data.toList.length := by rw [Array.length_toList]; exact h
  rw [List.getElem?_eq_getElem h1]
  rfl
theorem byte_size (s : ByteArray) : s.data.toList.length = s.size := Array.length_toList
theorem size_zero {s : ByteArray} : s.size = 0 ↔ s = ByteArray.empty := by
  constructor
  · intro h
    obtain ⟨⟨l⟩⟩ := s
    have : l = [] := List.length_eq_zero_iff.1 h
    rw [this]; rfl
  · rintro rfl; rfl
theorem let_run {b : UInt8} (h : isLet b = true) : isRun b = true := by unfold isRun; rw [h]; rfl
theorem all_at {p : UInt8 → Bool} {l : List UInt8} : l.all p = true ↔ ∀ (i : Nat) (b : UInt8), l[i]? = some b → p b = true := by
  rw [List.all_eq_true]
  constructor
  · intro h i b hi; exact h b (List.mem_of_getElem? hi)
  · intro h b hb
    obtain ⟨i, hi⟩ := List.getElem?_of_mem hb
    exact h i b hi
/-- a word: its first byte is a letter, all its bytes may stand in a word -/
theorem word_iff (s : ByteArray) : wordB s = true ↔ (∃ b, s.data.toList[0]? = some b ∧ isLet b = true) ∧ ∀ (i : Nat) (b : UInt8), s.data.toList[i]? = some b → isRun b = true := by
  unfold wordB
  cases hl : s.data.toList with
  | nil => simp
  | cons b t =>
    show (isLet b && t.all isRun) = true ↔ _
    rw [Bool.and_eq_true, all_at]
    constructor
    · rintro ⟨h1, h2⟩
      refine ⟨⟨b, rfl, h1⟩, fun i c hi => ?_⟩
      cases i with
      | zero => injection hi with hi; subst hi; exact let_run h1
      | succ j => exact h2 j c hi
    · rintro ⟨⟨c, hc, h1⟩, h2⟩
      injection hc with hc; subst hc
      exact ⟨h1, fun i c hi => h2 (i + 1) c hi⟩
theorem word_no {s : ByteArray} {i : Nat} {b : UInt8} (h : s.data.toList[i]? = some b) (hr : isRun b = false) : wordB s = false := by
  refine Bool.eq_false_iff.2 fun hw => ?_
  rw [((word_iff s).1 hw).2 i b h] at hr
  cases hr
theorem word_let {s : ByteArray} {b : UInt8} (h : s.data.toList[0]? = some b) (hl : isLet b = false) : wordB s = false := by
  refine Bool.eq_false_iff.2 fun hw => ?_
  obtain ⟨⟨c, hc, h1⟩, _⟩ := (word_iff s).1 hw
  rw [h] at hc; injection hc with hc; subst hc
  rw [h1] at hl; cases hl
theorem word_empty {s : ByteArray} (h : s.size = 0) : wordB s = false := by
  unfold wordB
  have : s.data.toList = [] := List.length_eq_zero_iff.1 (by rw [byte_size]; exact h)
  rw [this]
theorem word_yes {s : ByteArray} {b : UInt8} (h0 : s.data.toList[0]? = some b) (h1 : isLet b = true) (h : ∀ (i : Nat) (c : UInt8), s.data.toList[i]? = some c → isRun c = true) : wordB s = true := (word_iff s).2 ⟨⟨b, h0, h1⟩, h⟩
end Go.Proofs.YthaphbbeiglolaaGreat
end
