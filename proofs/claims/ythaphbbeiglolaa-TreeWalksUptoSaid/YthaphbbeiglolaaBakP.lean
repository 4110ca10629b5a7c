/-
  Plain: renaming back, replacing what does not occur.
-/
import Derived.Test.YthaphbbeiglolaaAwkW
namespace Go.Proofs.Ythaphbbeiglolaa

theorem varE_ok (s : ByteArray) : (varE s).ok = nameB s := by
  unfold Ex.ok
  rw [varE_size, varE_depth, Ex.allB_eq]
  have h : nodeB (varE s) = nameB s := by
    unfold nodeB varE
    simp [Ex.kind, Ex.rn, Ex.rd, Ex.name, Ex.pw, Ex.l]
  rw [h, show (varE s).l = [] from rfl, Ex.allL_nil]
  simp
theorem oneF_eq (s : ByteArray) (b : Ex) : oneF s b = oneS s b := rfl
theorem renM_one (s t : ByteArray) : renM ([s].zip [t]) = oneS s (varE t) := rfl
theorem sub_congr {f : ByteArray → Option Ex} : ∀ e : Ex, (e.er.sub f).er = (e.sub f).er := by
  refine Ex.ind fun e ih => ?_
  rw [Ex.sub_eq f e.er, Ex.sub_eq f e, Ex.er_kind, Ex.er_name]
  split
  · next h =>
    obtain ⟨x, hx⟩ := Option.isSome_iff_exists.1 h.2
    rw [hx]; rfl
  · rw [Ex.er_iff]
    refine ⟨⟨rfl, e.er_rn, e.er_rd, rfl, e.er_pw⟩, ?_⟩
    show (e.er.l.map (Ex.sub f)).map Ex.er = (e.l.map (Ex.sub f)).map Ex.er
    rw [Ex.er_l, List.map_map, List.map_map, List.map_map]
    exact List.map_congr_left fun x hx => ih x hx
theorem sub_er_of {f : ByteArray → Option Ex} {x y : Ex} (h : x.er = y.er) : (x.sub f).er = (y.sub f).er := by rw [← sub_congr x, ← sub_congr y, h]
theorem ok_parts {e : Ex} (h : e.ok = true) : e.allB = true ∧ e.depth ≤ 20 ∧ e.size ≤ 200 := by
  unfold Ex.ok at h
  simpa [Bool.and_eq_true] using h
theorem ok_of {e : Ex} (h1 : e.allB = true) (h2 : e.depth ≤ 20) (h3 : e.size ≤ 200) : e.ok = true := by
  unfold Ex.ok
  simp [h1, h2, h3]
/-- a renaming keeps a valid tree valid -/
theorem ren_ok {e : Ex} {s t : ByteArray} (h : e.ok = true) (ht : nameB t = true) : (e.sub (oneS s (varE t))).ok = true := by
  obtain ⟨h1, h2, h3⟩ := ok_parts h
  refine ok_of (sub_all (fun n b hb => ?_) e h1) ?_ ?_
  · unfold oneS at hb
    split at hb
    · cases hb; exact varE_all ht
    · cases hb
  · have := sub_depth_le s (varE t) e
    rw [varE_depth] at this
    omega
  · have := sub_size s (varE t) e h1
    rw [varE_size] at this
    omega
/-- which names a valid tree has -/
theorem mem_namO {e : Ex} (h : e.ok = true) {s : ByteArray} : s ∈ namO e ↔ ∃ x ∈ e.flat, x.kind = 2 ∧ x.name = s := by
  unfold namO flatE
  rw [if_pos h, namesL_mem, List.mem_map]
  constructor
  · rintro ⟨y, hy, rfl⟩
    obtain ⟨h1, h2⟩ := List.mem_filter.1 hy
    obtain ⟨x, hx, rfl⟩ := List.mem_map.1 h1
    exact ⟨x, hx, by simpa [Ex.er_kind] using h2, x.er_name.symm⟩
  · rintro ⟨x, hx, hk, rfl⟩
    exact ⟨x.er, List.mem_filter.2 ⟨List.mem_map.2 ⟨x, hx, rfl⟩, by simp [Ex.er_kind, hk]⟩, x.er_name⟩
theorem eqO_er {x y : Ex} (h : x.er = y.er) (hy : y.ok = true) : eqO x y = true := by
  unfold eqO
  rw [ok_er h, hy, (eqv_iff x y).2 h]; rfl
theorem renF_one {e : Ex} {s t : ByteArray} (h : e.ok = true) (hs : nameB s = true) (ht : nameB t = true) : renF e [s] [t] = 0 := by
  rw [renF_eq, if_pos ⟨h, rfl, (by show (1 : Nat) ≤ 200; decide), by simp [hs], by simp [ht], by simp⟩]
/-- there and back -/
theorem back_er {e a b : Ex} {s o : ByteArray} (h : e.ok = true) (ho : o ∉ namO e) (ha : a.er = (e.sub (oneS s (varE o))).er) (hb : b.er = (a.sub (oneS o (varE s))).er) : b.er = e.er := by
  rw [hb, sub_er_of ha]
  exact sub_back e (ok_parts h).1 fun x hx hk hn => ho ((mem_namO h).2 ⟨x, hx, hk, hn⟩)
theorem gone_names {e a : Ex} {s o : ByteArray} (ho : nameB o = true) (h : e.ok = true) (hso : s ≠ o) (ha : a.er = (e.sub (oneS s (varE o))).er) : s ∉ namO a := by
  intro hm
  have hao : a.ok = true := by rw [ok_er ha]; exact ren_ok h ho
  have hm2 : s ∈ namO (e.sub (oneS s (varE o))) := by
    have : namO a = namO (e.sub (oneS s (varE o))) := by unfold namO; rw [flatE_er ha]
    rw [← this]; exact hm
  obtain ⟨x, hx, hk, hn⟩ := (mem_namO (ren_ok h ho)).1 hm2
  exact sub_gone (Ne.symm hso) e x hx hk hn
theorem unused_er {e by_ : Ex} {o : ByteArray} (h : e.ok = true) (ho : o ∉ namO e) : (e.sub (oneF o by_)).er = e.er := by
  rw [oneF_eq]
  exact sub_unused fun x hx hk hn => ho ((mem_namO h).2 ⟨x, hx, hk, hn⟩)
theorem replF_unused {e by_ : Ex} {o : ByteArray} (h : e.ok = true) (hb : by_.ok = true) (ho : nameB o = true) (hn : o ∉ namO e) : replF e o by_ = 0 := by
  rw [replF_eq, if_pos ⟨h, hb, ho⟩, if_pos (by rw [ok_er (unused_er h hn)]; exact h)]
end Go.Proofs.Ythaphbbeiglolaa
