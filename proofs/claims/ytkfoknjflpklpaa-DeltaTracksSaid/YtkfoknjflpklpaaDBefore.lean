/- Change.before: how two changes' rows stand. -/
import Derived.Test.YtkfoknjflpklpaaDTy
import Derived.Test.YtkfoknjflpklpaaCmp
import Derived.Deep.RegionHeld3
import Derived.Sort.Grow
import Derived.Test.YtkfoknjflpklpaaDCloneV
import Derived.Test.YtkfoknjflpklpaaDCloneC
namespace Go.Proofs.Ytkfoknjflpklpaa.D
open Go Go.RowKit Go.Proofs.Ytkfoknjflpklpaa.Mem Go.Proofs.Ytkfoknjflpklpaa.Cmp Go.Sort

def cmpRow (t1 : ByteArray) (i1 : Int) (t2 : ByteArray) (i2 : Int) : Int := or2 (compareS t1 t2) (compareI i1 i2)

set_option maxHeartbeats 8000000 in
set_option maxRecDepth 100000 in
theorem beforeCalls (t1 t2 : ByteArray) (i1 i2 : Int) (u1 u2 v1 v2 : Value) (w : World) :
    Calls Try.prog 55 #[.agg #[.string t1, .int .i64 i1, u1, u2], .agg #[.string t2, .int .i64 i2, v1, v2]] w fun e w' => e = .returned (.int .i64 (cmpRow t1 i1 t2 i2)) ∧ ∃ q os, w' = grow (w.drewN q) os := by
  go_enter Try.func55, Try.ntmps55
  go_wp2_with fail
  generalize hw2 : (w.alloc (.cells #[.string t1, .int .i64 i1, u1, u2] 40)).alloc (.cells #[.string t2, .int .i64 i2, v1, v2] 40) = w2
  have s2 : w2.heap.size = w.heap.size + 2 := by rw [← hw2]; simp
  have c1 : w2.cell? ⟨w.heap.size, 0, none⟩ = some (.string t1) := by rw [← hw2]; simp
  have c2 : w2.cell? ⟨w.heap.size, 1, none⟩ = some (.int .i64 i1) := by rw [← hw2]; simp
  have c3 : w2.cell? ⟨w.heap.size + 1, 0, none⟩ = some (.string t2) := by rw [← hw2]; simp
  have c4 : w2.cell? ⟨w.heap.size + 1, 1, none⟩ = some (.int .i64 i2) := by rw [← hw2]; simp
  have HW := put hw2
  clear hw2
  obtain ⟨B, hB⟩ : ∃ B, B = w.heap.size := ⟨_, rfl⟩
  rw [← hB] at s2 c1 c2 c3 c4 ⊢
  have l1 : B < w2.heap.size := by omega
  have l2 : B + 1 < w2.heap.size := by omega
  have HB := put hB
  have HS := put s2
  clear hB s2
  go_region_held3 (fun w' => w'.cell? ⟨B, 0, none⟩ = some (.string t1) ∧ w'.cell? ⟨B, 1, none⟩ = some (.int .i64 i1) ∧ w'.cell? ⟨B + 1, 0, none⟩ = some (.string t2) ∧ w'.cell? ⟨B + 1, 1, none⟩ = some (.int .i64 i2)) (go_keep)
    (first | (go_at_call 82; refine (compareStr _ _ _).mono ?_; rintro e w' ⟨rfl, rfl⟩) | (go_at_call 83; refine (compareInt _ _ _).mono ?_; rintro e w' ⟨rfl, rfl⟩) | (go_at_call 81; refine (orInt _ _ _ _ (by simp; rfl) (by simp; rfl)).mono ?_; rintro e w' ⟨rfl, rfl⟩))
  all_goals go_wp2
  all_goals go_ret
  all_goals
    refine ⟨rfl, ?_⟩
    rw [← HW.out, alloc_eq_grow, alloc_eq_grow, alloc_eq_grow, grow_grow, grow_grow]
    exact ⟨1, _, rfl⟩

set_option maxHeartbeats 8000000 in
set_option maxRecDepth 100000 in
theorem cloneCalls (ok : Nat → Prop) (c : Chg) (cs : List Value) (w : World) (h : tChg.R ok w c cs) (b1 : c.old.length ≤ 1000) (b2 : c.new.length ≤ 1000) :
    Calls Try.prog 56 #[.agg cs.toArray] w fun e w' => ∃ v2 v3, e = .returned (.agg #[.string c.table, .int .i64 c.id, v2, v3]) ∧ Own tVal 55 (fun _ => False) w' w.heap.size v2 c.old ∧ Own tVal 55 (fun _ => False) w' w.heap.size v3 c.new ∧ (∀ k, v2.ownBlock = some k → some k ≠ v3.ownBlock) ∧ Below w.heap.size w w' := by
  obtain ⟨v2, v3, rfl, h2, h3⟩ := h
  obtain ⟨A2, c2, rfl, l2, m2, n2⟩ := h2.shape
  obtain ⟨A3, c3, rfl, l3, m3, n3⟩ := h3.shape
  have H2 := put h2
  have H3 := put h3
  clear h2 h3
  go_enter Try.func56, Try.ntmps56
  go_wp2_with fail
  generalize hw2 : (w.alloc (.cells #[.string c.table, .int .i64 c.id, .slice A2 c.old.length c2, .slice A3 c.new.length c3] 40)).alloc (.cells #[.string { data := #[] }, .int .i64 0, .slice none 0 0, .slice none 0 0] 40) = w2
  have s2 : w2.heap.size = w.heap.size + 2 := by rw [← hw2]; simp
  have d0 : w2.cell? ⟨w.heap.size, 0, none⟩ = some (.string c.table) := by rw [← hw2]; simp
  have d1 : w2.cell? ⟨w.heap.size, 1, none⟩ = some (.int .i64 c.id) := by rw [← hw2]; simp
  have d2 : w2.cell? ⟨w.heap.size, 2, none⟩ = some (.slice A2 c.old.length c2) := by rw [← hw2]; simp
  have d3 : w2.cell? ⟨w.heap.size, 3, none⟩ = some (.slice A3 c.new.length c3) := by rw [← hw2]; simp
  have z0 : w2.cell? ⟨w.heap.size + 1, 0, none⟩ = some (.string { data := #[] }) := by rw [← hw2]; simp
  have z1 : w2.cell? ⟨w.heap.size + 1, 1, none⟩ = some (.int .i64 0) := by rw [← hw2]; simp
  have z2 : w2.cell? ⟨w.heap.size + 1, 2, none⟩ = some (.slice none 0 0) := by rw [← hw2]; simp
  have z3 : w2.cell? ⟨w.heap.size + 1, 3, none⟩ = some (.slice none 0 0) := by rw [← hw2]; simp
  have f0 : w2.frozen? ⟨w.heap.size + 1, 0, none⟩ = false := by rw [← hw2]; simp
  have f1 : w2.frozen? ⟨w.heap.size + 1, 1, none⟩ = false := by rw [← hw2]; simp
  have f2 : w2.frozen? ⟨w.heap.size + 1, 2, none⟩ = false := by rw [← hw2]; simp
  have f3 : w2.frozen? ⟨w.heap.size + 1, 3, none⟩ = false := by rw [← hw2]; simp
  have hbw : Below w.heap.size w w2 := by rw [← hw2]; exact ((Below.refl _ _).alloc (Nat.le_refl _) _).alloc (by simp) _
  have HW := put hbw
  clear hw2 hbw
  obtain ⟨B, hB⟩ : ∃ B, B = w.heap.size := ⟨_, rfl⟩
  rw [← hB] at s2 d0 d1 d2 d3 z0 z1 z2 z3 f0 f1 f2 f3
  have HB := put hB
  have HS := put s2
  have l1 : B < w2.heap.size := by omega
  have l2 : B + 1 < w2.heap.size := by omega
  have e1 : c.old.length * 32 ≤ 140737488355328 := by omega
  have e2 : c.new.length * 32 ≤ 140737488355328 := by omega
  rw [← hB]
  clear hB s2
  go_region_held3 (fun w' => w'.cell? ⟨B, 0, none⟩ = some (.string c.table) ∧ w'.cell? ⟨B, 1, none⟩ = some (.int .i64 c.id) ∧ w'.cell? ⟨B, 2, none⟩ = some (.slice A2 c.old.length c2) ∧ w'.cell? ⟨B, 3, none⟩ = some (.slice A3 c.new.length c3)) (first | go_keep | exact ⟨(hc3 _ _ (by omega)).trans ((hc2 _ _ l1).trans d0), (hc3 _ _ (by omega)).trans ((hc2 _ _ l1).trans d1), (hc3 _ _ (by omega)).trans ((hc2 _ _ l1).trans d2), (hc3 _ _ (by omega)).trans ((hc2 _ _ l1).trans d3)⟩ | exact ⟨(hc2 _ _ l1).trans d0, (hc2 _ _ l1).trans d1, (hc2 _ _ l1).trans d2, (hc2 _ _ l1).trans d3⟩)
    (first | (go_at_call_of 84 (Value.slice A2 c.old.length c2); refine (cloneVal ok _ c.old _ (by exact H2.out.below HW.out.drew) e1).mono ?_; rintro e w3 ⟨B2, k2, rfl, ho2, hb2⟩; obtain ⟨hc2, hf2⟩ := bcell hb2; have hz2 := hb2.size; simp at hz2) | (go_at_call_of 84 (Value.slice A3 c.new.length c3); refine (cloneVal ok _ c.new _ (by exact H3.out.below (HW.out.drew.trans (hb2.mono HW.out.size))) e2).mono ?_; rintro e w4 ⟨B3, k3, rfl, ho3, hb3⟩; obtain ⟨hc3, hf3⟩ := bcell hb3; have hz3 := hb3.size; have y0 := (hc3 (B + 1) 0 (by omega)).trans ((hc2 (B + 1) 0 l2).trans z0); have y1 := (hc3 (B + 1) 1 (by omega)).trans ((hc2 (B + 1) 1 l2).trans z1); have y2 := (hc3 (B + 1) 2 (by omega)).trans ((hc2 (B + 1) 2 l2).trans z2); have y3 := (hc3 (B + 1) 3 (by omega)).trans ((hc2 (B + 1) 3 l2).trans z3); have x0 := (hf3 (B + 1) 0 (by omega)).trans ((hf2 (B + 1) 0 l2).trans f0); have x1 := (hf3 (B + 1) 1 (by omega)).trans ((hf2 (B + 1) 1 l2).trans f1); have x2 := (hf3 (B + 1) 2 (by omega)).trans ((hf2 (B + 1) 2 l2).trans f2); have x3 := (hf3 (B + 1) 3 (by omega)).trans ((hf2 (B + 1) 3 l2).trans f3)))
  go_wp2
  refine bodyPost_ret (v := .agg #[.string c.table, .int .i64 c.id, .slice B2 c.old.length k2, .slice B3 c.new.length k3]) (by simp [results, Try.results56, go_sem, y0, y1, y2, y3]) rfl ⟨_, _, rfl, ?_, ?_, ?_, ?_⟩
  · have h1 : Own tVal 55 (fun _ => False) w4 (B + 2) (.slice B2 c.old.length k2) c.old := (Own.vals (ho2.below hb3)).lower (by have := HS.out; simp; omega)
    exact ((((h1.store (by simp) (by simp) _).store (by simp) (by simp) _).store (by simp) (by simp) _).store (by simp) (by simp) _).lower (by have := HB.out; omega)
  · have h1 : Own tVal 55 (fun _ => False) w4 (B + 2) (.slice B3 c.new.length k3) c.new := (Own.vals ho3).lower (by have := HS.out; omega)
    exact ((((h1.store (by simp) (by simp) _).store (by simp) (by simp) _).store (by simp) (by simp) _).store (by simp) (by simp) _).lower (by have := HB.out; omega)
  · intro k hk e
    have h1 := (ho2.lt k hk).2
    have h2 := (ho3.lt k e.symm).1
    omega
  · have h0 : Below B w w4 := by
      have := HW.out
      rw [← HB.out] at this
      have hs := HS.out
      exact (this.drew.trans (hb2.mono (by simp; omega))).trans (hb3.mono (by omega))
    rw [← HB.out]
    exact (((h0.setCell (by simp) _).setCell (by simp) _).setCell (by simp) _).setCell (by simp) _

end Go.Proofs.Ytkfoknjflpklpaa.D
