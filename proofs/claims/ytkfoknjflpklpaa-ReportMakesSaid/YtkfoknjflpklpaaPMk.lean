/- What Make leaves ahead of the limit; facts of a spec that is fine. -/
import Derived.Test.YtkfoknjflpklpaaPRun
namespace Go.Proofs.Ytkfoknjflpklpaa.P
open Go Go.RowKit Go.Sort Go.Proofs.Ytkfoknjflpklpaa.Mem Go.Proofs.Ytkfoknjflpklpaa.Cmp Go.Proofs.Ytkfoknjflpklpaa.D

def mkR (rows : List (List Val)) (s : Spc) : List (List Val) × Int :=
  if fine rows s = false then ([], 15)
  else if (grouped rows s).2 = 0 then (sortR s.order (grouped rows s).1, 0) else ([], (grouped rows s).2)
theorem makeR_mk (rows : List (List Val)) (s : Spc) : makeR rows s = if (mkR rows s).2 = 0 then (cut s.limit (mkR rows s).1, 0) else ([], (mkR rows s).2) := by
  unfold makeR mkR
  by_cases h : fine rows s = false
  · rw [if_pos h, if_pos h]; rfl
  · rw [if_neg h, if_neg h]
    by_cases h2 : (grouped rows s).2 = 0
    · rw [if_pos h2, if_pos h2]; rfl
    · rw [if_neg h2, if_neg h2, if_neg h2]
theorem grouped_gl {rows : List (List Val)} {s : Spc} (h : s.plain = false) : grouped rows s = rowsR rows s (glOf rows s) := by
  unfold grouped glOf
  rw [h]
  rfl
theorem fine_facts {rows : List (List Val)} {s : Spc} (h : fine rows s = true) : (∀ x ∈ s.sums, 1 ≤ x.kind ∧ x.kind ≤ 5) ∧ (∀ r ∈ rows, ∀ i ∈ s.cols, inC r.length i = true) ∧ (∀ x ∈ s.sums, x.kind ≠ 1 → ∀ r ∈ rows, inC r.length x.col = true) := by
  unfold fine at h
  rw [Bool.and_eq_true] at h
  refine ⟨fun x hx => by simpa using List.all_eq_true.1 h.1 x hx, ?_⟩
  cases rows with
  | nil => exact ⟨fun r hr => absurd hr List.not_mem_nil, fun x _ _ r hr => absurd hr List.not_mem_nil⟩
  | cons r0 rows =>
    have h2 := h.2
    dsimp only at h2
    rw [Bool.and_eq_true, Bool.and_eq_true, Bool.and_eq_true] at h2
    obtain ⟨ha, hb, hc, _⟩ := h2
    have hw : ∀ r ∈ r0 :: rows, r.length = r0.length := fun r hr => by
      have := List.all_eq_true.1 ha r hr
      rw [Bool.and_eq_true, decide_eq_true_eq] at this
      exact this.1
    refine ⟨fun r hr i hi => by rw [hw r hr]; exact List.all_eq_true.1 hb i hi, fun x hx h1 r hr => ?_⟩
    have := List.all_eq_true.1 hc x hx
    rw [Bool.or_eq_true, decide_eq_true_eq] at this
    rw [hw r hr]
    exact this.resolve_left h1
theorem runL_all {α β : Type} {f : α → β × Int} {q : β → Prop} : ∀ {l : List α}, (runL f l).2 = 0 → (∀ x ∈ l, (f x).2 = 0 → q (f x).1) → ∀ y ∈ (runL f l).1, q y
  | [], _, _, y, hy => absurd hy List.not_mem_nil
  | x :: l, h, hq, y, hy => by
    rw [runL] at h hy
    by_cases h1 : (f x).2 = 0
    · rw [if_pos h1] at h hy
      by_cases h2 : (runL f l).2 = 0
      · rw [if_pos h2] at hy
        rcases List.mem_cons.1 hy with rfl | hy
        · exact hq x List.mem_cons_self h1
        · exact runL_all h2 (fun x hx => hq x (List.mem_cons_of_mem _ hx)) y hy
      · rw [if_neg h2] at h; exact absurd h h2
    · rw [if_neg h1] at h; exact absurd h h1
theorem rowsR_sizes {rows : List (List Val)} {s : Spc} (hl : rows.length ≤ 1000) (hw : s.cols.length + s.sums.length ≤ 1000) (h : (rowsR rows s (glOf rows s)).2 = 0) : (rowsR rows s (glOf rows s)).1.length ≤ 1000 ∧ ∀ r ∈ (rowsR rows s (glOf rows s)).1, r.length ≤ 1000 := by
  rw [rowsR_run] at h ⊢
  refine ⟨?_, runL_all h (fun g _ hg => ?_)⟩
  · rw [runL_len _ _ h]
    unfold glOf
    split
    · simp
    · exact Nat.le_trans (groupsN_len _) hl
  · have e : (runL (sumR rows g) s.sums).2 = 0 := by rw [← sumsR_run]; exact hg
    show (_ ++ (sumsR rows g s.sums).1).length ≤ 1000
    rw [sumsR_run, List.length_append, List.length_map, runL_len _ _ e]
    exact hw
end Go.Proofs.Ytkfoknjflpklpaa.P
