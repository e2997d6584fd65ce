/- Rows of groups, step by step. -/
import Derived.Test.YtkfoknjflpklpaaPGroups
import Derived.Test.YtkfoknjflpklpaaPOf
import Derived.Test.YtkfoknjflpklpaaPSpec
namespace Go.Proofs.Ytkfoknjflpklpaa.P
open Go Go.RowKit Go.Sort Go.Proofs.Ytkfoknjflpklpaa.Mem Go.Proofs.Ytkfoknjflpklpaa.Cmp Go.Proofs.Ytkfoknjflpklpaa.D

/-- What is worked out of each in turn, as long as nothing is at fault. -/
def runL {α β : Type} (f : α → β × Int) : List α → List β × Int
  | [] => ([], 0)
  | x :: l => if (f x).2 = 0 then (if (runL f l).2 = 0 then ((f x).1 :: (runL f l).1, 0) else ([], (runL f l).2)) else ([], (f x).2)
theorem runL_snoc {α β : Type} (f : α → β × Int) (x : α) : ∀ l, (runL f l).2 = 0 → runL f (l ++ [x]) = if (f x).2 = 0 then ((runL f l).1 ++ [(f x).1], 0) else ([], (f x).2)
  | [], _ => by simp [runL]
  | y :: l, h => by
    rw [runL] at h
    by_cases h1 : (f y).2 = 0
    · rw [if_pos h1] at h
      by_cases h2 : (runL f l).2 = 0
      · rw [List.cons_append, runL, if_pos h1, runL_snoc f x l h2, runL, if_pos h1, if_pos h2]
        by_cases h3 : (f x).2 = 0
        · simp [h3]
        · simp [h3]
      · rw [if_neg h2] at h; exact absurd h h2
    · rw [if_neg h1] at h; exact absurd h h1
theorem runL_stop {α β : Type} (f : α → β × Int) (x : α) (r : List α) : ∀ l, (runL f l).2 = 0 → (f x).2 ≠ 0 → runL f (l ++ x :: r) = ([], (f x).2)
  | [], _, h => by rw [List.nil_append, runL, if_neg h]
  | y :: l, h, hx => by
    rw [runL] at h
    by_cases h1 : (f y).2 = 0
    · rw [if_pos h1] at h
      by_cases h2 : (runL f l).2 = 0
      · rw [List.cons_append, runL, if_pos h1, runL_stop f x r l h2 hx, if_neg hx]
      · rw [if_neg h2] at h; exact absurd h h2
    · rw [if_neg h1] at h; exact absurd h h1
theorem runL_len {α β : Type} (f : α → β × Int) : ∀ l, (runL f l).2 = 0 → (runL f l).1.length = l.length
  | [], _ => rfl
  | y :: l, h => by
    rw [runL] at h ⊢
    by_cases h1 : (f y).2 = 0
    · rw [if_pos h1] at h ⊢
      by_cases h2 : (runL f l).2 = 0
      · rw [if_pos h2, List.length_cons, List.length_cons, runL_len f l h2]
      · rw [if_neg h2] at h; exact absurd h h2
    · rw [if_neg h1] at h; exact absurd h h1
theorem sumsR_run (rows : List (List Val)) (g : List Nat) : ∀ xs, sumsR rows g xs = runL (sumR rows g) xs
  | [] => rfl
  | x :: xs => by rw [sumsR, runL, sumsR_run rows g xs]
theorem rowsR_run (rows : List (List Val)) (s : Spc) : ∀ gs, rowsR rows s gs = runL (rowR rows s) gs
  | [] => rfl
  | x :: xs => by rw [rowsR, runL, rowsR_run rows s xs]
theorem runL_one {α β : Type} {f : α → β × Int} {l : List α} {i : Nat} {x : α} (h : l[i]? = some x) (h0 : (runL f (l.take i)).2 = 0) (hx : (f x).2 = 0) : runL f (l.take (i + 1)) = ((runL f (l.take i)).1 ++ [(f x).1], 0) := by
  rw [take_one h, runL_snoc f x _ h0, if_pos hx]
theorem runL_end {α β : Type} {f : α → β × Int} {l : List α} {i : Nat} {x : α} (h : l[i]? = some x) (h0 : (runL f (l.take i)).2 = 0) (hx : (f x).2 ≠ 0) : runL f l = ([], (f x).2) := by
  obtain ⟨hi, rfl⟩ := List.getElem?_eq_some_iff.1 h
  have := runL_stop f l[i] (l.drop (i + 1)) (l.take i) h0 hx
  rwa [← List.drop_eq_getElem_cons hi, List.take_append_drop] at this

/-- The groups of a report. -/
def glOf (rows : List (List Val)) (s : Spc) : List (List Nat) := if groupsR rows s.cols = [] ∧ s.cols = [] then [[]] else groupsR rows s.cols
theorem glOf_mem {rows : List (List Val)} {s : Spc} {g : List Nat} (h : g ∈ glOf rows s) : (s.cols ≠ [] → g ≠ []) ∧ (∀ i ∈ g, i < rows.length) ∧ g.length ≤ rows.length := by
  unfold glOf at h
  split at h
  · rename_i hh
    rw [List.mem_singleton] at h
    subst h
    exact ⟨fun h => absurd hh.2 h, fun i hi => absurd hi List.not_mem_nil, Nat.zero_le _⟩
  · exact ⟨fun _ => groupsN_ne _ _ h, fun i hi => groupsN_lt h hi, groupsN_glen h⟩
theorem glOf_len (rows : List (List Val)) (s : Spc) : (glOf rows s).length ≤ rows.length + 1 := by
  unfold glOf
  split
  · simp
  · exact Nat.le_succ_of_le (groupsN_len _)
/-- How the rows of the groups end. -/
def rowsE (N : Nat) (w' : World) (r : List (List Val) × Int) (e : Ending) : Prop := if r.2 = 0 then ∃ vo, e = .returned vo ∧ Sl tRow (fun k => N ≤ k) w' vo r.1 else e = stopE r.2
/-- A row of one empty group. -/
theorem one_empty {w : World} {N : Nat} (h : N ≤ w.heap.size) (t : TypeId) : Sl (tSl (tInt .i64)) (fun k => N ≤ k) (w.alloc (.cells #[.slice none 0 0] t)) (.slice (some ⟨w.heap.size, 0, none⟩) 1 1) ([([] : List Nat)].map nats) :=
  ⟨_, 1, rfl, Nat.le_refl _, by omega, by simp, fun h => (by cases h), fun _ => ⟨_, rfl, h, by simp, fun i x hx => by
    cases i with
    | zero =>
      simp only [List.map_cons, List.getElem?_cons_zero, Option.some.injEq] at hx
      subst hx
      exact ⟨[.slice none 0 0], ⟨_, rfl, Sl.nil _ _ _⟩, fun j u hj => by
        rw [Nat.zero_mul, Nat.zero_add]
        exact news_lit w [.slice none 0 0] t j u hj⟩
    | succ i => simp at hx⟩⟩
end Go.Proofs.Ytkfoknjflpklpaa.P
