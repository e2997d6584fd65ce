/- What Counts and Ends say, over plain lists. -/
import Derived.Test.YtkfoknjflpklpaaPMk
namespace Go.Proofs.Ytkfoknjflpklpaa.P
open Go Go.RowKit Go.Sort Go.Proofs.Ytkfoknjflpklpaa.Mem Go.Proofs.Ytkfoknjflpklpaa.Cmp Go.Proofs.Ytkfoknjflpklpaa.D

theorem sortR_nil (rows : List (List Val)) : sortR [] rows = rows := by
  refine isort_id (swo_cmpR []) _ ?_
  rw [List.pairwise_iff_getElem]
  intro i j _ _ _
  simp [ltOf, cmpR]
theorem cut_neg (l : List (List Val)) : cut (-1) l = l := by unfold cut; rw [if_neg (by omega)]

/-! ### Counts -/
def cntS (cols : List Int) (col : Int) : Spc := ⟨cols, [⟨1, -1⟩, ⟨2, col⟩], [], -1⟩
def cntRow (rows : List (List Val)) (cols : List Int) (col : Int) (g : List Nat) : List Val := (cols.map fun c => cell rows (g.headD 0) c) ++ [numV g.length, numV (knownR rows g col).length]
theorem rowR_cnt (rows : List (List Val)) (cols : List Int) (col : Int) (g : List Nat) : rowR rows (cntS cols col) g = (cntRow rows cols col g, 0) := by
  simp [rowR, cntS, sumsR, sumR, cntRow]
theorem runL_map {α β : Type} {f : α → β × Int} {g : α → β} (h : ∀ x, f x = (g x, 0)) : ∀ l, runL f l = (l.map g, 0)
  | [] => rfl
  | x :: l => by rw [runL, runL_map h l, h x]; simp
theorem make_cnt (rows : List (List Val)) (cols : List Int) (col : Int) : makeR rows (cntS cols col) = if fine rows (cntS cols col) = false then ([], 15) else ((glOf rows (cntS cols col)).map (cntRow rows cols col), 0) := by
  have e : grouped rows (cntS cols col) = ((glOf rows (cntS cols col)).map (cntRow rows cols col), 0) := by
    rw [grouped_gl (by simp [Spc.plain, cntS]), rowsR_run, runL_map (rowR_cnt rows cols col)]
  unfold makeR
  rw [e]
  split
  · rfl
  · rw [if_pos rfl]
    show (cut (-1) (sortR [] _), (0 : Int)) = _
    rw [sortR_nil, cut_neg]
def lastV (n : Nat) (r : List Val) : Val := r.getD (r.length - n) nullV
theorem cntRow_two (rows : List (List Val)) (cols : List Int) (col : Int) (g : List Nat) : 2 ≤ (cntRow rows cols col g).length ∧ lastV 2 (cntRow rows cols col g) = numV g.length ∧ lastV 1 (cntRow rows cols col g) = numV (knownR rows g col).length := by
  refine ⟨by simp [cntRow], ?_, ?_⟩ <;> simp [lastV, cntRow]
/-- So much do the Ns come to. -/
def sumN (n : Nat) (l : List (List Val)) : Int := (l.map fun r => (lastV n r).n).sum
theorem sumN_snoc (n : Nat) (l : List (List Val)) (r : List Val) : sumN n (l ++ [r]) = sumN n l + (lastV n r).n := by simp [sumN]
def cntKnown (rows : List (List Val)) (col : Int) : Nat := (rows.filter fun r => decide ((atV r col).kind ≠ 0)).length
theorem sum_len {α : Type} (f : α → Nat) (l : List α) : (l.map fun x => (f x : Int)).sum = ((l.map f).sum : Nat) := by
  induction l with
  | nil => rfl
  | cons x l ih => simp only [List.map_cons, List.sum_cons, ih]; omega
theorem gl_flat (rows : List (List Val)) (s : Spc) : (glOf rows s).flatten.Perm (List.range rows.length) := by
  unfold glOf
  split
  · rename_i h
    have := groupsN_flat (p := fun i j => alikeV s.cols (rows.getD i []) (rows.getD j [])) rows.length
    have h1 : groupsN (fun i j => alikeV s.cols (rows.getD i []) (rows.getD j [])) rows.length = [] := h.1
    rw [h1] at this
    simpa using this
  · exact groupsN_flat _
theorem flat_len {α : Type} (l : List (List α)) : (l.map List.length).sum = l.flatten.length := by simp [List.length_flatten]
theorem sum_two (rows : List (List Val)) (cols : List Int) (col : Int) : sumN 2 ((glOf rows (cntS cols col)).map (cntRow rows cols col)) = rows.length := by
  have e : sumN 2 ((glOf rows (cntS cols col)).map (cntRow rows cols col)) = (((glOf rows (cntS cols col)).map List.length).sum : Nat) := by
    rw [← sum_len]
    unfold sumN
    rw [List.map_map]
    congr 1
    apply List.map_congr_left
    intro g _
    simp only [Function.comp, (cntRow_two rows cols col g).2.1]
    rfl
  rw [e, flat_len, (gl_flat rows _).length_eq, List.length_range]
theorem known_flat (rows : List (List Val)) (col : Int) : ∀ gl : List (List Nat), (gl.map fun g => (knownR rows g col).length).sum = (knownR rows gl.flatten col).length
  | [] => rfl
  | g :: gl => by
    rw [List.map_cons, List.sum_cons, known_flat rows col gl, List.flatten_cons]
    unfold knownR
    rw [List.map_append, List.filter_append, List.length_append]
theorem range_cells (rows : List (List Val)) (col : Int) : (List.range rows.length).map (fun i => cell rows i col) = rows.map (fun r => atV r col) := by
  apply List.ext_getElem
  · simp
  · intro i h1 h2
    have hi : i < rows.length := by simpa using h1
    simp [cell, List.getD, List.getElem?_eq_getElem hi]
theorem known_all (rows : List (List Val)) (col : Int) : knownR rows (List.range rows.length) col = (rows.map (fun r => atV r col)).filter (fun v => decide (v.kind ≠ 0)) := by
  unfold knownR; rw [range_cells]
theorem sum_one (rows : List (List Val)) (cols : List Int) (col : Int) : sumN 1 ((glOf rows (cntS cols col)).map (cntRow rows cols col)) = cntKnown rows col := by
  have e : sumN 1 ((glOf rows (cntS cols col)).map (cntRow rows cols col)) = (((glOf rows (cntS cols col)).map fun g => (knownR rows g col).length).sum : Nat) := by
    rw [← sum_len]
    unfold sumN
    rw [List.map_map]
    congr 1
    apply List.map_congr_left
    intro g _
    simp only [Function.comp, (cntRow_two rows cols col g).2.2]
    rfl
  rw [e, known_flat]
  have hp : (knownR rows (glOf rows (cntS cols col)).flatten col).Perm (knownR rows (List.range rows.length) col) := ((gl_flat rows _).map _).filter _
  rw [hp.length_eq, known_all]
  unfold cntKnown
  rw [List.filter_map, List.length_map]
  rfl
/-- A number of each row lies between 0 and 1000. -/
theorem cnt_bounds {rows : List (List Val)} {cols : List Int} {col : Int} (hl : rows.length ≤ 1000) : ∀ r ∈ (glOf rows (cntS cols col)).map (cntRow rows cols col), 2 ≤ r.length ∧ (0 ≤ (lastV 2 r).n ∧ (lastV 2 r).n ≤ 1000) ∧ (0 ≤ (lastV 1 r).n ∧ (lastV 1 r).n ≤ 1000) := by
  intro r hr
  obtain ⟨g, hg, rfl⟩ := List.mem_map.1 hr
  have h := cntRow_two rows cols col g
  have h3 := (glOf_mem hg).2.2
  have h4 : (knownR rows g col).length ≤ g.length := by unfold knownR; exact Nat.le_trans (List.length_filter_le _ _) (by simp)
  refine ⟨h.1, ?_, ?_⟩
  · rw [h.2.1]; show (0 : Int) ≤ (g.length : Int) ∧ (g.length : Int) ≤ 1000; omega
  · rw [h.2.2]; show (0 : Int) ≤ ((knownR rows g col).length : Int) ∧ ((knownR rows g col).length : Int) ≤ 1000; omega

/-! ### Ends -/
def endS (col : Int) : Spc := ⟨[], [⟨4, col⟩, ⟨5, col⟩], [], -1⟩
def knownC (col : Int) (rows : List (List Val)) : List Val := (rows.map (fun r => atV r col)).filter (fun v => decide (v.kind ≠ 0))
def minV : List Val → Val
  | [] => nullV
  | v :: l => minF v l
def maxV : List Val → Val
  | [] => nullV
  | v :: l => maxF v l
theorem sumR_min (rows : List (List Val)) (g : List Nat) (col : Int) : sumR rows g ⟨4, col⟩ = (minV (knownR rows g col), 0) := by
  unfold sumR
  rw [if_neg (by simp), if_neg (by simp)]
  dsimp only
  cases knownR rows g col <;> simp [minV]
theorem sumR_max (rows : List (List Val)) (g : List Nat) (col : Int) : sumR rows g ⟨5, col⟩ = (maxV (knownR rows g col), 0) := by
  unfold sumR
  rw [if_neg (by simp), if_neg (by simp)]
  dsimp only
  cases knownR rows g col <;> simp [maxV]
theorem rowR_end (rows : List (List Val)) (col : Int) (g : List Nat) : rowR rows (endS col) g = ([minV (knownR rows g col), maxV (knownR rows g col)], 0) := by
  unfold rowR
  show ([] ++ (sumsR rows g [⟨4, col⟩, ⟨5, col⟩]).1, (sumsR rows g [⟨4, col⟩, ⟨5, col⟩]).2) = _
  simp [sumsR, sumR_min, sumR_max]
theorem groupsR_nil (rows : List (List Val)) : groupsR rows [] = if rows.length = 0 then [] else [List.range rows.length] := by
  unfold groupsR
  have : (fun i j => alikeV [] (rows.getD i []) (rows.getD j [])) = fun _ _ => true := rfl
  rw [this]
  generalize rows.length = n
  induction n with
  | zero => rfl
  | succ n ih =>
    rw [groupsN_succ, ih]
    by_cases h : n = 0
    · subst h; rfl
    · rw [if_neg h, if_neg (Nat.succ_ne_zero n), insG, if_pos rfl, List.range_succ]
theorem gl_end (rows : List (List Val)) (col : Int) : glOf rows (endS col) = [List.range rows.length] := by
  unfold glOf
  rw [show (endS col).cols = [] from rfl, groupsR_nil]
  by_cases h : rows.length = 0
  · rw [if_pos h, if_pos ⟨rfl, rfl⟩, h]; rfl
  · rw [if_neg h, if_neg (fun hh => by cases hh.1)]
theorem make_end (rows : List (List Val)) (col : Int) : makeR rows (endS col) = if fine rows (endS col) = false then ([], 15) else ([[minV (knownC col rows), maxV (knownC col rows)]], 0) := by
  have e : grouped rows (endS col) = ([[minV (knownC col rows), maxV (knownC col rows)]], 0) := by
    rw [grouped_gl (by simp [Spc.plain, endS]), rowsR_run, runL_map (rowR_end rows col), gl_end]
    simp only [List.map_cons, List.map_nil, known_all]
    rfl
  unfold makeR
  rw [e]
  split
  · rfl
  · rw [if_pos rfl]
    show (cut (-1) (sortR [] _), (0 : Int)) = _
    rw [sortR_nil, cut_neg]
theorem minF_spec : ∀ (l : List Val) (m : Val), (minF m l = m ∨ minF m l ∈ l) ∧ ord (minF m l) m ≤ 0 ∧ ∀ v ∈ l, ord (minF m l) v ≤ 0
  | [], m => ⟨Or.inl rfl, by show ord m m ≤ 0; rw [(ord_zero m m).2 rfl]; exact Int.le_refl _, fun v hv => absurd hv List.not_mem_nil⟩
  | x :: l, m => by
    show (minF (if ord x m < 0 then x else m) l = m ∨ _ ∈ x :: l) ∧ ord (minF (if ord x m < 0 then x else m) l) m ≤ 0 ∧ ∀ v ∈ x :: l, ord (minF (if ord x m < 0 then x else m) l) v ≤ 0
    by_cases h : ord x m < 0
    · rw [if_pos h]
      obtain ⟨h1, h2, h3⟩ := minF_spec l x
      refine ⟨Or.inr ?_, pre_ord.trans _ _ _ h2 (by omega), fun v hv => ?_⟩
      · show minF (if ord x m < 0 then x else m) l ∈ x :: l
        rw [if_pos h]
        rcases h1 with h1 | h1
        · rw [h1]; exact List.mem_cons_self
        · exact List.mem_cons_of_mem _ h1
      · rcases List.mem_cons.1 hv with rfl | hv
        · exact h2
        · exact h3 v hv
    · rw [if_neg h]
      obtain ⟨h1, h2, h3⟩ := minF_spec l m
      refine ⟨?_, h2, fun v hv => ?_⟩
      · rcases h1 with h1 | h1
        · exact Or.inl h1
        · refine Or.inr ?_
          show minF (if ord x m < 0 then x else m) l ∈ x :: l
          rw [if_neg h]
          exact List.mem_cons_of_mem _ h1
      · rcases List.mem_cons.1 hv with rfl | hv
        · exact pre_ord.trans _ _ _ h2 ((pre_ord.anti _ _).2 (by omega))
        · exact h3 v hv
theorem maxF_spec : ∀ (l : List Val) (m : Val), (maxF m l = m ∨ maxF m l ∈ l) ∧ ord m (maxF m l) ≤ 0 ∧ ∀ v ∈ l, ord v (maxF m l) ≤ 0
  | [], m => ⟨Or.inl rfl, by show ord m m ≤ 0; rw [(ord_zero m m).2 rfl]; exact Int.le_refl _, fun v hv => absurd hv List.not_mem_nil⟩
  | x :: l, m => by
    have e : maxF m (x :: l) = maxF (if 0 < ord x m then x else m) l := rfl
    rw [e]
    by_cases h : 0 < ord x m
    · rw [if_pos h]
      obtain ⟨h1, h2, h3⟩ := maxF_spec l x
      refine ⟨Or.inr ?_, pre_ord.trans _ _ _ ((pre_ord.anti _ _).2 (by omega)) h2, fun v hv => ?_⟩
      · rcases h1 with h1 | h1
        · rw [h1]; exact List.mem_cons_self
        · exact List.mem_cons_of_mem _ h1
      · rcases List.mem_cons.1 hv with rfl | hv
        · exact h2
        · exact h3 v hv
    · rw [if_neg h]
      obtain ⟨h1, h2, h3⟩ := maxF_spec l m
      refine ⟨?_, h2, fun v hv => ?_⟩
      · rcases h1 with h1 | h1
        · exact Or.inl h1
        · exact Or.inr (List.mem_cons_of_mem _ h1)
      · rcases List.mem_cons.1 hv with rfl | hv
        · exact pre_ord.trans _ _ _ (by omega) h2
        · exact h3 v hv
theorem ord_le_eq {a b : Val} (h1 : ord a b ≤ 0) (h2 : ord b a ≤ 0) : a = b := (ord_zero a b).1 (by have := (pre_ord.anti b a).1 h2; omega)
theorem minV_mem {l : List Val} (h : l ≠ []) : minV l ∈ l ∧ ∀ v ∈ l, ord (minV l) v ≤ 0 := by
  cases l with
  | nil => exact absurd rfl h
  | cons x l =>
    obtain ⟨h1, h2, h3⟩ := minF_spec l x
    refine ⟨?_, fun v hv => ?_⟩
    · rcases h1 with h1 | h1
      · show minF x l ∈ _; rw [h1]; exact List.mem_cons_self
      · exact List.mem_cons_of_mem _ h1
    · rcases List.mem_cons.1 hv with rfl | hv
      · exact h2
      · exact h3 v hv
theorem maxV_mem {l : List Val} (h : l ≠ []) : maxV l ∈ l ∧ ∀ v ∈ l, ord v (maxV l) ≤ 0 := by
  cases l with
  | nil => exact absurd rfl h
  | cons x l =>
    obtain ⟨h1, h2, h3⟩ := maxF_spec l x
    refine ⟨?_, fun v hv => ?_⟩
    · rcases h1 with h1 | h1
      · show maxF x l ∈ _; rw [h1]; exact List.mem_cons_self
      · exact List.mem_cons_of_mem _ h1
    · rcases List.mem_cons.1 hv with rfl | hv
      · exact h2
      · exact h3 v hv
/-- The first and the last of what is known. -/
def firstV (l : List Val) : Val := l.headD nullV
def finalV (l : List Val) : Val := l.getLastD nullV
theorem ends_law (col : Int) (rows : List (List Val)) : minV (knownC col rows) = firstV (knownC col (sortR [⟨col, false⟩] rows)) ∧ maxV (knownC col rows) = finalV (knownC col (sortR [⟨col, false⟩] rows)) := by
  have hp : (knownC col (sortR [⟨col, false⟩] rows)).Perm (knownC col rows) := ((Stab.isort_perm (lt := ltOf (cmpR [⟨col, false⟩])) rows).map _).filter _
  have hs : (knownC col (sortR [⟨col, false⟩] rows)).Pairwise (fun a b => ord a b ≤ 0) := by
    refine List.Pairwise.filter _ ?_
    rw [List.pairwise_map]
    refine List.Pairwise.imp ?_ (isort_pw' (swo_cmpR [⟨col, false⟩]) rows)
    intro a b h
    have h1 : ¬ cmpR [⟨col, false⟩] b a < 0 := by simpa [ltOf] using h
    have e : cmpR [⟨col, false⟩] b a = ord (atV b col) (atV a col) := by simp only [cmpR]; split <;> simp_all
    rw [e] at h1
    exact (pre_ord.anti _ _).2 (by omega)
  generalize knownC col (sortR [⟨col, false⟩] rows) = S at hp hs
  by_cases h : knownC col rows = []
  · rw [h] at hp ⊢
    rw [hp.eq_nil]
    exact ⟨rfl, rfl⟩
  · have hS : S ≠ [] := fun e => h (by rw [e] at hp; exact hp.symm.eq_nil)
    obtain ⟨m1, m2⟩ := minV_mem h
    obtain ⟨x1, x2⟩ := maxV_mem h
    constructor
    · cases S with
      | nil => exact absurd rfl hS
      | cons a S =>
        rw [List.pairwise_cons] at hs
        refine ord_le_eq (m2 a (hp.subset List.mem_cons_self)) ?_
        rcases List.mem_cons.1 (hp.symm.subset m1) with e | hm
        · rw [e]; show ord a a ≤ 0; rw [(ord_zero a a).2 rfl]; exact Int.le_refl _
        · exact hs.1 _ hm
    · obtain ⟨S', a, rfl⟩ : ∃ S' a, S = S' ++ [a] := ⟨S.dropLast, S.getLast hS, (List.dropLast_concat_getLast hS).symm⟩
      have e : finalV (S' ++ [a]) = a := by simp [finalV]
      rw [e]
      rw [List.pairwise_append] at hs
      refine ord_le_eq ?_ (x2 a (hp.subset (by simp)))
      rcases List.mem_append.1 (hp.symm.subset x1) with hm | hm
      · exact hs.2.2 _ hm a (by simp)
      · rw [List.mem_singleton.1 hm, (ord_zero a a).2 rfl]; exact Int.le_refl _
end Go.Proofs.Ytkfoknjflpklpaa.P
