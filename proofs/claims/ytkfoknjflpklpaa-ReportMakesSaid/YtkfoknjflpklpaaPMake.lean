/- Reports: groups, sums, and what is made of rows, over plain lists; the laws of what is made. -/
import Derived.Test.YtkfoknjflpklpaaPPure
namespace Go.Proofs.Ytkfoknjflpklpaa.P
open Go Go.RowKit Go.Sort Go.Proofs.Ytkfoknjflpklpaa.Mem Go.Proofs.Ytkfoknjflpklpaa.Cmp Go.Proofs.Ytkfoknjflpklpaa.Stab Go.Proofs.Ytkfoknjflpklpaa.D

/-! ### groups -/
section
variable (p : Nat → Nat → Bool)
def insG (i : Nat) : List (List Nat) → List (List Nat)
  | [] => [[i]]
  | g :: gs => if p (g.headD 0) i = true then (g ++ [i]) :: gs else g :: insG i gs
def groupsN (n : Nat) : List (List Nat) := (List.range n).foldl (fun gs i => insG p i gs) []
def firsts (n : Nat) : List Nat := (List.range n).filter (fun i => (List.range i).all (fun k => !p k i))
def grp (n i : Nat) : List Nat := (List.range n).filter (fun k => decide (i ≤ k) && p k i)
def refG (n : Nat) : List (List Nat) := (firsts p n).map (grp p n)
end
section
variable {p : Nat → Nat → Bool}
structure Eqv (p : Nat → Nat → Bool) : Prop where
  refl : ∀ i, p i i = true
  symm : ∀ i j, p i j = true → p j i = true
  trans : ∀ i j k, p i j = true → p j k = true → p i k = true

theorem groupsN_succ (n : Nat) : groupsN p (n + 1) = insG p n (groupsN p n) := by unfold groupsN; rw [List.range_succ, List.foldl_append]; rfl
theorem firsts_succ (n : Nat) : firsts p (n + 1) = firsts p n ++ (if (List.range n).all (fun k => !p k n) = true then [n] else []) := by
  unfold firsts
  rw [List.range_succ, List.filter_append, List.filter_cons, List.filter_nil]
theorem grp_succ (n i : Nat) (h : i ≤ n) : grp p (n + 1) i = grp p n i ++ (if p n i = true then [n] else []) := by
  unfold grp
  rw [List.range_succ, List.filter_append, List.filter_cons, List.filter_nil, decide_eq_true h, Bool.true_and]
theorem mem_firsts {n i : Nat} : i ∈ firsts p n ↔ i < n ∧ ∀ k, k < i → p k i = false := by
  unfold firsts
  simp [List.mem_filter, List.all_eq_true]
theorem firsts_apart (h : Eqv p) {n i j : Nat} (hi : i ∈ firsts p n) (hj : j ∈ firsts p n) (hp : p i j = true) : i = j := by
  rw [mem_firsts] at hi hj
  rcases Nat.lt_trichotomy i j with h1 | h1 | h1
  · have := hj.2 i h1; rw [this] at hp; cases hp
  · exact h1
  · have := hi.2 j h1; rw [h.symm _ _ hp] at this; cases this
theorem rep (h : Eqv p) (n : Nat) : ∀ k, k < n → ∃ i, i ∈ firsts p n ∧ p i k = true := by
  intro k
  induction k using Nat.strongRecOn with
  | _ k ih =>
    intro hk
    by_cases hf : k ∈ firsts p n
    · exact ⟨k, hf, h.refl k⟩
    · rw [mem_firsts] at hf
      have : ∃ j, j < k ∧ p j k = true := by
        by_cases hh : ∃ j, j < k ∧ p j k = true
        · exact hh
        · exact absurd ⟨hk, fun j hj => by
            cases hpj : p j k with
            | false => rfl
            | true => exact absurd ⟨j, hj, hpj⟩ hh⟩ hf
      obtain ⟨j, hj, hpj⟩ := this
      obtain ⟨i, hi, hpi⟩ := ih j hj (by omega)
      exact ⟨i, hi, h.trans _ _ _ hpi hpj⟩
theorem grp_head (h : Eqv p) {n i : Nat} (hi : i < n) : (grp p n i).headD 0 = i := by
  have hs : (List.range n) = List.range i ++ (i :: (List.range (n - i - 1)).map (· + (i + 1))) := by
    have e := List.range_add (n := i) (m := n - i)
    rw [show i + (n - i) = n by omega] at e
    rw [e]
    congr 1
    obtain ⟨m, hm⟩ : ∃ m, n - i = m + 1 := ⟨n - i - 1, by omega⟩
    rw [hm, List.range_succ_eq_map]
    simp only [List.map_cons, List.map_map, Nat.add_zero, Nat.add_sub_cancel]
    congr 1
    apply List.map_congr_left
    intro a _
    simp only [Function.comp]
    omega
  unfold grp
  rw [hs, List.filter_append]
  have : (List.range i).filter (fun k => decide (i ≤ k) && p k i) = [] := by
    rw [List.filter_eq_nil_iff]
    intro a ha
    have := List.mem_range.1 ha
    simp; omega
  rw [this, List.nil_append, List.filter_cons]
  simp [h.refl i]
theorem insG_map (n : Nat) (G : Nat → List Nat) (hsym : ∀ i, p i n = p n i) : ∀ (F : List Nat), (∀ i ∈ F, (G i).headD 0 = i) → F.Pairwise (fun i j => ¬ (p i n = true ∧ p j n = true)) →
    insG p n (F.map G) = F.map (fun i => G i ++ (if p n i = true then [n] else [])) ++ (if F.all (fun i => !p i n) = true then [[n]] else [])
  | [], _, _ => rfl
  | i :: F, hh, hp => by
    rw [List.pairwise_cons] at hp
    rw [List.map_cons, List.map_cons, insG, hh i List.mem_cons_self]
    by_cases h1 : p i n = true
    · rw [if_pos h1, ← hsym i, if_pos h1, List.all_cons, h1]
      simp only [Bool.not_true, Bool.false_and, Bool.false_eq_true, if_false, List.append_nil]
      congr 1
      apply List.map_congr_left
      intro j hj
      have : p n j = false := by
        rw [← hsym]
        cases hpj : p j n with
        | false => rfl
        | true => exact absurd ⟨h1, hpj⟩ (hp.1 j hj)
      simp [this]
    · have h1' : p i n = false := by simpa using h1
      rw [if_neg h1, ← hsym i, if_neg h1, List.all_cons, h1', insG_map n G hsym F (fun j hj => hh j (List.mem_cons_of_mem _ hj)) hp.2]
      simp
theorem groups_eq (h : Eqv p) : ∀ n, groupsN p n = refG p n
  | 0 => rfl
  | n + 1 => by
    have hsym : ∀ i, p i n = p n i := fun i => by
      rw [Bool.eq_iff_iff]; exact ⟨h.symm _ _, h.symm _ _⟩
    have hmem : ∀ i ∈ firsts p n, i < n := fun i hi => (mem_firsts.1 hi).1
    rw [groupsN_succ, groups_eq h n, refG, insG_map n (grp p n) hsym _ (fun i hi => grp_head h (hmem i hi))]
    · have hall : (firsts p n).all (fun i => !p i n) = (List.range n).all (fun k => !p k n) := by
        rw [Bool.eq_iff_iff, List.all_eq_true, List.all_eq_true]
        constructor
        · intro hh k hk
          obtain ⟨i, hi, hpi⟩ := rep h n k (List.mem_range.1 hk)
          have := hh i hi
          cases hpk : p k n with
          | false => rfl
          | true => rw [h.trans _ _ _ hpi hpk] at this; cases this
        · intro hh i hi
          exact hh i (List.mem_range.2 (hmem i hi))
      rw [hall, refG, firsts_succ, List.map_append]
      congr 1
      · apply List.map_congr_left
        intro i hi
        rw [grp_succ n i (Nat.le_of_lt (hmem i hi))]
      · split
        · rename_i ha
          have e : grp p n n = [] := by
            unfold grp
            rw [List.filter_eq_nil_iff]
            intro a ha
            have := List.mem_range.1 ha
            simp; omega
          simp [grp_succ n n (Nat.le_refl _), e, h.refl n]
        · rfl
    · have hnd : (firsts p n).Pairwise (fun i j => i ≠ j) := by
        unfold firsts
        exact (List.Pairwise.imp (fun h => Nat.ne_of_lt h) List.pairwise_lt_range).filter _
      refine List.Pairwise.imp_of_mem (fun {i j} hi hj hne hh => hne (firsts_apart h hi hj (h.trans _ _ _ hh.1 (h.symm _ _ hh.2)))) hnd

theorem insG_flat (i : Nat) : ∀ gs, (insG p i gs).flatten.Perm (i :: gs.flatten)
  | [] => by simp [insG]
  | g :: gs => by
    unfold insG
    split
    · simp only [List.flatten_cons, List.append_assoc, List.singleton_append]
      exact List.perm_middle
    · simp only [List.flatten_cons]
      exact ((insG_flat i gs).append_left g).trans List.perm_middle
theorem groupsN_flat : ∀ n, (groupsN p n).flatten.Perm (List.range n)
  | 0 => List.Perm.refl _
  | n + 1 => by
    rw [groupsN_succ, List.range_succ]
    exact (insG_flat n _).trans (((groupsN_flat n).cons n).trans (by simpa using (List.perm_append_comm (l₁ := [n]) (l₂ := List.range n))))
theorem insG_ne (i : Nat) : ∀ gs : List (List Nat), (∀ g ∈ gs, g ≠ []) → ∀ g ∈ insG p i gs, g ≠ []
  | [], _, g, hg => by simp only [insG, List.mem_singleton] at hg; subst hg; simp
  | g0 :: gs, h, g, hg => by
    unfold insG at hg
    split at hg
    · rcases List.mem_cons.1 hg with rfl | hg
      · simp
      · exact h g (List.mem_cons_of_mem _ hg)
    · rcases List.mem_cons.1 hg with rfl | hg
      · exact h _ List.mem_cons_self
      · exact insG_ne i gs (fun g hg => h g (List.mem_cons_of_mem _ hg)) g hg
theorem groupsN_ne : ∀ n, ∀ g ∈ groupsN p n, g ≠ []
  | 0, g, hg => by simp [groupsN] at hg
  | n + 1, g, hg => by rw [groupsN_succ] at hg; exact insG_ne n _ (groupsN_ne n) g hg
theorem groupsN_lt {n : Nat} {g : List Nat} (hg : g ∈ groupsN p n) {i : Nat} (hi : i ∈ g) : i < n := List.mem_range.1 ((groupsN_flat n).subset (List.mem_flatten.2 ⟨g, hg, hi⟩))
end

/-- Are two rows in one group? -/
def alikeV (cols : List Int) (a b : List Val) : Bool := cols.all (fun c => decide (atV a c = atV b c))
theorem alike_eqv (cols : List Int) (rows : List (List Val)) : Eqv (fun i j => alikeV cols (rows.getD i []) (rows.getD j [])) where
  refl i := by simp [alikeV]
  symm i j h := by
    simp only [alikeV, List.all_eq_true, decide_eq_true_eq] at *
    exact fun c hc => (h c hc).symm
  trans i j k h1 h2 := by
    simp only [alikeV, List.all_eq_true, decide_eq_true_eq] at *
    exact fun c hc => (h1 c hc).trans (h2 c hc)
def groupsR (rows : List (List Val)) (cols : List Int) : List (List Nat) := groupsN (fun i j => alikeV cols (rows.getD i []) (rows.getD j [])) rows.length

/-! ### sums -/
def knownR (rows : List (List Val)) (g : List Nat) (c : Int) : List Val := (g.map fun i => cell rows i c).filter (fun v => decide (v.kind ≠ 0))
def minF : Val → List Val → Val := List.foldl (fun m v => if ord v m < 0 then v else m)
def maxF : Val → List Val → Val := List.foldl (fun m v => if 0 < ord v m then v else m)
def totalF : Val → List Val → Val × Int
  | s, [] => (s, 0)
  | s, v :: l => if (plus s v).2 = 0 then totalF (plus s v).1 l else (nullV, (plus s v).2)
def zeroOf (v : Val) : Val := if v.kind = 3 then ⟨3, 0, ⟨#[]⟩⟩ else ⟨2, 0, ⟨#[]⟩⟩
def totalR : List Val → Val × Int
  | [] => (nullV, 0)
  | v :: l => totalF (zeroOf v) (v :: l)
def numV (n : Nat) : Val := ⟨2, n, ⟨#[]⟩⟩
def sumR (rows : List (List Val)) (g : List Nat) (x : Smm) : Val × Int :=
  if x.kind = 1 then (numV g.length, 0)
  else if x.kind = 2 then (numV (knownR rows g x.col).length, 0)
  else match knownR rows g x.col with
    | [] => (nullV, 0)
    | v :: l => if x.kind = 4 then (minF v l, 0) else if x.kind = 5 then (maxF v l, 0) else totalR (v :: l)
def sumsR (rows : List (List Val)) (g : List Nat) : List Smm → List Val × Int
  | [] => ([], 0)
  | x :: xs => if (sumR rows g x).2 = 0 then (if (sumsR rows g xs).2 = 0 then ((sumR rows g x).1 :: (sumsR rows g xs).1, 0) else ([], (sumsR rows g xs).2)) else ([], (sumR rows g x).2)
def rowR (rows : List (List Val)) (s : Spc) (g : List Nat) : List Val × Int := ((s.cols.map fun c => cell rows (g.headD 0) c) ++ (sumsR rows g s.sums).1, (sumsR rows g s.sums).2)
def rowsR (rows : List (List Val)) (s : Spc) : List (List Nat) → List (List Val) × Int
  | [] => ([], 0)
  | g :: gs => if (rowR rows s g).2 = 0 then (if (rowsR rows s gs).2 = 0 then ((rowR rows s g).1 :: (rowsR rows s gs).1, 0) else ([], (rowsR rows s gs).2)) else ([], (rowR rows s g).2)

def Spc.plain (s : Spc) : Bool := decide (s.cols.length + s.sums.length = 0)
def Spc.width (s : Spc) (w : Nat) : Nat := if s.plain = true then w else s.cols.length + s.sums.length
def inC (w : Nat) (c : Int) : Bool := decide (0 ≤ c) && decide (c < (w : Int))
/-- May rows, and a spec over them, be? -/
def fine (rows : List (List Val)) (s : Spc) : Bool :=
  s.sums.all (fun x => decide (1 ≤ x.kind) && decide (x.kind ≤ 5)) &&
  match rows with
  | [] => true
  | r :: _ => rows.all (fun q => decide (q.length = r.length) && q.all right) && (s.cols.all (inC r.length) && (s.sums.all (fun x => decide (x.kind = 1) || inC r.length x.col) && s.order.all (fun k => inC (s.width r.length) k.col)))
def cut (n : Int) (l : List (List Val)) : List (List Val) := if 0 ≤ n ∧ n < (l.length : Int) then l.take n.toNat else l
def grouped (rows : List (List Val)) (s : Spc) : List (List Val) × Int :=
  if s.plain = true then (rows, 0) else rowsR rows s (if groupsR rows s.cols = [] ∧ s.cols = [] then [[]] else groupsR rows s.cols)
/-- What is made of rows; the error's number. -/
def makeR (rows : List (List Val)) (s : Spc) : List (List Val) × Int :=
  if fine rows s = false then ([], 15)
  else if (grouped rows s).2 = 0 then (cut s.limit (sortR s.order (grouped rows s).1), 0) else ([], (grouped rows s).2)

/-- The sums as the document reckons them: so many were known, and the best of them. -/
def refSum (k : Int) : Nat → Val → List Val → Val × Int
  | n, best, [] => (if k = 2 then numV n else best, 0)
  | n, best, v :: l => if v.kind = 0 then refSum k n best l
    else if k = 3 then (if (plus (if n = 0 then zeroOf v else best) v).2 = 0 then refSum k (n + 1) (plus (if n = 0 then zeroOf v else best) v).1 l else (nullV, (plus (if n = 0 then zeroOf v else best) v).2))
    else if n = 0 ∨ (k = 4 ∧ ord v best < 0) ∨ (k = 5 ∧ 0 < ord v best) then refSum k (n + 1) v l else refSum k (n + 1) best l
theorem refSum_known (k : Int) : ∀ (l : List Val) (n : Nat) (best : Val), refSum k n best l = refSum k n best (l.filter (fun v => decide (v.kind ≠ 0)))
  | [], _, _ => rfl
  | v :: l, n, best => by
    by_cases h : v.kind = 0
    · rw [List.filter_cons_of_neg (by simp [h]), refSum, if_pos h, refSum_known k l n best]
    · rw [List.filter_cons_of_pos (by simp [h]), refSum, if_neg h, refSum, if_neg h]
      simp only [refSum_known k l]
theorem refSum_two (l : List Val) (h : ∀ v ∈ l, v.kind ≠ 0) : ∀ (n : Nat) (best : Val), refSum 2 n best l = (numV (n + l.length), 0) := by
  induction l with
  | nil => intro n best; simp [refSum]
  | cons v l ih =>
    intro n best
    have h0 := h v List.mem_cons_self
    rw [refSum, if_neg h0, if_neg (by decide)]
    have e : n + 1 + l.length = n + (v :: l).length := by simp; omega
    split
    · rw [ih (fun v hv => h v (List.mem_cons_of_mem _ hv)), e]
    · rw [ih (fun v hv => h v (List.mem_cons_of_mem _ hv)), e]
theorem refSum_min (l : List Val) (h : ∀ v ∈ l, v.kind ≠ 0) : ∀ (n : Nat) (best : Val), n ≠ 0 → refSum 4 n best l = (minF best l, 0) := by
  induction l with
  | nil => intro n best _; simp [refSum, minF]
  | cons v l ih =>
    intro n best hn
    have h0 := h v List.mem_cons_self
    rw [refSum, if_neg h0, if_neg (by decide)]
    have e : minF best (v :: l) = minF (if ord v best < 0 then v else best) l := rfl
    rw [e]
    by_cases hh : ord v best < 0
    · rw [if_pos (Or.inr (Or.inl ⟨rfl, hh⟩)), if_pos hh]; exact ih (fun v hv => h v (List.mem_cons_of_mem _ hv)) _ _ (by omega)
    · rw [if_neg (by intro h3; rcases h3 with h3 | ⟨_, h3⟩ | ⟨h3, _⟩; exact hn h3; exact hh h3; exact absurd h3 (by decide)), if_neg hh]; exact ih (fun v hv => h v (List.mem_cons_of_mem _ hv)) _ _ (by omega)
theorem refSum_max (l : List Val) (h : ∀ v ∈ l, v.kind ≠ 0) : ∀ (n : Nat) (best : Val), n ≠ 0 → refSum 5 n best l = (maxF best l, 0) := by
  induction l with
  | nil => intro n best _; simp [refSum, maxF]
  | cons v l ih =>
    intro n best hn
    have h0 := h v List.mem_cons_self
    rw [refSum, if_neg h0, if_neg (by decide)]
    have e : maxF best (v :: l) = maxF (if 0 < ord v best then v else best) l := rfl
    rw [e]
    by_cases hh : 0 < ord v best
    · rw [if_pos (Or.inr (Or.inr ⟨rfl, hh⟩)), if_pos hh]; exact ih (fun v hv => h v (List.mem_cons_of_mem _ hv)) _ _ (by omega)
    · rw [if_neg (by intro h3; rcases h3 with h3 | ⟨h3, _⟩ | ⟨_, h3⟩; exact hn h3; exact absurd h3 (by decide); exact hh h3), if_neg hh]; exact ih (fun v hv => h v (List.mem_cons_of_mem _ hv)) _ _ (by omega)
theorem refSum_tot (l : List Val) (h : ∀ v ∈ l, v.kind ≠ 0) : ∀ (n : Nat) (best : Val), n ≠ 0 → refSum 3 n best l = totalF best l := by
  induction l with
  | nil => intro n best _; simp [refSum, totalF]
  | cons v l ih =>
    intro n best hn
    have h0 := h v List.mem_cons_self
    rw [refSum, if_neg h0, if_pos rfl, if_neg hn, totalF]
    split
    · exact ih (fun v hv => h v (List.mem_cons_of_mem _ hv)) _ _ (by omega)
    · rfl
theorem refSum_eq (rows : List (List Val)) (g : List Nat) (x : Smm) (h1 : 2 ≤ x.kind) (h2 : x.kind ≤ 5) : refSum x.kind 0 nullV (g.map fun i => cell rows i x.col) = sumR rows g x := by
  rw [refSum_known]
  have hk : ∀ v ∈ knownR rows g x.col, v.kind ≠ 0 := fun v hv => by simpa using (List.mem_filter.1 hv).2
  show refSum x.kind 0 nullV (knownR rows g x.col) = _
  unfold sumR
  rw [if_neg (by omega)]
  generalize knownR rows g x.col = l at hk ⊢
  by_cases h3 : x.kind = 2
  · rw [if_pos h3, h3, refSum_two l hk]; simp
  · rw [if_neg h3]
    cases l with
    | nil => simp [refSum, h3]
    | cons v l =>
      have h0 := hk v List.mem_cons_self
      have hk' := fun v hv => hk v (List.mem_cons_of_mem _ hv)
      dsimp only
      by_cases h4 : x.kind = 4
      · rw [if_pos h4, h4, refSum, if_neg h0, if_neg (by decide), if_pos (Or.inl rfl), refSum_min l hk' _ _ (by omega)]
      · rw [if_neg h4]
        by_cases h5 : x.kind = 5
        · rw [if_pos h5, h5, refSum, if_neg h0, if_neg (by decide), if_pos (Or.inl rfl), refSum_max l hk' _ _ (by omega)]
        · rw [if_neg h5]
          have h6 : x.kind = 3 := by omega
          rw [h6, refSum, if_neg h0, if_pos rfl, if_pos rfl, totalR, totalF]
          split
          · exact refSum_tot l hk' _ _ (by omega)
          · rfl
end Go.Proofs.Ytkfoknjflpklpaa.P
