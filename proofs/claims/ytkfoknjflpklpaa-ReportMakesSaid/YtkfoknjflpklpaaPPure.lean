/- Reports: what comes out of rows, over plain lists. -/
import Derived.Test.YtkfoknjflpklpaaDTy
import Derived.Test.YtkfoknjflpklpaaCmp
import Derived.Test.YtkfoknjflpklpaaStabSpec
import Derived.Sort.Walk0
import Derived.Shelf.SlSortCmp.Kit1
namespace Go.Proofs.Ytkfoknjflpklpaa.P
open Go Go.RowKit Go.Sort Go.Proofs.Ytkfoknjflpklpaa.Mem Go.Proofs.Ytkfoknjflpklpaa.Cmp Go.Proofs.Ytkfoknjflpklpaa.Stab Go.Proofs.Ytkfoknjflpklpaa.D

/-! ### strings -/
theorem ltS_iff (a b : ByteArray) : ltS a b = true ↔ a.toList < b.toList := by unfold ltS; rw [bytesLess_eq]; simp
theorem ltS_irrefl (a : ByteArray) : ltS a a = false := by
  cases h : ltS a a with
  | false => rfl
  | true => exact absurd ((ltS_iff a a).1 h) (List.lt_irrefl _)
theorem ltS_trans {a b c : ByteArray} (h1 : ltS a b = true) (h2 : ltS b c = true) : ltS a c = true := (ltS_iff a c).2 (List.lt_trans ((ltS_iff a b).1 h1) ((ltS_iff b c).1 h2))
theorem toList_inj {a b : ByteArray} (h : a.toList = b.toList) : a = b := by
  have h1 : a.data.toList = b.data.toList := by rw [← ByteArray.toList_eq, ← ByteArray.toList_eq]; exact h
  cases a; cases b
  simp only at h1
  congr 1
  exact Array.toList_inj.1 h1
theorem ltS_tri {a b : ByteArray} (h1 : ltS a b = false) (h2 : ltS b a = false) : a = b := by
  refine toList_inj (List.le_antisymm ?_ ?_)
  · rw [← List.not_lt]; intro h; rw [(ltS_iff b a).2 h] at h2; cases h2
  · rw [← List.not_lt]; intro h; rw [(ltS_iff a b).2 h] at h1; cases h1
theorem ltS_asymm {a b : ByteArray} (h : ltS a b = true) : ltS b a = false := by
  cases h2 : ltS b a with
  | false => rfl
  | true => have := ltS_trans h h2; rw [ltS_irrefl] at this; cases this

/-! ### comparisons -/
structure Pre {α : Type} (c : α → α → Int) : Prop where
  anti : ∀ a b, c a b ≤ 0 ↔ 0 ≤ c b a
  trans : ∀ a b d, c a b ≤ 0 → c b d ≤ 0 → c a d ≤ 0

section
variable {α β : Type} {c c' : α → α → Int}
theorem Pre.neg' (h : Pre c) (a b : α) : c a b < 0 ↔ 0 < c b a := by
  have := h.anti b a
  omega
theorem Pre.swo (h : Pre c) : SWO (ltOf c) where
  irrefl x := by
    have := h.anti x x
    simp only [ltOf, decide_eq_false_iff_not]; omega
  trans x y z h1 h2 := by
    simp only [ltOf, decide_eq_true_eq] at *
    have h3 := h.trans x y z (by omega) (by omega)
    rcases Int.lt_or_eq_of_le h3 with h4 | h4
    · exact h4
    · exfalso
      have h5 := (h.anti z x).2 (by omega)
      have h6 := h.trans y z x (by omega) h5
      have h7 := (h.neg' x y).1 h1
      omega
  ntrans x y z h1 h2 := by
    simp only [ltOf, decide_eq_false_iff_not] at *
    have a1 := (h.anti y x).2 (by omega)
    have a2 := (h.anti z y).2 (by omega)
    have a3 := h.trans z y x a2 a1
    have a4 := (h.anti z x).1 a3
    omega
theorem Pre.comap (h : Pre c) (f : β → α) : Pre (fun a b => c (f a) (f b)) := ⟨fun _ _ => h.anti _ _, fun _ _ _ => h.trans _ _ _⟩
theorem Pre.flip (h : Pre c) : Pre (fun a b => -c a b) := ⟨fun a b => by have := h.anti b a; omega, fun a b d h1 h2 => by
  have a1 := (h.anti b a).2 (by omega)
  have a2 := (h.anti d b).2 (by omega)
  have a3 := (h.anti d a).1 (h.trans d b a a2 a1)
  omega⟩
theorem Pre.zero : Pre (fun _ _ : α => 0) := ⟨fun _ _ => by simp, fun _ _ _ _ _ => by simp⟩
theorem Pre.lex (h : Pre c) (h' : Pre c') : Pre (fun a b => if c a b ≠ 0 then c a b else c' a b) := ⟨fun a b => by
  have a1 := h.anti a b
  have a2 := h.anti b a
  have a3 := h'.anti a b
  show (if c a b ≠ 0 then c a b else c' a b) ≤ 0 ↔ 0 ≤ (if c b a ≠ 0 then c b a else c' b a)
  split <;> split <;> omega, fun a b d h1 h2 => by
  have e1 := h.trans a b d
  have e2 := h.trans d a b
  have e3 := h.trans b d a
  have e4 := h'.trans a b d
  have a1 := h.anti a b
  have a2 := h.anti b a
  have a3 := h.anti b d
  have a4 := h.anti d b
  have a5 := h.anti a d
  have a6 := h.anti d a
  show (if c a d ≠ 0 then c a d else c' a d) ≤ 0
  have h1' : (if c a b ≠ 0 then c a b else c' a b) ≤ 0 := h1
  have h2' : (if c b d ≠ 0 then c b d else c' b d) ≤ 0 := h2
  clear h1 h2
  split at h1' <;> split at h2' <;> split <;> omega⟩
end

theorem pre_compareI : Pre compareI := ⟨fun a b => by unfold compareI; split <;> split <;> (try split) <;> (try split) <;> omega, fun a b d => by
  unfold compareI; intro h1 h2
  split at h1 <;> (try split at h1) <;> split at h2 <;> (try split at h2) <;> split <;> (try split) <;> omega⟩
theorem compareI_zero (a b : Int) : compareI a b = 0 ↔ a = b := by unfold compareI; split <;> (try split) <;> omega
theorem compareS_zero (a b : ByteArray) : compareS a b = 0 ↔ a = b := by
  unfold compareS
  split
  · rename_i h
    constructor
    · intro h2; simp at h2
    · rintro rfl; rw [ltS_irrefl] at h; cases h
  · split <;> simp_all
theorem pre_compareS : Pre compareS := by
  have key : ∀ a b, compareS a b ≤ 0 ↔ ltS b a = false := fun a b => by
    unfold compareS
    by_cases h : ltS a b = true
    · simp [h, ltS_asymm h]
    · by_cases e : a = b
      · subst e; simp [ltS_irrefl]
      · have : ltS b a = true := by
          cases h2 : ltS b a with
          | true => rfl
          | false => exact absurd (ltS_tri (by simpa using h) h2) e
        simp [h, e, this]
  have key2 : ∀ a b, 0 ≤ compareS b a ↔ ltS b a = false := fun a b => by
    unfold compareS
    cases h : ltS b a with
    | true => simp
    | false => simp only [Bool.false_eq_true, if_false, iff_true]; split <;> simp
  refine ⟨fun a b => by rw [key, key2], fun a b d h1 h2 => ?_⟩
  rw [key] at *
  cases h3 : ltS d a with
  | false => rfl
  | true =>
    exfalso
    by_cases e : ltS a b = true
    · have := ltS_trans h3 e; rw [h2] at this; cases this
    · have := ltS_tri (by simpa using e) h1; subst this; rw [h2] at h3; cases h3

/-! ### values -/
def nullV : Val := ⟨0, 0, ⟨#[]⟩⟩
def right (v : Val) : Bool :=
  if v.kind = 0 then decide (v.n = 0) && decide (v.s.size = 0)
  else if v.kind = 1 then (decide (v.n = 0) || decide (v.n = 1)) && decide (v.s.size = 0)
  else if v.kind = 2 then decide (v.s.size = 0)
  else decide (v.kind = 3) && (decide (v.n = 0) && decide (v.s.size ≤ 24))
def or3 (x y z : Int) : Int := if x ≠ 0 then x else if y ≠ 0 then y else z
def ord (a b : Val) : Int := or3 (compareI a.kind b.kind) (compareI a.n b.n) (compareS a.s b.s)

theorem pre_ord : Pre ord := (pre_compareI.comap Val.kind).lex ((pre_compareI.comap Val.n).lex (pre_compareS.comap Val.s))
theorem ord_zero (a b : Val) : ord a b = 0 ↔ a = b := by
  unfold ord or3
  have h1 := compareI_zero a.kind b.kind
  have h2 := compareI_zero a.n b.n
  have h3 := compareS_zero a.s b.s
  constructor
  · intro h
    split at h
    · contradiction
    · split at h
      · contradiction
      · rename_i e1 e2
        cases a; cases b
        simp only [ne_eq, Decidable.not_not] at *
        rw [h1] at e1; rw [h2] at e2; rw [h3] at h
        subst e1; subst e2; subst h; rfl
  · rintro rfl
    simp [h1.2 rfl, h2.2 rfl, h3.2 rfl]
theorem ord_range (a b : Val) : -1 ≤ ord a b ∧ ord a b ≤ 1 := by
  have h1 := compareI_range a.kind b.kind
  have h2 := compareI_range a.n b.n
  have h3 := compareS_range a.s b.s
  unfold ord or3
  split
  · exact h1
  · split
    · exact h2
    · exact h3
/-- The document's order. -/
def refOrd (a b : Val) : Int := if a = b then 0 else if (if a.kind = b.kind then (decide (a.n < b.n) || (decide (a.n = b.n) && ltS a.s b.s)) else decide (a.kind < b.kind)) = true then -1 else 1
theorem refOrd_eq (a b : Val) : refOrd a b = ord a b := by
  unfold refOrd
  by_cases e : a = b
  · rw [if_pos e, (ord_zero a b).2 e]
  · rw [if_neg e]
    unfold ord or3
    by_cases hk : a.kind = b.kind
    · rw [if_pos hk, (compareI_zero _ _).2 hk]
      by_cases hn : a.n = b.n
      · rw [(compareI_zero _ _).2 hn]
        have hs : a.s ≠ b.s := fun h => e (by cases a; cases b; simp only at *; subst hk; subst hn; subst h; rfl)
        unfold compareS
        by_cases hl : ltS a.s b.s = true
        · simp [hn, hl]
        · simp [hn, hl, hs]
      · unfold compareI
        by_cases hl : a.n < b.n
        · simp [hl]
        · have : b.n < a.n := by omega
          simp [hl, hn, this]
    · rw [if_neg hk]
      unfold compareI
      by_cases hl : a.kind < b.kind
      · simp [hl]
      · have : b.kind < a.kind := by omega
        simp [hl, this]

/-- A number fits an int. -/
def fits (n : Int) : Bool := decide (-9223372036854775808 ≤ n) && decide (n ≤ 9223372036854775807)
/-- a + b, and the error's number. -/
def plus (a b : Val) : Val × Int :=
  if (right a && right b) = false then (nullV, 15)
  else if a.kind = 0 ∨ b.kind = 0 then (nullV, 0)
  else if a.kind = 3 ∧ b.kind = 3 then (if a.s.size + b.s.size > 24 then (nullV, 8) else (⟨3, 0, a.s ++ b.s⟩, 0))
  else if a.kind ≠ 2 ∨ b.kind ≠ 2 then (nullV, 4)
  else if fits (a.n + b.n) = true then (⟨2, a.n + b.n, ⟨#[]⟩⟩, 0) else (nullV, 7)

/-! ### rows -/
structure Key where
  col : Int
  down : Bool
structure Smm where
  kind : Int
  col : Int
structure Spc where
  cols : List Int
  sums : List Smm
  order : List Key
  limit : Int

def atV (r : List Val) (c : Int) : Val := if 0 ≤ c ∧ c < (r.length : Int) then r.getD c.toNat nullV else nullV
def cell (rows : List (List Val)) (i : Nat) (c : Int) : Val := atV (rows.getD i []) c
def cmpR : List Key → List Val → List Val → Int
  | [], _, _ => 0
  | k :: ks, a, b => if (if k.down = true then -ord (atV a k.col) (atV b k.col) else ord (atV a k.col) (atV b k.col)) ≠ 0 then (if k.down = true then -ord (atV a k.col) (atV b k.col) else ord (atV a k.col) (atV b k.col)) else cmpR ks a b
theorem pre_cmpR : ∀ ks, Pre (cmpR ks)
  | [] => Pre.zero
  | k :: ks => by
    have h0 : Pre (fun a b => if k.down = true then -ord (atV a k.col) (atV b k.col) else ord (atV a k.col) (atV b k.col)) := by
      cases k.down
      · simpa using pre_ord.comap (fun a => atV a k.col)
      · simpa using (pre_ord.comap (fun a => atV a k.col)).flip
    exact h0.lex (pre_cmpR ks)
theorem swo_cmpR (ks : List Key) : SWO (ltOf (cmpR ks)) := (pre_cmpR ks).swo

def sortR (ks : List Key) (rows : List (List Val)) : List (List Val) := isort (ltOf (cmpR ks)) rows

/-! ### the sort by insertion from the end -/
section
variable {α : Type} {lt : α → α → Bool}
/-- How far x goes ahead, from place n. -/
def scan (lt : α → α → Bool) (x : α) (out : List α) : Nat → Nat
  | 0 => 0
  | n + 1 => if (out[n]?.map (lt x)).getD false = true then scan lt x out n else n + 1
theorem scan_le (x : α) (out : List α) : ∀ n, scan lt x out n ≤ n
  | 0 => Nat.le_refl _
  | n + 1 => by unfold scan; split; exact Nat.le_succ_of_le (scan_le x out n); exact Nat.le_refl _
def refIns (lt : α → α → Bool) (out : List α) (x : α) : List α := out.take (scan lt x out out.length) ++ x :: out.drop (scan lt x out out.length)
def refSort (lt : α → α → Bool) (l : List α) : List α := l.foldl (refIns lt) []

theorem asymm' (hr : SWO lt) {x y : α} (h : lt x y = true) : lt y x = false := by
  cases h2 : lt y x with
  | false => rfl
  | true => have := hr.trans _ _ _ h h2; rw [hr.irrefl] at this; cases this
theorem ins_pw' (hr : SWO lt) (x : α) : ∀ out : List α, out.Pairwise (fun a b => lt b a = false) → (ins lt x out).Pairwise (fun a b => lt b a = false)
  | [], _ => by simp [ins]
  | y :: out, h => by
    rw [List.pairwise_cons] at h
    unfold ins
    split
    · next hl =>
      rw [List.pairwise_cons]
      refine ⟨fun z hz => ?_, List.pairwise_cons.2 h⟩
      rcases List.mem_cons.1 hz with rfl | hz
      · exact asymm' hr hl
      · cases hzx : lt z x with
        | false => rfl
        | true => have := hr.trans _ _ _ hzx hl; rw [h.1 z hz] at this; cases this
    · next hl =>
      rw [List.pairwise_cons]
      refine ⟨fun z hz => ?_, ins_pw' hr x out h.2⟩
      rcases List.mem_cons.1 ((ins_perm (lt := lt) x out).subset hz) with rfl | hz
      · simpa using hl
      · exact h.1 z hz
theorem foldl_pw (hr : SWO lt) : ∀ (l out : List α), out.Pairwise (fun a b => lt b a = false) → (l.foldl (fun out x => ins lt x out) out).Pairwise (fun a b => lt b a = false)
  | [], _, h => h
  | x :: l, out, h => foldl_pw hr l _ (ins_pw' hr x out h)
theorem isort_pw' (hr : SWO lt) (l : List α) : (isort lt l).Pairwise (fun a b => lt b a = false) := foldl_pw hr l [] List.Pairwise.nil

/-- In a sorted list: ahead of the first that x stands ahead of. -/
theorem ins_split (x : α) : ∀ (a b : List α), (∀ y ∈ a, lt x y = false) → (∀ y, b.head? = some y → lt x y = true) → ins lt x (a ++ b) = a ++ x :: b
  | [], [], _, _ => rfl
  | [], y :: b, _, h => by simp [ins, h y rfl]
  | y :: a, b, h, h2 => by
    simp only [List.cons_append, ins, h y List.mem_cons_self, Bool.false_eq_true, if_false]
    rw [ins_split x a b (fun z hz => h z (List.mem_cons_of_mem _ hz)) h2]
theorem scan_spec (hr : SWO lt) (x : α) (out : List α) (hp : out.Pairwise (fun a b => lt b a = false)) : ∀ n, n ≤ out.length → (∀ (y : α) (i : Nat), scan lt x out n ≤ i → i < n → out[i]? = some y → lt x y = true) ∧ (∀ (y : α) (i : Nat), i < scan lt x out n → out[i]? = some y → lt x y = false)
  | 0, _ => ⟨fun y i _ h => by omega, fun y i h => by simp [scan] at h⟩
  | n + 1, hn => by
    obtain ⟨z, hz⟩ : ∃ z, out[n]? = some z := ⟨_, List.getElem?_eq_getElem (by omega)⟩
    have ih := scan_spec hr x out hp n (by omega)
    unfold scan
    simp only [hz, Option.map_some, Option.getD_some]
    by_cases h : lt x z = true
    · rw [if_pos h]
      refine ⟨fun y i h1 h2 h3 => ?_, ih.2⟩
      rcases Nat.lt_or_ge i n with h4 | h4
      · exact ih.1 y i h1 h4 h3
      · obtain rfl : i = n := by omega
        rw [hz] at h3; obtain rfl := Option.some.inj h3; exact h
    · rw [if_neg h]
      refine ⟨fun y i h1 h2 => by omega, fun y i h1 h2 => ?_⟩
      rcases Nat.lt_or_ge i n with h4 | h4
      · obtain ⟨hi, e1⟩ := List.getElem?_eq_some_iff.1 h2
        obtain ⟨hz1, e2⟩ := List.getElem?_eq_some_iff.1 hz
        have := List.pairwise_iff_getElem.1 hp i n hi hz1 h4
        rw [e1, e2] at this
        exact hr.ntrans _ _ _ (by simpa using h) this
      · obtain rfl : i = n := by omega
        rw [hz] at h2; obtain rfl := Option.some.inj h2; simpa using h
theorem refIns_eq (hr : SWO lt) (x : α) (out : List α) (hp : out.Pairwise (fun a b => lt b a = false)) : refIns lt out x = ins lt x out := by
  obtain ⟨h1, h2⟩ := scan_spec hr x out hp out.length (Nat.le_refl _)
  have := ins_split (lt := lt) x (out.take (scan lt x out out.length)) (out.drop (scan lt x out out.length)) (fun y hy => by
    obtain ⟨i, hi, rfl⟩ := List.mem_iff_getElem.1 hy
    rw [List.length_take] at hi
    rw [List.getElem_take]
    exact h2 _ i (by omega) (List.getElem?_eq_getElem (by omega))) (fun y hy => by
    rw [List.head?_drop] at hy
    exact h1 y _ (Nat.le_refl _) (List.getElem?_eq_some_iff.1 hy).1 hy)
  rw [List.take_append_drop] at this
  rw [this]; rfl
theorem refSort_eq (hr : SWO lt) (l : List α) : refSort lt l = isort lt l := by
  have key : ∀ (l out : List α), out.Pairwise (fun a b => lt b a = false) → l.foldl (refIns lt) out = l.foldl (fun out x => ins lt x out) out := by
    intro l
    induction l with
    | nil => intro out _; rfl
    | cons x l ih => intro out h; rw [List.foldl_cons, List.foldl_cons, refIns_eq hr x out h]; exact ih _ (ins_pw' hr x out h)
  exact key l [] List.Pairwise.nil
/-- What is sorted stays. -/
theorem isort_id (_ : SWO lt) (l : List α) (hp : l.Pairwise (fun a b => lt b a = false)) : isort lt l = l := by
  have key : ∀ (l out : List α), (out ++ l).Pairwise (fun a b => lt b a = false) → l.foldl (fun out x => ins lt x out) out = out ++ l := by
    intro l
    induction l with
    | nil => intro out _; simp
    | cons x l ih =>
      intro out h
      rw [List.foldl_cons]
      have h1 := List.pairwise_append.1 h
      have e : ins lt x out = out ++ [x] := by
        have := ins_split (lt := lt) x out [] (fun y hy => h1.2.2 y hy x List.mem_cons_self) (fun y hy => by simp at hy)
        simpa using this
      rw [e, ih _ (by simpa using h)]
      simp
  exact (key l [] (by simpa using hp)).trans (by simp)
end
theorem sortR_sortR (ks : List Key) (rows : List (List Val)) : sortR ks (sortR ks rows) = sortR ks rows := isort_id (swo_cmpR ks) _ (isort_pw' (swo_cmpR ks) _)
end Go.Proofs.Ytkfoknjflpklpaa.P
