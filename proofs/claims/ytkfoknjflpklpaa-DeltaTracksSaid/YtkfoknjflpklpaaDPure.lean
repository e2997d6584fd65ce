/- The order of rows; the net effect, by definition. -/
import Derived.Test.YtkfoknjflpklpaaDBefore
import Derived.Test.YtkfoknjflpklpaaDKind
import Derived.Test.YtkfoknjflpklpaaStabChgOwn
import Derived.Sort.Walk0
namespace Go.Proofs.Ytkfoknjflpklpaa.D
open Go Go.RowKit Go.Sort Go.Proofs.Ytkfoknjflpklpaa.Mem Go.Proofs.Ytkfoknjflpklpaa.Cmp Go.Proofs.Ytkfoknjflpklpaa.Stab

theorem ltS_iff (a b : ByteArray) : ltS a b = true ↔ a.toList < b.toList := by unfold ltS; rw [bytesLess_eq]; simp
theorem ltS_irrefl (a : ByteArray) : ltS a a = false := by
  cases h : ltS a a with
  | false => rfl
  | true => exact absurd ((ltS_iff a a).1 h) (List.lt_irrefl _)
theorem ltS_trans {a b c : ByteArray} (h1 : ltS a b = true) (h2 : ltS b c = true) : ltS a c = true := (ltS_iff a c).2 (List.lt_trans ((ltS_iff a b).1 h1) ((ltS_iff b c).1 h2))
theorem toList_inj {a b : ByteArray} (h : a.toList = b.toList) : a = b := by
  have h1 : a.data.toList = b.data.toList := by rw [← ByteArray.toList_eq, ← ByteArray.toList_eq]; exact h
  cases a; cases b
  simp only at h1
  congr 1
  exact Array.toList_inj.1 h1
theorem ltS_tri {a b : ByteArray} (h1 : ltS a b = false) (h2 : ltS b a = false) : a = b := by
  refine toList_inj (List.le_antisymm ?_ ?_)
  · rw [← List.not_lt]; intro h; rw [(ltS_iff b a).2 h] at h2; cases h2
  · rw [← List.not_lt]; intro h; rw [(ltS_iff a b).2 h] at h1; cases h1
theorem ltS_asymm {a b : ByteArray} (h : ltS a b = true) : ltS b a = false := by
  cases h2 : ltS b a with
  | false => rfl
  | true => have := ltS_trans h h2; rw [ltS_irrefl] at this; cases this

def Chg.lt (a b : Chg) : Bool := ltS a.table b.table || (decide (a.table = b.table) && decide (a.id < b.id))
def Chg.same (a b : Chg) : Bool := decide (a.table = b.table) && decide (a.id = b.id)
def chgCmp (a b : Chg) : Int := cmpRow a.table a.id b.table b.id

theorem Chg.lt_iff (a b : Chg) : a.lt b = true ↔ ltS a.table b.table = true ∨ a.table = b.table ∧ a.id < b.id := by simp [Chg.lt]
theorem Chg.same_iff (a b : Chg) : a.same b = true ↔ a.table = b.table ∧ a.id = b.id := by simp [Chg.same]

theorem chgCmp_lt (a b : Chg) : chgCmp a b < 0 ↔ a.lt b = true := by
  rw [Chg.lt_iff]
  unfold chgCmp cmpRow or2 compareS compareI
  by_cases h1 : ltS a.table b.table = true
  · simp [h1]
  · by_cases h2 : a.table = b.table
    · rw [if_neg h1, if_pos h2]
      simp only [h2, ltS_irrefl]
      by_cases h3 : a.id < b.id
      · simp [h3]
      · by_cases h4 : b.id < a.id <;> simp [h3, h4]
    · rw [if_neg h1, if_neg h2]
      simp [h1, h2]

theorem chgCmp_eq (a b : Chg) : chgCmp a b = 0 ↔ a.same b = true := by
  rw [Chg.same_iff]
  unfold chgCmp cmpRow or2 compareS compareI
  by_cases h1 : ltS a.table b.table = true
  · have : a.table ≠ b.table := fun h => by rw [h, ltS_irrefl] at h1; cases h1
    simp [h1, this]
  · by_cases h2 : a.table = b.table
    · rw [if_neg h1, if_pos h2]
      by_cases h3 : a.id < b.id
      · have : a.id ≠ b.id := by omega
        simp [h3, h2, this]
      · by_cases h4 : b.id < a.id
        · have : a.id ≠ b.id := by omega
          simp [h3, h4, h2, this]
        · have : a.id = b.id := by omega
          simp [h2, this]
    · rw [if_neg h1, if_neg h2]
      simp [h2]

theorem ltOf_chg (a b : Chg) : ltOf chgCmp a b = a.lt b := by
  rw [Bool.eq_iff_iff, ← chgCmp_lt]
  simp [ltOf]

theorem Chg.lt_irrefl (a : Chg) : a.lt a = false := by simp [Chg.lt, ltS_irrefl]
theorem Chg.lt_trans {a b c : Chg} (h1 : a.lt b = true) (h2 : b.lt c = true) : a.lt c = true := by
  rw [Chg.lt_iff] at *
  rcases h1 with h1 | ⟨h1, h1'⟩ <;> rcases h2 with h2 | ⟨h2, h2'⟩
  · exact .inl (ltS_trans h1 h2)
  · exact .inl (h2 ▸ h1)
  · exact .inl (h1.symm ▸ h2)
  · exact .inr ⟨h1.trans h2, by omega⟩
theorem Chg.lt_asymm {a b : Chg} (h : a.lt b = true) : b.lt a = false := by
  cases h2 : b.lt a with
  | false => rfl
  | true => have := Chg.lt_trans h h2; rw [Chg.lt_irrefl] at this; cases this
theorem Chg.lt_tri {a b : Chg} (h1 : a.lt b = false) (h2 : b.lt a = false) : a.same b = true := by
  rw [Chg.same_iff]
  have n1 : ¬ (ltS a.table b.table = true ∨ a.table = b.table ∧ a.id < b.id) := by rw [← Chg.lt_iff, h1]; simp
  have n2 : ¬ (ltS b.table a.table = true ∨ b.table = a.table ∧ b.id < a.id) := by rw [← Chg.lt_iff, h2]; simp
  have e : a.table = b.table := by
    apply ltS_tri
    · cases h : ltS a.table b.table with
      | false => rfl
      | true => exact absurd (.inl h) n1
    · cases h : ltS b.table a.table with
      | false => rfl
      | true => exact absurd (.inl h) n2
  refine ⟨e, ?_⟩
  have h3 : ¬ a.id < b.id := fun h => n1 (.inr ⟨e, h⟩)
  have h4 : ¬ b.id < a.id := fun h => n2 (.inr ⟨e.symm, h⟩)
  omega
theorem Chg.same_not_lt {a b : Chg} (h : a.same b = true) : a.lt b = false := by
  rw [Chg.same_iff] at h
  simp [Chg.lt, h.1, h.2, ltS_irrefl]
theorem Chg.same_symm {a b : Chg} (h : a.same b = true) : b.same a = true := by rw [Chg.same_iff] at *; exact ⟨h.1.symm, h.2.symm⟩
theorem Chg.same_trans {a b c : Chg} (h : a.same b = true) (h' : b.same c = true) : a.same c = true := by rw [Chg.same_iff] at *; exact ⟨h.1.trans h'.1, h.2.trans h'.2⟩
theorem Chg.same_refl (a : Chg) : a.same a = true := by rw [Chg.same_iff]; exact ⟨rfl, rfl⟩
theorem Chg.lt_of_same_left {a b c : Chg} (h : a.same b = true) : a.lt c = b.lt c := by
  rw [Chg.same_iff] at h
  simp [Chg.lt, h.1, h.2]
theorem Chg.lt_of_same_right {a b c : Chg} (h : a.same b = true) : c.lt a = c.lt b := by
  rw [Chg.same_iff] at h
  simp [Chg.lt, h.1, h.2]

theorem Chg.lt_ntrans {a b c : Chg} (h1 : a.lt b = false) (h2 : b.lt c = false) : a.lt c = false := by
  cases h : a.lt c with
  | false => rfl
  | true =>
    cases h3 : b.lt a with
    | true => rw [Chg.lt_trans h3 h] at h2; cases h2
    | false =>
      have := Chg.lt_tri h1 h3
      rw [Chg.lt_of_same_left this, h2] at h
      cases h

theorem swo_chg : SWO (ltOf chgCmp) := by
  have e : ltOf chgCmp = Chg.lt := funext fun a => funext fun b => ltOf_chg a b
  rw [e]
  exact ⟨Chg.lt_irrefl, fun x y z h1 h2 => Chg.lt_trans h1 h2, fun x y z h1 h2 => Chg.lt_ntrans h1 h2⟩

/-- The net effect of changes in order. -/
def netScan : List Chg → List Chg
  | [] => []
  | x :: l =>
    let c : Chg := { x with new := ((x :: l.takeWhile x.same).getLast (by simp)).new }
    (if c.kind = 0 then [] else [c]) ++ netScan (l.dropWhile x.same)
termination_by l => l.length
decreasing_by
  have := (List.dropWhile_sublist (l := l) x.same).length_le
  simp only [List.length_cons]
  omega

/-- The net effect of changes. -/
def net (l : List Chg) : List Chg := netScan (isort (ltOf chgCmp) l)

end Go.Proofs.Ytkfoknjflpklpaa.D
