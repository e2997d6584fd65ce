/- Few ops make few and small changes. -/
import Derived.Test.YtkfoknjflpklpaaDChg2
import Derived.Test.YtkfoknjflpklpaaDRefSame
import Derived.Test.YtkfoknjflpklpaaDAwake
namespace Go.Proofs.Ytkfoknjflpklpaa.D
open Go Go.RowKit Go.Sort Go.Proofs.Ytkfoknjflpklpaa.Mem Go.Proofs.Ytkfoknjflpklpaa.Stab

def noRows : Rs := fun _ _ => []
def Small (f : Rs) : Prop := ∀ t i, (f t i).length ≤ 20
theorem chgs_small : ∀ (l : List Ope) (f : Rs), Small f → (∀ o ∈ l, o.row.length ≤ 20) → (∀ c ∈ chgsOf f l, c.old.length ≤ 20 ∧ c.new.length ≤ 20) ∧ Small (runR f l)
  | [], f, hf, _ => ⟨fun c hc => (by cases hc), hf⟩
  | o :: l, f, hf, hl => by
    have ho := hl o List.mem_cons_self
    have hs : Small (stepR f o) := fun a b => by
      unfold stepR
      split
      · exact ho
      · exact hf a b
    obtain ⟨h1, h2⟩ := chgs_small l (stepR f o) hs (fun x hx => hl x (List.mem_cons_of_mem _ hx))
    refine ⟨fun c hc => ?_, h2⟩
    rcases List.mem_cons.1 hc with rfl | hc
    · exact ⟨hf _ _, ho⟩
    · exact h1 c hc
theorem noRows_small : Small noRows := fun _ _ => Nat.zero_le _

theorem scan_le : ∀ (n : Nat) (l : List Chg), l.length = n → (netScan l).length ≤ n := by
  intro n
  induction n using Nat.strongRecOn with
  | _ n ih =>
    intro l hn
    cases l with
    | nil => rw [netScan]; simp
    | cons x l =>
      have hsub := (List.dropWhile_sublist (l := l) x.same).length_le
      simp only [List.length_cons] at hn
      have := ih (l.dropWhile x.same).length (by omega) _ rfl
      rw [netScan]
      simp only [List.length_append]
      split <;> simp <;> omega
theorem net_le (l : List Chg) : (net l).length ≤ l.length := by
  have := scan_le _ _ (rfl : (isort (ltOf chgCmp) l).length = _)
  rw [(isort_perm l).length_eq] at this
  exact this

end Go.Proofs.Ytkfoknjflpklpaa.D
