/- slices.Clone of a slice of tripwire/api.Value. -/
import Derived.Test.YtkfoknjflpklpaaDTy
import Derived.WalkSpells
namespace Go.Proofs.Ytkfoknjflpklpaa.D
open Go Go.RowKit Go.Proofs.Ytkfoknjflpklpaa.Mem

theorem infoVal : (Try.prog.info? 55).map (fun i => (i.zero, i.size, i.bytes)) = some (some (.agg #[.int .i64 0, .int .i64 0, .string ⟨#[]⟩]), tVal.sz, 32) := by kernel_rfl

set_option maxHeartbeats 4000000 in
set_option maxRecDepth 100000 in
theorem cloneVal (ok : Nat → Prop) (v : Value) (xs : List Val) (w : World) (h : Sl tVal ok w v xs) (hl : xs.length * 32 ≤ 140737488355328) :
    Calls Try.prog 84 #[v] w fun e w' => ∃ A c, e = .returned (.slice A xs.length c) ∧ Own tVal 55 (fun k => ok k ∧ k < w.heap.size) w' w.heap.size (.slice A xs.length c) xs ∧ Below w.heap.size w w' := by
  obtain ⟨A, c, rfl, l1, l2, l3⟩ := h.shape
  have hnil := Lib.run_eql_slice_nil (P := Try.prog) (t := 30) (e := 55) (a := A) (n := xs.length) (c := c) (n' := 0) (c' := 0) (h := Try.underlying30)
  cases A with
  | none =>
    have e : xs = [] := by
      obtain ⟨hr, _⟩ := h.row
      by_cases hne : xs = []
      · exact hne
      · obtain ⟨ad, e, _⟩ := hr hne; cases e
    subst e
    simp only [Option.isNone_none, List.length_nil] at hnil ⊢
    go_enter Try.func84, Try.ntmps84
    clear h
    go_wp2
    go_ret
    exact ⟨none, 0, rfl, Own.nil _ _ _ _ _, Below.refl _ _⟩
  | some ad =>
    simp only [Option.isNone_some] at hnil
    have HS := put h
    clear h
    have HO : Own tVal 55 (fun k => ok k ∧ k < w.heap.size) (w.alloc (.cells #[] 55)) w.heap.size (.slice (some ⟨w.heap.size, 0, none⟩) 0 0) ([] : List Val) :=
      ⟨[], rfl, ⟨rfl, .inr ⟨w.heap.size, 0, #[], rfl, Nat.le_refl _, heap_alloc_new w _, Nat.le_refl _, by simp, rfl, rfl⟩⟩, fun i x c h => by simp at h⟩
    have HOO := put HO
    clear HO
    go_enter Try.func84, Try.ntmps84
    go_wp2_with (at_builtin; refine wpList_pushes tVal w.heap.size rfl _ _ 30 55 _ 32 rfl Try.underlying30 infoVal rfl (by decide) (by decide) (.slice (some ⟨w.heap.size, 0, none⟩) 0 0) (.slice (some ad) xs.length c) [] xs _ _ rfl rfl (HS.out.elder ((Below.refl _ _).alloc (Nat.le_refl _) _)) (fun k hk => ⟨hk, fun e => by simp only [Value.ownBlock, Option.some.injEq] at e; have := hk.2; omega⟩) HOO.out (by simp) (by simpa using hl) ?_; intro v1 w1 hown hg hat)
    go_ret
    obtain ⟨A1, c1, rfl, _, _⟩ := hown.form
    refine ⟨A1, c1, by simp, by simpa using hown, ?_⟩
    exact ((Below.refl _ _).alloc (Nat.le_refl _) _).grown hg (by simp) (fun k hk => by simp only [Value.ownBlock, Option.some.injEq] at hk; omega)

end Go.Proofs.Ytkfoknjflpklpaa.D
