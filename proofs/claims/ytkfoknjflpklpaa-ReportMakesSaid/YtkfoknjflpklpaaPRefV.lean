/- tripwireref28.value: of a column. -/
import Derived.Test.YtkfoknjflpklpaaPCmp
namespace Go.Proofs.Ytkfoknjflpklpaa.P
open Go Go.RowKit Go.Sort Go.Proofs.Ytkfoknjflpklpaa.Mem Go.Proofs.Ytkfoknjflpklpaa.Cmp Go.Proofs.Ytkfoknjflpklpaa.D

set_option maxHeartbeats 4000000 in
set_option maxRecDepth 100000 in
theorem refAtCalls (ok : Nat → Prop) (A : Option Addr) (c : Nat) (r : List Val) (i : Int) (w : World) (h : Row tVal ok w A r) :
    Calls Try.prog 109 #[.slice A r.length c, .int .i64 i] w fun e w' => e = .returned (.agg #[.int .i64 (atV r i).kind, .int .i64 (atV r i).n, .string (atV r i).s]) ∧ G w w' := by
  have H := put h
  clear h
  by_cases h0 : 0 ≤ i
  · by_cases h1 : i < (r.length : Int)
    · obtain ⟨j, rfl⟩ : ∃ j : Nat, i = j := ⟨i.toNat, by omega⟩
      have hj : j < r.length := by omega
      have E : Kp (atV r j = r[j]) := put (by unfold atV; rw [if_pos ⟨by omega, by omega⟩, Int.toNat_natCast, List.getD_eq_getElem?_getD, List.getElem?_eq_getElem hj]; rfl)
      obtain ⟨ad, rfl, x0, x1, x2⟩ := vals_get H.out j hj
      generalize r[j] = x at E x0 x1 x2
      have hlz : (j : Int) < (r.length : Int) := by omega
      have j0 : (0 : Int) ≤ (j : Int) := by omega
      have y0 : ∀ o, (w.alloc o).cell? (ad.add (j * 3)) = some (.int .i64 x.kind) := fun o => (World.cell?_alloc_some _ _ _ (by rw [x0]; rfl)).trans x0
      have y1 : ∀ o, (w.alloc o).cell? ⟨(ad.add (j * 3)).block, (ad.add (j * 3)).off + 1, none⟩ = some (.int .i64 x.n) := fun o => (World.cell?_alloc_some _ _ _ (by rw [x1]; rfl)).trans x1
      have y2 : ∀ o, (w.alloc o).cell? ⟨(ad.add (j * 3)).block, (ad.add (j * 3)).off + 2, none⟩ = some (.string x.s) := fun o => (World.cell?_alloc_some _ _ _ (by rw [x2]; rfl)).trans x2
      go_enter Try.func109, Try.ntmps109
      go_wp2
      refine bodyPost_ret (v := .agg #[.int .i64 x.kind, .int .i64 x.n, .string x.s]) (by simp [results, Try.results109, go_sem]) rfl ⟨by rw [E.out], ?_⟩
      exact (G.refl _).alloc _
    · have E : Kp (atV r i = nullV) := put (by unfold atV; rw [if_neg (by omega)])
      go_enter Try.func109, Try.ntmps109
      go_wp2
      refine bodyPost_ret (v := .agg #[.int .i64 0, .int .i64 0, .string { data := #[] }]) (by simp [results, Try.results109, go_sem]) rfl ⟨by rw [E.out]; rfl, ?_⟩
      exact (G.refl _).alloc _
  · have E : Kp (atV r i = nullV) := put (by unfold atV; rw [if_neg (by omega)])
    go_enter Try.func109, Try.ntmps109
    go_wp2
    refine bodyPost_ret (v := .agg #[.int .i64 0, .int .i64 0, .string { data := #[] }]) (by simp [results, Try.results109, go_sem]) rfl ⟨by rw [E.out]; rfl, ?_⟩
    exact (G.refl _).alloc _
end Go.Proofs.Ytkfoknjflpklpaa.P
