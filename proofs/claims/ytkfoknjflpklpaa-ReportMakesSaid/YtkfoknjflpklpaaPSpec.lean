/- How a spec lies in memory; Spec.plain, Spec.width. -/
import Derived.Test.YtkfoknjflpklpaaPIdx
namespace Go.Proofs.Ytkfoknjflpklpaa.P
open Go Go.RowKit Go.Sort Go.Proofs.Ytkfoknjflpklpaa.Mem Go.Proofs.Ytkfoknjflpklpaa.Cmp Go.Proofs.Ytkfoknjflpklpaa.D

def Smm.cells (k : Smm) : List Value := [.int .i64 k.kind, .int .i64 k.col]
def tSmm : Ty Smm where
  sz := 2
  R := fun _ _ x cs => cs = x.cells
  len := fun h => by rw [h]; rfl
  one := fun {_ _ x _} h u hu => by
    rw [h] at hu
    simp only [Smm.cells, List.mem_cons, List.not_mem_nil, or_false] at hu
    rcases hu with rfl | rfl <;> rfl
  mono := fun _ h => h
  move := fun _ h => h
  bnd := fun h => h
theorem sums_get {ok : Nat → Prop} {w : World} {A : Option Addr} {xs : List Smm} (h : Row tSmm ok w A xs) (i : Nat) (hi : i < xs.length) :
    ∃ ad x, A = some ad ∧ xs[i]? = some x ∧ w.cell? (ad.add (i * 2)) = some (.int .i64 x.kind) ∧ w.cell? ⟨(ad.add (i * 2)).block, (ad.add (i * 2)).off + 1, none⟩ = some (.int .i64 x.col) := by
  obtain ⟨ad, cs, rfl, _, _, rfl, ha⟩ := h.get i hi
  exact ⟨ad, xs[i], rfl, List.getElem?_eq_getElem hi, At.c0 ha rfl, At.cj ha 1 (by omega) rfl⟩
/-- A spec's parts. -/
structure SpR (ok : Nat → Prop) (w : World) (s : Spc) (v0 v1 v2 : Value) : Prop where
  cols : Sl (tInt .i64) ok w v0 s.cols
  sums : Sl tSmm ok w v1 s.sums
  order : Sl tKey ok w v2 s.order
  l0 : s.cols.length ≤ 1000
  l1 : s.sums.length ≤ 1000
  l2 : s.order.length ≤ 1000
theorem SpR.below {ok : Nat → Prop} {w w' : World} {s : Spc} {v0 v1 v2 : Value} (h : SpR ok w s v0 v1 v2) (hb : Below w.heap.size w w') : SpR ok w' s v0 v1 v2 := ⟨h.cols.below hb, h.sums.below hb, h.order.below hb, h.l0, h.l1, h.l2⟩
theorem s_cells {w : World} {X : Nat} {a0 a1 a2 a3 : Value} {t : TypeId} (h : w.heap[X]? = some (.cells #[a0, a1, a2, a3] t (0, 0))) : w.cell? ⟨X, 0, none⟩ = some a0 ∧ w.cell? ⟨X, 1, none⟩ = some a1 ∧ w.cell? ⟨X, 2, none⟩ = some a2 ∧ w.cell? ⟨X, 3, none⟩ = some a3 := by simp [World.cell?, h]

set_option maxHeartbeats 8000000 in
set_option maxRecDepth 100000 in
theorem plainS (A0 A1 : Option Addr) (c0 c1 : Nat) (v2 v3 : Value) (s : Spc) (w : World) (h0 : s.cols.length ≤ 1000) (h1 : s.sums.length ≤ 1000) :
    Calls Try.prog 70 #[.agg #[.slice A0 s.cols.length c0, .slice A1 s.sums.length c1, v2, v3]] w fun e w' => e = .returned (.bool s.plain) ∧ G w w' := by
  have E : Kp (((s.cols.length : Int) + (s.sums.length : Int) == 0) = s.plain) := put (by unfold Spc.plain; rw [Bool.eq_iff_iff, beq_iff_eq, decide_eq_true_eq]; omega)
  go_enter Try.func70, Try.ntmps70
  go_wp2
  go_ret
  exact ⟨by rw [← E.out]; rfl, (G.refl _).alloc _⟩
set_option maxHeartbeats 8000000 in
set_option maxRecDepth 100000 in
theorem widthS (A0 A1 : Option Addr) (c0 c1 : Nat) (v2 v3 : Value) (s : Spc) (n : Nat) (w : World) (h0 : s.cols.length ≤ 1000) (h1 : s.sums.length ≤ 1000) :
    Calls Try.prog 100 #[.agg #[.slice A0 s.cols.length c0, .slice A1 s.sums.length c1, v2, v3], .int .i64 n] w fun e w' => e = .returned (.int .i64 (s.width n)) ∧ G w w' := by
  go_enter Try.func100, Try.ntmps100
  go_wp2_with fail
  refine (plainS A0 A1 c0 c1 v2 v3 s _ h0 h1).mono ?_
  rintro e w5 ⟨rfl, hg⟩
  have HW : Kp (G w w5) := put (((G.refl w).alloc _).trans hg)
  have hb := G.heap hg (heap_alloc_new w _)
  obtain ⟨d0, d1, d2, d3⟩ := s_cells hb
  clear hb hg
  cases hp : s.plain with
  | true =>
    have E : Kp (s.width n = n) := put (by unfold Spc.width; rw [if_pos hp])
    clear hp
    go_wp2_with fail
    go_ret
    exact ⟨by rw [E.out]; rfl, HW.out⟩
  | false =>
    have E : Kp ((s.width n : Int) = (s.cols.length : Int) + (s.sums.length : Int)) := put (by unfold Spc.width; rw [if_neg (by rw [hp]; simp)]; omega)
    clear hp
    go_wp2_with fail
    go_ret
    exact ⟨by rw [E.out]; rfl, HW.out⟩
end Go.Proofs.Ytkfoknjflpklpaa.P
