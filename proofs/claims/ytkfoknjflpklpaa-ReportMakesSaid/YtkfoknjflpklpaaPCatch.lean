/- fault.Catch: what a function that stops leaves. -/
import Derived.Test.YtkfoknjflpklpaaPFault
import Derived.Test.YtkfoknjflpklpaaPCmp
import Derived.Recover
import Derived.Defers
namespace Go.Proofs.Ytkfoknjflpklpaa.P
open Go Go.RowKit Go.Sort Go.Proofs.Ytkfoknjflpklpaa.Mem Go.Proofs.Ytkfoknjflpklpaa.Cmp Go.Proofs.Ytkfoknjflpklpaa.D

def faultV (c : Int) : Value := .iface 137 (.agg #[.int .i64 c, .int .i64 0])

set_option maxHeartbeats 4000000 in
set_option maxRecDepth 100000 in
theorem catch_panicking (X : Nat) (c : Int) (older : List PanicEntry) (w : World) (a0 a1 : Value) (hx : w.heap[X]? = some (.cells #[a0, a1] 137 (0, 0))) :
    CallsD Try.prog 94 #[.pointer (some ⟨X, 0, none⟩)] (.panicking ({ v := faultV c, recovered := false } :: older)) w fun e u' w' =>
      e = .returned (.tuple #[]) ∧ u' = .panicking ({ v := faultV c, recovered := true } :: older) ∧ w' = (((w.setCell ⟨X, 0, none⟩ (.int .i64 c)).setCell ⟨X, 1, none⟩ (.int .i64 0)).alloc (.cells #[.int .i64 c, .int .i64 0] 137)) := by
  have hX : X < w.heap.size := (Array.getElem?_eq_some_iff.1 hx).1
  refine callsD_of_wpS Try.func94 rfl fun c₀ cs hu => ?_
  apply wpS_seq
  apply wpS_region
  simp [wpOpsS, go_sem, recoverD, hu, Try.ntmps94, Exit.thenS, faultV]
  have hta : ∀ (t : TypeId) (w : World), (Instr.typeAssert (.iface 137 (.agg #[.int .i64 c, .int .i64 0])) t 137 true).run Try.prog w = .ok (.tuple #[.agg #[.int .i64 c, .int .i64 0], .bool true]) w := fun t w => by rfl
  have y0 : w.cell? ⟨X, 0, none⟩ = some a0 := by simp [World.cell?, hx]
  have y1 : w.cell? ⟨X, 1, none⟩ = some a1 := by simp [World.cell?, hx]
  have f0 : w.frozen? ⟨X, 0, none⟩ = false := by simp [World.frozen?, hx]
  have f1 : w.frozen? ⟨X, 1, none⟩ = false := by simp [World.frozen?, hx]
  refine wpS_of_wp ?_
  show Code.wp _ _ _ { tmps := #[.pointer (some ⟨X, 0, none⟩), faultV c, undef, undef, faultV c, undef, undef, undef, undef, undef, undef, undef, undef, undef, undef, undef], defers := [] } w
  unfold faultV
  go_wp2_with fail
  exact ⟨rfl, _, rfl, _, by simp [results, Try.results94], rfl, rfl, rfl⟩

set_option maxHeartbeats 4000000 in
set_option maxRecDepth 100000 in
theorem catch_idle (X : Nat) (w : World) :
    CallsD Try.prog 94 #[.pointer (some ⟨X, 0, none⟩)] .returning w fun e u' w' => e = .returned (.tuple #[]) ∧ u' = .returning ∧ w' = w := by
  refine callsD_of_wpS Try.func94 rfl fun c₀ cs hu => ?_
  apply wpS_seq
  apply wpS_region
  simp [wpOpsS, go_sem, recoverD, hu, Try.ntmps94, Exit.thenS]
  refine wpS_of_wp ?_
  go_wp2_with fail
  cases c₀
  simp_all [bodyPostS, results, Try.results94]
/-- How a function ends that may stop. -/
def endC (c : Int) : Ending := if c = 0 then .returned (.tuple #[]) else stopE c

set_option maxHeartbeats 4000000 in
set_option maxRecDepth 100000 in
theorem catchCalls (g : Nat) (cb : Array Value) (eg : ∀ w, (callFunc g cb).run Try.prog w = .ok (.enter g cb) w) (w : World) (S : Int → World → Prop)
    (hf : Calls Try.prog g cb (w.alloc (.cells #[.int .i64 0, .int .i64 0] 137)) fun e w' => ∃ c, e = endC c ∧ S c w' ∧ w'.heap[w.heap.size]? = some (.cells #[.int .i64 0, .int .i64 0] 137 (0, 0)))
    (hS1 : ∀ c w' o, S c w' → S c (w'.alloc o)) (hS2 : ∀ c w' j u, S c w' → S c (w'.setCell ⟨w.heap.size, j, none⟩ u)) :
    Calls Try.prog 67 #[.func (.func g) #[] cb] w fun e w' => ∃ c, e = .returned (.agg #[.int .i64 c, .int .i64 0]) ∧ S c w' := by
  have hmf : ∀ (fn : Fn) (first cap : Array Value) (w : World), (Instr.makeFunc fn first cap).run Try.prog w = .ok (.func fn first cap) w := fun _ _ _ _ => rfl
  have HF := put hf
  have H1 := put hS1
  have H2 := put hS2
  clear hf hS1 hS2
  go_enter_defers Try.func67, Try.ntmps67
  go_wp2_with fail
  refine HF.out.mono ?_
  rintro e w5 ⟨c, rfl, hS, hx⟩
  have HS := put hS
  have HX := put hx
  clear hS
  by_cases hc : c = 0
  · subst hc
    have he : endC 0 = .returned (.tuple #[]) := rfl
    rw [he]
    have y0 : w5.cell? ⟨w.heap.size, 0, none⟩ = some (.int .i64 0) := by simp [World.cell?, hx]
    have y1 : w5.cell? ⟨w.heap.size, 1, none⟩ = some (.int .i64 0) := by simp [World.cell?, hx]
    have f0 : w5.frozen? ⟨w.heap.size, 0, none⟩ = false := by simp [World.frozen?, hx]
    have f1 : w5.frozen? ⟨w.heap.size, 1, none⟩ = false := by simp [World.frozen?, hx]
    clear he hx
    go_wp2_with fail
    refine leaves_cons (f := 94) (args := #[.pointer (some ⟨w.heap.size, 0, none⟩)]) (by simp) (by simp [go_sem]) ?_
    refine (catch_idle w.heap.size _).mono ?_
    rintro e u' w'' ⟨rfl, rfl, rfl⟩
    have s0 : ((w5.setCell ⟨w.heap.size, 0, none⟩ (.int .i64 0)).setCell ⟨w.heap.size, 1, none⟩ (.int .i64 0)).cell? ⟨w.heap.size, 0, none⟩ = some (.int .i64 0) := by simp [World.cell?, World.setCell, Array.getElem?_modify, HX.out]
    have s1 : ((w5.setCell ⟨w.heap.size, 0, none⟩ (.int .i64 0)).setCell ⟨w.heap.size, 1, none⟩ (.int .i64 0)).cell? ⟨w.heap.size, 1, none⟩ = some (.int .i64 0) := by simp [World.cell?, World.setCell, Array.getElem?_modify, HX.out]
    have hS9 := H2.out _ _ 1 (.int .i64 0) (H2.out _ _ 0 (.int .i64 0) HS.out)
    simp [Leaves, settle, results, Try.results67, go_sem, s0, s1]
    exact hS9
  · have he : endC c = stopE c := by rw [endC, if_neg hc]
    rw [he]
    clear he hx
    unfold stopE
    refine leaves_cons (f := 94) (args := #[.pointer (some ⟨w.heap.size, 0, none⟩)]) (by simp) (by simp [go_sem]) ?_
    refine (catch_panicking w.heap.size c [] w5 _ _ HX.out).mono ?_
    rintro e u' w'' ⟨rfl, rfl, rfl⟩
    have hXl : w.heap.size < w5.heap.size := (Array.getElem?_eq_some_iff.1 HX.out).1
    have hh : (((w5.setCell ⟨w.heap.size, 0, none⟩ (.int .i64 c)).setCell ⟨w.heap.size, 1, none⟩ (.int .i64 0)).alloc (.cells #[.int .i64 c, .int .i64 0] 137)).heap[w.heap.size]? = some (.cells #[.int .i64 c, .int .i64 0] 137 (0, 0)) := by
      refine (Below.heap_alloc _ _ _ ?_).trans ?_
      · simpa using hXl
      · simp [World.setCell, Array.getElem?_modify, HX.out]
    obtain ⟨s0, s1⟩ := k_cells hh
    have hS9 := H1.out _ _ (.cells #[.int .i64 c, .int .i64 0] 137) (H2.out _ _ 1 (.int .i64 0) (H2.out _ _ 0 (.int .i64 c) HS.out))
    simp [Leaves, settle, results, Try.results67, go_sem, s0, s1]
    exact hS9
end Go.Proofs.Ytkfoknjflpklpaa.P
