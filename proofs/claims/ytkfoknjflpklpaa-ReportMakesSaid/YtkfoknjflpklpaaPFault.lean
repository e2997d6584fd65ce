/- To give up with a code: fault.Stop, fault.Check, report.must, report.in. -/
import Derived.Test.YtkfoknjflpklpaaPSort
import Derived.Test.YtkfoknjflpklpaaPMake
namespace Go.Proofs.Ytkfoknjflpklpaa.P
open Go Go.RowKit Go.Sort Go.Proofs.Ytkfoknjflpklpaa.Mem Go.Proofs.Ytkfoknjflpklpaa.Cmp Go.Proofs.Ytkfoknjflpklpaa.D

/-- It gave up with a code. -/
def stopE (c : Int) : Ending := .panicked [{ v := .iface 137 (.agg #[.int .i64 c, .int .i64 0]), recovered := false }]

set_option maxHeartbeats 4000000 in
set_option maxRecDepth 100000 in
theorem stopNone  (w : World) : Calls Try.prog 139 #[.int .i64 0, .int .i64 0] w fun e w' => e = .returned (.tuple #[]) ∧ w' = w := by
  go_enter Try.func139, Try.ntmps139
  go_wp2_with fail
  go_end0
  exact ⟨rfl, rfl⟩

set_option maxHeartbeats 4000000 in
set_option maxRecDepth 100000 in
theorem stopSome (c : Int) (w : World) (hc : c ≠ 0) : Calls Try.prog 139 #[.int .i64 c, .int .i64 0] w fun e w' => e = stopE c ∧ w' = w := by
  have h1 : (c != 0) = true := by simp [hc]
  clear hc
  go_enter Try.func139, Try.ntmps139
  go_wp2_with fail
  exact ⟨rfl, rfl, rfl⟩

set_option maxHeartbeats 4000000 in
set_option maxRecDepth 100000 in
theorem checkNone  (w : World) : Calls Try.prog 117 #[.int .i64 0] w fun e w' => e = .returned (.tuple #[]) ∧ w' = w := by
  go_enter Try.func117, Try.ntmps117
  go_wp2_with fail
  refine (stopNone _).mono ?_
  rintro e w1 ⟨rfl, rfl⟩
  go_wp2_with fail
  go_end0
  exact ⟨rfl, rfl⟩

set_option maxHeartbeats 4000000 in
set_option maxRecDepth 100000 in
theorem checkSome (c : Int) (w : World) (hc : c ≠ 0) : Calls Try.prog 117 #[.int .i64 c] w fun e w' => e = stopE c ∧ w' = w := by
  have HC := put hc
  clear hc
  go_enter Try.func117, Try.ntmps117
  go_wp2_with fail
  refine (stopSome _ _ HC.out).mono ?_
  rintro e w1 ⟨rfl, rfl⟩
  exact ⟨rfl, rfl, rfl⟩

set_option maxHeartbeats 4000000 in
set_option maxRecDepth 100000 in
theorem mustTrue (c : Int) (w : World) : Calls Try.prog 95 #[.bool true, .int .i64 c] w fun e w' => e = .returned (.tuple #[]) ∧ w' = w := by
  go_enter Try.func95, Try.ntmps95
  go_wp2_with fail
  go_end0
  exact ⟨rfl, rfl⟩

set_option maxHeartbeats 4000000 in
set_option maxRecDepth 100000 in
theorem mustFalse (c : Int) (w : World) (hc : c ≠ 0) : Calls Try.prog 95 #[.bool false, .int .i64 c] w fun e w' => e = stopE c ∧ w' = w := by
  have HC := put hc
  clear hc
  go_enter Try.func95, Try.ntmps95
  go_wp2_with fail
  refine (checkSome _ _ HC.out).mono ?_
  rintro e w1 ⟨rfl, rfl⟩
  exact ⟨rfl, rfl, rfl⟩

set_option maxHeartbeats 4000000 in
set_option maxRecDepth 100000 in
theorem inTrue (c : Int) (n : Nat) (w : World) (h : inC n c = true) : Calls Try.prog 99 #[.int .i64 c, .int .i64 n] w fun e w' => e = .returned (.tuple #[]) ∧ w' = w := by
  unfold inC at h
  simp only [Bool.and_eq_true, decide_eq_true_eq] at h
  obtain ⟨h1, h2⟩ := h
  have h1' : c ≥ 0 := h1
  go_enter Try.func99, Try.ntmps99
  go_wp2_with fail
  refine (mustTrue _ _).mono ?_
  rintro e w1 ⟨rfl, rfl⟩
  go_wp2_with fail
  go_end0
  exact ⟨rfl, rfl⟩

set_option maxHeartbeats 4000000 in
set_option maxRecDepth 100000 in
theorem inFalse (c : Int) (n : Nat) (w : World) (h : inC n c = false) : Calls Try.prog 99 #[.int .i64 c, .int .i64 n] w fun e w' => e = stopE 15 ∧ w' = w := by
  unfold inC at h
  by_cases h1 : c ≥ 0
  · have h2 : ¬ c < (n : Int) := fun h3 => by simp [h1, h3] at h
    clear h
    go_enter Try.func99, Try.ntmps99
    go_wp2_with fail
    refine (mustFalse _ _ (by decide)).mono ?_
    rintro e w1 ⟨rfl, rfl⟩
    exact ⟨rfl, rfl, rfl⟩
  · clear h
    go_enter Try.func99, Try.ntmps99
    go_wp2_with fail
    refine (mustFalse _ _ (by decide)).mono ?_
    rintro e w1 ⟨rfl, rfl⟩
    exact ⟨rfl, rfl, rfl⟩
end Go.Proofs.Ytkfoknjflpklpaa.P
