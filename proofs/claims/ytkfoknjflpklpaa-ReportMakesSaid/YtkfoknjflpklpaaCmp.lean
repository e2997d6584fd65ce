/- cmp.Compare at int and string, cmp.Or at int. -/
import Derived.Test.YtkfoknjflpklpaaProg
import Derived.Test.YtkfoknjflpklpaaMem
import Derived.Deep.QuietTactic
import Derived.BigQuiet
import Derived.Deep.LoopGhost
import Derived.WalkLawsBesides
import Derived.WalkSpells
namespace Go.Proofs.Ytkfoknjflpklpaa.Cmp
open Go Go.RowKit Go.Proofs.Ytkfoknjflpklpaa.Mem

def compareI (x y : Int) : Int := if x < y then -1 else if y < x then 1 else 0
def ltS (a b : ByteArray) : Bool := Op.bytesLess a.toList b.toList
def compareS (a b : ByteArray) : Int := if ltS a b = true then -1 else if a = b then 0 else 1

theorem compareI_range (x y : Int) : -1 ≤ compareI x y ∧ compareI x y ≤ 1 := by unfold compareI; split <;> (try split) <;> omega
theorem compareS_range (x y : ByteArray) : -1 ≤ compareS x y ∧ compareS x y ≤ 1 := by unfold compareS; split <;> (try split) <;> omega

set_option maxHeartbeats 1000000 in
theorem compareInt (x y : Int) (w : World) : Calls Try.prog 83 #[.int .i64 x, .int .i64 y] w fun e w' => e = .returned (.int .i64 (compareI x y)) ∧ w = w' := by
  have n1 : (x != x) = false := by simp
  have n2 : (y != y) = false := by simp
  by_cases h1 : x < y
  · have e : compareI x y = -1 := by simp [compareI, h1]
    have E := put e
    clear e
    go_enter Try.func83, Try.ntmps83
    go_wp2
    go_ret
    exact ⟨by rw [E.out]; rfl, rfl⟩
  · by_cases h2 : y < x
    · have e : compareI x y = 1 := by simp [compareI, h1, h2]
      have E := put e
      clear e
      go_enter Try.func83, Try.ntmps83
      go_wp2
      go_ret
      exact ⟨by rw [E.out]; rfl, rfl⟩
    · have e : compareI x y = 0 := by simp [compareI, h1, h2]
      have E := put e
      clear e
      go_enter Try.func83, Try.ntmps83
      go_wp2
      go_ret
      exact ⟨by rw [E.out]; rfl, rfl⟩

set_option maxHeartbeats 1000000 in
theorem compareStr (x y : ByteArray) (w : World) : Calls Try.prog 82 #[.string x, .string y] w fun e w' => e = .returned (.int .i64 (compareS x y)) ∧ w = w' := by
  have n1 : (x.toList != x.toList) = false := by simp
  have n2 : (y.toList != y.toList) = false := by simp
  by_cases h1 : ltS x y = true
  · have e : compareS x y = -1 := by simp [compareS, h1]
    have E := put e
    unfold ltS at h1
    clear e
    go_enter Try.func82, Try.ntmps82
    go_wp2
    go_ret
    exact ⟨by rw [E.out]; rfl, rfl⟩
  · by_cases h2 : x = y
    · have e : compareS x y = 0 := by unfold compareS; rw [if_neg h1, if_pos h2]
      have E := put e
      have h3 : (x.toList == y.toList) = true := by rw [h2]; simp
      unfold ltS at h1
      simp only [Bool.not_eq_true] at h1
      clear e h2
      go_enter Try.func82, Try.ntmps82
      go_wp2
      go_ret
      exact ⟨by rw [E.out]; rfl, rfl⟩
    · have e : compareS x y = 1 := by unfold compareS; rw [if_neg h1, if_neg h2]
      have E := put e
      have h3 : (x.toList == y.toList) = false := by rw [bytes_eq]; exact decide_eq_false h2
      unfold ltS at h1
      simp only [Bool.not_eq_true] at h1
      clear e h2
      go_enter Try.func82, Try.ntmps82
      go_wp2
      go_ret
      exact ⟨by rw [E.out]; rfl, rfl⟩

/-- cmp.Or of two numbers that lie in a block of their own. -/
def or2 (x y : Int) : Int := if x ≠ 0 then x else y

set_option maxHeartbeats 1000000 in
theorem orInt (x y : Int) (b : Nat) (w : World) (h0 : w.cell? ⟨b, 0, none⟩ = some (.int .i64 x)) (h1 : w.cell? ⟨b, 1, none⟩ = some (.int .i64 y)) :
    Calls Try.prog 81 #[.slice (some ⟨b, 0, none⟩) 2 2] w fun e w' => e = .returned (.int .i64 (or2 x y)) ∧ w = w' := by
  by_cases hx : x = 0
  · have n1 : (x != 0) = false := by simp [hx]
    by_cases hy : y = 0
    · have n2 : (y != 0) = false := by simp [hy]
      have e : or2 x y = 0 := by simp [or2, hx, hy]
      have E := put e
      clear e hx hy
      go_enter Try.func81, Try.ntmps81
      go_wp2
      refine wp_loop_rounds 3 ?_
      rw [rounds_succ]
      go_wp2
      rw [rounds_succ]
      go_wp2
      rw [rounds_succ]
      go_wp2
      go_ret
      exact ⟨by rw [E.out]; rfl, rfl⟩
    · have n2 : (y != 0) = true := by simp [hy]
      have e : or2 x y = y := by simp [or2, hx]
      have E := put e
      clear e hx hy
      go_enter Try.func81, Try.ntmps81
      go_wp2
      refine wp_loop_rounds 3 ?_
      rw [rounds_succ]
      go_wp2
      rw [rounds_succ]
      go_wp2
      go_ret
      exact ⟨by rw [E.out]; rfl, rfl⟩
  · have n1 : (x != 0) = true := by simp [hx]
    have e : or2 x y = x := by simp [or2, hx]
    have E := put e
    clear e hx
    go_enter Try.func81, Try.ntmps81
    go_wp2
    refine wp_loop_rounds 3 ?_
    rw [rounds_succ]
    go_wp2
    go_ret
    exact ⟨by rw [E.out]; rfl, rfl⟩

end Go.Proofs.Ytkfoknjflpklpaa.Cmp
