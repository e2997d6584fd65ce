/- value.Right and the document's Right; value.Order and the document's Order. -/
import Derived.Test.YtkfoknjflpklpaaPPure
import Derived.Deep.RegionHeld3
import Derived.Sort.Grow
namespace Go.Proofs.Ytkfoknjflpklpaa.P
open Go Go.RowKit Go.Sort Go.Proofs.Ytkfoknjflpklpaa.Mem Go.Proofs.Ytkfoknjflpklpaa.Cmp Go.Proofs.Ytkfoknjflpklpaa.D
attribute [local go_sem high] eqVal

theorem empty_eq (s : ByteArray) : s.toList.isEmpty = decide (s.size = 0) := by
  rw [ByteArray.toList_eq, Bool.eq_iff_iff]
  obtain ⟨d⟩ := s
  simp only [List.isEmpty_iff, decide_eq_true_eq, ByteArray.size]
  rw [← Array.length_toList, List.length_eq_zero_iff]
theorem grow1 (w : World) (o : Obj) : ∃ q os, w.alloc o = grow (w.drewN q) os := ⟨0, _, by rw [alloc_eq_grow]; rfl⟩
theorem eqi (a b : Int) : (a == b) = decide (a = b) := rfl
theorem sz0 (s : ByteArray) : ((s.size : Int) == 0) = decide (s.size = 0) := by rw [Bool.eq_iff_iff]; simp
theorem sz24 (s : ByteArray) : decide ((s.size : Int) ≤ 24) = decide (s.size ≤ 24) := by rw [Bool.eq_iff_iff]; simp; omega

set_option maxHeartbeats 4000000 in
set_option maxRecDepth 100000 in
theorem rightCalls (v : Val) (w : World) : Calls Try.prog 98 #[.agg #[.int .i64 v.kind, .int .i64 v.n, .string v.s]] w fun e w' => e = .returned (.bool (right v)) ∧ ∃ q os, w' = grow (w.drewN q) os := by
  obtain ⟨k, n, s⟩ := v
  by_cases h0 : k = 0
  · have E : Kp (right ⟨k, n, s⟩ = (n == 0 && s.toList.isEmpty)) := put (by rw [empty_eq, eqi]; simp [right, h0])
    have k0 : (k == 0) = true := by simp [h0]
    clear h0
    go_enter Try.func98, Try.ntmps98
    go_wp2
    go_ret
    exact ⟨by rw [E.out]; rfl, grow1 _ _⟩
  · have k0 : (k == 0) = false := by simp [h0]
    by_cases h1 : k = 1
    · have k1 : (k == 1) = true := by simp [h1]
      by_cases hs : s.size = 0
      · have s0 : s.toList.isEmpty = true := by rw [empty_eq]; simp [hs]
        by_cases hn : n = 0
        · have E : Kp (right ⟨k, n, s⟩ = true) := put (by simp [right, h1, hn, hs])
          have n0 : (n == 0) = true := by simp [hn]
          clear h0 h1 hn hs
          go_enter Try.func98, Try.ntmps98
          go_wp2
          go_ret
          exact ⟨by rw [E.out]; rfl, grow1 _ _⟩
        · have E : Kp (right ⟨k, n, s⟩ = (n == 1)) := put (by rw [eqi]; simp [right, h1, hn, hs])
          have n0 : (n == 0) = false := by simp [hn]
          clear h0 h1 hn hs
          go_enter Try.func98, Try.ntmps98
          go_wp2
          go_ret
          exact ⟨by rw [E.out]; rfl, grow1 _ _⟩
      · have s0 : s.toList.isEmpty = false := by rw [empty_eq]; simp [hs]
        have E : Kp (right ⟨k, n, s⟩ = false) := put (by simp only [right, h1, hs]; simp)
        clear h0 h1 hs
        go_enter Try.func98, Try.ntmps98
        go_wp2
        go_ret
        exact ⟨by rw [E.out]; rfl, grow1 _ _⟩
    · have k1 : (k == 1) = false := by simp [h1]
      by_cases h2 : k = 2
      · have k2 : (k == 2) = true := by simp [h2]
        have E : Kp (right ⟨k, n, s⟩ = s.toList.isEmpty) := put (by rw [empty_eq]; simp [right, h2])
        clear h0 h1 h2
        go_enter Try.func98, Try.ntmps98
        go_wp2
        go_ret
        exact ⟨by rw [E.out]; rfl, grow1 _ _⟩
      · have k2 : (k == 2) = false := by simp [h2]
        by_cases h3 : k = 3
        · have k3 : (k == 3) = true := by simp [h3]
          by_cases hn : n = 0
          · have E : Kp (right ⟨k, n, s⟩ = decide ((s.size : Int) ≤ 24)) := put (by rw [sz24]; simp [right, h3, hn])
            have n0 : (n == 0) = true := by simp [hn]
            clear h0 h1 h2 h3 hn
            go_enter Try.func98, Try.ntmps98
            go_wp2
            go_ret
            exact ⟨by rw [E.out]; rfl, grow1 _ _⟩
          · have E : Kp (right ⟨k, n, s⟩ = false) := put (by simp [right, h3, hn])
            have n0 : (n == 0) = false := by simp [hn]
            clear h0 h1 h2 h3 hn
            go_enter Try.func98, Try.ntmps98
            go_wp2
            go_ret
            exact ⟨by rw [E.out]; rfl, grow1 _ _⟩
        · have k3 : (k == 3) = false := by simp [h3]
          have E : Kp (right ⟨k, n, s⟩ = false) := put (by simp [right, h0, h1, h2, h3])
          clear h0 h1 h2 h3
          go_enter Try.func98, Try.ntmps98
          go_wp2
          go_ret
          exact ⟨by rw [E.out]; rfl, grow1 _ _⟩

set_option maxHeartbeats 4000000 in
set_option maxRecDepth 100000 in
theorem refRightCalls (v : Val) (w : World) : Calls Try.prog 75 #[.agg #[.int .i64 v.kind, .int .i64 v.n, .string v.s]] w fun e w' => e = .returned (.bool (right v)) ∧ ∃ q os, w' = grow (w.drewN q) os := by
  obtain ⟨k, n, s⟩ := v
  by_cases h0 : k = 0
  · have k0 : (k == 0) = true := by simp [h0]
    by_cases hn : n = 0
    · have E : Kp (right ⟨k, n, s⟩ = ((s.size : Int) == 0)) := put (by rw [sz0]; simp [right, h0, hn])
      have n0 : (n == 0) = true := by simp [hn]
      clear h0 hn
      go_enter Try.func75, Try.ntmps75
      go_wp2
      go_ret
      exact ⟨by rw [E.out]; rfl, grow1 _ _⟩
    · have E : Kp (right ⟨k, n, s⟩ = false) := put (by simp [right, h0, hn])
      have n0 : (n == 0) = false := by simp [hn]
      clear h0 hn
      go_enter Try.func75, Try.ntmps75
      go_wp2
      go_ret
      exact ⟨by rw [E.out]; rfl, grow1 _ _⟩
  · have k0 : (k == 0) = false := by simp [h0]
    by_cases h1 : k = 1
    · have k1 : (k == 1) = true := by simp [h1]
      by_cases hn : n = 0
      · have E : Kp (right ⟨k, n, s⟩ = ((s.size : Int) == 0)) := put (by rw [sz0]; simp [right, h1, hn])
        have n0 : (n == 0) = true := by simp [hn]
        clear h0 h1 hn
        go_enter Try.func75, Try.ntmps75
        go_wp2
        go_ret
        exact ⟨by rw [E.out]; rfl, grow1 _ _⟩
      · have n0 : (n == 0) = false := by simp [hn]
        by_cases hm : n = 1
        · have E : Kp (right ⟨k, n, s⟩ = ((s.size : Int) == 0)) := put (by rw [sz0]; simp [right, h1, hm])
          have m0 : (n == 1) = true := by simp [hm]
          clear h0 h1 hn hm
          go_enter Try.func75, Try.ntmps75
          go_wp2
          go_ret
          exact ⟨by rw [E.out]; rfl, grow1 _ _⟩
        · have E : Kp (right ⟨k, n, s⟩ = false) := put (by simp [right, h1, hn, hm])
          have m0 : (n == 1) = false := by simp [hm]
          clear h0 h1 hn hm
          go_enter Try.func75, Try.ntmps75
          go_wp2
          go_ret
          exact ⟨by rw [E.out]; rfl, grow1 _ _⟩
    · have k1 : (k == 1) = false := by simp [h1]
      by_cases h2 : k = 2
      · have k2 : (k == 2) = true := by simp [h2]
        have E : Kp (right ⟨k, n, s⟩ = ((s.size : Int) == 0)) := put (by rw [sz0]; simp [right, h2])
        clear h0 h1 h2
        go_enter Try.func75, Try.ntmps75
        go_wp2
        go_ret
        exact ⟨by rw [E.out]; rfl, grow1 _ _⟩
      · have k2 : (k == 2) = false := by simp [h2]
        by_cases h3 : k = 3
        · have k3 : (k == 3) = true := by simp [h3]
          by_cases hn : n = 0
          · have E : Kp (right ⟨k, n, s⟩ = decide ((s.size : Int) ≤ 24)) := put (by rw [sz24]; simp [right, h3, hn])
            have n0 : (n == 0) = true := by simp [hn]
            clear h0 h1 h2 h3 hn
            go_enter Try.func75, Try.ntmps75
            go_wp2
            go_ret
            exact ⟨by rw [E.out]; rfl, grow1 _ _⟩
          · have E : Kp (right ⟨k, n, s⟩ = false) := put (by simp [right, h3, hn])
            have n0 : (n == 0) = false := by simp [hn]
            clear h0 h1 h2 h3 hn
            go_enter Try.func75, Try.ntmps75
            go_wp2
            go_ret
            exact ⟨by rw [E.out]; rfl, grow1 _ _⟩
        · have k3 : (k == 3) = false := by simp [h3]
          have E : Kp (right ⟨k, n, s⟩ = false) := put (by simp [right, h0, h1, h2, h3])
          clear h0 h1 h2 h3
          go_enter Try.func75, Try.ntmps75
          go_wp2
          go_ret
          exact ⟨by rw [E.out]; rfl, grow1 _ _⟩
end Go.Proofs.Ytkfoknjflpklpaa.P
