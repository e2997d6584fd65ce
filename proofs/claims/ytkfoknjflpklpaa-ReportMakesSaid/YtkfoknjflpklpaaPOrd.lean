/- strings.Compare, cmp.Or of three numbers; value.Order and the document's Order. -/
import Derived.Test.YtkfoknjflpklpaaPVal
import Derived.Lib.Bytealg
import Derived.Laws.Externs
namespace Go.Proofs.Ytkfoknjflpklpaa.P
open Go Go.RowKit Go.Sort Go.Proofs.Ytkfoknjflpklpaa.Mem Go.Proofs.Ytkfoknjflpklpaa.Cmp Go.Proofs.Ytkfoknjflpklpaa.D
attribute [local go_sem high] eqVal

theorem compareBytes_lt : ∀ a b : List UInt8, Lib.compareBytes a b = if a < b then -1 else if a = b then 0 else 1
  | [], [] => by simp [Lib.compareBytes]
  | [], y :: b => by simp [Lib.compareBytes]
  | x :: a, [] => by simp [Lib.compareBytes]
  | x :: a, y :: b => by
    rw [Lib.compareBytes, compareBytes_lt a b]
    by_cases h : x < y
    · rw [if_pos h, if_pos (show x :: a < y :: b from List.Lex.rel h)]
    · rw [if_neg h]
      by_cases h2 : y < x
      · have hne : x ≠ y := fun e => by subst e; exact h h2
        rw [if_pos h2, if_neg (fun h3 => by
          cases h3 with
          | rel h3 => exact h h3
          | cons _ => exact h h2), if_neg (fun e => hne (List.cons.inj e).1)]
      · have e : x = y := by
          have h1 : ¬ x.toNat < y.toNat := h
          have h3 : ¬ y.toNat < x.toNat := h2
          exact UInt8.toNat_inj.1 (by omega)
        subst e
        rw [if_neg h2]
        have e1 : (x :: a < x :: b) = (a < b) := by
          apply propext
          constructor
          · intro h3
            cases h3 with
            | rel h3 => exact absurd h3 h
            | cons h3 => exact h3
          · exact fun h3 => List.Lex.cons h3
        simp only [e1, List.cons.injEq, true_and]
theorem compareBytes_eq (a b : ByteArray) : Lib.compareBytes a.data.toList b.data.toList = compareS a b := by
  rw [compareBytes_lt, ← ByteArray.toList_eq, ← ByteArray.toList_eq]
  unfold compareS
  by_cases h : a.toList < b.toList
  · rw [if_pos h, if_pos ((ltS_iff a b).2 h)]
  · rw [if_neg h, if_neg (fun h2 => h ((ltS_iff a b).1 h2))]
    by_cases e : a = b
    · rw [if_pos (congrArg _ e), if_pos e]
    · rw [if_neg (fun h2 => e (toList_inj h2)), if_neg e]

set_option maxHeartbeats 1000000 in
set_option maxRecDepth 100000 in
theorem strings2 (x y : ByteArray) (w : World) : Calls Try.prog 144 #[.string x, .string y] w fun e w' => e = .returned (.int .i64 (compareS x y)) ∧ w = w' := by
  go_enter Try.func144, Try.ntmps144
  go_wp2
  rw [run_callFunc_extern Try.func151 (by kernel_rfl) (by kernel_rfl) (by kernel_rfl) (e := Extern.BytealgCompare.compare) (by kernel_rfl), Lib.run_compareString]
  simp only [Result.andThen]
  rw [Oper.upon_value]
  go_wp2
  go_ret
  exact ⟨by rw [← compareBytes_eq]; rfl, rfl⟩
set_option maxHeartbeats 1000000 in
set_option maxRecDepth 100000 in
theorem stringsCompare (x y : ByteArray) (w : World) : Calls Try.prog 134 #[.string x, .string y] w fun e w' => e = .returned (.int .i64 (compareS x y)) ∧ w = w' := by
  go_enter Try.func134, Try.ntmps134
  go_wp2_with fail
  refine (strings2 _ _ _).mono ?_
  rintro e w' ⟨rfl, rfl⟩
  go_wp2_with fail
  go_ret
  exact ⟨rfl, rfl⟩

set_option maxHeartbeats 1000000 in
theorem orInt3 (x y z : Int) (b : Nat) (w : World) (h0 : w.cell? ⟨b, 0, none⟩ = some (.int .i64 x)) (h1 : w.cell? ⟨b, 1, none⟩ = some (.int .i64 y)) (h2 : w.cell? ⟨b, 2, none⟩ = some (.int .i64 z)) :
    Calls Try.prog 81 #[.slice (some ⟨b, 0, none⟩) 3 3] w fun e w' => e = .returned (.int .i64 (or3 x y z)) ∧ w = w' := by
  by_cases hx : x = 0
  · have n1 : (x != 0) = false := by simp [hx]
    by_cases hy : y = 0
    · have n2 : (y != 0) = false := by simp [hy]
      by_cases hz : z = 0
      · have n3 : (z != 0) = false := by simp [hz]
        have E := put (show or3 x y z = 0 by simp [or3, hx, hy, hz])
        clear hx hy hz
        go_enter Try.func81, Try.ntmps81
        go_wp2
        refine wp_loop_rounds 4 ?_
        rw [rounds_succ]; go_wp2
        rw [rounds_succ]; go_wp2
        rw [rounds_succ]; go_wp2
        rw [rounds_succ]; go_wp2
        go_ret
        exact ⟨by rw [E.out]; rfl, rfl⟩
      · have n3 : (z != 0) = true := by simp [hz]
        have E := put (show or3 x y z = z by simp [or3, hx, hy])
        clear hx hy hz
        go_enter Try.func81, Try.ntmps81
        go_wp2
        refine wp_loop_rounds 4 ?_
        rw [rounds_succ]; go_wp2
        rw [rounds_succ]; go_wp2
        rw [rounds_succ]; go_wp2
        go_ret
        exact ⟨by rw [E.out]; rfl, rfl⟩
    · have n2 : (y != 0) = true := by simp [hy]
      have E := put (show or3 x y z = y by simp [or3, hx, hy])
      clear hx hy
      go_enter Try.func81, Try.ntmps81
      go_wp2
      refine wp_loop_rounds 4 ?_
      rw [rounds_succ]; go_wp2
      rw [rounds_succ]; go_wp2
      go_ret
      exact ⟨by rw [E.out]; rfl, rfl⟩
  · have n1 : (x != 0) = true := by simp [hx]
    have E := put (show or3 x y z = x by simp [or3, hx])
    clear hx
    go_enter Try.func81, Try.ntmps81
    go_wp2
    refine wp_loop_rounds 4 ?_
    rw [rounds_succ]; go_wp2
    go_ret
    exact ⟨by rw [E.out]; rfl, rfl⟩

set_option maxHeartbeats 8000000 in
set_option maxRecDepth 100000 in
theorem ordCalls (x y : Val) (w : World) :
    Calls Try.prog 107 #[.agg #[.int .i64 x.kind, .int .i64 x.n, .string x.s], .agg #[.int .i64 y.kind, .int .i64 y.n, .string y.s]] w fun e w' => e = .returned (.int .i64 (ord x y)) ∧ ∃ q os, w' = grow (w.drewN q) os := by
  go_enter Try.func107, Try.ntmps107
  go_wp2_with fail
  generalize hw2 : (w.alloc (.cells #[.int .i64 x.kind, .int .i64 x.n, .string x.s] 55)).alloc (.cells #[.int .i64 y.kind, .int .i64 y.n, .string y.s] 55) = w2
  have s2 : w2.heap.size = w.heap.size + 2 := by rw [← hw2]; simp
  have c1 : w2.cell? ⟨w.heap.size, 0, none⟩ = some (.int .i64 x.kind) := by rw [← hw2]; simp
  have c2 : w2.cell? ⟨w.heap.size, 1, none⟩ = some (.int .i64 x.n) := by rw [← hw2]; simp
  have c3 : w2.cell? ⟨w.heap.size, 2, none⟩ = some (.string x.s) := by rw [← hw2]; simp
  have c4 : w2.cell? ⟨w.heap.size + 1, 0, none⟩ = some (.int .i64 y.kind) := by rw [← hw2]; simp
  have c5 : w2.cell? ⟨w.heap.size + 1, 1, none⟩ = some (.int .i64 y.n) := by rw [← hw2]; simp
  have c6 : w2.cell? ⟨w.heap.size + 1, 2, none⟩ = some (.string y.s) := by rw [← hw2]; simp
  have HW := put hw2
  clear hw2
  obtain ⟨B, hB⟩ : ∃ B, B = w.heap.size := ⟨_, rfl⟩
  rw [← hB] at s2 c1 c2 c3 c4 c5 c6 ⊢
  have l1 : B < w2.heap.size := by omega
  have l2 : B + 1 < w2.heap.size := by omega
  have HB := put hB
  have HS := put s2
  clear hB s2
  go_region_held3 (fun w' => w'.cell? ⟨B, 0, none⟩ = some (.int .i64 x.kind) ∧ w'.cell? ⟨B, 1, none⟩ = some (.int .i64 x.n) ∧ w'.cell? ⟨B, 2, none⟩ = some (.string x.s) ∧ w'.cell? ⟨B + 1, 0, none⟩ = some (.int .i64 y.kind) ∧ w'.cell? ⟨B + 1, 1, none⟩ = some (.int .i64 y.n) ∧ w'.cell? ⟨B + 1, 2, none⟩ = some (.string y.s)) (go_keep)
    (first | (go_at_call 134; refine (stringsCompare _ _ _).mono ?_; rintro e w' ⟨rfl, rfl⟩) | (go_at_call 83; refine (compareInt _ _ _).mono ?_; rintro e w' ⟨rfl, rfl⟩) | (go_at_call 81; refine (orInt3 _ _ _ _ _ (by simp; rfl) (by simp; rfl) (by simp; rfl)).mono ?_; rintro e w' ⟨rfl, rfl⟩))
  all_goals go_wp2
  all_goals go_ret
  all_goals
    refine ⟨rfl, ?_⟩
    rw [← HW.out, alloc_eq_grow, alloc_eq_grow, alloc_eq_grow, grow_grow, grow_grow]
    exact ⟨1, _, rfl⟩

theorem grow2 (w : World) (o o2 : Obj) : ∃ q os, (w.alloc o).alloc o2 = grow (w.drewN q) os := ⟨0, _, by rw [alloc_eq_grow, alloc_eq_grow, grow_grow]; rfl⟩
set_option maxHeartbeats 8000000 in
set_option maxRecDepth 100000 in
theorem refOrdCalls (x y : Val) (w : World) :
    Calls Try.prog 105 #[.agg #[.int .i64 x.kind, .int .i64 x.n, .string x.s], .agg #[.int .i64 y.kind, .int .i64 y.n, .string y.s]] w fun e w' => e = .returned (.int .i64 (refOrd x y)) ∧ ∃ q os, w' = grow (w.drewN q) os := by
  have ve := val_eq x y
  by_cases e : x = y
  · have E := put (show refOrd x y = 0 by unfold refOrd; rw [if_pos e])
    rw [decide_eq_true e] at ve
    clear e
    go_enter Try.func105, Try.ntmps105
    go_wp2
    go_ret
    exact ⟨by rw [E.out]; rfl, grow2 _ _ _⟩
  · rw [decide_eq_false e] at ve
    by_cases hk : x.kind = y.kind
    · have k1 : (x.kind == y.kind) = true := by simp [hk]
      by_cases hn : x.n < y.n
      · have E := put (show refOrd x y = -1 by unfold refOrd; rw [if_neg e, if_pos hk]; simp [hn])
        have n1 : (x.n == y.n) = false := by simp; omega
        clear e hk ve
        go_enter Try.func105, Try.ntmps105
        go_wp2
        go_ret
        exact ⟨by rw [E.out]; rfl, grow2 _ _ _⟩
      · by_cases hm : x.n = y.n
        · have m1 : (x.n == y.n) = true := by simp [hm]
          cases hs : ltS x.s y.s with
          | true =>
            have E := put (show refOrd x y = -1 by unfold refOrd; rw [if_neg e, if_pos hk]; simp [hm, hs])
            unfold ltS at hs
            have s1 : (x.s.toList == y.s.toList) = false := by rw [bytes_eq]; exact decide_eq_false (fun h => e (by cases x; cases y; simp only at hk hm h; subst hk; subst hm; subst h; rfl))
            clear e hk hm ve
            go_enter Try.func105, Try.ntmps105
            go_wp2
            go_ret
            exact ⟨by rw [E.out]; rfl, grow2 _ _ _⟩
          | false =>
            have E := put (show refOrd x y = 1 by unfold refOrd; rw [if_neg e, if_pos hk]; simp [hm, hs])
            unfold ltS at hs
            have s1 : (x.s.toList == y.s.toList) = false := by rw [bytes_eq]; exact decide_eq_false (fun h => e (by cases x; cases y; simp only at hk hm h; subst hk; subst hm; subst h; rfl))
            clear e hk hm ve
            go_enter Try.func105, Try.ntmps105
            go_wp2
            go_ret
            exact ⟨by rw [E.out]; rfl, grow2 _ _ _⟩
        · have m1 : (x.n == y.n) = false := by simp [hm]
          have E := put (show refOrd x y = 1 by unfold refOrd; rw [if_neg e, if_pos hk]; simp [hn, hm])
          clear e hk hm ve
          go_enter Try.func105, Try.ntmps105
          go_wp2
          go_ret
          exact ⟨by rw [E.out]; rfl, grow2 _ _ _⟩
    · have k1 : (x.kind == y.kind) = false := by simp [hk]
      by_cases hl : x.kind < y.kind
      · have E := put (show refOrd x y = -1 by unfold refOrd; rw [if_neg e, if_neg hk]; simp [hl])
        clear e hk ve
        go_enter Try.func105, Try.ntmps105
        go_wp2
        go_ret
        exact ⟨by rw [E.out]; rfl, grow2 _ _ _⟩
      · have E := put (show refOrd x y = 1 by unfold refOrd; rw [if_neg e, if_neg hk]; simp [hl])
        clear e hk ve
        go_enter Try.func105, Try.ntmps105
        go_wp2
        go_ret
        exact ⟨by rw [E.out]; rfl, grow2 _ _ _⟩
end Go.Proofs.Ytkfoknjflpklpaa.P
