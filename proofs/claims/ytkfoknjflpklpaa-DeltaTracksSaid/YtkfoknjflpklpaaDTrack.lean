/- delta.Tracker's methods. -/
import Derived.Test.YtkfoknjflpklpaaDNetU
import Derived.Test.YtkfoknjflpklpaaDRefB
import Derived.Deep.RegionLaw
namespace Go.Proofs.Ytkfoknjflpklpaa.D
open Go Go.RowKit Go.Proofs.Ytkfoknjflpklpaa.Mem

/-- The worlds differ at the blocks B and behind all alone. -/
structure But (B : Nat → Prop) (w w' : World) : Prop where
  os : w'.os = w.os
  tape : w'.tape = w.tape
  output : w'.output = w.output
  size : w.heap.size ≤ w'.heap.size
  block : ∀ k, k < w.heap.size → ¬ B k → w'.heap[k]? = w.heap[k]?
theorem But.of_below {B : Nat → Prop} {w w' : World} (h : Below w.heap.size w w') : But B w w' := ⟨h.os, h.tape, h.output, h.size, fun k hk _ => h.block k hk⟩
theorem But.below {B : Nat → Prop} {w w' : World} {N : Nat} (h : But B w w') (hN : N ≤ w.heap.size) (hB : ∀ k, B k → N ≤ k) : Below N w w' := ⟨h.os, h.tape, h.output, h.size, fun k hk => h.block k (by omega) (fun hb => by have := hB k hb; omega)⟩

set_option maxRecDepth 100000 in
theorem newCalls (w : World) : Calls Try.prog 26 #[] w fun e w' => e = .returned (.pointer (some ⟨w.heap.size, 0, none⟩)) ∧ w' = w.alloc (.cells #[.slice none 0 0] 116) := by
  go_enter Try.func26, Try.ntmps26
  go_wp2_with fail
  go_ret
  exact ⟨rfl, rfl⟩

set_option maxRecDepth 100000 in
theorem markCalls (w : World) (T n c : Nat) (A : Option Addr) (h : w.cell? ⟨T, 0, none⟩ = some (.slice A n c)) : Calls Try.prog 30 #[.pointer (some ⟨T, 0, none⟩)] w fun e w' => e = .returned (.int .i64 n) ∧ w' = w := by
  go_enter Try.func30, Try.ntmps30
  go_wp2_with fail
  go_ret
  exact ⟨rfl, rfl⟩
set_option maxRecDepth 100000 in
theorem markNil (w : World) : Calls Try.prog 30 #[.pointer none] w fun e w' => e = .returned (.int .i64 0) ∧ w' = w := by
  go_enter Try.func30, Try.ntmps30
  go_wp2_with fail
  go_ret
  exact ⟨rfl, rfl⟩

/-- A mark that may be. -/
def markOf (mk : Int) (n : Nat) : Nat := min mk.toNat n
theorem markOf_int (mk : Int) (n : Nat) : ((markOf mk n : Nat) : Int) = min (max mk 0) (n : Int) := by unfold markOf; omega

set_option maxRecDepth 100000 in
theorem atCalls (w : World) (T n c : Nat) (A : Option Addr) (mk : Int) (h : w.cell? ⟨T, 0, none⟩ = some (.slice A n c)) : Calls Try.prog 58 #[.pointer (some ⟨T, 0, none⟩), .int .i64 mk] w fun e w' => e = .returned (.int .i64 (markOf mk n)) ∧ w' = w := by
  rw [markOf_int]
  go_enter Try.func58, Try.ntmps58
  go_wp2_with (first | (go_at_call 30; refine (markCalls _ T n c A h).mono ?_; rintro e w1 ⟨rfl, rfl⟩))
  go_ret
  exact ⟨rfl, rfl⟩

set_option maxRecDepth 100000 in
theorem sinceNil (w : World) (mk : Int) : Calls Try.prog 29 #[.pointer none, .int .i64 mk] w fun e w' => e = .returned (.slice none 0 0) ∧ w' = w := by
  go_enter Try.func29, Try.ntmps29
  go_wp2_with fail
  go_ret
  exact ⟨rfl, rfl⟩
set_option maxRecDepth 100000 in
theorem backNil (w : World) (mk : Int) : Calls Try.prog 28 #[.pointer none, .int .i64 mk] w fun e w' => (∃ r, e = .returned r) ∧ w' = w := by
  go_enter Try.func28, Try.ntmps28
  go_wp2_with fail
  exact bodyPost_end (results_none rfl _ _ _) rfl ⟨⟨_, rfl⟩, rfl⟩
set_option maxRecDepth 100000 in
theorem noteNil (w : World) (a b c d : Value) : Calls Try.prog 27 #[.pointer none, .agg #[a, b, c, d]] w fun e w' => (∃ r, e = .returned r) ∧ Below w.heap.size w w' := by
  go_enter Try.func27, Try.ntmps27
  go_wp2_with fail
  exact bodyPost_end (results_none rfl _ _ _) rfl ⟨⟨_, rfl⟩, balloc (Below.refl _ _) _⟩

set_option maxHeartbeats 8000000 in
set_option maxRecDepth 100000 in
theorem sinceCalls (ok : Nat → Prop) (w : World) (T n c : Nat) (A : Option Addr) (mk : Int) (xs : List Chg) (hT : w.cell? ⟨T, 0, none⟩ = some (.slice A n c)) (hS : Sl tChg ok w (.slice A n c) xs) (hl : xs.length ≤ 1000) (hb : ∀ x ∈ xs, x.old.length ≤ 1000 ∧ x.new.length ≤ 1000) :
    Calls Try.prog 29 #[.pointer (some ⟨T, 0, none⟩), .int .i64 mk] w fun e w' => ∃ vo, e = .returned vo ∧ Own tChgU 40 (fun k => w.heap.size ≤ k) w' w.heap.size vo (net (xs.drop (markOf mk n))) ∧ Below w.heap.size w w' := by
  obtain ⟨hrow, hn, hnc, hc9, _, hA0⟩ := hS.row
  have hkn : markOf mk n ≤ n := Nat.min_le_right _ _
  have HD := hS.drop hkn
  have LD : Kp ((xs.drop (markOf mk n)).length ≤ 1000) := put (by rw [List.length_drop]; omega)
  have RD : Kp (∀ x ∈ xs.drop (markOf mk n), x.old.length ≤ 1000 ∧ x.new.length ≤ 1000) := put (fun x hx => hb x (List.mem_of_mem_drop hx))
  have C58 : Kp (∀ W, W.cell? ⟨T, 0, none⟩ = some (.slice A n c) → Calls Try.prog 58 #[.pointer (some ⟨T, 0, none⟩), .int .i64 mk] W fun e w' => e = .returned (.int .i64 (markOf mk n)) ∧ w' = W) := ⟨fun W h => atCalls W T n c A mk h⟩
  generalize xs.drop (markOf mk n) = ys at *
  generalize markOf mk n = k at *
  have k0 : (0 : Int) ≤ (k : Int) := by omega
  have kn : (k : Int) ≤ (n : Int) := by omega
  have kc : (n : Int) ≤ (c : Int) := by omega
  have HSC := put (And.intro hS hn)
  clear hS hrow hl hb hn
  cases A with
  | none =>
    obtain rfl : c = 0 := hA0 rfl
    obtain rfl : n = 0 := by omega
    obtain rfl : k = 0 := by omega
    have HN : Kp (∀ W, Below w.heap.size w W → Sl tChg ok W (.slice none 0 0) ys) := put (fun W hb => by have h := HD; simp only [if_true, Nat.sub_self] at h; exact h.below hb)
    clear HD hA0
    go_enter Try.func29, Try.ntmps29
    go_wp2_with fail
    go_region_held3 (fun w' => w'.cell? ⟨T, 0, none⟩ = some (.slice none 0 0)) (first | go_keep | exact hT | exact t6)
      (first | (go_at_call 58; refine (C58.out _ (by first | exact hT | assumption)).mono ?_; rintro e w5 ⟨rfl, rfl⟩) | (go_at_call 18; refine (netCallsU ok (.slice none 0 0) ys _ (HN.out _ (by (repeat (first | with_reducible exact (Below.refl _ _) | with_reducible apply Below.drew | with_reducible refine balloc ?_ _)))) LD.out RD.out).mono ?_; rintro e w6 ⟨vo, rfl, ho, hb6⟩; have hb : Below w.heap.size w w6 := Below.trans (by (repeat (first | with_reducible exact (Below.refl _ _) | with_reducible apply Below.drew | with_reducible refine balloc ?_ _))) (hb6.mono (bsize (by (repeat (first | with_reducible exact (Below.refl _ _) | with_reducible apply Below.drew | with_reducible refine balloc ?_ _))))); have t6 := (hb.cell (p := ⟨T, 0, none⟩) (cell_lt hT)).trans hT; have HO := put ho; have HB := put hb; clear ho hb6 hb))
    all_goals
      go_wp2_with fail
      go_ret
      exact ⟨_, rfl, HO.out, HB.out⟩
  | some ad =>
    by_cases hck : c = k
    · obtain rfl : c = n := by omega
      obtain rfl : k = c := by omega
      rw [if_pos rfl, Nat.sub_self] at HD
      have HN : Kp (∀ W, Below w.heap.size w W → Sl tChg ok W (.slice (some ad) 0 0) ys) := put (fun W hb => HD.below hb)
      clear HD hA0 hck
      go_enter Try.func29, Try.ntmps29
      go_wp2_with fail
      go_region_held3 (fun w' => w'.cell? ⟨T, 0, none⟩ = some (.slice (some ad) k k)) (first | go_keep | exact hT | exact t6)
        (first | (go_at_call 58; refine (C58.out _ (by first | exact hT | assumption)).mono ?_; rintro e w5 ⟨rfl, rfl⟩) | (go_at_call 18; refine (netCallsU ok (.slice (some ad) 0 0) ys _ (HN.out _ (by (repeat (first | with_reducible exact (Below.refl _ _) | with_reducible apply Below.drew | with_reducible refine balloc ?_ _)))) LD.out RD.out).mono ?_; rintro e w6 ⟨vo, rfl, ho, hb6⟩; have hb : Below w.heap.size w w6 := Below.trans (by (repeat (first | with_reducible exact (Below.refl _ _) | with_reducible apply Below.drew | with_reducible refine balloc ?_ _))) (hb6.mono (bsize (by (repeat (first | with_reducible exact (Below.refl _ _) | with_reducible apply Below.drew | with_reducible refine balloc ?_ _))))); have t6 := (hb.cell (p := ⟨T, 0, none⟩) (cell_lt hT)).trans hT; have HO := put ho; have HB := put hb; clear ho hb6 hb))
      all_goals
        go_wp2_with fail
        go_ret
        exact ⟨_, rfl, HO.out, HB.out⟩
    · rw [if_neg hck] at HD
      have HN : Kp (∀ W, Below w.heap.size w W → Sl tChg ok W (.slice (some (ad.add (k * 4))) (n - k) (c - k)) ys) := put (fun W hb => HD.below hb)
      clear HD hA0
      go_enter Try.func29, Try.ntmps29
      go_wp2_with fail
      go_region_held3 (fun w' => w'.cell? ⟨T, 0, none⟩ = some (.slice (some ad) n c)) (first | go_keep | exact hT | exact t6)
        (first | (go_at_call 58; refine (C58.out _ (by first | exact hT | assumption)).mono ?_; rintro e w5 ⟨rfl, rfl⟩) | (go_at_call 18; refine (netCallsU ok (.slice (some (ad.add (k * 4))) (n - k) (c - k)) ys _ (HN.out _ (by (repeat (first | with_reducible exact (Below.refl _ _) | with_reducible apply Below.drew | with_reducible refine balloc ?_ _)))) LD.out RD.out).mono ?_; rintro e w6 ⟨vo, rfl, ho, hb6⟩; have hb : Below w.heap.size w w6 := Below.trans (by (repeat (first | with_reducible exact (Below.refl _ _) | with_reducible apply Below.drew | with_reducible refine balloc ?_ _))) (hb6.mono (bsize (by (repeat (first | with_reducible exact (Below.refl _ _) | with_reducible apply Below.drew | with_reducible refine balloc ?_ _))))); have t6 := (hb.cell (p := ⟨T, 0, none⟩) (cell_lt hT)).trans hT; have HO := put ho; have HB := put hb; clear ho hb6 hb))
      all_goals
        go_wp2_with fail
        go_ret
        exact ⟨_, rfl, HO.out, HB.out⟩

theorem heap_drew_size (w : World) : w.drew.heap.size = w.heap.size := rfl
theorem cell_of_heap {w : World} {T : Nat} {v : Value} {t : TypeId} (h : w.heap[T]? = some (.cells #[v] t (0, 0))) : w.cell? ⟨T, 0, none⟩ = some v := by simp [World.cell?, h]
theorem loose_of_heap {w : World} {T : Nat} {v : Value} {t : TypeId} (h : w.heap[T]? = some (.cells #[v] t (0, 0))) : w.frozen? ⟨T, 0, none⟩ = false := by simp [World.frozen?, h]
theorem heap_store {w : World} {T : Nat} {v : Value} {t : TypeId} (h : w.heap[T]? = some (.cells #[v] t (0, 0))) (u : Value) : (w.setCell ⟨T, 0, none⟩ u).heap[T]? = some (.cells #[u] t (0, 0)) := by
  simp [World.setCell, Array.getElem?_modify, h]
theorem heap_store_other {w : World} {T k : Nat} (u : Value) (h : k ≠ T) : (w.setCell ⟨T, 0, none⟩ u).heap[k]? = w.heap[k]? := Below.heap_setCell w ⟨T, 0, none⟩ u k h

set_option maxHeartbeats 8000000 in
set_option maxRecDepth 100000 in
theorem backCalls (ok : Nat → Prop) (w : World) (T n c : Nat) (A : Option Addr) (mk : Int) (xs : List Chg) (hT : w.heap[T]? = some (.cells #[.slice A n c] 116 (0, 0))) (hS : Sl tChg ok w (.slice A n c) xs) (hl : xs.length ≤ 1000) (hok : ∀ k, ok k → k ≠ T) :
    Calls Try.prog 28 #[.pointer (some ⟨T, 0, none⟩), .int .i64 mk] w fun e w' => (∃ r, e = .returned r) ∧ ∃ A' c', w'.heap[T]? = some (.cells #[.slice A' (xs.take (markOf mk n)).length c'] 116 (0, 0)) ∧ Own tChg 40 (fun k => ok k ∧ k < w.heap.size) w' w.heap.size (.slice A' (xs.take (markOf mk n)).length c') (xs.take (markOf mk n)) ∧ But (fun k => k = T) w w' := by
  obtain ⟨hrow, hn, hnc, hc9, _, hA0⟩ := hS.row
  have hkn : markOf mk n ≤ n := Nat.min_le_right _ _
  have HD := hS.take hkn
  have LD : Kp ((xs.take (markOf mk n)).length * 72 ≤ 140737488355328) := put (by rw [List.length_take]; omega)
  have hT0 := cell_of_heap hT
  have hTs : T < w.heap.size := (Array.getElem?_eq_some_iff.1 hT).1
  have C58 : Kp (∀ W, W.cell? ⟨T, 0, none⟩ = some (.slice A n c) → Calls Try.prog 58 #[.pointer (some ⟨T, 0, none⟩), .int .i64 mk] W fun e w' => e = .returned (.int .i64 (markOf mk n)) ∧ w' = W) := ⟨fun W h => atCalls W T n c A mk h⟩
  generalize xs.take (markOf mk n) = ys at *
  generalize markOf mk n = k at *
  have k0 : (0 : Int) ≤ (k : Int) := by omega
  have kn : (k : Int) ≤ (n : Int) := by omega
  have kc : (k : Int) ≤ (c : Int) := by omega
  have HT := put hT
  have HOK := put hok
  have HSC := put (And.intro hS hn)
  have HN : Kp (∀ W, Below w.heap.size w W → Sl tChg ok W (.slice A k c) ys) := put (fun W hb => HD.below hb)
  clear hS hrow hl hn hT HD hok
  cases A with
  | none =>
    obtain rfl : c = 0 := hA0 rfl
    obtain rfl : n = 0 := by omega
    obtain rfl : k = 0 := by omega
    clear hA0
    go_enter Try.func28, Try.ntmps28
    go_wp2_with fail
    go_region_law (first | (go_simp; go_at_call 58; refine (C58.out _ (by first | exact hT0 | assumption)).mono ?_; rintro e w5 ⟨rfl, rfl⟩; go_wp2_with fail) | (go_simp; go_at_call 53; refine (cloneChg ok (.slice none 0 0) ys _ (HN.out _ (by (repeat (first | with_reducible exact (Below.refl _ _) | with_reducible apply Below.drew | with_reducible refine balloc ?_ _)))) LD.out).mono ?_; rintro e w6 ⟨A6, c6, rfl, ho, hb6⟩; have hb : Below w.heap.size w w6 := Below.trans (by (repeat (first | with_reducible exact (Below.refl _ _) | with_reducible apply Below.drew | with_reducible refine balloc ?_ _))) (hb6.mono (bsize (by (repeat (first | with_reducible exact (Below.refl _ _) | with_reducible apply Below.drew | with_reducible refine balloc ?_ _))))); have h6 := (hb.block T hTs).trans HT.out; have t6 := cell_of_heap h6; have f6 := loose_of_heap h6; have H6 := put h6; have HO := put ho; have HB := put hb; clear ho hb6 hb h6; go_wp2_with fail))
    all_goals
      go_wp2_with fail
      exact bodyPost_end (results_none rfl _ _ _) rfl ⟨⟨_, rfl⟩, A6, c6, heap_store H6.out _, Own.far HO.out (fun k hk e => by have h := (HO.out.lt k hk).1; have e2 : k = T := e; simp only [heap_drew_size] at h; omega) (fun k hk e => HOK.out k hk.1 e) _, HB.out.os, HB.out.tape, HB.out.output, by have := HB.out.size; simpa [World.setCell] using this, fun k hk hne => (heap_store_other _ hne).trans (HB.out.block k hk)⟩
  | some ad =>
    clear hA0
    go_enter Try.func28, Try.ntmps28
    go_wp2_with fail
    go_region_law (first | (go_simp; go_at_call 58; refine (C58.out _ (by first | exact hT0 | assumption)).mono ?_; rintro e w5 ⟨rfl, rfl⟩; go_wp2_with fail) | (go_simp; go_at_call 53; refine (cloneChg ok (.slice (some ad) k c) ys _ (HN.out _ (by (repeat (first | with_reducible exact (Below.refl _ _) | with_reducible apply Below.drew | with_reducible refine balloc ?_ _)))) LD.out).mono ?_; rintro e w6 ⟨A6, c6, rfl, ho, hb6⟩; have hb : Below w.heap.size w w6 := Below.trans (by (repeat (first | with_reducible exact (Below.refl _ _) | with_reducible apply Below.drew | with_reducible refine balloc ?_ _))) (hb6.mono (bsize (by (repeat (first | with_reducible exact (Below.refl _ _) | with_reducible apply Below.drew | with_reducible refine balloc ?_ _))))); have h6 := (hb.block T hTs).trans HT.out; have t6 := cell_of_heap h6; have f6 := loose_of_heap h6; have H6 := put h6; have HO := put ho; have HB := put hb; clear ho hb6 hb h6; go_wp2_with fail))
    all_goals
      go_wp2_with fail
      exact bodyPost_end (results_none rfl _ _ _) rfl ⟨⟨_, rfl⟩, A6, c6, heap_store H6.out _, Own.far HO.out (fun k hk e => by have h := (HO.out.lt k hk).1; have e2 : k = T := e; simp only [heap_drew_size] at h; omega) (fun k hk e => HOK.out k hk.1 e) _, HB.out.os, HB.out.tape, HB.out.output, by have := HB.out.size; simpa [World.setCell] using this, fun k hk hne => (heap_store_other _ hne).trans (HB.out.block k hk)⟩
end Go.Proofs.Ytkfoknjflpklpaa.D
