/- The document's answers: rows alike, a change's kind, changes alike. -/
import Derived.Test.YtkfoknjflpklpaaDKind
namespace Go.Proofs.Ytkfoknjflpklpaa.D
open Go Go.RowKit Go.Proofs.Ytkfoknjflpklpaa.Mem
attribute [local go_sem high] eqVal

set_option maxHeartbeats 4000000 in
set_option maxRecDepth 100000 in
theorem sameVals (ok1 ok2 : Nat → Prop) (u v : Value) (xs ys : List Val) (w : World) (hx : Sl tVal ok1 w u xs) (hy : Sl tVal ok2 w v ys) :
    Calls Try.prog 52 #[u, v] w fun e w' => e = .returned (.bool (decide (xs = ys))) ∧ ∃ q, w' = w.drewN q := by
  obtain ⟨A, c, rfl, hx1, hx2, hx3, hxn, hxr⟩ := hx
  obtain ⟨B, c', rfl, hy1, hy2, hy3, hyn, hyr⟩ := hy
  have HX := put hxr
  have HY := put hyr
  clear hxr hyr hxn hyn
  by_cases hl : xs.length = ys.length
  · have l1 : ((xs.length : Int) != (ys.length : Int)) = false := by simp [hl]
    have HL : Hid (xs.length = ys.length) := hl
    go_enter Try.func52, Try.ntmps52
    clear hl
    go_wp2
    go_loopg [5] xs.length (fun kx s5 wr => ∃ (i q : Nat), s5 = .int .i64 i ∧ i ≤ xs.length ∧ xs.length - i ≤ kx ∧ wr = w.drewN q ∧ Hid (xs.take i = ys.take i))
    case atStart => exact ⟨0, 0, rfl, Nat.zero_le _, Nat.le_refl _, rfl, by show _ = _; simp⟩
    case round =>
      obtain ⟨i, q, rfl, hi, hkx, rfl, ht⟩ := hrel
      by_cases hlt : i < xs.length
      · have hlz : (i : Int) < (xs.length : Int) := by omega
        have hlt2 : i < ys.length := by rw [← HL.out]; exact hlt
        have hlz2 : (i : Int) < (ys.length : Int) := by omega
        have i0 : (0 : Int) ≤ (i : Int) := by omega
        obtain ⟨ad, rfl, x0, x1, x2⟩ := vals_get HX.out i hlt
        obtain ⟨bd, rfl, y0, y1, y2⟩ := vals_get HY.out i hlt2
        obtain ⟨x, hxe⟩ : ∃ x, x = xs[i] := ⟨_, rfl⟩
        obtain ⟨y, hye⟩ : ∃ y, y = ys[i] := ⟨_, rfl⟩
        rw [← hxe] at x0 x1 x2
        rw [← hye] at y0 y1 y2
        have E : Hid (x = xs[i] ∧ y = ys[i]) := ⟨hxe, hye⟩
        clear hxe hye
        by_cases he : x = y
        · have hb : (!(x.kind == y.kind) || (!(x.n == y.n) || !(x.s.toList == y.s.toList))) = false := by rw [val_ne]; simp [he]
          have HE : Hid (x = y) := he
          clear he
          go_wp2
          go_quiet (fail)
          go_wp2
          go_roundg (xs.length - (i + 1))
          case measure => omega
          case rel => exact ⟨i + 1, _, by go_num, by omega, Nat.le_refl _, (by first | rfl | exact World.drewN_drewN _ _ _), take_succ_eq hlt hlt2 ht.out (by rw [← E.out.1, ← E.out.2]; exact HE.out)⟩
        · have hb : (!(x.kind == y.kind) || (!(x.n == y.n) || !(x.s.toList == y.s.toList))) = true := by rw [val_ne]; simp [he]
          go_wp2
          go_quiet (fail)
          go_wp2
          go_ret
          refine ⟨?_, _, (by first | rfl | exact World.drewN_drewN _ _ _)⟩
          have : xs ≠ ys := fun h => by
            apply he
            rw [E.out.1, E.out.2]
            simp only [h]
          simp [this]
      · have hlz : ¬ (i : Int) < (xs.length : Int) := by omega
        go_wp2
        go_ret
        refine ⟨?_, _, rfl⟩
        have h1 := ht.out
        rw [List.take_of_length_le (by omega), List.take_of_length_le (by have := HL.out; omega)] at h1
        simp [h1]
  · have l1 : ((xs.length : Int) != (ys.length : Int)) = true := by rw [bne_iff_ne]; omega
    have HL : Hid (¬ xs.length = ys.length) := hl
    go_enter Try.func52, Try.ntmps52
    clear hl
    go_wp2
    go_ret
    refine ⟨?_, 0, rfl⟩
    have : xs ≠ ys := fun h => HL.out (by rw [h])
    simp [this]

set_option maxHeartbeats 4000000 in
set_option maxRecDepth 100000 in
theorem refKindCalls (ok : Nat → Prop) (c : Chg) (cs : List Value) (w : World) (h : tChg.R ok w c cs) :
    Calls Try.prog 22 #[.agg cs.toArray] w fun e w' => e = .returned (.int .i64 c.kind) ∧ Below w.heap.size w w' := by
  obtain ⟨v2, v3, rfl, h2, h3⟩ := h
  have C := sameVals ok ok v2 v3 c.old c.new (w.alloc (.cells #[.string c.table, .int .i64 c.id, v2, v3] 43)) (h2.below ((Below.refl _ _).alloc (Nat.le_refl _) _)) (h3.below ((Below.refl _ _).alloc (Nat.le_refl _) _))
  obtain ⟨A2, c2, rfl, l2, m2, n2⟩ := h2.shape
  obtain ⟨A3, c3, rfl, l3, m3, n3⟩ := h3.shape
  have CC := put C
  have HB : Kp (∀ q, Below w.heap.size w ((w.alloc (.cells #[.string c.table, .int .i64 c.id, .slice A2 c.old.length c2, .slice A3 c.new.length c3] 43)).drewN q)) := ⟨fun q => ⟨rfl, rfl, rfl, by simp, fun k hk => by simp [Below.heap_alloc _ _ _ hk]⟩⟩
  clear C h2 h3
  by_cases e1 : c.old = c.new
  · have hk : c.kind = 0 := by simp [Chg.kind, e1]
    have K : Hid _ := hk
    have E : decide (c.old = c.new) = true := decide_eq_true e1
    clear hk e1
    go_enter Try.func22, Try.ntmps22
    go_wp2_with fail
    refine CC.out.mono ?_
    rintro e w' ⟨rfl, q, rfl⟩
    rw [E]
    go_wp2
    go_ret
    exact ⟨by rw [K.out]; rfl, HB.out q⟩
  · have E : decide (c.old = c.new) = false := decide_eq_false e1
    by_cases e2 : c.old = []
    · have hk : c.kind = 1 := by unfold Chg.kind; rw [if_neg e1, if_pos e2]
      have K : Hid _ := hk
      have z : ((c.old.length : Int) == 0) = true := by simp [e2]
      clear hk e1 e2
      go_enter Try.func22, Try.ntmps22
      go_wp2_with fail
      refine CC.out.mono ?_
      rintro e w' ⟨rfl, q, rfl⟩
      rw [E]
      go_wp2
      go_ret
      exact ⟨by rw [K.out]; rfl, HB.out q⟩
    · have z : ((c.old.length : Int) == 0) = false := by rw [beq_eq_false_iff_ne]; intro h; apply e2; exact List.eq_nil_of_length_eq_zero (by omega)
      by_cases e3 : c.new = []
      · have hk : c.kind = 2 := by unfold Chg.kind; rw [if_neg e1, if_neg e2, if_pos e3]
        have K : Hid _ := hk
        have z2 : ((c.new.length : Int) == 0) = true := by simp [e3]
        clear hk e1 e2 e3
        go_enter Try.func22, Try.ntmps22
        go_wp2_with fail
        refine CC.out.mono ?_
        rintro e w' ⟨rfl, q, rfl⟩
        rw [E]
        go_wp2
        go_ret
        exact ⟨by rw [K.out]; rfl, HB.out q⟩
      · have hk : c.kind = 3 := by unfold Chg.kind; rw [if_neg e1, if_neg e2, if_neg e3]
        have K : Hid _ := hk
        have z2 : ((c.new.length : Int) == 0) = false := by rw [beq_eq_false_iff_ne]; intro h; apply e3; exact List.eq_nil_of_length_eq_zero (by omega)
        clear hk e1 e2 e3
        go_enter Try.func22, Try.ntmps22
        go_wp2_with fail
        refine CC.out.mono ?_
        rintro e w' ⟨rfl, q, rfl⟩
        rw [E]
        go_wp2
        go_ret
        exact ⟨by rw [K.out]; rfl, HB.out q⟩

end Go.Proofs.Ytkfoknjflpklpaa.D
