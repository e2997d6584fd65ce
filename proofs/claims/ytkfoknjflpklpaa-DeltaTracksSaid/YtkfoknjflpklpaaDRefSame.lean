/- The document's answer: are lists of changes alike? -/
import Derived.Test.YtkfoknjflpklpaaDRefK
import Derived.Test.YtkfoknjflpklpaaDNet
namespace Go.Proofs.Ytkfoknjflpklpaa.D
open Go Go.RowKit Go.Proofs.Ytkfoknjflpklpaa.Mem

theorem chg_eq_iff (x y : Chg) : x = y ↔ x.table = y.table ∧ x.id = y.id ∧ x.old = y.old ∧ x.new = y.new := by
  cases x; cases y; simp

theorem Sl.drewn {α : Type} {d : Ty α} {ok : Nat → Prop} {w : World} {v : Value} {xs : List α} (h : Sl d ok w v xs) (n : Nat) : Sl d ok (w.drewN n) v xs := h.move (fun k _ _ => by simp)

set_option maxHeartbeats 16000000 in
set_option maxRecDepth 100000 in
theorem refSameCalls (ok1 ok2 : Nat → Prop) (u v : Value) (xs ys : List Chg) (w : World) (hx : Sl tChg ok1 w u xs) (hy : Sl tChg ok2 w v ys) :
    Calls Try.prog 16 #[u, v] w fun e w' => e = .returned (.bool (decide (xs = ys))) ∧ ∃ q, w' = w.drewN q := by
  obtain ⟨A, c, rfl, hx1, hx2, hx3, hxn, hxr⟩ := hx
  obtain ⟨B, c', rfl, hy1, hy2, hy3, hyn, hyr⟩ := hy
  have HX := put hxr
  have HY := put hyr
  clear hxr hyr hxn hyn
  by_cases hl : xs.length = ys.length
  · have l1 : ((xs.length : Int) != (ys.length : Int)) = false := by simp [hl]
    have HL := put hl
    clear hl
    go_enter Try.func16, Try.ntmps16
    go_wp2
    go_loopg [5] xs.length (fun kx s5 wr => ∃ (i : Nat), s5 = .int .i64 i ∧ i ≤ xs.length ∧ xs.length - i ≤ kx ∧ Kp (∃ q, wr = w.drewN q) ∧ Kp (xs.take i = ys.take i))
    case atStart => exact ⟨0, rfl, Nat.zero_le _, Nat.le_refl _, put ⟨0, rfl⟩, put (by simp)⟩
    case round =>
      obtain ⟨i, rfl, hi, hkx, hw, ht⟩ := hrel
      have HXr : Row tChg ok1 wr A xs := by obtain ⟨q, e⟩ := hw.out; rw [e]; exact HX.out.move (fun k _ _ => by simp)
      have HYr : Row tChg ok2 wr B ys := by obtain ⟨q, e⟩ := hw.out; rw [e]; exact HY.out.move (fun k _ _ => by simp)
      by_cases hlt : i < xs.length
      · have hlz : (i : Int) < (xs.length : Int) := by omega
        have hlt2 : i < ys.length := by rw [← HL.out]; exact hlt
        have hlz2 : (i : Int) < (ys.length : Int) := by omega
        have i0 : (0 : Int) ≤ (i : Int) := by omega
        obtain ⟨ad, a2, a3, rfl, x0, x1, x2, x3, sx2, sx3, _⟩ := chgs_get HXr i hlt
        obtain ⟨bd, b2, b3, rfl, y0, y1, y2, y3, sy2, sy3, _⟩ := chgs_get HYr i hlt2
        obtain ⟨x, hxe⟩ : ∃ x, x = xs[i] := ⟨_, rfl⟩
        obtain ⟨y, hye⟩ : ∃ y, y = ys[i] := ⟨_, rfl⟩
        rw [← hxe] at x0 x1 sx2 sx3
        rw [← hye] at y0 y1 sy2 sy3
        have E := put (And.intro hxe hye)
        obtain ⟨A2, k2, rfl, _, _, _⟩ := sx2.shape
        obtain ⟨A3, k3, rfl, _, _, _⟩ := sx3.shape
        obtain ⟨B2, j2, rfl, _, _, _⟩ := sy2.shape
        obtain ⟨B3, j3, rfl, _, _, _⟩ := sy3.shape
        have C2 : Kp (∀ n, Calls Try.prog 52 #[.slice A2 x.old.length k2, .slice B2 y.old.length j2] (wr.drewN n) fun e w' => e = .returned (.bool (decide (x.old = y.old))) ∧ ∃ q, w' = (wr.drewN n).drewN q) := ⟨fun n => sameVals ok1 ok2 _ _ x.old y.old _ (Sl.drewn sx2 n) (Sl.drewn sy2 n)⟩
        have C3 : Kp (∀ n, Calls Try.prog 52 #[.slice A3 x.new.length k3, .slice B3 y.new.length j3] (wr.drewN n) fun e w' => e = .returned (.bool (decide (x.new = y.new))) ∧ ∃ q, w' = (wr.drewN n).drewN q) := ⟨fun n => sameVals ok1 ok2 _ _ x.new y.new _ (Sl.drewn sx3 n) (Sl.drewn sy3 n)⟩
        clear hxe hye HXr HYr sx2 sx3 sy2 sy3
        have R := put (chg_eq_iff x y)
        by_cases h1 : x.table = y.table
        · have z1 : (x.table.toList == y.table.toList) = true := by rw [bytes_eq]; exact decide_eq_true h1
          have z1' : (x.table.toList != y.table.toList) = false := by rw [bne, z1]; rfl
          have K1 := put h1
          clear h1
          by_cases h2 : x.id = y.id
          · have z2 : (x.id != y.id) = false := by simp [h2]
            have K2 := put h2
            clear h2
            by_cases h3 : x.old = y.old
            · have z3 : decide (x.old = y.old) = true := decide_eq_true h3
              have K3 := put h3
              clear h3
              by_cases h4 : x.new = y.new
              · have z4 : decide (x.new = y.new) = true := decide_eq_true h4
                have K4 := put h4
                clear h4
                rw [z3] at C2
                rw [z4] at C3
                clear z3 z4
                go_wp2
                go_quiet (first | (go_at_call_of 52 (Value.slice A2 x.old.length k2); exact Calls.quiet_of (C2.out _)) | (go_at_call_of 52 (Value.slice A3 x.new.length k3); exact Calls.quiet_of (C3.out _)))
                go_wp2
                go_roundg (xs.length - (i + 1))
                case measure => omega
                case rel => exact ⟨i + 1, by go_num, by omega, Nat.le_refl _, put (by obtain ⟨q0, e⟩ := hw.out; rw [e]; simp only [World.drewN_drewN]; exact ⟨_, rfl⟩), put (take_succ_eq hlt hlt2 ht.out (by rw [← E.out.1, ← E.out.2]; exact R.out.2 ⟨K1.out, K2.out, K3.out, K4.out⟩))⟩
              · have z4 : decide (x.new = y.new) = false := decide_eq_false h4
                have hne := h4
                have NE := put h4
                clear h4
                rw [z3] at C2
                rw [z4] at C3
                clear z3 z4
                clear hne
                go_wp2
                go_quiet (first | (go_at_call_of 52 (Value.slice A2 x.old.length k2); exact Calls.quiet_of (C2.out _)) | (go_at_call_of 52 (Value.slice A3 x.new.length k3); exact Calls.quiet_of (C3.out _)))
                go_wp2
                go_ret
                refine ⟨?_, (by obtain ⟨q0, e⟩ := hw.out; rw [e]; simp only [World.drewN_drewN]; exact ⟨_, rfl⟩)⟩
                have : xs ≠ ys := fun h => by
                  apply NE.out
                  have hxy : x = y := by rw [E.out.1, E.out.2]; simp only [h]
                  exact by rw [hxy]
                simp [this]
            · have z3 : decide (x.old = y.old) = false := decide_eq_false h3
              have hne := h3
              have NE := put h3
              clear h3
              rw [z3] at C2
              clear z3
              clear hne
              go_wp2
              go_quiet (first | (go_at_call_of 52 (Value.slice A2 x.old.length k2); exact Calls.quiet_of (C2.out _)) | (go_at_call_of 52 (Value.slice A3 x.new.length k3); exact Calls.quiet_of (C3.out _)))
              go_wp2
              go_ret
              refine ⟨?_, (by obtain ⟨q0, e⟩ := hw.out; rw [e]; simp only [World.drewN_drewN]; exact ⟨_, rfl⟩)⟩
              have : xs ≠ ys := fun h => by
                apply NE.out
                have hxy : x = y := by rw [E.out.1, E.out.2]; simp only [h]
                exact by rw [hxy]
              simp [this]
          · have z2 : (x.id != y.id) = true := by simp [h2]
            have hne := h2
            have NE := put h2
            clear h2
            clear hne
            go_wp2
            go_quiet (first | (go_at_call_of 52 (Value.slice A2 x.old.length k2); exact Calls.quiet_of (C2.out _)) | (go_at_call_of 52 (Value.slice A3 x.new.length k3); exact Calls.quiet_of (C3.out _)))
            go_wp2
            go_ret
            refine ⟨?_, (by obtain ⟨q0, e⟩ := hw.out; rw [e]; simp only [World.drewN_drewN]; exact ⟨_, rfl⟩)⟩
            have : xs ≠ ys := fun h => by
              apply NE.out
              have hxy : x = y := by rw [E.out.1, E.out.2]; simp only [h]
              exact by rw [hxy]
            simp [this]
        · have z1 : (x.table.toList == y.table.toList) = false := by rw [bytes_eq]; exact decide_eq_false h1
          have z1' : (x.table.toList != y.table.toList) = true := by rw [bne, z1]; rfl
          have hne := h1
          have NE := put h1
          clear h1
          clear hne
          go_wp2
          go_quiet (first | (go_at_call_of 52 (Value.slice A2 x.old.length k2); exact Calls.quiet_of (C2.out _)) | (go_at_call_of 52 (Value.slice A3 x.new.length k3); exact Calls.quiet_of (C3.out _)))
          go_wp2
          go_ret
          refine ⟨?_, (by obtain ⟨q0, e⟩ := hw.out; rw [e]; simp only [World.drewN_drewN]; exact ⟨_, rfl⟩)⟩
          have : xs ≠ ys := fun h => by
            apply NE.out
            have hxy : x = y := by rw [E.out.1, E.out.2]; simp only [h]
            exact by rw [hxy]
          simp [this]
      · have hlz : ¬ (i : Int) < (xs.length : Int) := by omega
        clear HXr HYr
        go_wp2
        go_ret
        refine ⟨?_, hw.out⟩
        have h1 := ht.out
        rw [List.take_of_length_le (by omega), List.take_of_length_le (by have := HL.out; omega)] at h1
        simp [h1]
  · have l1 : ((xs.length : Int) != (ys.length : Int)) = true := by rw [bne_iff_ne]; omega
    have HL := put hl
    go_enter Try.func16, Try.ntmps16
    clear hl
    go_wp2
    go_ret
    refine ⟨?_, 0, rfl⟩
    have : xs ≠ ys := fun h => HL.out (by rw [h])
    simp [this]

end Go.Proofs.Ytkfoknjflpklpaa.D
