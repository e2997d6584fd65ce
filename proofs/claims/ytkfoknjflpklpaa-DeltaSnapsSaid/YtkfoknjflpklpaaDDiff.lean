/- differ: how two states differ. -/
import Derived.Test.YtkfoknjflpklpaaDChg2
namespace Go.Proofs.Ytkfoknjflpklpaa.D
open Go Go.RowKit Go.Proofs.Ytkfoknjflpklpaa.Mem

def diffTo (f g : Rs) (k : Nat) : List Chg := ((places.take k).filter fun p => !decide (f p.1 p.2 = g p.1 p.2)).map (cellC f g)
theorem places_get : ∀ t, t < 3 → ∀ i, i < 6 → places[6 * t + i]? = some (t, i) := by decide +kernel
theorem diffTo_step (f g : Rs) {t i : Nat} (ht : t < 3) (hi : i < 6) : diffTo f g (6 * t + i + 1) = diffTo f g (6 * t + i) ++ (if f t i = g t i then [] else [cellC f g (t, i)]) := by
  have h := places_get t ht i hi
  unfold diffTo
  rw [take_one_more h, List.filter_append, List.map_append]
  congr 1
  by_cases he : f t i = g t i
  · simp [he]
  · simp [he]
theorem diffTo_all (f g : Rs) : diffTo f g 18 = differR f g := by
  unfold diffTo differR
  rw [List.take_of_length_le (by decide)]
theorem diffTo_len (f g : Rs) (k : Nat) : (diffTo f g k).length ≤ 18 := by
  unfold diffTo
  rw [List.length_map]
  refine Nat.le_trans (List.length_filter_le _ _) ?_
  rw [List.length_take]
  exact Nat.le_trans (Nat.min_le_right _ _) (by decide)

set_option maxHeartbeats 16000000 in
set_option maxRecDepth 100000 in
theorem differCalls (N b1 b2 n1 n2 : Nat) (f g : Rs) (w : World) (hN : N ≤ b1) (hM1 : MapIs (fun k => k < N) w b1 n1 f) (hM2 : MapIs (fun k => k < N) w b2 n2 g) :
    Calls Try.prog 19 #[.map (some b1), .map (some b2)] w fun e w' => ∃ vo, e = .returned vo ∧ Own tChg 43 (fun k => k < N) w' w.heap.size vo (differR f g) ∧ Below w.heap.size w w' := by
  have HM1 := put hM1
  have HM2 := put hM2
  have HN := put (Nat.lt_of_le_of_lt hN hM1.lt)
  clear hN hM1 hM2
  go_enter Try.func19, Try.ntmps19
  go_wp2_with fail
  go_loopg [5, 6] 3 (fun kx s5 s6 wr => ∃ (t : Nat) (Ao : Option Addr) (mo co : Nat), s5 = .slice Ao mo co ∧ s6 = .int .u8 t ∧ t ≤ 3 ∧ 3 - t ≤ kx ∧ Kp (mo = (diffTo f g (6 * t)).length) ∧ Kp (Own tChg 43 (fun k => k < N) wr w.heap.size (.slice Ao mo co) (diffTo f g (6 * t))) ∧ Kp (Below w.heap.size w wr))
  case atStart => exact ⟨0, none, 0, 0, rfl, rfl, Nat.zero_le _, Nat.le_refl _, put rfl, put (Own.nil _ _ _ _ _), put (Below.refl _ _)⟩
  case round =>
    obtain ⟨t, Ao, mo, co, rfl, rfl, ht, hkx, HMO, KO, KB⟩ := hrel
    by_cases hlt : t < 3
    · have hlz : (t : Int) < 3 := by omega
      go_wp2_with fail
      go_loopg [5, 7] 6 (fun kx s5 s7 wi => ∃ (i : Nat) (Ai : Option Addr) (mi ci : Nat), s5 = .slice Ai mi ci ∧ s7 = .int .u8 i ∧ i ≤ 6 ∧ 6 - i ≤ kx ∧ Kp (mi = (diffTo f g (6 * t + i)).length) ∧ Kp (Own tChg 43 (fun k => k < N) wi w.heap.size (.slice Ai mi ci) (diffTo f g (6 * t + i))) ∧ Kp (Below w.heap.size w wi))
      case atStart => exact ⟨0, Ao, mo, co, rfl, rfl, Nat.zero_le _, Nat.le_refl _, HMO, KO, KB⟩
      case round =>
        clear HMO KO KB
        obtain ⟨i, Ai, mi, ci, rfl, rfl, hi, hkx2, HMI, KI, KBI⟩ := hrel
        by_cases hlt2 : i < 6
        · have hlz2 : (i : Int) < 6 := by omega
          have KM1 := put (HM1.out.below KBI.out)
          have KM2 := put (HM2.out.below KBI.out)
          have HST := put (diffTo_step f g hlt hlt2)
          go_wp2_with fail
          obtain ⟨w4, hw4⟩ : ∃ w4, w4 = wr.alloc (.cells #[.int .u8 (t : Int), .int .u8 (i : Int)] 29) := ⟨_, rfl⟩
          obtain ⟨B, hB⟩ : ∃ B, B = wr.heap.size := ⟨_, rfl⟩
          have hB4 : Below wr.heap.size wr w4 := by rw [hw4]; exact balloc (Below.refl _ _) _
          have g0 : w4.cell? ⟨B, 0, none⟩ = some (.int .u8 (t : Int)) := by rw [hw4, hB]; simp
          have g1 : w4.cell? ⟨B, 1, none⟩ = some (.int .u8 (i : Int)) := by rw [hw4, hB]; simp
          have s4 : B < w4.heap.size := by rw [hw4, hB]; simp
          rw [← hw4, ← hB]
          have HB4 := put (And.intro hB4 hB)
          have KB4 := put (KBI.out.trans (hB4.mono KBI.out.size))
          have KI4 := put (KI.out.below hB4)
          obtain ⟨v1, hs1, hlk1⟩ := (KM1.out.below hB4).look2 t i hlt hlt2
          obtain ⟨v2, hs2, hlk2⟩ := (KM2.out.below hB4).look2 t i hlt hlt2
          have M1 := put (KM1.out.below hB4).lt
          have M2 := put (KM2.out.below hB4).lt
          obtain ⟨A1, k1, rfl, _⟩ := hs1.shape
          obtain ⟨A2, k2, rfl, _⟩ := hs2.shape
          have HC : Kp (∀ n, Calls Try.prog 52 #[.slice A1 (f t i).length k1, .slice A2 (g t i).length k2] (w4.drewN n) fun e w' => e = .returned (.bool (decide (f t i = g t i))) ∧ ∃ q, w' = (w4.drewN n).drewN q) := ⟨fun n => sameVals _ _ _ _ (f t i) (g t i) _ (Sl.drewn hs1 n) (Sl.drewn hs2 n)⟩
          have HS1 := put hs1
          have HS2 := put hs2
          have HR : Kp (tChg.R (fun k => k < N ∧ some k ≠ (Value.slice Ai mi ci).ownBlock) w4 (cellC f g (t, i)) [.string (nameOf t), .int .i64 (i : Int), .slice A1 (f t i).length k1, .slice A2 (g t i).length k2]) := ⟨by
            have hne : ∀ k, k < N → k < N ∧ some k ≠ (Value.slice Ai mi ci).ownBlock := fun k hk => ⟨hk, fun e => by have := (KI.out.lt k e.symm).1; have := HN.out; omega⟩
            exact ⟨_, _, rfl, HS1.out.mono hne, HS2.out.mono hne⟩⟩
          have HL1 := put hlk1
          have HL2 := put hlk2
          have HLN := put (diffTo_len f g (6 * t + i))
          obtain ⟨cc, hcc⟩ : ∃ cc, cc = cellC f g (t, i) := ⟨_, rfl⟩
          rw [← hcc] at HR HST
          clear hcc
          generalize diffTo f g (6 * t + i) = out at *
          generalize f t i = ff at *
          generalize g t i = gg at *
          have hd1 : ∀ n, (Instr.lookup 26 (.map (some b1)) (.agg #[.int .u8 (t : Int), .int .u8 (i : Int)]) false).run Try.prog (w4.drewN n) = .ok (.slice A1 ff.length k1) (w4.drewN n) := fun n => HL1.out _ _ (by simp) rfl
          have hd2 : ∀ n, (Instr.lookup 26 (.map (some b2)) (.agg #[.int .u8 (t : Int), .int .u8 (i : Int)]) false).run Try.prog (w4.drewN n) = .ok (.slice A2 gg.length k2) (w4.drewN n) := fun n => HL2.out _ _ (by simp) rfl
          clear hw4 hB4 hB hs1 hs2 hlk1 hlk2
          by_cases he : ff = gg
          · have hde : decide (ff = gg) = true := decide_eq_true he
            rw [hde] at HC
            have HE := put he
            clear he hde
            go_quiet (first | (go_at_call_of 52 (Value.slice A1 ff.length k1); exact Calls.quiet_of (HC.out _)))
            go_wp2_with fail
            go_roundg (6 - (i + 1))
            case measure => omega
            case rel => exact ⟨i + 1, Ai, mi, ci, rfl, rfl, by omega, Nat.le_refl _, put (by rw [← Nat.add_assoc, HST.out, if_pos HE.out, List.append_nil]; exact HMI.out), put (by rw [← Nat.add_assoc, HST.out, if_pos HE.out, List.append_nil]; exact Own.below KI4.out (Below.drewn (Below.refl _ _))), put (Below.drewn KB4.out)⟩
          · have hde : decide (ff = gg) = false := decide_eq_false he
            rw [hde] at HC
            have HE := put he
            clear he hde
            go_quiet (first | (go_at_call_of 52 (Value.slice A1 ff.length k1); exact Calls.quiet_of (HC.out _)))
            go_wp2_with fail
            clear hd1 hd2
            obtain ⟨w5, hw5⟩ : ∃ w5, w5 = w4.drewN nq := ⟨_, rfl⟩
            have hB5 : Below w4.heap.size w4 w5 := by rw [hw5]; exact Below.drewn (Below.refl _ _)
            have hs5 : w5.heap.size = w4.heap.size := by rw [hw5]; simp
            have G0 : w5.cell? ⟨B, 0, none⟩ = some (.int .u8 (t : Int)) := (hB5.cell (p := ⟨B, 0, none⟩) s4).trans g0
            have G1 : w5.cell? ⟨B, 1, none⟩ = some (.int .u8 (i : Int)) := (hB5.cell (p := ⟨B, 1, none⟩) s4).trans g1
            have S5 : B < w5.heap.size := by omega
            have HB5 := put (And.intro hB5 hs5)
            rw [← hw5]
            clear hw5 hB5 hs5 g0 g1 s4
            have KI5 := put (KI4.out.below HB5.out.1)
            have KB5 := put (KB4.out.trans (HB5.out.1.mono KB4.out.size))
            have HSZ : Kp (w.heap.size ≤ w5.heap.size) := put KB5.out.size
            have HR5 := put (Ty.below HR.out HB5.out.1)
            have hk1 : ∀ o, (Instr.lookup 26 (.map (some b1)) (.agg #[.int .u8 (t : Int), .int .u8 (i : Int)]) false).run Try.prog (w5.alloc o).drew = .ok (.slice A1 ff.length k1) (w5.alloc o).drew := fun o => HL1.out _ _ ((Below.block (B := w4.heap.size) (((HB5.out.1).alloc HB5.out.1.size o).drew) b1 M1.out)) rfl
            have hk2 : (Instr.lookup 26 (.map (some b1)) (.agg #[.int .u8 (t : Int), .int .u8 (i : Int)]) false).run Try.prog w5.drew = .ok (.slice A1 ff.length k1) w5.drew := HL1.out _ _ ((Below.block (B := w4.heap.size) (HB5.out.1.drew) b1 M1.out)) rfl
            have hk3 : ∀ o, (Instr.lookup 26 (.map (some b2)) (.agg #[.int .u8 (t : Int), .int .u8 (i : Int)]) false).run Try.prog (w5.alloc o).drew = .ok (.slice A2 gg.length k2) (w5.alloc o).drew := fun o => HL2.out _ _ ((Below.block (B := w4.heap.size) (((HB5.out.1).alloc HB5.out.1.size o).drew) b2 M2.out)) rfl
            have hk4 : (Instr.lookup 26 (.map (some b2)) (.agg #[.int .u8 (t : Int), .int .u8 (i : Int)]) false).run Try.prog w5.drew = .ok (.slice A2 gg.length k2) w5.drew := HL2.out _ _ ((Below.block (B := w4.heap.size) (HB5.out.1.drew) b2 M2.out)) rfl
            have hcv := run_name t hlt
            have wj : IntKind.i64.wrap (i : Int) = (i : Int) := wrap_small i (by omega)
            have HNE : Kp (some B ≠ (Value.slice Ai mi ci).ownBlock) := put (fun e => by have := (KI.out.lt _ e.symm).2; have := HB4.out.2; omega)
            go_region_held_law (fun w' => w'.cell? ⟨B, 0, none⟩ = some (.int .u8 (t : Int)) ∧ w'.cell? ⟨B, 1, none⟩ = some (.int .u8 (i : Int))) (first | go_keep | exact ⟨G0, G1⟩ | exact ⟨j0, j1⟩)
              (first | (refine step_push1 tChg w.heap.size rfl _ _ 32 43 _ 72 rfl Try.underlying32 infoRef rfl (by decide) (by decide) (.slice Ai mi ci) _ out cc _ (fun k => k < N) rfl rfl (by simp only [heap_alloc_get, heap_drew_get] <;> simp <;> done) (Ty.below HR5.out (by (repeat (first | with_reducible exact (Below.refl _ _) | with_reducible apply Below.drew | with_reducible refine balloc ?_ _)))) (KI5.out.below (by (repeat (first | with_reducible exact (Below.refl _ _) | with_reducible apply Below.drew | with_reducible refine balloc ?_ _)))) (Nat.le_trans HSZ.out (bsize (w := w5) (by (repeat (first | with_reducible exact (Below.refl _ _) | with_reducible apply Below.drew | with_reducible refine balloc ?_ _))))) (by have := HLN.out; omega) ?_; intro v1 w7 ho hg hat; obtain ⟨V1, c1, e1, _, _⟩ := ho.form; rw [List.length_append, ← HMI.out, List.length_singleton] at e1; subst e1; have hg7 : w5.grownBy w7 (Value.slice Ai mi ci).ownBlock := World.grownBy.trans (grown_of_below (by (repeat (first | with_reducible exact (Below.refl _ _) | with_reducible apply Below.drew | with_reducible refine balloc ?_ _)))) hg; have j0 : w7.cell? ⟨B, 0, none⟩ = some (.int .u8 (t : Int)) := (World.cell?_of_block (a := ⟨B, 0, none⟩) (hg7.block B S5 HNE.out)).trans G0; have j1 : w7.cell? ⟨B, 1, none⟩ = some (.int .u8 (i : Int)) := (World.cell?_of_block (a := ⟨B, 1, none⟩) (hg7.block B S5 HNE.out)).trans G1; have OW := put ho; have HG7 := put hg7; clear ho hg hat hg7))
            all_goals
              go_wp2_with fail
              go_roundg (6 - (i + 1))
              case measure => omega
              case rel => exact ⟨i + 1, V1, mi + 1, c1, rfl, rfl, by omega, Nat.le_refl _, put (by rw [← Nat.add_assoc, HST.out, if_neg HE.out, List.length_append, ← HMI.out]; rfl), put (by rw [← Nat.add_assoc, HST.out, if_neg HE.out]; exact OW.out), put (KB5.out.grown HG7.out HSZ.out (fun k hk => (KI.out.lt k hk).1))⟩
        · have hlz2 : ¬ (i : Int) < 6 := by omega
          obtain rfl : i = 6 := by omega
          go_wp2_with fail
          go_roundg (3 - (t + 1))
          case measure => omega
          case rel => exact ⟨t + 1, Ai, mi, ci, rfl, rfl, by omega, Nat.le_refl _, HMI, KI, KBI⟩
    · have hlz : ¬ (t : Int) < 3 := by omega
      obtain rfl : t = 3 := by omega
      go_wp2
      go_ret
      exact ⟨_, rfl, (by have := KO.out; rw [diffTo_all] at this; exact this), KB.out⟩
end Go.Proofs.Ytkfoknjflpklpaa.D
