/- slices.rotateCmpFunc at []tripwire/api.Value: it exchanges two neighbouring parts. -/
import Derived.Test.YtkfoknjflpklpaaStabOneSwp
namespace Go.Proofs.Ytkfoknjflpklpaa.StabOne
open Go.Shelf Go.RowKit Go.Lib Go.Sort Go.Proofs Go.Proofs.Ytkfoknjflpklpaa.Stab
variable {P : Program} {α : Type} [Inhabited α]

set_option maxHeartbeats 4000000 in
set_option maxRecDepth 1000000 in
theorem rotateCalls (L : Lay P) (enc : α → Value) (g : Nat) (o : Value) (cb : Array Value) (blk off cap a m b : Nat) (d0 d : Array α) (w0 w : World)
    (R : Row1 enc w0 blk off d0) (hs : d0.size = d.size) (S : SW enc w0 blk off d w) (ham : a < m) (hmb : m < b) (hb : b ≤ d.size) (hsz : d.size < 4611686018427387904) :
    Calls P 143 #[.slice (some ⟨blk, off, none⟩) d.size cap, .int .i64 a, .int .i64 m, .int .i64 b, .func (.func g) #[o] cb] w fun e w' => e = .returned (.tuple #[]) ∧ SW enc w0 blk off (rotate a m b d) w' := by
  have eswp : ∀ args w, (callFunc 150 args).run P w = .ok (.enter 150 args) w := enters_of L.fswp (by kernel_rfl) rfl
  have t0 := L.t0; have a0 := L.a0; have z0 := L.z0; have v0 := L.v0; have t3 := L.t3; have a3 := L.a3; have z3 := L.z3; have v3 := L.v3; have t4 := L.t4; have a4 := L.a4; have z4 := L.z4; have v4 := L.v4; have ts := L.ts; have as' := L.aS; have zs := L.zs; have vs := L.vs; have tE := L.tE; have uE := run_underlying L.tE; have tf := L.tf; have af := L.af; have zf := L.zf; have vf := L.vf
  have FG := L.frot
  have S0 : Aside (SW enc w0 blk off d w) := S
  have LL : Aside (Lay P) := L
  clear S L
  go_enter FG, Try.ntmps143
  go_wp2
  go_loopg [10, 11] (b - a) (fun kx s10 s11 wr => ∃ (i j : Nat) (dk : Array α), s10 = .int .i64 i ∧ s11 = .int .i64 j ∧ 0 < i ∧ 0 < j ∧ i ≤ m ∧ m + j ≤ d.size ∧ i + j ≤ kx ∧ dk.size = d.size ∧ Aside (SW enc w0 blk off dk wr) ∧ Hid (rotLoop m i j dk = rotLoop m (m - a) (b - m) d))
  case atStart => exact ⟨m - a, b - m, d, by congr 1; omega, by congr 1; omega, by omega, by omega, by omega, by omega, by omega, rfl, S0, rfl⟩
  case round =>
    clear S0
    obtain ⟨i, j, dk, rfl, rfl, hi, hj, him, hjs, hkx, hds, S1, heq⟩ := hrel
    by_cases e : i = j
    · subst e
      have e1 : ((i : Int) != (i : Int)) = false := by simp
      go_wp2_with fail
      rw [show ((m : Int) - (i : Int)) = ((m - i : Nat) : Int) by omega, ← hds]
      refine (swapRange LL.out enc g o cb blk off cap (m - i) m i d0 dk w0 _ R (by omega) S1.out (by omega) (by omega) (by omega)).mono ?_
      rintro e w' ⟨rfl, S2⟩
      go_wp2
      go_end0
      refine ⟨rfl, ?_⟩
      rw [rotate, ← heq.out, rotLoop, if_neg (by omega), if_pos rfl]
      exact S2
    · have e1 : ((i : Int) != (j : Int)) = true := by rw [bne_iff_ne]; omega
      by_cases c : i > j
      · have c1 : (i : Int) > (j : Int) := by omega
        go_wp2_with fail
        rw [show ((m : Int) - (i : Int)) = ((m - i : Nat) : Int) by omega, ← hds]
        refine (swapRange LL.out enc g o cb blk off cap (m - i) m j d0 dk w0 _ R (by omega) S1.out (by omega) (by omega) (by omega)).mono ?_
        rintro e w' ⟨rfl, S2⟩
        have S3 : Aside _ := S2
        clear S2
        rw [hds]
        go_wp2
        go_roundg (i - j + j)
        case measure => omega
        case rel => exact ⟨i - j, j, _, by congr 1; omega, rfl, by omega, hj, by omega, hjs, Nat.le_refl _, by rw [size_swapFrom _ _ _ _ _ _ rfl]; exact hds, S3, by
          show _ = _
          rw [← heq.out, rotLoop.eq_def m i j dk, if_neg (by omega), if_neg e, if_pos c]⟩
      · have c1 : ¬ (i : Int) > (j : Int) := by omega
        go_wp2_with fail
        rw [show ((m : Int) - (i : Int)) = ((m - i : Nat) : Int) by omega, show ((m : Int) + (j : Int) - (i : Int)) = ((m + j - i : Nat) : Int) by omega, ← hds]
        refine (swapRange LL.out enc g o cb blk off cap (m - i) (m + j - i) i d0 dk w0 _ R (by omega) S1.out (by omega) (by omega) (by omega)).mono ?_
        rintro e w' ⟨rfl, S2⟩
        have S3 : Aside _ := S2
        clear S2
        rw [hds]
        go_wp2
        go_roundg (i + (j - i))
        case measure => omega
        case rel => exact ⟨i, j - i, _, rfl, by congr 1; omega, hi, by omega, him, by omega, Nat.le_refl _, by rw [size_swapFrom _ _ _ _ _ _ rfl]; exact hds, S3, by
          show _ = _
          rw [← heq.out, rotLoop.eq_def m i j dk, if_neg (by omega), if_neg e, if_neg c]⟩

end Go.Proofs.Ytkfoknjflpklpaa.StabOne
