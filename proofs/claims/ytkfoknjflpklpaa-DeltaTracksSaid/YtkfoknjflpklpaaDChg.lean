/- few, changes. -/
import Derived.Test.YtkfoknjflpklpaaDMap
import Derived.Test.YtkfoknjflpklpaaDRefB
namespace Go.Proofs.Ytkfoknjflpklpaa.D
open Go Go.RowKit Go.Proofs.Ytkfoknjflpklpaa.Mem

set_option maxHeartbeats 16000000 in
set_option maxRecDepth 100000 in
theorem fewCalls (ok : Nat → Prop) (v : Value) (xs : List Ope) (w : World) (h : Sl tOpe ok w v xs) :
    Calls Try.prog 14 #[v] w fun e w' => Said (fun b => b = true → xs.length ≤ 60 ∧ ∀ x ∈ xs, x.row.length ≤ 20) e ∧ Below w.heap.size w w' := by
  obtain ⟨A, c, rfl, l1, l2, l3⟩ := h.shape
  have KS := put h
  obtain ⟨m, hm⟩ : ∃ m, m = xs.length := ⟨_, rfl⟩
  rw [← hm] at l1 l3 KS ⊢
  have HM := put hm
  clear h hm
  by_cases hg : m > 60
  · have hg1 : (m : Int) > 60 := by omega
    clear hg
    go_enter Try.func14, Try.ntmps14
    go_wp2_with fail
    go_ret
    exact ⟨⟨false, rfl, (fun e => by cases e)⟩, Below.refl _ _⟩
  · have hg1 : ¬ (m : Int) > 60 := by omega
    have HG : Kp (m ≤ 60) := ⟨by omega⟩
    clear hg
    go_enter Try.func14, Try.ntmps14
    go_wp2_with fail
    go_loopg [12] m (fun kx s12 wr => ∃ (i : Nat), s12 = .int .i64 i ∧ i ≤ m ∧ m - i ≤ kx ∧ Kp (∀ x ∈ xs.take i, x.row.length ≤ 20) ∧ Kp (Below w.heap.size w wr))
    case atStart => exact ⟨0, rfl, Nat.zero_le _, Nat.le_refl _, put (by simp), put (Below.refl _ _)⟩
    case round =>
      obtain ⟨i, rfl, hi, hkx, HI, KB⟩ := hrel
      by_cases hlt : i < m
      · have hlz : (i : Int) < (m : Int) := by omega
        have i0 : (0 : Int) ≤ (i : Int) := by omega
        obtain ⟨ad, x, A2, k2, rfl, hx, x0, x1, x2, KR, hb1, hb2⟩ := opes_at (KS.out.elder KB.out).row.1 i (by rw [← HM.out]; exact hlt)
        have KX := put hx
        have B1 : ∀ o, Below wr.heap.size wr (wr.alloc o) := fun o => (Below.refl _ _).alloc (Nat.le_refl _) _
        clear hx hb1 hb2
        by_cases h2 : (x.row.length : Int) > 20
        · go_wp2_with fail
          go_ret
          exact ⟨⟨false, rfl, (fun e => by cases e)⟩, KB.out.trans ((B1 _).mono KB.out.size)⟩
        · have BX : Kp (x.row.length ≤ 20) := ⟨by omega⟩
          go_wp2_with fail
          obtain ⟨w4, hw4⟩ : ∃ w4, w4 = wr.alloc (.cells #[.int .u8 (x.t : Int), .int .u8 (x.i : Int), .slice A2 x.row.length k2] 109) := ⟨_, rfl⟩
          have hB4 : Below wr.heap.size wr w4 := by rw [hw4]; exact B1 _
          rw [← hw4]
          have KV : Kp (Sl tVal (fun k => ok k ∧ k < w.heap.size) w4 (.slice A2 x.row.length k2) x.row) := put (KR.out.below hB4)
          have HB4 := put (KB.out.trans (hB4.mono KB.out.size))
          obtain ⟨n, hn⟩ : ∃ n, n = x.row.length := ⟨_, rfl⟩
          rw [← hn] at KV ⊢
          have HNV := put hn
          obtain ⟨vs, hvs⟩ : ∃ vs, vs = x.row := ⟨_, rfl⟩
          rw [← hvs] at KV HNV hn
          have BX' := put hvs
          have hn20 : n ≤ 20 := by rw [hn, hvs]; exact BX.out
          clear hvs
          clear hw4 hB4 hn x0 x1 x2
          go_loopg [23] n (fun kx s23 wi => ∃ (k : Nat), s23 = .int .i64 k ∧ k ≤ n ∧ n - k ≤ kx ∧ Kp (Below w4.heap.size w4 wi))
          case atStart => exact ⟨0, rfl, Nat.zero_le _, Nat.le_refl _, put (Below.refl _ _)⟩
          case round =>
            obtain ⟨k, rfl, hk, hkx2, KBI⟩ := hrel
            by_cases hlt3 : k < n
            · have hlz3 : (k : Int) < (n : Int) := by omega
              have k0 : (0 : Int) ≤ (k : Int) := by omega
              obtain ⟨ad3, rfl, c0, c1', c2'⟩ := vals_get (KV.out.below KBI.out).row.1 k (by rw [← HNV.out]; exact hlt3)
              have hb6 : ∀ o, Below w.heap.size w (wr.alloc o) := fun o => HB4.out.trans ((KBI.out.trans (((Below.refl _ _).alloc (Nat.le_refl _) o).mono KBI.out.size)).mono HB4.out.size)
              have HB6 := put hb6
              clear hb6
              by_cases h4 : ((vs[k]'(by rw [← HNV.out]; exact hlt3)).s.size : Int) > 200
              · go_wp2_with fail
                go_ret
                exact ⟨⟨false, rfl, (fun e => by cases e)⟩, HB6.out _⟩
              · go_wp2_with fail
                go_roundg (n - (k + 1))
                case measure => omega
                case rel => exact ⟨k + 1, by go_num, by omega, Nat.le_refl _, put (KBI.out.trans (((Below.refl _ _).alloc (Nat.le_refl _) _).mono KBI.out.size))⟩
            · have hlz3 : ¬ (k : Int) < (n : Int) := by omega
              go_wp2_with fail
              go_roundg (m - (i + 1))
              case measure => omega
              case rel =>
                refine ⟨i + 1, by go_num, by omega, Nat.le_refl _, put ?_, put (HB4.out.trans (KBI.out.mono HB4.out.size))⟩
                rw [take_one_more KX.out]
                intro z hz
                rcases List.mem_append.1 hz with hz | hz
                · exact HI.out z hz
                · rw [List.mem_singleton.1 hz]; exact BX.out
      · have hlz : ¬ (i : Int) < (m : Int) := by omega
        go_wp2
        go_ret
        obtain rfl : i = m := by omega
        have hk := HI.out
        rw [List.take_of_length_le (by rw [HM.out]; exact Nat.le_refl _)] at hk
        exact ⟨⟨true, rfl, fun _ => ⟨HG.out, hk⟩⟩, KB.out⟩
end Go.Proofs.Ytkfoknjflpklpaa.D
