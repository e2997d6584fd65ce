/- great of the reports: more than is played? right: are all values right? -/
import Derived.Test.YtkfoknjflpklpaaPSort
import Derived.Test.YtkfoknjflpklpaaPPlus
namespace Go.Proofs.Ytkfoknjflpklpaa.P
open Go Go.RowKit Go.Sort Go.Proofs.Ytkfoknjflpklpaa.Mem Go.Proofs.Ytkfoknjflpklpaa.Cmp Go.Proofs.Ytkfoknjflpklpaa.D

/-- A bool is returned, of which Φ holds. -/
def Said (Φ : Bool → Prop) (e : Ending) : Prop := ∃ b, e = .returned (.bool b) ∧ Φ b

set_option maxHeartbeats 16000000 in
set_option maxRecDepth 100000 in
theorem greatCalls (ok : Nat → Prop) (v : Value) (A0 A1 A2 : Option Addr) (c0 c1 c2 n0 n1 n2 : Nat) (lim : Value) (rows : List (List Val)) (w : World) (h : Sl tRow ok w v rows) (b0 : n0 ≤ 140737488355328) (b1 : n1 ≤ 140737488355328) (b2 : n2 ≤ 140737488355328) :
    Calls Try.prog 41 #[v, .agg #[.slice A0 n0 c0, .slice A1 n1 c1, .slice A2 n2 c2, lim]] w fun e w' => Said (fun b => b = false → rows.length ≤ 60 ∧ (n0 ≤ 10 ∧ n1 ≤ 10 ∧ n2 ≤ 10) ∧ ∀ r ∈ rows, r.length ≤ 20) e ∧ Below w.heap.size w w' := by
  obtain ⟨A, c, rfl, l1, l2, l3⟩ := h.shape
  have KS := put h
  obtain ⟨m, hm⟩ : ∃ m, m = rows.length := ⟨_, rfl⟩
  rw [← hm] at l1 l3 KS ⊢
  have HM := put hm
  clear h hm
  have T : Said (fun b => b = false → m ≤ 60 ∧ (n0 ≤ 10 ∧ n1 ≤ 10 ∧ n2 ≤ 10) ∧ ∀ r ∈ rows, r.length ≤ 20) (.returned (.bool true)) := ⟨true, rfl, (fun e => by cases e)⟩
  have KT := put T
  clear T
  by_cases hg : m > 60
  · have hg1 : (m : Int) > 60 := by omega
    clear hg
    go_enter Try.func41, Try.ntmps41
    go_wp2_with fail
    go_ret
    exact ⟨KT.out, (Below.refl _ _).alloc (Nat.le_refl _) _⟩
  · have hg1 : ¬ (m : Int) > 60 := by omega
    have HG : Kp (m ≤ 60) := ⟨by omega⟩
    clear hg
    by_cases h0 : (n0 : Int) > 10
    · go_enter Try.func41, Try.ntmps41
      go_wp2_with fail
      go_ret
      exact ⟨KT.out, (Below.refl _ _).alloc (Nat.le_refl _) _⟩
    by_cases h1 : (n1 : Int) > 10
    · go_enter Try.func41, Try.ntmps41
      go_wp2_with fail
      go_ret
      exact ⟨KT.out, (Below.refl _ _).alloc (Nat.le_refl _) _⟩
    by_cases h2 : (n2 : Int) > 10
    · go_enter Try.func41, Try.ntmps41
      go_wp2_with fail
      go_ret
      exact ⟨KT.out, (Below.refl _ _).alloc (Nat.le_refl _) _⟩
    have HN : Kp (n0 ≤ 10 ∧ n1 ≤ 10 ∧ n2 ≤ 10) := ⟨by omega, by omega, by omega⟩
    go_enter Try.func41, Try.ntmps41
    go_wp2_with fail
    clear h0 h1 h2
    go_loopg [32] m (fun kx s32 wr => ∃ (i : Nat), s32 = .int .i64 i ∧ i ≤ m ∧ m - i ≤ kx ∧ Kp (∀ r ∈ rows.take i, r.length ≤ 20) ∧ Kp (Below w.heap.size w wr))
    case atStart => exact ⟨0, rfl, Nat.zero_le _, Nat.le_refl _, put (by simp), put ((Below.refl _ _).alloc (Nat.le_refl _) _)⟩
    case round =>
      obtain ⟨i, rfl, hi, hkx, HI, KB⟩ := hrel
      by_cases hlt : i < m
      · have hlz : (i : Int) < (m : Int) := by omega
        have i0 : (0 : Int) ≤ (i : Int) := by omega
        obtain ⟨ad, r, A2', k2, rfl, hr, x0, hsr⟩ := rows_get (KS.out.below KB.out).row.1 i (by rw [← HM.out]; exact hlt)
        have KX := put hr
        have KR := put hsr
        clear hr hsr
        by_cases h1 : (r.length : Int) > 20
        · go_wp2_with fail
          go_ret
          exact ⟨KT.out, KB.out⟩
        · have BX : Kp (r.length ≤ 20) := ⟨by omega⟩
          go_wp2_with fail
          clear x0
          obtain ⟨n, hn⟩ : ∃ n, n = r.length := ⟨_, rfl⟩
          rw [← hn] at KR h1 BX ⊢
          have HNN := put hn
          have hn20 : n ≤ 20 := BX.out
          clear hn
          go_loopg [41] n (fun kx s41 wi => ∃ (k : Nat), s41 = .int .i64 k ∧ k ≤ n ∧ n - k ≤ kx ∧ Kp (Below wr.heap.size wr wi))
          case atStart => exact ⟨0, rfl, Nat.zero_le _, Nat.le_refl _, put (Below.refl _ _)⟩
          case round =>
            obtain ⟨k, rfl, hk, hkx2, KBI⟩ := hrel
            by_cases hlt3 : k < n
            · have hlz3 : (k : Int) < (n : Int) := by omega
              have k0 : (0 : Int) ≤ (k : Int) := by omega
              obtain ⟨ad3, rfl, y0, y1, y2⟩ := vals_get (KR.out.below KBI.out).row.1 k (by rw [← HNN.out]; exact hlt3)
              generalize (r[k]'(by rw [← HNN.out]; exact hlt3)) = x at *
              have HB6 : Kp (∀ o, Below w.heap.size w (wr.alloc o)) := put (fun o => (KB.out.trans ((KBI.out.trans (((Below.refl _ _).alloc (Nat.le_refl _) o).mono KBI.out.size)).mono KB.out.size)))
              by_cases h4 : (x.s.size : Int) > 100
              · go_wp2_with fail
                go_ret
                exact ⟨KT.out, HB6.out _⟩
              · go_wp2_with fail
                go_roundg (n - (k + 1))
                case measure => omega
                case rel => exact ⟨k + 1, by go_num, by omega, Nat.le_refl _, put (KBI.out.trans (((Below.refl _ _).alloc (Nat.le_refl _) _).mono KBI.out.size))⟩
            · have hlz3 : ¬ (k : Int) < (n : Int) := by omega
              go_wp2_with fail
              go_roundg (m - (i + 1))
              case measure => omega
              case rel =>
                refine ⟨i + 1, by go_num, by omega, Nat.le_refl _, put ?_, put (KB.out.trans (KBI.out.mono KB.out.size))⟩
                rw [take_one KX.out]
                intro z hz
                rcases List.mem_append.1 hz with hz | hz
                · exact HI.out z hz
                · rw [List.mem_singleton.1 hz, ← HNN.out]; exact BX.out
      · have hlz : ¬ (i : Int) < (m : Int) := by omega
        go_wp2
        go_ret
        obtain rfl : i = m := by omega
        have hk := HI.out
        rw [List.take_of_length_le (by rw [HM.out]; exact Nat.le_refl _)] at hk
        exact ⟨⟨false, rfl, fun _ => ⟨HG.out, HN.out, hk⟩⟩, KB.out⟩

set_option maxHeartbeats 16000000 in
set_option maxRecDepth 100000 in
theorem rightRows (ok : Nat → Prop) (v : Value) (rows : List (List Val)) (w : World) (h : Sl tRow ok w v rows) (hl : rows.length ≤ 1000) (hb : ∀ r ∈ rows, r.length ≤ 1000) :
    Calls Try.prog 47 #[v] w fun e w' => Said (fun b => b = true → ∀ r ∈ rows, r.all right = true) e ∧ Below w.heap.size w w' := by
  obtain ⟨A, c, rfl, l1, l2, l3⟩ := h.shape
  have KS := put h
  obtain ⟨m, hm⟩ : ∃ m, m = rows.length := ⟨_, rfl⟩
  rw [← hm] at l1 l3 hl KS ⊢
  have HM := put hm
  have HB := put hb
  clear h hm hb
  have T : Said (fun b => b = true → ∀ r ∈ rows, r.all right = true) (.returned (.bool false)) := ⟨false, rfl, (fun e => by cases e)⟩
  have KT := put T
  clear T
  go_enter Try.func47, Try.ntmps47
  go_wp2_with fail
  go_loopg [9] m (fun kx s9 wr => ∃ (i : Nat), s9 = .int .i64 i ∧ i ≤ m ∧ m - i ≤ kx ∧ Kp (∀ r ∈ rows.take i, r.all right = true) ∧ Kp (Below w.heap.size w wr))
  case atStart => exact ⟨0, rfl, Nat.zero_le _, Nat.le_refl _, put (by simp), put (Below.refl _ _)⟩
  case round =>
    obtain ⟨i, rfl, hi, hkx, HI, KB⟩ := hrel
    by_cases hlt : i < m
    · have hlz : (i : Int) < (m : Int) := by omega
      have i0 : (0 : Int) ≤ (i : Int) := by omega
      obtain ⟨ad, r, A2', k2, rfl, hr, x0, hsr⟩ := rows_get (KS.out.below KB.out).row.1 i (by rw [← HM.out]; exact hlt)
      have hn20 : r.length ≤ 1000 := HB.out r (List.mem_of_getElem? hr)
      have KX := put hr
      have KR := put hsr
      clear hr hsr
      go_wp2_with fail
      clear x0
      obtain ⟨n, hn⟩ : ∃ n, n = r.length := ⟨_, rfl⟩
      rw [← hn] at KR hn20 ⊢
      have HNN := put hn
      clear hn
      go_loopg [15] n (fun kx s15 wi => ∃ (k : Nat), s15 = .int .i64 k ∧ k ≤ n ∧ n - k ≤ kx ∧ Kp (∀ x ∈ r.take k, right x = true) ∧ Kp (Below wr.heap.size wr wi))
      case atStart => exact ⟨0, rfl, Nat.zero_le _, Nat.le_refl _, put (by simp), put (Below.refl _ _)⟩
      case round =>
        obtain ⟨k, rfl, hk, hkx2, HI2, KBI⟩ := hrel
        by_cases hlt3 : k < n
        · have hlz3 : (k : Int) < (n : Int) := by omega
          have k0 : (0 : Int) ≤ (k : Int) := by omega
          obtain ⟨ad3, rfl, y0, y1, y2⟩ := vals_get (KR.out.below KBI.out).row.1 k (by rw [← HNN.out]; exact hlt3)
          have hx : r[k]? = some (r[k]'(by rw [← HNN.out]; exact hlt3)) := List.getElem?_eq_getElem _
          generalize (r[k]'(by rw [← HNN.out]; exact hlt3)) = x at *
          have KXX := put hx
          clear hx
          go_wp2_with fail
          refine (refRightCalls x _).mono ?_
          rintro e w5 ⟨rfl, hg⟩
          have HB6 := put (KBI.out.trans (((balloc (Below.refl _ _) _).trans ((grown_below hg).mono (by simp))).mono KBI.out.size))
          clear hg
          cases hrx : right x with
          | true =>
            have HRX := put hrx
            clear hrx
            go_wp2_with fail
            go_roundg (n - (k + 1))
            case measure => omega
            case rel =>
              refine ⟨k + 1, by go_num, by omega, Nat.le_refl _, put ?_, put HB6.out⟩
              rw [take_one KXX.out]
              intro z hz
              rcases List.mem_append.1 hz with hz | hz
              · exact HI2.out z hz
              · rw [List.mem_singleton.1 hz]; exact HRX.out
          | false =>
            go_wp2_with fail
            go_ret
            exact ⟨KT.out, KB.out.trans (HB6.out.mono KB.out.size)⟩
        · have hlz3 : ¬ (k : Int) < (n : Int) := by omega
          go_wp2_with fail
          go_roundg (m - (i + 1))
          case measure => omega
          case rel =>
            refine ⟨i + 1, by go_num, by omega, Nat.le_refl _, put ?_, put (KB.out.trans (KBI.out.mono KB.out.size))⟩
            rw [take_one KX.out]
            intro z hz
            rcases List.mem_append.1 hz with hz | hz
            · exact HI.out z hz
            · rw [List.mem_singleton.1 hz, List.all_eq_true]
              have := HI2.out
              rwa [List.take_of_length_le (by have := HNN.out; omega)] at this
    · have hlz : ¬ (i : Int) < (m : Int) := by omega
      go_wp2
      go_ret
      obtain rfl : i = m := by omega
      have hk := HI.out
      rw [List.take_of_length_le (by rw [HM.out]; exact Nat.le_refl _)] at hk
      exact ⟨⟨true, rfl, fun _ => by simpa using hk⟩, KB.out⟩
end Go.Proofs.Ytkfoknjflpklpaa.P
