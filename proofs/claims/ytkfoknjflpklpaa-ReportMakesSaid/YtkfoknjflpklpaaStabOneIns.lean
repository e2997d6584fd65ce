/- slices.insertionSortCmpFunc at []tripwire/api.Value. -/
import Derived.Test.YtkfoknjflpklpaaStabOneSwp
namespace Go.Proofs.Ytkfoknjflpklpaa.StabOne
open Go.Shelf Go.RowKit Go.Lib Go.Sort Go.Proofs Go.Proofs.Ytkfoknjflpklpaa.Stab
variable {P : Program} {α : Type} [Inhabited α]

omit [Inhabited α] in
theorem Inner.go [Inhabited α] (lt : α → α → Bool) (a p : Nat) (d : Array α) (h : a < p + 1) (hl : lt d[p + 1]! d[p]! = true) : insInner lt a (p + 1) d = insInner lt a p (swp d (p + 1) p) := by
  rw [insInner]; simp [hl, h]

theorem Inner.stop (lt : α → α → Bool) (a j : Nat) (d : Array α) (h : j ≤ a ∨ lt d[j]! d[j - 1]! = false) : insInner lt a j d = d := by
  cases j with
  | zero => rw [insInner]
  | succ j =>
    rw [insInner, if_neg]
    rcases h with h | h
    · simp; intro h2; omega
    · rw [show j + 1 - 1 = j from rfl] at h; simp [h]

set_option maxHeartbeats 16000000 in
set_option maxRecDepth 1000000 in
theorem insCalls (L : Lay P) (enc : α → Value) (cf : α → α → Int) (g : Nat) (o : Value) (cb : Array Value) (blk off cap a b : Nat) (d0 d : Array α) (w0 w : World)
    (eg : ∀ args w, (callFunc g args).run P w = .ok (.enter g args) w) (hcmp : CmpLaysF P g o cb enc cf blk off d0.size w0) (R : Row1 enc w0 blk off d0) (hs : d0.size = d.size) (S : SW enc w0 blk off d w) (hab : a ≤ b) (hb : b ≤ d.size) (hsz : d.size < 4611686018427387904) :
    Calls P 132 #[.slice (some ⟨blk, off, none⟩) d.size cap, .int .i64 a, .int .i64 b, .func (.func g) #[o] cb] w fun e w' => e = .returned (.tuple #[]) ∧ SW enc w0 blk off (insertionSort (ltOf cf) d a b) w' := by
  have mixed := L.mixed; have t0 := L.t0; have a0 := L.a0; have z0 := L.z0; have v0 := L.v0; have t3 := L.t3; have a3 := L.a3; have z3 := L.z3; have v3 := L.v3; have t4 := L.t4; have a4 := L.a4; have z4 := L.z4; have v4 := L.v4; have ts := L.ts; have as' := L.aS; have zs := L.zs; have vs := L.vs; have tE := L.tE; have uE := run_underlying L.tE; have tf := L.tf; have af := L.af; have zf := L.zf; have vf := L.vf; have aE := L.aE; have zE := L.zE
  have hcl0 := R.hO.cells
  simp only [Value.cells] at hcl0
  have hst := R.hO.store P
  have FG := L.fins
  have HC : Aside _ := hcmp
  have S0 : Aside (SW enc w0 blk off d w) := S
  clear S hcmp L
  go_enter FG, Try.ntmps132
  go_wp2
  go_loopg [8] (b - a) (fun kx s8 wr => ∃ (i : Nat) (dk : Array α), s8 = .int .i64 i ∧ a < i ∧ i ≤ b + 1 ∧ b + 1 - i ≤ kx + 1 ∧ dk.size = d.size ∧ Aside (SW enc w0 blk off dk wr) ∧ Hid (insOuter (ltOf cf) a b i dk = insOuter (ltOf cf) a b (a + 1) d))
  case atStart => exact ⟨a + 1, d, by go_num, by omega, by omega, by omega, rfl, S0, rfl⟩
  case round =>
    clear S0
    obtain ⟨i, dk, rfl, hai, hib, hkx, hds, S1, heq⟩ := hrel
    by_cases hlt : i < b
    · have hltz : (i : Int) < (b : Int) := by omega
      obtain ⟨wo, rfl⟩ : ∃ wo : World, wo = wr := ⟨_, rfl⟩
      go_wp2
      go_loopg [9] i (fun ky s9 wr2 => ∃ (j : Nat) (dj : Array α), s9 = .int .i64 j ∧ a ≤ j ∧ j ≤ i ∧ j ≤ ky ∧ dj.size = d.size ∧ Aside (SW enc w0 blk off dj wr2) ∧ Hid (insInner (ltOf cf) a j dj = insInner (ltOf cf) a i dk))
      case atStart => exact ⟨i, dk, rfl, by omega, Nat.le_refl _, Nat.le_refl _, hds, S1, rfl⟩
      case round =>
        clear S1
        obtain ⟨j, dj, rfl, haj, hji, hky, hdj, S1, hin⟩ := hrel
        have out : (j ≤ a ∨ ltOf cf dj[j]! dj[j - 1]! = false) → insOuter (ltOf cf) a b (i + 1) dj = insOuter (ltOf cf) a b (a + 1) d := fun hstop => by
          rw [← heq.out, insOuter.eq_def _ a b i dk, if_pos hlt, ← hin.out, Inner.stop _ _ _ _ hstop]
        have OUT : Aside _ := out
        clear out
        by_cases hja : a < j
        · obtain ⟨p, rfl⟩ : ∃ p, j = p + 1 := ⟨j - 1, by omega⟩
          have hjz : (a : Int) < (p : Int) + 1 := by omega
          have hjd : decide ((p : Int) + 1 > (a : Int)) = true := decide_eq_true (by omega)
          have ea : ((p : Int) + 1).toNat = p + 1 := by omega
          have pa : (0 : Int) ≤ (p : Int) + 1 := by omega
          have ba : (p : Int) + 1 < (d.size : Int) := by omega
          have ra : IntKind.i64.wrap ((p : Int) + 1) = (p : Int) + 1 := by rw [IntKind.wrap_i64]; omega
          have ec : ((p : Int)).toNat = p := by omega
          have pc : (0 : Int) ≤ (p : Int) := by omega
          have bc : (p : Int) < (d.size : Int) := by omega
          have rc : IntKind.i64.wrap ((p : Int)) = (p : Int) := by rw [IntKind.wrap_i64]; omega
          obtain ⟨x, hx⟩ : ∃ x, x = dj[p + 1]! := ⟨_, rfl⟩
          obtain ⟨y, hy⟩ : ∃ x, x = dj[p]! := ⟨_, rfl⟩
          have lx := S1.out.cl R (by omega) (p + 1) (by omega)
          have ly := S1.out.cl R (by omega) p (by omega)
          rw [← hx] at lx
          rw [← hy] at ly
          have hc := SW.cmpF S1.out HC.out (by omega) x y
          have HX : Hid (x = dj[p + 1]! ∧ y = dj[p]!) := ⟨hx, hy⟩
          clear hx hy
          by_cases hv : cf x y < 0
          · have hd : decide (cf x y < 0) = true := decide_eq_true hv
            go_wp2_with fail
            go_quiet_grown (first | (go_at_fn g; refine Calls.grown_of (hc _ _)))
            have SV : Aside (SW enc w0 blk off dj (grow (wr.drewN nq) osq)) := S1.out.grown nq osq
            clear lx ly hc S1
            generalize grow (wr.drewN nq) osq = wv at SV ⊢
            clear nq osq
            go_wp2_with fail
            have S2 : Aside (SW enc w0 blk off (swp dj (p + 1) p) ((wv.setCell ⟨blk, off + (p + 1), none⟩ (enc dj[p]!)).setCell ⟨blk, off + p, none⟩ (enc dj[p + 1]!)).drew) := SV.out.swapped R (p + 1) p (by omega) (by omega)
            have c44a := SV.out.c1 R (by omega) (p + 1) (by omega)
            have c44b := SV.out.c1 R (by omega) p (by omega)
            have f44a := SV.out.f1 R (by omega) (p + 1) (by omega)
            have f44b := SV.out.f1 R (by omega) p (by omega)
            obtain ⟨u44, c44c⟩ := SV.out.c2 R (by omega) (p + 1) p (by omega) (by omega) (enc dj[p]!)
            generalize dj[p + 1]! = x44 at S2 c44a
            generalize dj[p]! = y44 at S2 c44b c44c
            clear SV
            go_wp2_with fail
            go_big_region_o
            clear c44a c44b c44c f44a f44b
            generalize ((wv.setCell ⟨blk, off + (p + 1), none⟩ (enc y44)).setCell ⟨blk, off + p, none⟩ (enc x44)).drew = w2 at S2 ⊢
            go_wp2
            go_roundg p
            case measure => omega
            case rel => exact ⟨p, swp dj (p + 1) p, by first | rfl | go_num, by omega, by omega, Nat.le_refl _, by rw [size_swp]; exact hdj, S2, by
              show _ = _
              rw [← hin.out, Inner.go _ _ _ _ hja (by rw [← HX.out.1, ← HX.out.2]; exact decide_eq_true hv)]⟩
          · have hd : decide (cf x y < 0) = false := decide_eq_false hv
            go_wp2_with fail
            go_quiet_grown (first | (go_at_fn g; refine Calls.grown_of (hc _ _)))
            have SV : Aside (SW enc w0 blk off dj (grow (wr.drewN nq) osq)) := S1.out.grown nq osq
            clear lx ly hc S1
            generalize grow (wr.drewN nq) osq = wv at SV ⊢
            clear nq osq
            go_wp2
            go_roundg (b - (i + 1))
            case measure => omega
            case rel => exact ⟨i + 1, dj, by go_num, by omega, by omega, by omega, hdj, SV, OUT.out (Or.inr (by simp only [Nat.add_sub_cancel]; rw [← HX.out.1, ← HX.out.2]; exact decide_eq_false (by omega)))⟩
        · have hjaz : decide ((j : Int) > (a : Int)) = false := decide_eq_false (by omega)
          have hjaz' : ¬ (a : Int) < (j : Int) := by omega
          have SV : Aside (SW enc w0 blk off dj wr.drew) := S1.out.drew
          clear S1
          go_wp2_with fail
          go_big_region_o
          all_goals go_wp2
          go_roundg (b - (i + 1))
          case measure => omega
          case rel => exact ⟨i + 1, dj, by go_num, by omega, by omega, by omega, hdj, SV, OUT.out (Or.inl (by omega))⟩
    · have hltz : ¬ (i : Int) < (b : Int) := by omega
      go_wp2
      go_end0
      refine ⟨rfl, ?_⟩
      rw [insertionSort, ← heq.out, insOuter, if_neg hlt]
      exact S1.out

end Go.Proofs.Ytkfoknjflpklpaa.StabOne
