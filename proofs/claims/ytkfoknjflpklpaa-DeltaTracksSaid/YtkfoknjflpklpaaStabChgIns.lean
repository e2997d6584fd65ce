/- slices.insertionSortCmpFunc at tripwire/delta.Change. -/
import Derived.Test.YtkfoknjflpklpaaStabChgSwp
namespace Go.Proofs.Ytkfoknjflpklpaa.StabChg
open Go.Shelf Go.RowKit Go.Lib Go.Sort Go.Proofs Go.Proofs.Ytkfoknjflpklpaa.Stab
variable {P : Program} {α : Type} [Inhabited α]

omit [Inhabited α] in
theorem Inner.go [Inhabited α] (lt : α → α → Bool) (a p : Nat) (d : Array α) (h : a < p + 1) (hl : lt d[p + 1]! d[p]! = true) : insInner lt a (p + 1) d = insInner lt a p (swp d (p + 1) p) := by
  rw [insInner]; simp [hl, h]

theorem Inner.stop (lt : α → α → Bool) (a j : Nat) (d : Array α) (h : j ≤ a ∨ lt d[j]! d[j - 1]! = false) : insInner lt a j d = d := by
  cases j with
  | zero => rw [insInner]
  | succ j =>
    rw [insInner, if_neg]
    rcases h with h | h
    · simp; intro h2; omega
    · rw [show j + 1 - 1 = j from rfl] at h; simp [h]

set_option maxHeartbeats 16000000 in
set_option maxRecDepth 1000000 in
theorem insCalls {k : Nat} (L : Lay P k) (enc : α → List Value) (cf : α → α → Int) (g : Nat) (cb : Array Value) (blk off cap a b : Nat) (d0 d : Array α) (w0 w : World)
    (eg : ∀ args w, (callFunc g args).run P w = .ok (.enter g args) w) (hcmp : CmpLays P g cb enc k cf blk off d0.size w0) (R : RowK enc k w0 blk off d0) (hs : d0.size = d.size) (S : SWK enc k w0 blk off d w) (hab : a ≤ b) (hb : b ≤ d.size) (hsz : d.size < 4611686018427387904) :
    Calls P 110 #[.slice (some ⟨blk, off, none⟩) d.size cap, .int .i64 a, .int .i64 b, .func (.func g) #[] cb] w fun e w' => e = .returned (.tuple #[]) ∧ SWK enc k w0 blk off (insertionSort (ltOf cf) d a b) w' := by
  have mixed := L.mixed; have t0 := L.t0; have a0 := L.a0; have z0 := L.z0; have v0 := L.v0; have t3 := L.t3; have a3 := L.a3; have z3 := L.z3; have v3 := L.v3; have t4 := L.t4; have a4 := L.a4; have z4 := L.z4; have v4 := L.v4; have ts := L.ts; have as' := L.aS; have zs := L.zs; have vs := L.vs; have tf := L.tf; have af := L.af; have zf := L.zf; have vf := L.vf; have aE := L.aE; have zE := L.zE
  have FG := L.fins
  have HC : Aside _ := hcmp
  have S0 : Aside (SWK enc k w0 blk off d w) := S
  clear S hcmp L
  go_enter FG, Try.ntmps110
  go_wp2
  go_loopg [8] (b - a) (fun kx s8 wr => ∃ (i : Nat) (dk : Array α), s8 = .int .i64 i ∧ a < i ∧ i ≤ b + 1 ∧ b + 1 - i ≤ kx + 1 ∧ dk.size = d.size ∧ Aside (SWK enc k w0 blk off dk wr) ∧ Hid (insOuter (ltOf cf) a b i dk = insOuter (ltOf cf) a b (a + 1) d))
  case atStart => exact ⟨a + 1, d, by go_num, by omega, by omega, by omega, rfl, S0, rfl⟩
  case round =>
    clear S0
    obtain ⟨i, dk, rfl, hai, hib, hkx, hds, S1, heq⟩ := hrel
    by_cases hlt : i < b
    · have hltz : (i : Int) < (b : Int) := by omega
      obtain ⟨wo, rfl⟩ : ∃ wo : World, wo = wr := ⟨_, rfl⟩
      go_wp2
      go_loopg [9] i (fun ky s9 wr2 => ∃ (j : Nat) (dj : Array α), s9 = .int .i64 j ∧ a ≤ j ∧ j ≤ i ∧ j ≤ ky ∧ dj.size = d.size ∧ Aside (SWK enc k w0 blk off dj wr2) ∧ Hid (insInner (ltOf cf) a j dj = insInner (ltOf cf) a i dk))
      case atStart => exact ⟨i, dk, rfl, by omega, Nat.le_refl _, Nat.le_refl _, hds, S1, rfl⟩
      case round =>
        clear S1
        obtain ⟨j, dj, rfl, haj, hji, hky, hdj, S1, hin⟩ := hrel
        have out : (j ≤ a ∨ ltOf cf dj[j]! dj[j - 1]! = false) → insOuter (ltOf cf) a b (i + 1) dj = insOuter (ltOf cf) a b (a + 1) d := fun hstop => by
          rw [← heq.out, insOuter.eq_def _ a b i dk, if_pos hlt, ← hin.out, Inner.stop _ _ _ _ hstop]
        have OUT : Aside _ := out
        clear out
        by_cases hja : a < j
        · obtain ⟨p, rfl⟩ : ∃ p, j = p + 1 := ⟨j - 1, by omega⟩
          have hjz : (a : Int) < (p : Int) + 1 := by omega
          have hjd : decide ((p : Int) + 1 > (a : Int)) = true := decide_eq_true (by omega)
          have ea : ((p : Int) + 1).toNat = p + 1 := by omega
          have pa : (0 : Int) ≤ (p : Int) + 1 := by omega
          have ba : (p : Int) + 1 < (d.size : Int) := by omega
          have ra : IntKind.i64.wrap ((p : Int) + 1) = (p : Int) + 1 := by rw [IntKind.wrap_i64]; omega
          have ec : ((p : Int)).toNat = p := by omega
          have pc : (0 : Int) ≤ (p : Int) := by omega
          have bc : (p : Int) < (d.size : Int) := by omega
          have rc : IntKind.i64.wrap ((p : Int)) = (p : Int) := by rw [IntKind.wrap_i64]; omega
          obtain ⟨x, hx⟩ : ∃ x, x = dj[p + 1]! := ⟨_, rfl⟩
          obtain ⟨y, hy⟩ : ∃ x, x = dj[p]! := ⟨_, rfl⟩
          have lx := S1.out.ld R (by omega) P (p + 1) (by omega)
          have ly := S1.out.ld R (by omega) P p (by omega)
          rw [← hx] at lx
          rw [← hy] at ly
          have hc := S1.out.cmp HC.out (by omega) x y
          have HX : Hid (x = dj[p + 1]! ∧ y = dj[p]!) := ⟨hx, hy⟩
          clear hx hy
          by_cases hv : cf x y < 0
          · have hd : decide (cf x y < 0) = true := decide_eq_true hv
            go_wp2_with fail
            go_quiet_grown (first | (go_at_fn g; refine Calls.grown_of (hc _ _)))
            have SV : Aside (SWK enc k w0 blk off dj (grow (wr.drewN nq) osq)) := S1.out.grown nq osq
            clear lx ly hc S1
            generalize grow (wr.drewN nq) osq = wv at SV ⊢
            clear nq osq
            go_wp2_with fail
            have S2 : Aside (SWK enc k w0 blk off (swp dj (p + 1) p) ((wv.drew.setCells blk (off + (p + 1) * k) (enc dj[p]!)).setCells blk (off + p * k) (enc dj[p + 1]!))) := SV.out.swapped R (p + 1) p (by omega) (by omega)
            have l44a := SV.out.ld1 R (by omega) P (p + 1) (by omega)
            have l44b := SV.out.ld1 R (by omega) P p (by omega)
            have s44a := SV.out.st1 R (by omega) P (p + 1) (by omega) dj[p]!
            have s44b := SV.out.st2 R (by omega) P (p + 1) p (by omega) (by omega) dj[p]! dj[p + 1]!
            have n44a : (enc dj[p + 1]!).length = k := R.hk _
            have n44b : (enc dj[p]!).length = k := R.hk _
            generalize enc dj[p + 1]! = cI44 at S2 l44a s44b n44a
            generalize enc dj[p]! = cJ44 at S2 l44b s44a s44b n44b
            clear SV
            go_wp2_with fail
            go_big_region_o
            clear l44a l44b s44a s44b
            generalize (wv.drew.setCells blk (off + (p + 1) * k) cJ44).setCells blk (off + p * k) cI44 = w2 at S2 ⊢
            go_wp2
            go_roundg p
            case measure => omega
            case rel => exact ⟨p, swp dj (p + 1) p, by first | rfl | go_num, by omega, by omega, Nat.le_refl _, by rw [size_swp]; exact hdj, S2, by
              show _ = _
              rw [← hin.out, Inner.go _ _ _ _ hja (by rw [← HX.out.1, ← HX.out.2]; exact decide_eq_true hv)]⟩
          · have hd : decide (cf x y < 0) = false := decide_eq_false hv
            go_wp2_with fail
            go_quiet_grown (first | (go_at_fn g; refine Calls.grown_of (hc _ _)))
            have SV : Aside (SWK enc k w0 blk off dj (grow (wr.drewN nq) osq)) := S1.out.grown nq osq
            clear lx ly hc S1
            generalize grow (wr.drewN nq) osq = wv at SV ⊢
            clear nq osq
            go_wp2
            go_roundg (b - (i + 1))
            case measure => omega
            case rel => exact ⟨i + 1, dj, by go_num, by omega, by omega, by omega, hdj, SV, OUT.out (Or.inr (by simp only [Nat.add_sub_cancel]; rw [← HX.out.1, ← HX.out.2]; exact decide_eq_false (by omega)))⟩
        · have hjaz : decide ((j : Int) > (a : Int)) = false := decide_eq_false (by omega)
          have hjaz' : ¬ (a : Int) < (j : Int) := by omega
          have SV : Aside (SWK enc k w0 blk off dj wr.drew) := S1.out.drew
          clear S1
          go_wp2_with fail
          go_big_region_o
          all_goals go_wp2
          go_roundg (b - (i + 1))
          case measure => omega
          case rel => exact ⟨i + 1, dj, by go_num, by omega, by omega, by omega, hdj, SV, OUT.out (Or.inl (by omega))⟩
    · have hltz : ¬ (i : Int) < (b : Int) := by omega
      go_wp2
      go_end0
      refine ⟨rfl, ?_⟩
      rw [insertionSort, ← heq.out, insOuter, if_neg hlt]
      exact S1.out

end Go.Proofs.Ytkfoknjflpklpaa.StabChg
