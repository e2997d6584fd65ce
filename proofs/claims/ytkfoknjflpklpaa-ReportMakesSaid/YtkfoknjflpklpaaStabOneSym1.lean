/- slices.symMergeCmpFunc at []tripwire/api.Value, where the left part is one element. -/
import Derived.Test.YtkfoknjflpklpaaStabOneRot
namespace Go.Proofs.Ytkfoknjflpklpaa.StabOne
open Go.Shelf Go.RowKit Go.Lib Go.Sort Go.Proofs Go.Proofs.Ytkfoknjflpklpaa.Stab
variable {P : Program} {α : Type} [Inhabited α]

set_option maxHeartbeats 16000000 in
set_option maxRecDepth 1000000 in
theorem sym1 (L : Lay P) (enc : α → Value) (cf : α → α → Int) (g : Nat) (o : Value) (cb : Array Value) (blk off cap a b : Nat) (d0 d : Array α) (w0 w : World)
    (eg : ∀ args w, (callFunc g args).run P w = .ok (.enter g args) w) (hcmp : CmpLaysF P g o cb enc cf blk off d0.size w0) (R : Row1 enc w0 blk off d0) (hs : d0.size = d.size) (S : SW enc w0 blk off d w) (hmb : a + 1 < b) (hb : b ≤ d.size) (hsz : d.size < 4611686018427387904) :
    Calls P 133 #[.slice (some ⟨blk, off, none⟩) d.size cap, .int .i64 a, .int .i64 ((a : Int) + 1), .int .i64 b, .func (.func g) #[o] cb] w fun e w' => e = .returned (.tuple #[]) ∧ SW enc w0 blk off (symMerge (ltOf cf) d a (a + 1) b) w' := by
  have mixed := L.mixed; have t0 := L.t0; have a0 := L.a0; have z0 := L.z0; have v0 := L.v0; have t3 := L.t3; have a3 := L.a3; have z3 := L.z3; have v3 := L.v3; have t4 := L.t4; have a4 := L.a4; have z4 := L.z4; have v4 := L.v4; have ts := L.ts; have as' := L.aS; have zs := L.zs; have vs := L.vs; have tE := L.tE; have uE := run_underlying L.tE; have tf := L.tf; have af := L.af; have zf := L.zf; have vf := L.vf; have aE := L.aE; have zE := L.zE; have tu := L.tu; have au := L.au; have zu := L.zu; have vu := L.vu
  have u3 := run_underlying L.t3; have uu := run_underlying L.tu
  have hcl0 := R.hO.cells
  simp only [Value.cells] at hcl0
  have hst := R.hO.store P
  have FG := L.fsym
  have HC : Aside _ := hcmp
  have S0 : Aside (SW enc w0 blk off d w) := S
  clear S hcmp L
  have e1 : (((a : Int) + 1) - (a : Int) == 1) = true := by rw [beq_iff_eq]; omega
  have e1' : ((a : Int) + 1) - (a : Int) = 1 := by omega
  go_enter FG, Try.ntmps133
  go_wp2
  go_loopg [10, 11] (b - a) (fun kx s10 s11 wr => ∃ (i j : Nat), s10 = .int .i64 i ∧ s11 = .int .i64 j ∧ a + 1 ≤ i ∧ i ≤ j ∧ j ≤ b ∧ j - i ≤ kx ∧ Aside (SW enc w0 blk off d wr) ∧ Hid (search (fun h => ltOf cf d[h]! d[a]!) i j = search (fun h => ltOf cf d[h]! d[a]!) (a + 1) b))
  case atStart => exact ⟨a + 1, b, by go_num, rfl, by omega, by omega, by omega, by omega, S0, rfl⟩
  case round =>
    clear S0
    obtain ⟨i, j, rfl, rfl, hai, hij, hjb, hkx, S1, heq⟩ := hrel
    by_cases hlt : i < j
    · have hltz : (i : Int) < (j : Int) := by omega
      obtain ⟨h, hh⟩ : ∃ h, h = (i + j) / 2 := ⟨_, rfl⟩
      have ez : ((i : Int) + (j : Int)) / 2 = (h : Int) := by omega
      have h1 : i ≤ h := by omega
      have h2 : h < j := by omega
      have HH : Hid (h = (i + j) / 2) := hh
      clear hh
      have ea : ((h : Int)).toNat = h := by omega
      have pa : (0 : Int) ≤ (h : Int) := by omega
      have ba : (h : Int) < (d.size : Int) := by omega
      have ra : IntKind.i64.wrap ((h : Int)) = (h : Int) := by rw [IntKind.wrap_i64]; omega
      have ec : ((a : Int)).toNat = a := by omega
      have pc : (0 : Int) ≤ (a : Int) := by omega
      have bc : (a : Int) < (d.size : Int) := by omega
      have rc : IntKind.i64.wrap ((a : Int)) = (a : Int) := by rw [IntKind.wrap_i64]; omega
      obtain ⟨x, hx⟩ : ∃ x, x = d[h]! := ⟨_, rfl⟩
      obtain ⟨y, hy⟩ : ∃ x, x = d[a]! := ⟨_, rfl⟩
      have lx := S1.out.cl R (by omega) h (by omega)
      have ly := S1.out.cl R (by omega) a (by omega)
      rw [← hx] at lx
      rw [← hy] at ly
      have hc := SW.cmpF S1.out HC.out (by omega) x y
      have HX : Hid (x = d[h]! ∧ y = d[a]!) := ⟨hx, hy⟩
      clear hx hy
      by_cases hv : cf x y < 0
      · go_wp2_with fail
        go_quiet_grown (first | (go_at_fn g; refine Calls.grown_of (hc _ _)))
        have SV : Aside (SW enc w0 blk off d (grow (wr.drewN nq) osq)) := S1.out.grown nq osq
        clear lx ly hc S1
        generalize grow (wr.drewN nq) osq = wv at SV ⊢
        clear nq osq
        go_wp2
        go_roundg (j - (h + 1))
        case measure => omega
        case rel => exact ⟨h + 1, j, by go_num, rfl, by omega, by omega, hjb, Nat.le_refl _, SV, by
          show _ = _
          rw [← heq.out, search.eq_def _ i j, if_pos hlt, ← HH.out, if_pos (by rw [← HX.out.1, ← HX.out.2]; exact decide_eq_true hv)]⟩
      · go_wp2_with fail
        go_quiet_grown (first | (go_at_fn g; refine Calls.grown_of (hc _ _)))
        have SV : Aside (SW enc w0 blk off d (grow (wr.drewN nq) osq)) := S1.out.grown nq osq
        clear lx ly hc S1
        generalize grow (wr.drewN nq) osq = wv at SV ⊢
        clear nq osq
        go_wp2
        go_roundg (h - i)
        case measure => omega
        case rel => exact ⟨i, h, rfl, rfl, hai, by omega, by omega, Nat.le_refl _, SV, by
          show _ = _
          rw [← heq.out, search.eq_def _ i j, if_pos hlt, ← HH.out, if_neg (by rw [← HX.out.1, ← HX.out.2]; simp [ltOf, hv])]⟩
    · have hltz : ¬ (i : Int) < (j : Int) := by omega
      have hi : i = search (fun h => ltOf cf d[h]! d[a]!) (a + 1) b := by rw [← heq.out, search, if_neg hlt]
      have hib : i ≤ b := by omega
      have HI : Hid _ := hi
      clear heq hi hkx hij hjb
      obtain ⟨wq, rfl⟩ : ∃ wq : World, wq = wr := ⟨_, rfl⟩
      go_wp2
      go_loopg [13] (i - a) (fun kx s13 wr2 => ∃ (q : Nat) (dk : Array α), s13 = .int .i64 q ∧ a ≤ q ∧ i - q ≤ kx ∧ dk.size = d.size ∧ Aside (SW enc w0 blk off dk wr2) ∧ Hid (shUp q (i - 1) dk = shUp a (i - 1) d))
      case atStart => exact ⟨a, d, rfl, Nat.le_refl _, Nat.le_refl _, rfl, S1, rfl⟩
      case round =>
        clear S1
        obtain ⟨q, dk, rfl, haq, hkx, hds, S1, heq⟩ := hrel
        by_cases hq : q < i - 1
        · have hqz : (q : Int) < (i : Int) - 1 := by omega
          go_wp2_with fail
          have ea : ((q : Int)).toNat = q := by omega
          have pa : (0 : Int) ≤ (q : Int) := by omega
          have ba : (q : Int) < (d.size : Int) := by omega
          have ra : IntKind.i64.wrap ((q : Int)) = (q : Int) := by rw [IntKind.wrap_i64]; omega
          have ec : ((q : Int) + 1).toNat = q + 1 := by omega
          have pc : (0 : Int) ≤ (q : Int) + 1 := by omega
          have bc : (q : Int) + 1 < (d.size : Int) := by omega
          have rc : IntKind.i64.wrap ((q : Int) + 1) = (q : Int) + 1 := by rw [IntKind.wrap_i64]; omega
          have S2 : Aside (SW enc w0 blk off (swp dk q (q + 1)) ((wr.setCell ⟨blk, off + q, none⟩ (enc dk[q + 1]!)).setCell ⟨blk, off + (q + 1), none⟩ (enc dk[q]!)).drew) := S1.out.swapped R q (q + 1) (by omega) (by omega)
          have c44a := S1.out.c1 R (by omega) q (by omega)
          have c44b := S1.out.c1 R (by omega) (q + 1) (by omega)
          have f44a := S1.out.f1 R (by omega) q (by omega)
          have f44b := S1.out.f1 R (by omega) (q + 1) (by omega)
          obtain ⟨u44, c44c⟩ := S1.out.c2 R (by omega) q (q + 1) (by omega) (by omega) (enc dk[q + 1]!)
          generalize dk[q]! = x44 at S2 c44a
          generalize dk[q + 1]! = y44 at S2 c44b c44c
          clear S1
          go_wp2_with fail
          go_big_region_o
          clear c44a c44b c44c f44a f44b
          generalize ((wr.setCell ⟨blk, off + q, none⟩ (enc y44)).setCell ⟨blk, off + (q + 1), none⟩ (enc x44)).drew = w2 at S2 ⊢
          go_wp2
          go_roundg (i - (q + 1))
          case measure => omega
          case rel => exact ⟨q + 1, swp dk q (q + 1), by go_num, by omega, Nat.le_refl _, by rw [size_swp]; exact hds, S2, by
            show _ = _
            rw [← heq.out, shUp.eq_def q, if_pos hq]⟩
        · have hqz : ¬ (q : Int) < (i : Int) - 1 := by omega
          go_wp2
          (try simp only [Exit.inBlock, Exit.then])
          refine bodyPost_ret (results_none rfl _ _ _) rfl ?_
          refine ⟨rfl, ?_⟩
          rw [symMerge, if_pos rfl]
          simp only []
          rw [← HI.out, ← heq.out, shUp, if_neg hq]
          exact S1.out

end Go.Proofs.Ytkfoknjflpklpaa.StabOne
