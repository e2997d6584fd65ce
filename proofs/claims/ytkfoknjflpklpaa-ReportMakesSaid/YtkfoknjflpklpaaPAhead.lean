/- tripwireref28.ahead. -/
import Derived.Test.YtkfoknjflpklpaaPRefV
import Derived.Test.YtkfoknjflpklpaaPSums
namespace Go.Proofs.Ytkfoknjflpklpaa.P
open Go Go.RowKit Go.Sort Go.Proofs.Ytkfoknjflpklpaa.Mem Go.Proofs.Ytkfoknjflpklpaa.Cmp Go.Proofs.Ytkfoknjflpklpaa.D

theorem refOrdG (x y : Val) (w : World) :
    Calls Try.prog 105 #[.agg #[.int .i64 x.kind, .int .i64 x.n, .string x.s], .agg #[.int .i64 y.kind, .int .i64 y.n, .string y.s]] w fun e w' => e = .returned (.int .i64 (ord x y)) ∧ G w w' := by
  rw [← refOrd_eq]
  exact refOrdCalls x y w

set_option maxHeartbeats 8000000 in
set_option maxRecDepth 100000 in
theorem aheadCalls (okk okr oks : Nat → Prop) (Ak A1 A2 : Option Addr) (ck c1 c2 : Nat) (ks : List Key) (a b : List Val) (w : World) (hk : Row tKey okk w Ak ks) (ha : Row tVal okr w A1 a) (hb : Row tVal oks w A2 b) (hl : ks.length ≤ 1000) :
    Calls Try.prog 79 #[.slice A1 a.length c1, .slice A2 b.length c2, .slice Ak ks.length ck] w fun e w' => e = .returned (.bool (decide (cmpR ks a b < 0))) ∧ G w w' := by
  have HK0 := put hk
  have HA := put ha
  have HB := put hb
  have HL := put hl
  clear hk ha hb hl
  obtain ⟨n, hn⟩ : ∃ n, n = ks.length := ⟨_, rfl⟩
  rw [← hn] at HL ⊢
  have HN := put hn
  clear hn
  go_enter Try.func79, Try.ntmps79
  go_wp2_with fail
  go_loopg [7] n (fun kx s7 wr => ∃ (i : Nat), s7 = .int .i64 i ∧ i ≤ n ∧ n - i ≤ kx ∧ Kp (cmpR (ks.drop i) a b = cmpR ks a b) ∧ Kp (G w wr))
  case atStart => exact ⟨0, rfl, Nat.zero_le _, Nat.le_refl _, put rfl, put (G.refl _)⟩
  case round =>
    obtain ⟨i, rfl, hi, hkx, HC, KG⟩ := hrel
    by_cases hlt : i < n
    · have hlz : (i : Int) < (n : Int) := by omega
      have i0 : (0 : Int) ≤ (i : Int) := by omega
      have hn9 := HL.out
      obtain ⟨ad, k, rfl, hx, x0, x1⟩ := keys_get (HK0.out.grown KG.out) i (by rw [← HN.out]; exact hlt)
      have hd : ks.drop i = k :: ks.drop (i + 1) := by
        have h1 : i < ks.length := by rw [← HN.out]; exact hlt
        rw [List.drop_eq_getElem_cons h1]
        rw [List.getElem?_eq_getElem h1] at hx
        rw [Option.some.inj hx]
      have HD := put hd
      have X0 := put x0
      have X1 := put x1
      have HR := put (And.intro (HA.out.grown KG.out) (HB.out.grown KG.out))
      clear hx hd x0 x1
      go_wp2_with fail
      refine wp_region_noPanic ?_
      refine wp_region_held_drew (S := (fun w' => G wr w')) (by kernel_rfl) (G.refl _).drew (fun hHeld => ?_)
      refine wpAnyH_take (i := 0) (v := ?_) rfl (by kernel_rfl) (by kernel_rfl) (by kernel_rfl) (fun _ _ _ h => h) (Or.inl ⟨by kernel_rfl, ?_⟩) (by assumption) ?_
      rotate_left
      · intro w hSw; (try dsimp only at hSw); go_simp; try with_reducible rfl
      try simp only [List.getElem_toArray, List.getElem_cons_zero, Act.put, List.setIfInBounds_toArray, List.set_cons_zero, List.set_cons_succ]
      refine wpAnyH_take (i := 1) (v := ?_) rfl (by kernel_rfl) (by kernel_rfl) (by kernel_rfl) (fun _ _ _ h => h) (Or.inl ⟨by kernel_rfl, ?_⟩) (by assumption) ?_
      rotate_left
      · intro w hSw; (try dsimp only at hSw); go_simp; try with_reducible rfl
      try simp only [List.getElem_toArray, List.getElem_cons_succ, List.getElem_cons_zero, Act.put, List.setIfInBounds_toArray, List.set_cons_zero, List.set_cons_succ]
      refine wpAnyH_take (i := 2) (v := ?_) rfl (by kernel_rfl) (by kernel_rfl) (by kernel_rfl) (fun _ _ _ h => h) (Or.inl ⟨by kernel_rfl, ?_⟩) (by assumption) ?_
      rotate_left
      · intro w hSw; (try dsimp only at hSw); go_simp; try with_reducible rfl
      try simp only [List.getElem_toArray, List.getElem_cons_succ, List.getElem_cons_zero, Act.put, List.setIfInBounds_toArray, List.set_cons_zero, List.set_cons_succ]
      refine wpAnyH_take (i := 3) (v := ?_) rfl (by kernel_rfl) (by kernel_rfl) (by kernel_rfl) (fun _ _ _ h => h) (Or.inl ⟨by kernel_rfl, ?_⟩) (by assumption) ?_
      rotate_left
      · intro w hSw; (try dsimp only at hSw); go_simp; try with_reducible rfl
      try simp only [List.getElem_toArray, List.getElem_cons_succ, List.getElem_cons_zero, Act.put, List.setIfInBounds_toArray, List.set_cons_zero, List.set_cons_succ]
      refine wpAnyH_take (i := 4) (v := ?_) rfl (by kernel_rfl) (by kernel_rfl) (by kernel_rfl) (fun _ _ _ h => h) (Or.inl ⟨by kernel_rfl, ?_⟩) (by assumption) ?_
      rotate_left
      · intro w hSw; (try dsimp only at hSw); go_simp; try with_reducible rfl
      try simp only [List.getElem_toArray, List.getElem_cons_succ, List.getElem_cons_zero, Act.put, List.setIfInBounds_toArray, List.set_cons_zero, List.set_cons_succ]
      refine wpAnyH_take (i := 5) (v := ?_) rfl (by kernel_rfl) (by kernel_rfl) (by kernel_rfl) (fun _ _ _ h => h) (Or.inl ⟨by kernel_rfl, ?_⟩) (by assumption) ?_
      rotate_left
      · intro w hSw; (try dsimp only at hSw); have k0 := G.cellOf hSw X0.out; go_simp; try with_reducible rfl
      try simp only [List.getElem_toArray, List.getElem_cons_succ, List.getElem_cons_zero, Act.put, List.setIfInBounds_toArray, List.set_cons_zero, List.set_cons_succ]
      refine wpAnyH_take (i := 7) (v := ?_) rfl (by kernel_rfl) (by kernel_rfl) (by kernel_rfl) (fun _ _ _ h => h) (Or.inl ⟨by kernel_rfl, ?_⟩) (by assumption) ?_
      rotate_left
      · intro w hSw; (try dsimp only at hSw); go_simp; try with_reducible rfl
      try simp only [List.getElem_toArray, List.getElem_cons_succ, List.getElem_cons_zero, Act.put, List.setIfInBounds_toArray, List.set_cons_zero, List.set_cons_succ]
      refine wpAnyH_take (i := 8) (v := ?_) rfl (by kernel_rfl) (by kernel_rfl) (by kernel_rfl) (fun _ _ _ h => h) (Or.inl ⟨by kernel_rfl, ?_⟩) (by assumption) ?_
      rotate_left
      · intro w hSw; (try dsimp only at hSw); go_simp; try with_reducible rfl
      try simp only [List.getElem_toArray, List.getElem_cons_succ, List.getElem_cons_zero, Act.put, List.setIfInBounds_toArray, List.set_cons_zero, List.set_cons_succ]
      refine wpAnyH_take (i := 9) (v := ?_) rfl (by kernel_rfl) (by kernel_rfl) (by kernel_rfl) (fun _ _ _ h => h) (Or.inl ⟨by kernel_rfl, ?_⟩) (by assumption) ?_
      rotate_left
      · intro w hSw; (try dsimp only at hSw); go_simp; try with_reducible rfl
      try simp only [List.getElem_toArray, List.getElem_cons_succ, List.getElem_cons_zero, Act.put, List.setIfInBounds_toArray, List.set_cons_zero, List.set_cons_succ]
      refine wpAnyH_take (i := 10) (v := ?_) rfl (by kernel_rfl) (by kernel_rfl) (by kernel_rfl) (fun _ _ _ h => h) (Or.inl ⟨by kernel_rfl, ?_⟩) (by assumption) ?_
      rotate_left
      · intro w hSw; (try dsimp only at hSw); go_simp; try with_reducible rfl
      try simp only [List.getElem_toArray, List.getElem_cons_succ, List.getElem_cons_zero, Act.put, List.setIfInBounds_toArray, List.set_cons_zero, List.set_cons_succ]
      refine wpAnyH_take (i := 11) (v := ?_) rfl (by kernel_rfl) (by kernel_rfl) (by kernel_rfl) (fun _ _ _ h => h) (Or.inl ⟨by kernel_rfl, ?_⟩) (by assumption) ?_
      rotate_left
      · intro w hSw; (try dsimp only at hSw); go_simp; try with_reducible rfl
      try simp only [List.getElem_toArray, List.getElem_cons_succ, List.getElem_cons_zero, Act.put, List.setIfInBounds_toArray, List.set_cons_zero, List.set_cons_succ]
      refine wpAnyH_take (i := 12) (v := ?_) rfl (by kernel_rfl) (by kernel_rfl) (by kernel_rfl) (fun _ _ _ h => h) (Or.inl ⟨by kernel_rfl, ?_⟩) (by assumption) ?_
      rotate_left
      · intro w hSw; (try dsimp only at hSw); have k0 := G.cellOf hSw X0.out; go_simp; try with_reducible rfl
      try simp only [List.getElem_toArray, List.getElem_cons_succ, List.getElem_cons_zero, Act.put, List.setIfInBounds_toArray, List.set_cons_zero, List.set_cons_succ]
      refine wpAnyH_ready (rs := [6]) (by kernel_rfl) (by simp) ?_
      refine AllReadyH.cons rfl (fun JJ hJJ => ?_) AllReadyH.nil
      go_simp
      ((try clear hb); go_at_call 109; refine (refAtCalls okr A1 c1 a k.col _ (HR.out.1.grown hHeld)).mono ?_; rintro e w5 ⟨rfl, hg⟩; have hb := G.trans hHeld hg; clear hg)
      refine hJJ.out _ _ ?_ (fun hHeld2 => ?_)
      · exact hb
      clear hJJ JJ hHeld
      have hHeld := hHeld2
      clear hHeld2
      try simp only [List.getElem_toArray, List.getElem_cons_succ, List.getElem_cons_zero, Act.put, List.setIfInBounds_toArray, List.set_cons_zero, List.set_cons_succ]
      refine wpAnyH_ready (rs := [13]) (by kernel_rfl) (by simp) ?_
      refine AllReadyH.cons rfl (fun JJ hJJ => ?_) AllReadyH.nil
      go_simp
      ((try clear hb); go_at_call 109; refine (refAtCalls oks A2 c2 b k.col _ (HR.out.2.grown hHeld)).mono ?_; rintro e w6 ⟨rfl, hg⟩; have hb := G.trans hHeld hg; clear hg)
      refine hJJ.out _ _ ?_ (fun hHeld2 => ?_)
      · exact hb
      clear hJJ JJ hHeld
      have hHeld := hHeld2
      clear hHeld2
      try simp only [List.getElem_toArray, List.getElem_cons_succ, List.getElem_cons_zero, Act.put, List.setIfInBounds_toArray, List.set_cons_zero, List.set_cons_succ]
      refine wpAnyH_ready (rs := [14]) (by kernel_rfl) (by simp) ?_
      refine AllReadyH.cons rfl (fun JJ hJJ => ?_) AllReadyH.nil
      go_simp
      ((try clear hb); go_at_call 105; refine (refOrdG (atV a k.col) (atV b k.col) _).mono ?_; rintro e w7 ⟨rfl, hg⟩; have hb := G.trans hHeld hg; clear hg)
      refine hJJ.out _ _ ?_ (fun hHeld2 => ?_)
      · exact hb
      clear hJJ JJ hHeld
      have hHeld := hHeld2
      clear hHeld2
      try simp only [List.getElem_toArray, List.getElem_cons_succ, List.getElem_cons_zero, Act.put, List.setIfInBounds_toArray, List.set_cons_zero, List.set_cons_succ]
      refine wpAnyH_take (i := 15) (v := ?_) rfl (by kernel_rfl) (by kernel_rfl) (by kernel_rfl) (fun _ _ _ h => h) (Or.inl ⟨by kernel_rfl, ?_⟩) (by assumption) ?_
      rotate_left
      · intro w hSw; (try dsimp only at hSw); go_simp; try with_reducible rfl
      try simp only [List.getElem_toArray, List.getElem_cons_succ, List.getElem_cons_zero, Act.put, List.setIfInBounds_toArray, List.set_cons_zero, List.set_cons_succ]
      refine wpAnyH_done (by kernel_rfl) ?_ _
      refine NoPanic.normal ?_
      have HW := put hHeld
      clear hHeld
      have q1 := G.cellOf HW.out X1.out
      obtain ⟨N, hN⟩ : ∃ N, N = ord (atV a k.col) (atV b k.col) := ⟨_, rfl⟩
      rw [← hN]
      have hr := ord_range (atV a k.col) (atV b k.col)
      rw [← hN] at hr
      have HN2 := put hN
      clear hN
      have hw : IntKind.i64.wrap (-N) = -N := by rw [IntKind.wrap_i64]; omega
      by_cases hz : N = 0
      · have z1 : (N != 0) = false := by simp [hz]
        have z2 : (-N != 0) = false := by simp [hz]
        have HC2 : Kp (cmpR (ks.drop (i + 1)) a b = cmpR ks a b) := put (by rw [← HC.out, HD.out, cmpR, ← HN2.out, hz]; cases k.down <;> simp)
        clear hz hr
        cases hdn : k.down with
        | true =>
          rw [hdn] at q1
          go_wp2_with fail
          go_roundg (n - (i + 1))
          case measure => omega
          case rel => exact ⟨i + 1, by go_num, by omega, Nat.le_refl _, HC2, put (KG.out.trans HW.out)⟩
        | false =>
          rw [hdn] at q1
          go_wp2_with fail
          go_roundg (n - (i + 1))
          case measure => omega
          case rel => exact ⟨i + 1, by go_num, by omega, Nat.le_refl _, HC2, put (KG.out.trans HW.out)⟩
      · have z1 : (N != 0) = true := by simp [hz]
        have z2 : (-N != 0) = true := by simp; omega
        cases hdn : k.down with
        | true =>
          have E : Kp (cmpR ks a b = -N) := put (by rw [← HC.out, HD.out, cmpR, ← HN2.out, hdn]; simp; omega)
          rw [hdn] at q1
          have E2 : Kp (decide (cmpR ks a b < 0) = decide (0 < N)) := put (by rw [E.out]; simp)
          clear hz hr
          go_wp2_with fail
          go_ret
          exact ⟨by rw [E2.out]; rfl, KG.out.trans HW.out⟩
        | false =>
          have E : Kp (cmpR ks a b = N) := put (by rw [← HC.out, HD.out, cmpR, ← HN2.out, hdn]; simp; omega)
          rw [hdn] at q1
          clear hz hr
          go_wp2_with fail
          go_ret
          exact ⟨by rw [E.out]; rfl, KG.out.trans HW.out⟩
    · have hlz : ¬ (i : Int) < (n : Int) := by omega
      have E : Kp (cmpR ks a b = 0) := put (by rw [← HC.out, List.drop_of_length_le (by rw [← HN.out]; omega)]; rfl)
      go_wp2_with fail
      go_ret
      exact ⟨by rw [E.out]; rfl, KG.out⟩
end Go.Proofs.Ytkfoknjflpklpaa.P
