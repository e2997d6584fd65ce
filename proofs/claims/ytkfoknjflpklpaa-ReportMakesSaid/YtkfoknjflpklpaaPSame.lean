/- tripwireref22.Same; tripwirelaw28.PlainKeys. -/
import Derived.Test.YtkfoknjflpklpaaPAlike
namespace Go.Proofs.Ytkfoknjflpklpaa.P
open Go Go.RowKit Go.Sort Go.Proofs.Ytkfoknjflpklpaa.Mem Go.Proofs.Ytkfoknjflpklpaa.Cmp Go.Proofs.Ytkfoknjflpklpaa.D
attribute [local go_sem high] eqVal

theorem take_eq_one {α : Type} {xs ys : List α} {i : Nat} {x y : α} (h : xs.take i = ys.take i) (hx : xs[i]? = some x) (hy : ys[i]? = some y) (e : x = y) : xs.take (i + 1) = ys.take (i + 1) := by rw [take_one hx, take_one hy, h, e]
theorem ne_at {α : Type} {xs ys : List α} {i : Nat} {x y : α} (hx : xs[i]? = some x) (hy : ys[i]? = some y) (e : x ≠ y) : xs ≠ ys := by rintro rfl; rw [hx] at hy; exact e (Option.some.inj hy)

set_option maxHeartbeats 16000000 in
set_option maxRecDepth 100000 in
theorem sameCalls (okx oky : Nat → Prop) (v u : Value) (xs ys : List (List Val)) (w : World) (hx : Sl tRow okx w v xs) (hy : Sl tRow oky w u ys) (hl : xs.length ≤ 1000) (hlr : ∀ r ∈ xs, r.length ≤ 1000) :
    Calls Try.prog 46 #[v, u] w fun e w' => e = .returned (.bool (decide (xs = ys))) ∧ G w w' := by
  obtain ⟨A1, c1, rfl, _, _, l1⟩ := hx.shape
  obtain ⟨A2, c2, rfl, _, _, l2⟩ := hy.shape
  have KX := put hx
  have KY := put hy
  have HLR := put hlr
  obtain ⟨m, hm⟩ : ∃ m, m = xs.length := ⟨_, rfl⟩
  obtain ⟨n, hn⟩ : ∃ n, n = ys.length := ⟨_, rfl⟩
  rw [← hm] at hl KX l1 ⊢
  rw [← hn] at KY l2 ⊢
  have HM := put hm
  have HN := put hn
  clear hx hy hlr hm hn
  by_cases hmn : m = n
  · subst hmn
    have hz : ((m : Int) != (m : Int)) = false := by simp
    go_enter Try.func46, Try.ntmps46
    go_wp2_with fail
    clear hz
    go_loopg [5] m (fun kx s5 wr => ∃ (i : Nat), s5 = .int .i64 i ∧ i ≤ m ∧ m - i ≤ kx ∧ Kp (xs.take i = ys.take i) ∧ Kp (G w wr))
    case atStart => exact ⟨0, rfl, Nat.zero_le _, Nat.le_refl _, put rfl, put (G.refl _)⟩
    case round =>
      obtain ⟨i, rfl, hi, hkx, HE, KG⟩ := hrel
      by_cases hlt : i < m
      · have hlz : (i : Int) < (m : Int) := by omega
        have i0 : (0 : Int) ≤ (i : Int) := by omega
        obtain ⟨ad, x, B1, d1, rfl, hxi, x0, hsx⟩ := rows_get (KX.out.below KG.out.below).row.1 i (by rw [← HM.out]; exact hlt)
        obtain ⟨bd, y, B2, d2, rfl, hyi, y0, hsy⟩ := rows_get (KY.out.below KG.out.below).row.1 i (by rw [← HN.out]; exact hlt)
        have X0 := put x0
        have Y0 := put y0
        have HSX := put hsx
        have HSY := put hsy
        have HXI := put hxi
        have HYI := put hyi
        have hxl : x.length ≤ 1000 := HLR.out x (List.mem_of_getElem? hxi)
        obtain ⟨p, hp⟩ : ∃ p, p = x.length := ⟨_, rfl⟩
        obtain ⟨q, hq⟩ : ∃ q, q = y.length := ⟨_, rfl⟩
        rw [← hp] at X0 HSX hxl
        rw [← hq] at Y0 HSY
        have HP := put hp
        have HQ := put hq
        clear x0 y0 hsx hsy hxi hyi hp hq
        obtain ⟨w5, hw5⟩ : ∃ w5, w5 = wr := ⟨_, rfl⟩
        have HW5 := put hw5
        clear hw5
        go_wp2_with fail
        refine wp_region_noPanic ?_
        refine wp_region_held_drew (S := (fun w' => G wr w')) (by kernel_rfl) (G.refl _).drew (fun hHeld => ?_)
        refine wpAnyH_take (i := 0) (v := ?_) rfl (by kernel_rfl) (by kernel_rfl) (by kernel_rfl) (fun _ _ _ h => h) (Or.inl ⟨by kernel_rfl, ?_⟩) (by assumption) ?_
        rotate_left
        focus (intro w hSw; (try dsimp only at hSw); go_simp; (try with_reducible rfl); done)
        try simp only [List.getElem_toArray, List.getElem_cons_zero, Act.put, List.setIfInBounds_toArray, List.set_cons_zero, List.set_cons_succ]
        refine wpAnyH_take (i := 1) (v := ?_) rfl (by kernel_rfl) (by kernel_rfl) (by kernel_rfl) (fun _ _ _ h => h) (Or.inl ⟨by kernel_rfl, ?_⟩) (by assumption) ?_
        rotate_left
        focus (intro w hSw; (try dsimp only at hSw); go_simp; (try with_reducible rfl); done)
        try simp only [List.getElem_toArray, List.getElem_cons_succ, List.getElem_cons_zero, Act.put, List.setIfInBounds_toArray, List.set_cons_zero, List.set_cons_succ]
        refine wpAnyH_take (i := 2) (v := ?_) rfl (by kernel_rfl) (by kernel_rfl) (by kernel_rfl) (fun _ _ _ h => h) (Or.inl ⟨by kernel_rfl, ?_⟩) (by assumption) ?_
        rotate_left
        focus (intro w hSw; (try dsimp only at hSw); go_simp; (try with_reducible rfl); done)
        try simp only [List.getElem_toArray, List.getElem_cons_succ, List.getElem_cons_zero, Act.put, List.setIfInBounds_toArray, List.set_cons_zero, List.set_cons_succ]
        refine wpAnyH_take (i := 3) (v := ?_) rfl (by kernel_rfl) (by kernel_rfl) (by kernel_rfl) (fun _ _ _ h => h) (Or.inl ⟨by kernel_rfl, ?_⟩) (by assumption) ?_
        rotate_left
        focus (intro w hSw; (try dsimp only at hSw); have k0 := G.cellOf hSw X0.out; have k1 := G.cellOf hSw Y0.out; go_simp; (try with_reducible rfl); done)
        try simp only [List.getElem_toArray, List.getElem_cons_succ, List.getElem_cons_zero, Act.put, List.setIfInBounds_toArray, List.set_cons_zero, List.set_cons_succ]
        refine wpAnyH_take (i := 4) (v := ?_) rfl (by kernel_rfl) (by kernel_rfl) (by kernel_rfl) (fun _ _ _ h => h) (Or.inl ⟨by kernel_rfl, ?_⟩) (by assumption) ?_
        rotate_left
        focus (intro w hSw; (try dsimp only at hSw); go_simp; (try with_reducible rfl); done)
        try simp only [List.getElem_toArray, List.getElem_cons_succ, List.getElem_cons_zero, Act.put, List.setIfInBounds_toArray, List.set_cons_zero, List.set_cons_succ]
        refine wpAnyH_take (i := 5) (v := ?_) rfl (by kernel_rfl) (by kernel_rfl) (by kernel_rfl) (fun _ _ _ h => h) (Or.inl ⟨by kernel_rfl, ?_⟩) (by assumption) ?_
        rotate_left
        focus (intro w hSw; (try dsimp only at hSw); go_simp; (try with_reducible rfl); done)
        try simp only [List.getElem_toArray, List.getElem_cons_succ, List.getElem_cons_zero, Act.put, List.setIfInBounds_toArray, List.set_cons_zero, List.set_cons_succ]
        refine wpAnyH_take (i := 6) (v := ?_) rfl (by kernel_rfl) (by kernel_rfl) (by kernel_rfl) (fun _ _ _ h => h) (Or.inl ⟨by kernel_rfl, ?_⟩) (by assumption) ?_
        rotate_left
        focus (intro w hSw; (try dsimp only at hSw); go_simp; (try with_reducible rfl); done)
        try simp only [List.getElem_toArray, List.getElem_cons_succ, List.getElem_cons_zero, Act.put, List.setIfInBounds_toArray, List.set_cons_zero, List.set_cons_succ]
        refine wpAnyH_take (i := 7) (v := ?_) rfl (by kernel_rfl) (by kernel_rfl) (by kernel_rfl) (fun _ _ _ h => h) (Or.inl ⟨by kernel_rfl, ?_⟩) (by assumption) ?_
        rotate_left
        focus (intro w hSw; (try dsimp only at hSw); go_simp; (try with_reducible rfl); done)
        try simp only [List.getElem_toArray, List.getElem_cons_succ, List.getElem_cons_zero, Act.put, List.setIfInBounds_toArray, List.set_cons_zero, List.set_cons_succ]
        refine wpAnyH_take (i := 8) (v := ?_) rfl (by kernel_rfl) (by kernel_rfl) (by kernel_rfl) (fun _ _ _ h => h) (Or.inl ⟨by kernel_rfl, ?_⟩) (by assumption) ?_
        rotate_left
        focus (intro w hSw; (try dsimp only at hSw); have k0 := G.cellOf hSw X0.out; have k1 := G.cellOf hSw Y0.out; go_simp; (try with_reducible rfl); done)
        try simp only [List.getElem_toArray, List.getElem_cons_succ, List.getElem_cons_zero, Act.put, List.setIfInBounds_toArray, List.set_cons_zero, List.set_cons_succ]
        refine wpAnyH_take (i := 9) (v := ?_) rfl (by kernel_rfl) (by kernel_rfl) (by kernel_rfl) (fun _ _ _ h => h) (Or.inl ⟨by kernel_rfl, ?_⟩) (by assumption) ?_
        rotate_left
        focus (intro w hSw; (try dsimp only at hSw); go_simp; (try with_reducible rfl); done)
        try simp only [List.getElem_toArray, List.getElem_cons_succ, List.getElem_cons_zero, Act.put, List.setIfInBounds_toArray, List.set_cons_zero, List.set_cons_succ]
        refine wpAnyH_take (i := 10) (v := ?_) rfl (by kernel_rfl) (by kernel_rfl) (by kernel_rfl) (fun _ _ _ h => h) (Or.inl ⟨by kernel_rfl, ?_⟩) (by assumption) ?_
        rotate_left
        focus (intro w hSw; (try dsimp only at hSw); go_simp; (try with_reducible rfl); done)
        try simp only [List.getElem_toArray, List.getElem_cons_succ, List.getElem_cons_zero, Act.put, List.setIfInBounds_toArray, List.set_cons_zero, List.set_cons_succ]
        refine wpAnyH_done (by kernel_rfl) ?_ _
        refine NoPanic.normal ?_
        obtain ⟨w6, hw6⟩ : ∃ w6, w6 = wr.drew := ⟨_, rfl⟩
        rw [← hw6] at hHeld ⊢
        have HG6 := put hHeld
        clear hHeld hw6
        by_cases hpq : p = q
        · subst hpq
          have hz : ((p : Int) != (p : Int)) = false := by simp
          have HX6 := put (KX.out.below (KG.out.trans HG6.out).below)
          have X6 := put (G.cellOf HG6.out X0.out)
          have Y6 := put (G.cellOf HG6.out Y0.out)
          have HSX6 := put (HSX.out.below HG6.out.below)
          have HSY6 := put (HSY.out.below HG6.out.below)
          have KG6 := put (KG.out.trans HG6.out)
          clear X0 Y0 HSX HSY HW5
          go_wp2_with fail
          clear hz
          go_loopg [6] p (fun kx s6 wi => ∃ (k : Nat), s6 = .int .i64 k ∧ k ≤ p ∧ p - k ≤ kx ∧ Kp (x.take k = y.take k) ∧ Kp (G w6 wi))
          case atStart => exact ⟨0, rfl, Nat.zero_le _, Nat.le_refl _, put rfl, put (G.refl _)⟩
          case round =>
            obtain ⟨k, rfl, hk, hkx2, HE2, KG2⟩ := hrel
            have X0 := put (G.cellOf KG2.out X6.out)
            have Y0 := put (G.cellOf KG2.out Y6.out)
            have x0 := X0.out
            by_cases hlt2 : k < p
            · have hlz2 : (k : Int) < (p : Int) := by omega
              have k0 : (0 : Int) ≤ (k : Int) := by omega
              have kx1 : k < x.length := by rw [← HP.out]; exact hlt2
              have ky1 : k < y.length := by rw [← HQ.out]; exact hlt2
              obtain ⟨xd, rfl, a0, a1, a2⟩ := vals_get (HSX6.out.below KG2.out.below).row.1 k kx1
              obtain ⟨yd, rfl, b0, b1, b2⟩ := vals_get (HSY6.out.below KG2.out.below).row.1 k ky1
              have HX2 : Kp (x[k]? = some x[k]) := put (List.getElem?_eq_getElem kx1)
              have HY2 : Kp (y[k]? = some y[k]) := put (List.getElem?_eq_getElem ky1)
              generalize x[k] = s at *
              generalize y[k] = t at *
              have XA := put a0
              have XB := put a1
              have XC := put a2
              have YA := put b0
              have YB := put b1
              have YC := put b2
              have EV := put (bne_val s t)
              clear a0 a1 a2 b0 b1 b2
              go_wp2_with fail
              clear x0
              refine wp_region_noPanic ?_
              refine wp_region_held_drew (S := (fun w' => G wr w')) (by kernel_rfl) (G.refl _).drew (fun hHeld => ?_)
              refine wpAnyH_take (i := 0) (v := ?_) rfl (by kernel_rfl) (by kernel_rfl) (by kernel_rfl) (fun _ _ _ h => h) (Or.inl ⟨by kernel_rfl, ?_⟩) (by assumption) ?_
              rotate_left
              focus (intro w hSw; (try dsimp only at hSw); go_simp; (try with_reducible rfl); done)
              try simp only [List.getElem_toArray, List.getElem_cons_zero, Act.put, List.setIfInBounds_toArray, List.set_cons_zero, List.set_cons_succ]
              refine wpAnyH_take (i := 1) (v := ?_) rfl (by kernel_rfl) (by kernel_rfl) (by kernel_rfl) (fun _ _ _ h => h) (Or.inl ⟨by kernel_rfl, ?_⟩) (by assumption) ?_
              rotate_left
              focus (intro w hSw; (try dsimp only at hSw); go_simp; (try with_reducible rfl); done)
              try simp only [List.getElem_toArray, List.getElem_cons_succ, List.getElem_cons_zero, Act.put, List.setIfInBounds_toArray, List.set_cons_zero, List.set_cons_succ]
              refine wpAnyH_take (i := 2) (v := ?_) rfl (by kernel_rfl) (by kernel_rfl) (by kernel_rfl) (fun _ _ _ h => h) (Or.inl ⟨by kernel_rfl, ?_⟩) (by assumption) ?_
              rotate_left
              focus (intro w hSw; (try dsimp only at hSw); go_simp; (try with_reducible rfl); done)
              try simp only [List.getElem_toArray, List.getElem_cons_succ, List.getElem_cons_zero, Act.put, List.setIfInBounds_toArray, List.set_cons_zero, List.set_cons_succ]
              refine wpAnyH_take (i := 3) (v := ?_) rfl (by kernel_rfl) (by kernel_rfl) (by kernel_rfl) (fun _ _ _ h => h) (Or.inl ⟨by kernel_rfl, ?_⟩) (by assumption) ?_
              rotate_left
              focus (intro w hSw; (try dsimp only at hSw); have k0 := G.cellOf hSw X0.out; have k1 := G.cellOf hSw Y0.out; have a0 := G.cellOf hSw XA.out; have a1 := G.cellOf hSw XB.out; have a2 := G.cellOf hSw XC.out; have b0 := G.cellOf hSw YA.out; have b1 := G.cellOf hSw YB.out; have b2 := G.cellOf hSw YC.out; go_simp; (try with_reducible rfl); done)
              try simp only [List.getElem_toArray, List.getElem_cons_succ, List.getElem_cons_zero, Act.put, List.setIfInBounds_toArray, List.set_cons_zero, List.set_cons_succ]
              refine wpAnyH_take (i := 4) (v := ?_) rfl (by kernel_rfl) (by kernel_rfl) (by kernel_rfl) (fun _ _ _ h => h) (Or.inl ⟨by kernel_rfl, ?_⟩) (by assumption) ?_
              rotate_left
              focus (intro w hSw; (try dsimp only at hSw); go_simp; (try with_reducible rfl); done)
              try simp only [List.getElem_toArray, List.getElem_cons_succ, List.getElem_cons_zero, Act.put, List.setIfInBounds_toArray, List.set_cons_zero, List.set_cons_succ]
              refine wpAnyH_take (i := 5) (v := ?_) rfl (by kernel_rfl) (by kernel_rfl) (by kernel_rfl) (fun _ _ _ h => h) (Or.inl ⟨by kernel_rfl, ?_⟩) (by assumption) ?_
              rotate_left
              focus (intro w hSw; (try dsimp only at hSw); go_simp; (try with_reducible rfl); done)
              try simp only [List.getElem_toArray, List.getElem_cons_succ, List.getElem_cons_zero, Act.put, List.setIfInBounds_toArray, List.set_cons_zero, List.set_cons_succ]
              refine wpAnyH_take (i := 6) (v := ?_) rfl (by kernel_rfl) (by kernel_rfl) (by kernel_rfl) (fun _ _ _ h => h) (Or.inl ⟨by kernel_rfl, ?_⟩) (by assumption) ?_
              rotate_left
              focus (intro w hSw; (try dsimp only at hSw); have k0 := G.cellOf hSw X0.out; have k1 := G.cellOf hSw Y0.out; have a0 := G.cellOf hSw XA.out; have a1 := G.cellOf hSw XB.out; have a2 := G.cellOf hSw XC.out; have b0 := G.cellOf hSw YA.out; have b1 := G.cellOf hSw YB.out; have b2 := G.cellOf hSw YC.out; go_simp; (try with_reducible rfl); done)
              try simp only [List.getElem_toArray, List.getElem_cons_succ, List.getElem_cons_zero, Act.put, List.setIfInBounds_toArray, List.set_cons_zero, List.set_cons_succ]
              refine wpAnyH_take (i := 7) (v := ?_) rfl (by kernel_rfl) (by kernel_rfl) (by kernel_rfl) (fun _ _ _ h => h) (Or.inl ⟨by kernel_rfl, ?_⟩) (by assumption) ?_
              rotate_left
              focus (intro w hSw; (try dsimp only at hSw); go_simp; (try with_reducible rfl); done)
              try simp only [List.getElem_toArray, List.getElem_cons_succ, List.getElem_cons_zero, Act.put, List.setIfInBounds_toArray, List.set_cons_zero, List.set_cons_succ]
              refine wpAnyH_take (i := 8) (v := ?_) rfl (by kernel_rfl) (by kernel_rfl) (by kernel_rfl) (fun _ _ _ h => h) (Or.inl ⟨by kernel_rfl, ?_⟩) (by assumption) ?_
              rotate_left
              focus (intro w hSw; (try dsimp only at hSw); go_simp; (try with_reducible rfl); done)
              try simp only [List.getElem_toArray, List.getElem_cons_succ, List.getElem_cons_zero, Act.put, List.setIfInBounds_toArray, List.set_cons_zero, List.set_cons_succ]
              refine wpAnyH_take (i := 9) (v := ?_) rfl (by kernel_rfl) (by kernel_rfl) (by kernel_rfl) (fun _ _ _ h => h) (Or.inl ⟨by kernel_rfl, ?_⟩) (by assumption) ?_
              rotate_left
              focus (intro w hSw; (try dsimp only at hSw); go_simp; (try with_reducible rfl); done)
              try simp only [List.getElem_toArray, List.getElem_cons_succ, List.getElem_cons_zero, Act.put, List.setIfInBounds_toArray, List.set_cons_zero, List.set_cons_succ]
              refine wpAnyH_take (i := 10) (v := ?_) rfl (by kernel_rfl) (by kernel_rfl) (by kernel_rfl) (fun _ _ _ h => h) (Or.inl ⟨by kernel_rfl, ?_⟩) (by assumption) ?_
              rotate_left
              focus (intro w hSw; (try dsimp only at hSw); have k0 := G.cellOf hSw X0.out; have k1 := G.cellOf hSw Y0.out; have a0 := G.cellOf hSw XA.out; have a1 := G.cellOf hSw XB.out; have a2 := G.cellOf hSw XC.out; have b0 := G.cellOf hSw YA.out; have b1 := G.cellOf hSw YB.out; have b2 := G.cellOf hSw YC.out; go_simp; (try with_reducible rfl); done)
              try simp only [List.getElem_toArray, List.getElem_cons_succ, List.getElem_cons_zero, Act.put, List.setIfInBounds_toArray, List.set_cons_zero, List.set_cons_succ]
              refine wpAnyH_take (i := 11) (v := ?_) rfl (by kernel_rfl) (by kernel_rfl) (by kernel_rfl) (fun _ _ _ h => h) (Or.inl ⟨by kernel_rfl, ?_⟩) (by assumption) ?_
              rotate_left
              focus (intro w hSw; (try dsimp only at hSw); go_simp; (try with_reducible rfl); done)
              try simp only [List.getElem_toArray, List.getElem_cons_succ, List.getElem_cons_zero, Act.put, List.setIfInBounds_toArray, List.set_cons_zero, List.set_cons_succ]
              refine wpAnyH_take (i := 12) (v := ?_) rfl (by kernel_rfl) (by kernel_rfl) (by kernel_rfl) (fun _ _ _ h => h) (Or.inl ⟨by kernel_rfl, ?_⟩) (by assumption) ?_
              rotate_left
              focus (intro w hSw; (try dsimp only at hSw); go_simp; (try with_reducible rfl); done)
              try simp only [List.getElem_toArray, List.getElem_cons_succ, List.getElem_cons_zero, Act.put, List.setIfInBounds_toArray, List.set_cons_zero, List.set_cons_succ]
              refine wpAnyH_take (i := 13) (v := ?_) rfl (by kernel_rfl) (by kernel_rfl) (by kernel_rfl) (fun _ _ _ h => h) (Or.inl ⟨by kernel_rfl, ?_⟩) (by assumption) ?_
              rotate_left
              focus (intro w hSw; (try dsimp only at hSw); have k0 := G.cellOf hSw X0.out; have k1 := G.cellOf hSw Y0.out; have a0 := G.cellOf hSw XA.out; have a1 := G.cellOf hSw XB.out; have a2 := G.cellOf hSw XC.out; have b0 := G.cellOf hSw YA.out; have b1 := G.cellOf hSw YB.out; have b2 := G.cellOf hSw YC.out; go_simp; (try with_reducible rfl); done)
              try simp only [List.getElem_toArray, List.getElem_cons_succ, List.getElem_cons_zero, Act.put, List.setIfInBounds_toArray, List.set_cons_zero, List.set_cons_succ]
              refine wpAnyH_take (i := 14) (v := ?_) rfl (by kernel_rfl) (by kernel_rfl) (by kernel_rfl) (fun _ _ _ h => h) (Or.inl ⟨by kernel_rfl, ?_⟩) (by assumption) ?_
              rotate_left
              focus (intro w hSw; (try dsimp only at hSw); go_simp; (try with_reducible rfl); done)
              try simp only [List.getElem_toArray, List.getElem_cons_succ, List.getElem_cons_zero, Act.put, List.setIfInBounds_toArray, List.set_cons_zero, List.set_cons_succ]
              refine wpAnyH_done (by kernel_rfl) ?_ _
              refine NoPanic.normal ?_
              have HG7 := put hHeld
              clear hHeld
              rw [EV.out]
              by_cases hst : s = t
              · have hz : decide (s = t) = true := decide_eq_true hst
                have HT := put (take_eq_one HE2.out HX2.out HY2.out hst)
                rw [hz]
                clear hst hz EV
                go_wp2_with fail
                go_roundg (p - (k + 1))
                case measure => omega
                case rel => exact ⟨k + 1, by go_num, by omega, Nat.le_refl _, HT, put (KG2.out.trans HG7.out)⟩
              · have hz : decide (s = t) = false := decide_eq_false hst
                have HT : Kp (decide (xs = ys) = false) := put (decide_eq_false (ne_at HXI.out HYI.out (ne_at HX2.out HY2.out hst)))
                rw [hz]
                clear hst hz EV
                go_wp2_with fail
                go_ret
                exact ⟨by rw [HT.out]; rfl, KG6.out.trans (KG2.out.trans HG7.out)⟩
            · have hlz2 : ¬ (k : Int) < (p : Int) := by omega
              obtain rfl : k = p := by omega
              have HT : Kp (xs.take (i + 1) = ys.take (i + 1)) := put (by
                have h2 := HE2.out
                rw [List.take_of_length_le (by rw [HP.out]; exact Nat.le_refl _), List.take_of_length_le (by rw [HQ.out]; exact Nat.le_refl _)] at h2
                exact take_eq_one HE.out HXI.out HYI.out h2)
              go_wp2_with fail
              go_roundg (m - (i + 1))
              case measure => omega
              case rel => exact ⟨i + 1, by go_num, by omega, Nat.le_refl _, HT, put (KG6.out.trans KG2.out)⟩
        · have hz : ((p : Int) != (q : Int)) = true := by simp; omega
          have HT : Kp (decide (xs = ys) = false) := put (decide_eq_false (ne_at HXI.out HYI.out (fun e => hpq (by rw [HP.out, HQ.out, e]))))
          clear hpq
          go_wp2_with fail
          go_ret
          exact ⟨by rw [HT.out]; rfl, KG.out.trans HG6.out⟩
      · have hlz : ¬ (i : Int) < (m : Int) := by omega
        obtain rfl : i = m := by omega
        have HT : Kp (decide (xs = ys) = true) := put (decide_eq_true (by
          have h2 := HE.out
          rwa [List.take_of_length_le (by rw [HM.out]; exact Nat.le_refl _), List.take_of_length_le (by rw [HN.out]; exact Nat.le_refl _)] at h2))
        go_wp2_with fail
        go_ret
        exact ⟨by rw [HT.out]; rfl, KG.out⟩
  · have hz : ((m : Int) != (n : Int)) = true := by simp; omega
    have HT : Kp (decide (xs = ys) = false) := put (decide_eq_false (fun e => hmn (by rw [HM.out, HN.out, e])))
    clear hmn
    go_enter Try.func46, Try.ntmps46
    go_wp2_with fail
    go_ret
    exact ⟨by rw [HT.out]; rfl, G.refl _⟩

theorem infoKeyR : (Try.prog.info? 151).map (fun i => (i.zero, i.size, i.bytes)) = some (some (.agg #[.int .i64 0, .bool false]), tKey.sz, 16) := by kernel_rfl

set_option maxHeartbeats 8000000 in
set_option maxRecDepth 100000 in
theorem plainKeysCalls (ok : Nat → Prop) (v : Value) (xs : List Key) (w : World) (h : Sl tKey ok w v xs) (hl : xs.length ≤ 1000) :
    Calls Try.prog 50 #[v] w fun e w' => ∃ vo, e = .returned vo ∧ Own tKey 151 (fun _ => True) w' w.heap.size vo xs ∧ Below w.heap.size w w' := by
  obtain ⟨A, c, rfl, l1, l2, l3⟩ := h.shape
  have KS := put h
  have HL := put hl
  obtain ⟨m, hm⟩ : ∃ m, m = xs.length := ⟨_, rfl⟩
  rw [← hm] at l1 l3 KS hl ⊢
  have HM := put hm
  clear h hm
  go_enter Try.func50, Try.ntmps50
  go_wp2_with fail
  go_loopg [3, 8] m (fun kx s3 s8 wr => ∃ (i : Nat) (Ao : Option Addr) (co : Nat), s3 = .slice Ao i co ∧ s8 = .int .i64 i ∧ i ≤ m ∧ m - i ≤ kx ∧ Kp (Own tKey 151 (fun _ => True) wr w.heap.size (.slice Ao i co) (xs.take i)) ∧ Kp (Below w.heap.size w wr))
  case atStart => exact ⟨0, none, 0, rfl, rfl, Nat.zero_le _, Nat.le_refl _, put (Own.nil _ _ _ _ _), put (Below.refl _ _)⟩
  case round =>
    obtain ⟨i, Ao, co, rfl, rfl, hi, hkx, KO, KB⟩ := hrel
    by_cases hlt : i < m
    · have hlz : (i : Int) < (m : Int) := by omega
      have i0 : (0 : Int) ≤ (i : Int) := by omega
      obtain ⟨ad, x, rfl, hx, x0, x1⟩ := keys_get (KS.out.below KB.out).row.1 i (by rw [← HM.out]; exact hlt)
      have KX := put hx
      have HOW : Kp (∀ W, Below wr.heap.size wr W → Own tKey 151 (fun _ => True) W w.heap.size (.slice Ao i co) (xs.take i)) := ⟨fun W hb => KO.out.below hb⟩
      clear hx
      have B1 : ∀ o, Below wr.heap.size wr (wr.alloc o) := fun o => (Below.refl _ _).alloc (Nat.le_refl _) _
      go_wp2_with (at_builtin; refine wpList_push (W := wr.alloc (.cells #[.int .i64 x.col, .bool x.down] 105)) tKey w.heap.size rfl _ _ 91 151 _ 16 rfl Try.underlying91 infoKeyR rfl (by decide) (by decide) (.slice Ao i co) (xs.take i) x [.int .i64 x.col, .bool x.down] (fun _ => True) rfl (by simp; rfl) rfl (HOW.out _ (B1 _)) (by have := KB.out.size; simp; omega) (by rw [List.length_take, ← HM.out]; omega) ?_; intro v1 w7 hown hg hat; obtain ⟨A9, c9, e9, _, _⟩ := hown.form; rw [show (xs.take i ++ [x]).length = i + 1 by rw [List.length_append, List.length_take, ← HM.out, List.length_singleton]; omega] at e9; subst e9; have hb7 : Below w.heap.size w w7 := (KB.out.trans ((B1 _).mono KB.out.size)).grown hg (by have := KB.out.size; simp; omega) (fun k hk => (KO.out.lt k hk).1); have HB7 := put hb7; have HOWN := put hown; clear hown hg hat hb7)
      go_roundg (m - (i + 1))
      case measure => omega
      case rel => exact ⟨i + 1, _, _, rfl, by go_num, by omega, Nat.le_refl _, put (by rw [take_one KX.out]; exact HOWN.out), HB7⟩
    · have hlz : ¬ (i : Int) < (m : Int) := by omega
      go_wp2
      go_ret
      obtain rfl : i = m := by omega
      have hk := KO.out
      rw [List.take_of_length_le (by rw [HM.out]; exact Nat.le_refl _)] at hk
      exact ⟨_, rfl, hk, KB.out⟩
end Go.Proofs.Ytkfoknjflpklpaa.P
