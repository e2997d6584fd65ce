/- tripwireref28.together. -/
import Derived.Test.YtkfoknjflpklpaaPAlike
namespace Go.Proofs.Ytkfoknjflpklpaa.P
open Go Go.RowKit Go.Sort Go.Proofs.Ytkfoknjflpklpaa.Mem Go.Proofs.Ytkfoknjflpklpaa.Cmp Go.Proofs.Ytkfoknjflpklpaa.D
attribute [local go_sem high] eqVal

set_option maxHeartbeats 8000000 in
set_option maxRecDepth 100000 in
theorem togetherCalls (oka okb okc : Nat → Prop) (A1 A2 A3 : Option Addr) (c1 c2 c3 : Nat) (a b : List Val) (cols : List Int) (w : World) (ha : Row tVal oka w A1 a) (hb : Row tVal okb w A2 b) (hc : Row (tInt .i64) okc w A3 cols) (hin : ∀ i ∈ cols, inC a.length i = true ∧ inC b.length i = true) (hl : cols.length ≤ 1000) :
    Calls Try.prog 103 #[.slice A1 a.length c1, .slice A2 b.length c2, .slice A3 cols.length c3] w fun e w' => e = .returned (.bool (alikeV cols a b)) ∧ G w w' := by
  have KA := put ha
  have KB := put hb
  have KC := put hc
  have HIN := put hin
  obtain ⟨m, hm⟩ : ∃ m, m = cols.length := ⟨_, rfl⟩
  rw [← hm] at hl ⊢
  have HM := put hm
  clear ha hb hc hin hm
  go_enter Try.func103, Try.ntmps103
  go_wp2_with fail
  go_loopg [7] m (fun kx s7 wr => ∃ (i : Nat), s7 = .int .i64 i ∧ i ≤ m ∧ m - i ≤ kx ∧ Kp (alikeV (cols.take i) a b = true) ∧ Kp (G w wr))
  case atStart => exact ⟨0, rfl, Nat.zero_le _, Nat.le_refl _, put rfl, put (G.refl _)⟩
  case round =>
    obtain ⟨i, rfl, hi, hkx, HE, KG⟩ := hrel
    by_cases hlt : i < m
    · have hlz : (i : Int) < (m : Int) := by omega
      have i0 : (0 : Int) ≤ (i : Int) := by omega
      obtain ⟨cd, x, rfl, hx, x0⟩ := ints_get (KC.out.grown KG.out) i (by rw [← HM.out]; exact hlt)
      obtain ⟨h1, h2⟩ := HIN.out x (List.mem_of_getElem? hx)
      unfold inC at h1 h2
      simp only [Bool.and_eq_true, decide_eq_true_eq] at h1 h2
      obtain ⟨j, rfl⟩ : ∃ j : Nat, x = j := ⟨x.toNat, by omega⟩
      have ja : j < a.length := by omega
      have jb : j < b.length := by omega
      have EA : atV a j = a[j] := by unfold atV; rw [if_pos ⟨by omega, by omega⟩, Int.toNat_natCast, List.getD_eq_getElem?_getD, List.getElem?_eq_getElem ja]; rfl
      have EB : atV b j = b[j] := by unfold atV; rw [if_pos ⟨by omega, by omega⟩, Int.toNat_natCast, List.getD_eq_getElem?_getD, List.getElem?_eq_getElem jb]; rfl
      obtain ⟨ad, rfl, a0, a1, a2⟩ := vals_get (KA.out.grown KG.out) j ja
      obtain ⟨bd, rfl, b0, b1, b2⟩ := vals_get (KB.out.grown KG.out) j jb
      have HT : Kp (alikeV (cols.take (i + 1)) a b = decide (atV a j = atV b j)) := put (by
        have h9 := HE.out
        rw [take_one hx]
        unfold alikeV at h9 ⊢
        rw [List.all_append, h9]
        simp)
      have HF : Kp (alikeV cols a b = true → atV a j = atV b j) := put (fun h9 => by
        unfold alikeV at h9
        simpa using List.all_eq_true.1 h9 _ (List.mem_of_getElem? hx))
      rw [EA, EB] at HT HF
      generalize a[j] = s at *
      generalize b[j] = t at *
      have EV := put (bne_val s t)
      have j0 : (0 : Int) ≤ (j : Int) := by omega
      have jaz : (j : Int) < (a.length : Int) := by omega
      have jbz : (j : Int) < (b.length : Int) := by omega
      have C0 := put x0
      have XA := put a0
      have XB := put a1
      have XC := put a2
      have YA := put b0
      have YB := put b1
      have YC := put b2
      clear x0 a0 a1 a2 b0 b1 b2 hx h1 h2 ja jb EA EB
      go_wp2_with fail
      refine wp_region_noPanic ?_
      refine wp_region_held_drew (S := (fun w' => G wr w')) (by kernel_rfl) (G.refl _).drew (fun hHeld => ?_)
      refine wpAnyH_take (i := 0) (v := ?_) rfl (by kernel_rfl) (by kernel_rfl) (by kernel_rfl) (fun _ _ _ h => h) (Or.inl ⟨by kernel_rfl, ?_⟩) (by assumption) ?_
      rotate_left
      focus (intro w hSw; (try dsimp only at hSw); go_simp; (try with_reducible rfl); done)
      try simp only [List.getElem_toArray, List.getElem_cons_zero, Act.put, List.setIfInBounds_toArray, List.set_cons_zero, List.set_cons_succ]
      refine wpAnyH_take (i := 1) (v := ?_) rfl (by kernel_rfl) (by kernel_rfl) (by kernel_rfl) (fun _ _ _ h => h) (Or.inl ⟨by kernel_rfl, ?_⟩) (by assumption) ?_
      rotate_left
      focus (intro w hSw; (try dsimp only at hSw); go_simp; (try with_reducible rfl); done)
      try simp only [List.getElem_toArray, List.getElem_cons_succ, List.getElem_cons_zero, Act.put, List.setIfInBounds_toArray, List.set_cons_zero, List.set_cons_succ]
      refine wpAnyH_take (i := 2) (v := ?_) rfl (by kernel_rfl) (by kernel_rfl) (by kernel_rfl) (fun _ _ _ h => h) (Or.inl ⟨by kernel_rfl, ?_⟩) (by assumption) ?_
      rotate_left
      focus (intro w hSw; (try dsimp only at hSw); go_simp; (try with_reducible rfl); done)
      try simp only [List.getElem_toArray, List.getElem_cons_succ, List.getElem_cons_zero, Act.put, List.setIfInBounds_toArray, List.set_cons_zero, List.set_cons_succ]
      refine wpAnyH_take (i := 3) (v := ?_) rfl (by kernel_rfl) (by kernel_rfl) (by kernel_rfl) (fun _ _ _ h => h) (Or.inl ⟨by kernel_rfl, ?_⟩) (by assumption) ?_
      rotate_left
      focus (intro w hSw; (try dsimp only at hSw); go_simp; (try with_reducible rfl); done)
      try simp only [List.getElem_toArray, List.getElem_cons_succ, List.getElem_cons_zero, Act.put, List.setIfInBounds_toArray, List.set_cons_zero, List.set_cons_succ]
      refine wpAnyH_take (i := 4) (v := ?_) rfl (by kernel_rfl) (by kernel_rfl) (by kernel_rfl) (fun _ _ _ h => h) (Or.inl ⟨by kernel_rfl, ?_⟩) (by assumption) ?_
      rotate_left
      focus (intro w hSw; (try dsimp only at hSw); have k0 := G.cellOf hSw C0.out; have a0 := G.cellOf hSw XA.out; have a1 := G.cellOf hSw XB.out; have a2 := G.cellOf hSw XC.out; have b0 := G.cellOf hSw YA.out; have b1 := G.cellOf hSw YB.out; have b2 := G.cellOf hSw YC.out; go_simp; (try with_reducible rfl); done)
      try simp only [List.getElem_toArray, List.getElem_cons_succ, List.getElem_cons_zero, Act.put, List.setIfInBounds_toArray, List.set_cons_zero, List.set_cons_succ]
      refine wpAnyH_take (i := 5) (v := ?_) rfl (by kernel_rfl) (by kernel_rfl) (by kernel_rfl) (fun _ _ _ h => h) (Or.inl ⟨by kernel_rfl, ?_⟩) (by assumption) ?_
      rotate_left
      focus (intro w hSw; (try dsimp only at hSw); go_simp; (try with_reducible rfl); done)
      try simp only [List.getElem_toArray, List.getElem_cons_succ, List.getElem_cons_zero, Act.put, List.setIfInBounds_toArray, List.set_cons_zero, List.set_cons_succ]
      refine wpAnyH_take (i := 6) (v := ?_) rfl (by kernel_rfl) (by kernel_rfl) (by kernel_rfl) (fun _ _ _ h => h) (Or.inl ⟨by kernel_rfl, ?_⟩) (by assumption) ?_
      rotate_left
      focus (intro w hSw; (try dsimp only at hSw); have k0 := G.cellOf hSw C0.out; have a0 := G.cellOf hSw XA.out; have a1 := G.cellOf hSw XB.out; have a2 := G.cellOf hSw XC.out; have b0 := G.cellOf hSw YA.out; have b1 := G.cellOf hSw YB.out; have b2 := G.cellOf hSw YC.out; go_simp; (try with_reducible rfl); done)
      try simp only [List.getElem_toArray, List.getElem_cons_succ, List.getElem_cons_zero, Act.put, List.setIfInBounds_toArray, List.set_cons_zero, List.set_cons_succ]
      refine wpAnyH_take (i := 7) (v := ?_) rfl (by kernel_rfl) (by kernel_rfl) (by kernel_rfl) (fun _ _ _ h => h) (Or.inl ⟨by kernel_rfl, ?_⟩) (by assumption) ?_
      rotate_left
      focus (intro w hSw; (try dsimp only at hSw); go_simp; (try with_reducible rfl); done)
      try simp only [List.getElem_toArray, List.getElem_cons_succ, List.getElem_cons_zero, Act.put, List.setIfInBounds_toArray, List.set_cons_zero, List.set_cons_succ]
      refine wpAnyH_take (i := 8) (v := ?_) rfl (by kernel_rfl) (by kernel_rfl) (by kernel_rfl) (fun _ _ _ h => h) (Or.inl ⟨by kernel_rfl, ?_⟩) (by assumption) ?_
      rotate_left
      focus (intro w hSw; (try dsimp only at hSw); go_simp; (try with_reducible rfl); done)
      try simp only [List.getElem_toArray, List.getElem_cons_succ, List.getElem_cons_zero, Act.put, List.setIfInBounds_toArray, List.set_cons_zero, List.set_cons_succ]
      refine wpAnyH_take (i := 9) (v := ?_) rfl (by kernel_rfl) (by kernel_rfl) (by kernel_rfl) (fun _ _ _ h => h) (Or.inl ⟨by kernel_rfl, ?_⟩) (by assumption) ?_
      rotate_left
      focus (intro w hSw; (try dsimp only at hSw); go_simp; (try with_reducible rfl); done)
      try simp only [List.getElem_toArray, List.getElem_cons_succ, List.getElem_cons_zero, Act.put, List.setIfInBounds_toArray, List.set_cons_zero, List.set_cons_succ]
      refine wpAnyH_take (i := 10) (v := ?_) rfl (by kernel_rfl) (by kernel_rfl) (by kernel_rfl) (fun _ _ _ h => h) (Or.inl ⟨by kernel_rfl, ?_⟩) (by assumption) ?_
      rotate_left
      focus (intro w hSw; (try dsimp only at hSw); go_simp; (try with_reducible rfl); done)
      try simp only [List.getElem_toArray, List.getElem_cons_succ, List.getElem_cons_zero, Act.put, List.setIfInBounds_toArray, List.set_cons_zero, List.set_cons_succ]
      refine wpAnyH_take (i := 11) (v := ?_) rfl (by kernel_rfl) (by kernel_rfl) (by kernel_rfl) (fun _ _ _ h => h) (Or.inl ⟨by kernel_rfl, ?_⟩) (by assumption) ?_
      rotate_left
      focus (intro w hSw; (try dsimp only at hSw); have k0 := G.cellOf hSw C0.out; have a0 := G.cellOf hSw XA.out; have a1 := G.cellOf hSw XB.out; have a2 := G.cellOf hSw XC.out; have b0 := G.cellOf hSw YA.out; have b1 := G.cellOf hSw YB.out; have b2 := G.cellOf hSw YC.out; go_simp; (try with_reducible rfl); done)
      try simp only [List.getElem_toArray, List.getElem_cons_succ, List.getElem_cons_zero, Act.put, List.setIfInBounds_toArray, List.set_cons_zero, List.set_cons_succ]
      refine wpAnyH_take (i := 12) (v := ?_) rfl (by kernel_rfl) (by kernel_rfl) (by kernel_rfl) (fun _ _ _ h => h) (Or.inl ⟨by kernel_rfl, ?_⟩) (by assumption) ?_
      rotate_left
      focus (intro w hSw; (try dsimp only at hSw); go_simp; (try with_reducible rfl); done)
      try simp only [List.getElem_toArray, List.getElem_cons_succ, List.getElem_cons_zero, Act.put, List.setIfInBounds_toArray, List.set_cons_zero, List.set_cons_succ]
      refine wpAnyH_take (i := 13) (v := ?_) rfl (by kernel_rfl) (by kernel_rfl) (by kernel_rfl) (fun _ _ _ h => h) (Or.inl ⟨by kernel_rfl, ?_⟩) (by assumption) ?_
      rotate_left
      focus (intro w hSw; (try dsimp only at hSw); have k0 := G.cellOf hSw C0.out; have a0 := G.cellOf hSw XA.out; have a1 := G.cellOf hSw XB.out; have a2 := G.cellOf hSw XC.out; have b0 := G.cellOf hSw YA.out; have b1 := G.cellOf hSw YB.out; have b2 := G.cellOf hSw YC.out; go_simp; (try with_reducible rfl); done)
      try simp only [List.getElem_toArray, List.getElem_cons_succ, List.getElem_cons_zero, Act.put, List.setIfInBounds_toArray, List.set_cons_zero, List.set_cons_succ]
      refine wpAnyH_take (i := 14) (v := ?_) rfl (by kernel_rfl) (by kernel_rfl) (by kernel_rfl) (fun _ _ _ h => h) (Or.inl ⟨by kernel_rfl, ?_⟩) (by assumption) ?_
      rotate_left
      focus (intro w hSw; (try dsimp only at hSw); go_simp; (try with_reducible rfl); done)
      try simp only [List.getElem_toArray, List.getElem_cons_succ, List.getElem_cons_zero, Act.put, List.setIfInBounds_toArray, List.set_cons_zero, List.set_cons_succ]
      refine wpAnyH_done (by kernel_rfl) ?_ _
      refine NoPanic.normal ?_
      have HG7 := put hHeld
      clear hHeld
      rw [EV.out]
      by_cases hst : s = t
      · have hz : decide (s = t) = true := decide_eq_true hst
        have HT2 : Kp (alikeV (cols.take (i + 1)) a b = true) := put (by rw [HT.out, hz])
        rw [hz]
        clear hst hz EV
        go_wp2_with fail
        go_roundg (m - (i + 1))
        case measure => omega
        case rel => exact ⟨i + 1, by go_num, by omega, Nat.le_refl _, HT2, put (KG.out.trans HG7.out)⟩
      · have hz : decide (s = t) = false := decide_eq_false hst
        have HT2 : Kp (alikeV cols a b = false) := put (by
          cases h9 : alikeV cols a b with
          | false => rfl
          | true => exact absurd (HF.out h9) hst)
        rw [hz]
        clear hst hz EV
        go_wp2_with fail
        go_ret
        exact ⟨by rw [HT2.out]; rfl, KG.out.trans HG7.out⟩
    · have hlz : ¬ (i : Int) < (m : Int) := by omega
      obtain rfl : i = m := by omega
      have HT : Kp (alikeV cols a b = true) := put (by
        have h9 := HE.out
        rwa [List.take_of_length_le (by rw [HM.out]; exact Nat.le_refl _)] at h9)
      go_wp2_with fail
      go_ret
      exact ⟨by rw [HT.out]; rfl, KG.out⟩
end Go.Proofs.Ytkfoknjflpklpaa.P
