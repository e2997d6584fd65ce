/- The document's rising list: Insert. -/
import Derived.Test.YtcpahknlabnnbaaTG8

namespace Go.Proofs.Ytcpahknlabnnbaa.T
open Go Go.RowKit Go.Sort Go.Proofs.Ytcpahknlabnnbaa.Mem

set_option maxHeartbeats 16000000 in
set_option maxRecDepth 100000 in
theorem setInsert {D : Nat → Prop} (S : Nat) (l : List ByteArray) (s : ByteArray) (w : World) (h : SetR D S w l) (hl : l.length ≤ 1000000) (hz : s.size ≤ 1000000) :
    Calls Try.prog 29 #[.pointer (some ⟨S, 0, none⟩), .string s] w fun e w' => (s.size < 1 ∨ 400 < s.size) ∧ e = .returned (.int .i64 15) ∧ Below w.heap.size w w' ∨ ((1 ≤ s.size ∧ s.size ≤ 400) ∧ hasB s l = true ∧ e = .returned (.int .i64 3) ∧ Below w.heap.size w w') ∨ ((1 ≤ s.size ∧ s.size ≤ 400) ∧ hasB s l = false ∧ SetP S w (putE l s) 0 e w') := by
  obtain ⟨v, hS, hrd⟩ := h.out
  have AC := put (atCalls D S v l s w hS hrd h.r hl)
  obtain ⟨A, c, rfl, hmc, hcc, _⟩ := hrd.shape
  have HS := put hS
  have HRD := put hrd
  have HR := put h.r
  have HPL := put (posS_spec s h.r).1
  obtain ⟨m, hm⟩ : ∃ m, m = l.length := ⟨_, rfl⟩
  rw [← hm] at hl hmc HS HRD
  have HM := put hm
  clear hS hrd h hm
  go_enter Try.func29, Try.ntmps29
  by_cases hz1 : (s.size : Int) < 1
  · go_wp2_with fail
    go_ret
    exact .inl ⟨.inl (by omega), rfl, Below.refl _ _⟩
  by_cases hz2 : (400 : Int) < s.size
  · go_wp2_with fail
    go_ret
    exact .inl ⟨.inr (by omega), rfl, Below.refl _ _⟩
  go_wp2_with fail
  refine AC.out.mono ?_
  rintro e wk ⟨rfl, hbk⟩
  have BK := put hbk
  obtain ⟨bb, hbb⟩ : ∃ bb, bb = hasB s l := ⟨_, rfl⟩
  rw [← hbb]
  have HBB := put hbb
  clear hbb
  cases bb with
  | true =>
    go_wp2_with fail
    go_ret
    exact .inr (.inl ⟨by omega, HBB.out.symm, rfl, BK.out⟩)
  | false =>
    obtain ⟨q, hq⟩ : ∃ q, q = posS l s := ⟨_, rfl⟩
    rw [← hq] at HPL ⊢
    have HQ := put hq
    have hqm : q ≤ m := by have := HPL.out; have := HM.out; omega
    have hSh := (hbk.block S (Array.getElem?_eq_some_iff.1 HS.out).1).trans HS.out
    have hSl := (Array.getElem?_eq_some_iff.1 hSh).1
    have x0 : wk.cell? ⟨S, 0, none⟩ = some (.slice A m c) := by simp [World.cell?, hSh]
    have OS : Sl tStr (fun k => k < wk.heap.size) wk (.slice A m c) l := rd_sl strD rfl ((HRD.out.below hbk).bnd.mono fun k hk => hk.2) (by have := HM.out; omega)
    have FIN : Kp (∀ (V : Option Addr) (n3 c3 : Nat) (w9 : World), Own tStr 9 (fun _ => True) w9 wk.heap.size (.slice V n3 c3) (l.take q ++ [s] ++ l.drop q) → Below wk.heap.size wk w9 → SetP S w (putE l s) 0 (.returned (.int .i64 0)) (w9.setCell ⟨S, 0, none⟩ (.slice V n3 c3))) := put fun V n3 c3 w9 ho hb => by
      have he : l.take q ++ [s] ++ l.drop q = putE l s := by unfold putE; rw [← HQ.out]; simp
      rw [he] at ho
      obtain ⟨g1, g2, g3⟩ := own_set hb hSh ho
      have hbs := BK.out.size
      refine ⟨rfl, ⟨.inl rfl, ⟨_, g1, g2.mono fun k hk => ?_⟩, putE_rise HR.out (hasB_false.1 HBB.out.symm)⟩, (below_kps BK.out _).trans g3⟩
      rcases hk with hk | hk
      · exact .inl hk
      · exact .inr ⟨by omega, hk.2⟩
    clear hbk hq
    have hdd : q ≤ m := by omega
    have OT : Kp (∀ W, Below wk.heap.size wk W → Sl tStr (fun k => k < wk.heap.size) W (.slice A q c) (l.take q)) := put (fun W hb => (OS.take (n := q) (by omega)).below hb)
    have OD : Sl tStr (fun k => k < wk.heap.size) wk (.slice (if c = q then A else A.map (fun x => x.add (q))) (m - q) (c - q)) (l.drop q) := by
      have h1 := OS.drop (n := q) hdd
      rwa [show q * tStr.sz = q from Nat.mul_one _] at h1
    have q0 : (0 : Int) ≤ (q : Int) := by omega
    have q1 : (q : Int) ≤ (m : Int) := by omega
    have q2 : (q : Int) ≤ (c : Int) := by omega
    have htl : Kp ((l.take q).length = q) := put (by rw [List.length_take]; have := HM.out; omega)
    have hdl : Kp ((l.drop q).length = m - q) := put (by rw [List.length_drop, ← HM.out])
    have LN1 : Kp (([] : List ByteArray).length + (l.take q).length ≤ 3000000) := put (by rw [htl.out]; simp only [List.length_nil]; omega)
    have htl1 : Kp (([] ++ l.take q).length = q) := put (by rw [List.nil_append]; exact htl.out)
    have htl2 : Kp ((l.take q ++ [s]).length = q + 1) := put (by rw [List.length_append, htl.out]; rfl)
    have LN2 : Kp ((l.take q).length + [s].length ≤ 3000000) := put (by rw [htl.out]; simp only [List.length_singleton]; omega)
    have LN3 : Kp ((l.take q ++ [s]).length + (l.drop q).length ≤ 3000000) := put (by rw [List.length_append, htl.out, hdl.out]; simp only [List.length_singleton]; omega)
    clear OS
    have ODD := put OD
    clear OD
    go_wp2_with fail
    refine wp_region_noPanic ?_
    refine wp_region_held_drew (S := (fun _ => True)) (by kernel_rfl) trivial (fun hHeld => ?_)
    refine wpAnyH_take (i := 0) (v := ?_) rfl (by kernel_rfl) (by kernel_rfl) (by kernel_rfl) (fun _ _ _ h => h) (Or.inl ⟨by kernel_rfl, ?_⟩) (by assumption) ?_
    rotate_left
    focus (intro w hSw; (try dsimp only at hSw); go_simp; (try with_reducible rfl); done)
    refine wpAnyH_take (i := 2) (v := ?_) rfl (by kernel_rfl) (by kernel_rfl) (by kernel_rfl) (fun _ _ _ h => h) (Or.inl ⟨by kernel_rfl, ?_⟩) (by assumption) ?_
    rotate_left
    focus (intro w hSw; (try dsimp only at hSw); go_simp; (try with_reducible rfl); done)
    refine wpAnyH_take (i := 3) (v := ?_) rfl (by kernel_rfl) (by kernel_rfl) (by kernel_rfl) (fun _ _ _ h => h) (Or.inl ⟨by kernel_rfl, ?_⟩) (by assumption) ?_
    rotate_left
    focus (intro w hSw; (try dsimp only at hSw); go_simp; (try with_reducible rfl); done)
    refine wpAnyH_take (i := 4) (v := ?_) rfl (by kernel_rfl) (by kernel_rfl) (by kernel_rfl) (fun _ _ _ h => h) (Or.inl ⟨by kernel_rfl, ?_⟩) (by assumption) ?_
    rotate_left
    focus (intro w hSw; (try dsimp only at hSw); go_simp; (try with_reducible rfl); done)
    refine wpAnyH_take (i := 6) (v := ?_) rfl (by kernel_rfl) (by kernel_rfl) (by kernel_rfl) (fun _ _ _ h => h) (Or.inl ⟨by kernel_rfl, ?_⟩) (by assumption) ?_
    rotate_left
    focus (intro w hSw; (try dsimp only at hSw); go_simp; (try with_reducible rfl); done)
    refine wpAnyH_take (i := 9) (v := ?_) rfl (by kernel_rfl) (by kernel_rfl) (by kernel_rfl) (fun _ _ _ h => h) (Or.inl ⟨by kernel_rfl, ?_⟩) (by assumption) ?_
    rotate_left
    focus (intro w hSw; (try dsimp only at hSw); go_simp; (try with_reducible rfl); done)
    refine wpAnyH_take (i := 12) (v := ?_) rfl (by kernel_rfl) (by kernel_rfl) (by kernel_rfl) (fun _ _ _ h => h) (Or.inl ⟨by kernel_rfl, ?_⟩) (by assumption) ?_
    rotate_left
    focus (intro w hSw; (try dsimp only at hSw); go_simp; (try with_reducible rfl); done)
    refine wpAnyH_take (i := 13) (v := ?_) rfl (by kernel_rfl) (by kernel_rfl) (by kernel_rfl) (fun _ _ _ h => h) (Or.inl ⟨by kernel_rfl, ?_⟩) (by assumption) ?_
    rotate_left
    focus (intro w hSw; (try dsimp only at hSw); go_simp; (try with_reducible rfl); done)
    refine wpAnyH_take (i := 14) (v := ?_) rfl (by kernel_rfl) (by kernel_rfl) (by kernel_rfl) (fun _ _ _ h => h) (Or.inl ⟨by kernel_rfl, ?_⟩) (by assumption) ?_
    rotate_left
    focus (intro w hSw; (try dsimp only at hSw); go_simp; (try with_reducible rfl); done)
    refine wpAnyH_take (i := 16) (v := ?_) rfl (by kernel_rfl) (by kernel_rfl) (by kernel_rfl) (fun _ _ _ h => h) (Or.inl ⟨by kernel_rfl, ?_⟩) (by assumption) ?_
    rotate_left
    focus (intro w hSw; (try dsimp only at hSw); go_simp; (try with_reducible rfl); done)
    try simp only [List.getElem_toArray, List.getElem_cons_succ, List.getElem_cons_zero, Act.put, List.setIfInBounds_toArray, List.set_cons_zero, List.set_cons_succ]
    refine wpAnyH_ready (rs := [1, 5, 10, 15]) (by kernel_rfl) (by simp) ?_
    refine AllReadyH.cons rfl (fun JJ hJJ => ?_) ?_
    · go_simp
      refine hJJ.out _ _ trivial (fun hHeld => ?_)
      clear hJJ JJ
      try simp only [List.getElem_toArray, List.getElem_cons_succ, List.getElem_cons_zero, Act.put, List.setIfInBounds_toArray, List.set_cons_zero, List.set_cons_succ]
      refine wpAnyH_ready (rs := [5, 10, 15]) (by kernel_rfl) (by simp) ?_
      refine AllReadyH.cons rfl (fun JJ hJJ => ?_) ?_
      · go_simp
        refine hJJ.out _ _ trivial (fun hHeld => ?_)
        clear hJJ JJ
        refine wpAnyH_take (i := 7) (v := ?_) rfl (by kernel_rfl) (by kernel_rfl) (by kernel_rfl) (fun _ _ _ h => h) (Or.inl ⟨by kernel_rfl, ?_⟩) (by assumption) ?_
        rotate_left
        focus (intro w hSw; (try dsimp only at hSw); go_simp; (try with_reducible rfl); done)
        try simp only [List.getElem_toArray, List.getElem_cons_succ, List.getElem_cons_zero, Act.put, List.setIfInBounds_toArray, List.set_cons_zero, List.set_cons_succ]
        refine wpAnyH_ready (rs := [8, 10, 15]) (by kernel_rfl) (by simp) ?_
        refine AllReadyH.cons rfl (fun JJ hJJ => ?_) ?_
        · (refine pushS rfl _ _ rfl (.slice (some ⟨_, 0, none⟩) 0 0) (.slice A q c) [] (l.take q) (fun k => k < wk.heap.size) rfl rfl (OT.out _ (by (repeat (first | with_reducible exact (Below.refl _ _) | with_reducible apply Below.drew | with_reducible refine balloc ?_ _)))) (fun k hk => ne_new hk (by (first | exact Nat.le_refl _ | exact Nat.le_succ _))) (Own.lit' _ (by (simp only [heap_alloc_get, heap_drew_get] <;> simp <;> done)) (by (first | exact Nat.le_refl _ | exact Nat.le_succ _))) (by (repeat (first | with_reducible exact (Below.refl _ _) | with_reducible apply Below.drew | with_reducible refine balloc ?_ _))) LN1.out ?_; intro V1 n1 c1 w7 e1 ho1 hb7 hg1 hat1; rw [htl1.out] at e1; subst n1; have g0 := (hb7.cell hSl).trans x0; have hS7 := Nat.lt_of_lt_of_le hSl hb7.size; have OW1 := put ho1; have HB7 := put hb7; have HG1 := put hg1; have HAT1 := put hat1; clear ho1 hg1 hat1 hb7)
          refine hJJ.out _ _ trivial (fun hHeld => ?_)
          clear hJJ JJ
          try simp only [List.getElem_toArray, List.getElem_cons_succ, List.getElem_cons_zero, Act.put, List.setIfInBounds_toArray, List.set_cons_zero, List.set_cons_succ]
          refine wpAnyH_ready (rs := [10, 15]) (by kernel_rfl) (by simp) ?_
          refine AllReadyH.cons rfl (fun JJ hJJ => ?_) ?_
          · go_simp
            refine hJJ.out _ _ trivial (fun hHeld => ?_)
            clear hJJ JJ
            try simp only [List.getElem_toArray, List.getElem_cons_succ, List.getElem_cons_zero, Act.put, List.setIfInBounds_toArray, List.set_cons_zero, List.set_cons_succ]
            refine wpAnyH_ready (rs := [11, 15]) (by kernel_rfl) (by simp) ?_
            refine AllReadyH.cons rfl (fun JJ hJJ => ?_) ?_
            · (refine pushS rfl _ _ rfl (.slice V1 q c1) (.slice (some ⟨_, 0, none⟩) 1 1) (l.take q) [s] (fun k => some k ≠ (Value.slice V1 q c1).ownBlock) rfl rfl (lit_sl (E := 9) (cs := [.string s]) (by first | (simp only [heap_alloc_get] <;> simp <;> done) | (refine Eq.trans (HG1.out.block _ ?_ (ne_lit (by simp))) ?_; rotate_left; (simp only [heap_alloc_get, heap_drew_get] <;> simp <;> done); (simp <;> omega))) rfl (by first | exact ne_fresh OW1.out | exact ne_grown HAT1.out (ne_lit (by simp)) (by simp <;> omega))) (fun k hk => hk) (OW1.out.below (by (repeat (first | with_reducible exact (Below.refl _ _) | with_reducible apply Below.drew | with_reducible refine balloc ?_ _)))) (by (repeat (first | with_reducible exact (Below.refl _ _) | with_reducible exact HB7.out | with_reducible apply Below.drew | with_reducible refine balloc ?_ _))) LN2.out ?_; intro V2 n2 c2 w8 e2 ho2 hb8 hg2 hat2; rw [htl2.out] at e2; subst n2; have h0 := (hb8.cell hSl).trans x0; have hS8 := Nat.lt_of_lt_of_le hSl hb8.size; have OW2 := put ho2; have HB8 := put hb8; clear ho2 hg2 hat2 hb8)
              refine hJJ.out _ _ trivial (fun hHeld => ?_)
              clear hJJ JJ
              try simp only [List.getElem_toArray, List.getElem_cons_succ, List.getElem_cons_zero, Act.put, List.setIfInBounds_toArray, List.set_cons_zero, List.set_cons_succ]
              refine wpAnyH_ready (rs := [15]) (by kernel_rfl) (by simp) ?_
              refine AllReadyH.cons rfl (fun JJ hJJ => ?_) AllReadyH.nil
              go_simp
              refine hJJ.out _ _ trivial (fun hHeld => ?_)
              clear hJJ JJ
              refine wpAnyH_take (i := 17) (v := ?_) rfl (by kernel_rfl) (by kernel_rfl) (by kernel_rfl) (fun _ _ _ h => h) (Or.inl ⟨by kernel_rfl, ?_⟩) (by assumption) ?_
              rotate_left
              focus (intro w hSw; (try dsimp only at hSw); go_simp; (try with_reducible rfl); done)
              try simp only [List.getElem_toArray, List.getElem_cons_succ, List.getElem_cons_zero, Act.put, List.setIfInBounds_toArray, List.set_cons_zero, List.set_cons_succ]
              refine wpAnyH_ready (rs := [18]) (by kernel_rfl) (by simp) ?_
              refine AllReadyH.cons rfl (fun JJ hJJ => ?_) AllReadyH.nil
              (refine pushS rfl _ _ rfl (.slice V2 (q + 1) c2) (.slice (if c = q then A else A.map (fun x => x.add (q))) (m - q) (c - q)) (l.take q ++ [s]) (l.drop q) (fun k => k < wk.heap.size) rfl rfl (ODD.out.below (by (repeat (first | with_reducible exact (Below.refl _ _) | with_reducible exact HB8.out | with_reducible apply Below.drew | with_reducible refine balloc ?_ _)))) (fun k hk => ne_own OW2.out hk) (OW2.out.below (by (repeat (first | with_reducible exact (Below.refl _ _) | with_reducible apply Below.drew | with_reducible refine balloc ?_ _)))) (by (repeat (first | with_reducible exact (Below.refl _ _) | with_reducible exact HB8.out | with_reducible apply Below.drew | with_reducible refine balloc ?_ _))) LN3.out ?_; intro V3 l3 c3' w9 e3 ho3 hb9 hg3 hat3; have z0 := (hb9.cell hSl).trans x0; have f0 := frz hb9 hSh; have OW3 := put ho3; have HB9 := put hb9; clear ho3 hg3 hat3 hb9 e3)
              refine hJJ.out _ _ trivial (fun hHeld => ?_)
              clear hJJ JJ
              refine wpAnyH_take (i := 19) (v := ?_) rfl (by kernel_rfl) (by kernel_rfl) (by kernel_rfl) (fun _ _ _ h => h) (Or.inl ⟨by kernel_rfl, ?_⟩) (by assumption) ?_
              rotate_left
              focus (intro w hSw; (try dsimp only at hSw); go_simp; (try with_reducible rfl); done)
              refine wpAnyH_take (i := 20) (v := ?_) rfl (by kernel_rfl) (by kernel_rfl) (by kernel_rfl) (fun _ _ _ h => h) (Or.inl ⟨by kernel_rfl, ?_⟩) (by assumption) ?_
              rotate_left
              focus (intro w hSw; (try dsimp only at hSw); go_simp; (try with_reducible rfl); done)
              try simp only [List.getElem_toArray, List.getElem_cons_succ, List.getElem_cons_zero, Act.put, List.setIfInBounds_toArray, List.set_cons_zero, List.set_cons_succ]
              refine wpAnyH_ready (rs := [21]) (by kernel_rfl) (by simp) ?_
              refine AllReadyH.cons rfl (fun JJ hJJ => ?_) AllReadyH.nil
              go_simp
              refine hJJ.out _ _ trivial (fun hHeld => ?_)
              clear hJJ JJ
              try simp only [List.getElem_toArray, List.getElem_cons_succ, List.getElem_cons_zero, Act.put, List.setIfInBounds_toArray, List.set_cons_zero, List.set_cons_succ]
              refine wpAnyH_done (by kernel_rfl) ?_ _
              refine NoPanic.normal ?_
              go_wp2_with fail
              all_goals (go_ret; exact .inr (.inr ⟨by omega, HBB.out.symm, FIN.out _ _ _ _ OW3.out HB9.out⟩))
            refine AllReadyH.cons rfl (fun JJ hJJ => ?_) AllReadyH.nil
            go_simp
            refine hJJ.out _ _ trivial (fun hHeld => ?_)
            clear hJJ JJ
            refine wpAnyH_take (i := 17) (v := ?_) rfl (by kernel_rfl) (by kernel_rfl) (by kernel_rfl) (fun _ _ _ h => h) (Or.inl ⟨by kernel_rfl, ?_⟩) (by assumption) ?_
            rotate_left
            focus (intro w hSw; (try dsimp only at hSw); go_simp; (try with_reducible rfl); done)
            try simp only [List.getElem_toArray, List.getElem_cons_succ, List.getElem_cons_zero, Act.put, List.setIfInBounds_toArray, List.set_cons_zero, List.set_cons_succ]
            refine wpAnyH_ready (rs := [11]) (by kernel_rfl) (by simp) ?_
            refine AllReadyH.cons rfl (fun JJ hJJ => ?_) AllReadyH.nil
            (refine pushS rfl _ _ rfl (.slice V1 q c1) (.slice (some ⟨_, 0, none⟩) 1 1) (l.take q) [s] (fun k => some k ≠ (Value.slice V1 q c1).ownBlock) rfl rfl (lit_sl (E := 9) (cs := [.string s]) (by first | (simp only [heap_alloc_get] <;> simp <;> done) | (refine Eq.trans (HG1.out.block _ ?_ (ne_lit (by simp))) ?_; rotate_left; (simp only [heap_alloc_get, heap_drew_get] <;> simp <;> done); (simp <;> omega))) rfl (by first | exact ne_fresh OW1.out | exact ne_grown HAT1.out (ne_lit (by simp)) (by simp <;> omega))) (fun k hk => hk) (OW1.out.below (by (repeat (first | with_reducible exact (Below.refl _ _) | with_reducible apply Below.drew | with_reducible refine balloc ?_ _)))) (by (repeat (first | with_reducible exact (Below.refl _ _) | with_reducible exact HB7.out | with_reducible apply Below.drew | with_reducible refine balloc ?_ _))) LN2.out ?_; intro V2 n2 c2 w8 e2 ho2 hb8 hg2 hat2; rw [htl2.out] at e2; subst n2; have h0 := (hb8.cell hSl).trans x0; have hS8 := Nat.lt_of_lt_of_le hSl hb8.size; have OW2 := put ho2; have HB8 := put hb8; clear ho2 hg2 hat2 hb8)
            refine hJJ.out _ _ trivial (fun hHeld => ?_)
            clear hJJ JJ
            try simp only [List.getElem_toArray, List.getElem_cons_succ, List.getElem_cons_zero, Act.put, List.setIfInBounds_toArray, List.set_cons_zero, List.set_cons_succ]
            refine wpAnyH_ready (rs := [18]) (by kernel_rfl) (by simp) ?_
            refine AllReadyH.cons rfl (fun JJ hJJ => ?_) AllReadyH.nil
            (refine pushS rfl _ _ rfl (.slice V2 (q + 1) c2) (.slice (if c = q then A else A.map (fun x => x.add (q))) (m - q) (c - q)) (l.take q ++ [s]) (l.drop q) (fun k => k < wk.heap.size) rfl rfl (ODD.out.below (by (repeat (first | with_reducible exact (Below.refl _ _) | with_reducible exact HB8.out | with_reducible apply Below.drew | with_reducible refine balloc ?_ _)))) (fun k hk => ne_own OW2.out hk) (OW2.out.below (by (repeat (first | with_reducible exact (Below.refl _ _) | with_reducible apply Below.drew | with_reducible refine balloc ?_ _)))) (by (repeat (first | with_reducible exact (Below.refl _ _) | with_reducible exact HB8.out | with_reducible apply Below.drew | with_reducible refine balloc ?_ _))) LN3.out ?_; intro V3 l3 c3' w9 e3 ho3 hb9 hg3 hat3; have z0 := (hb9.cell hSl).trans x0; have f0 := frz hb9 hSh; have OW3 := put ho3; have HB9 := put hb9; clear ho3 hg3 hat3 hb9 e3)
            refine hJJ.out _ _ trivial (fun hHeld => ?_)
            clear hJJ JJ
            refine wpAnyH_take (i := 19) (v := ?_) rfl (by kernel_rfl) (by kernel_rfl) (by kernel_rfl) (fun _ _ _ h => h) (Or.inl ⟨by kernel_rfl, ?_⟩) (by assumption) ?_
            rotate_left
            focus (intro w hSw; (try dsimp only at hSw); go_simp; (try with_reducible rfl); done)
            refine wpAnyH_take (i := 20) (v := ?_) rfl (by kernel_rfl) (by kernel_rfl) (by kernel_rfl) (fun _ _ _ h => h) (Or.inl ⟨by kernel_rfl, ?_⟩) (by assumption) ?_
            rotate_left
            focus (intro w hSw; (try dsimp only at hSw); go_simp; (try with_reducible rfl); done)
            try simp only [List.getElem_toArray, List.getElem_cons_succ, List.getElem_cons_zero, Act.put, List.setIfInBounds_toArray, List.set_cons_zero, List.set_cons_succ]
            refine wpAnyH_ready (rs := [21]) (by kernel_rfl) (by simp) ?_
            refine AllReadyH.cons rfl (fun JJ hJJ => ?_) AllReadyH.nil
            go_simp
            refine hJJ.out _ _ trivial (fun hHeld => ?_)
            clear hJJ JJ
            try simp only [List.getElem_toArray, List.getElem_cons_succ, List.getElem_cons_zero, Act.put, List.setIfInBounds_toArray, List.set_cons_zero, List.set_cons_succ]
            refine wpAnyH_done (by kernel_rfl) ?_ _
            refine NoPanic.normal ?_
            go_wp2_with fail
            all_goals (go_ret; exact .inr (.inr ⟨by omega, HBB.out.symm, FIN.out _ _ _ _ OW3.out HB9.out⟩))
          refine AllReadyH.cons rfl (fun JJ hJJ => ?_) AllReadyH.nil
          go_simp
          refine hJJ.out _ _ trivial (fun hHeld => ?_)
          clear hJJ JJ
          refine wpAnyH_take (i := 17) (v := ?_) rfl (by kernel_rfl) (by kernel_rfl) (by kernel_rfl) (fun _ _ _ h => h) (Or.inl ⟨by kernel_rfl, ?_⟩) (by assumption) ?_
          rotate_left
          focus (intro w hSw; (try dsimp only at hSw); go_simp; (try with_reducible rfl); done)
          try simp only [List.getElem_toArray, List.getElem_cons_succ, List.getElem_cons_zero, Act.put, List.setIfInBounds_toArray, List.set_cons_zero, List.set_cons_succ]
          refine wpAnyH_ready (rs := [10]) (by kernel_rfl) (by simp) ?_
          refine AllReadyH.cons rfl (fun JJ hJJ => ?_) AllReadyH.nil
          go_simp
          refine hJJ.out _ _ trivial (fun hHeld => ?_)
          clear hJJ JJ
          try simp only [List.getElem_toArray, List.getElem_cons_succ, List.getElem_cons_zero, Act.put, List.setIfInBounds_toArray, List.set_cons_zero, List.set_cons_succ]
          refine wpAnyH_ready (rs := [11]) (by kernel_rfl) (by simp) ?_
          refine AllReadyH.cons rfl (fun JJ hJJ => ?_) AllReadyH.nil
          (refine pushS rfl _ _ rfl (.slice V1 q c1) (.slice (some ⟨_, 0, none⟩) 1 1) (l.take q) [s] (fun k => some k ≠ (Value.slice V1 q c1).ownBlock) rfl rfl (lit_sl (E := 9) (cs := [.string s]) (by first | (simp only [heap_alloc_get] <;> simp <;> done) | (refine Eq.trans (HG1.out.block _ ?_ (ne_lit (by simp))) ?_; rotate_left; (simp only [heap_alloc_get, heap_drew_get] <;> simp <;> done); (simp <;> omega))) rfl (by first | exact ne_fresh OW1.out | exact ne_grown HAT1.out (ne_lit (by simp)) (by simp <;> omega))) (fun k hk => hk) (OW1.out.below (by (repeat (first | with_reducible exact (Below.refl _ _) | with_reducible apply Below.drew | with_reducible refine balloc ?_ _)))) (by (repeat (first | with_reducible exact (Below.refl _ _) | with_reducible exact HB7.out | with_reducible apply Below.drew | with_reducible refine balloc ?_ _))) LN2.out ?_; intro V2 n2 c2 w8 e2 ho2 hb8 hg2 hat2; rw [htl2.out] at e2; subst n2; have h0 := (hb8.cell hSl).trans x0; have hS8 := Nat.lt_of_lt_of_le hSl hb8.size; have OW2 := put ho2; have HB8 := put hb8; clear ho2 hg2 hat2 hb8)
          refine hJJ.out _ _ trivial (fun hHeld => ?_)
          clear hJJ JJ
          try simp only [List.getElem_toArray, List.getElem_cons_succ, List.getElem_cons_zero, Act.put, List.setIfInBounds_toArray, List.set_cons_zero, List.set_cons_succ]
          refine wpAnyH_ready (rs := [18]) (by kernel_rfl) (by simp) ?_
          refine AllReadyH.cons rfl (fun JJ hJJ => ?_) AllReadyH.nil
          (refine pushS rfl _ _ rfl (.slice V2 (q + 1) c2) (.slice (if c = q then A else A.map (fun x => x.add (q))) (m - q) (c - q)) (l.take q ++ [s]) (l.drop q) (fun k => k < wk.heap.size) rfl rfl (ODD.out.below (by (repeat (first | with_reducible exact (Below.refl _ _) | with_reducible exact HB8.out | with_reducible apply Below.drew | with_reducible refine balloc ?_ _)))) (fun k hk => ne_own OW2.out hk) (OW2.out.below (by (repeat (first | with_reducible exact (Below.refl _ _) | with_reducible apply Below.drew | with_reducible refine balloc ?_ _)))) (by (repeat (first | with_reducible exact (Below.refl _ _) | with_reducible exact HB8.out | with_reducible apply Below.drew | with_reducible refine balloc ?_ _))) LN3.out ?_; intro V3 l3 c3' w9 e3 ho3 hb9 hg3 hat3; have z0 := (hb9.cell hSl).trans x0; have f0 := frz hb9 hSh; have OW3 := put ho3; have HB9 := put hb9; clear ho3 hg3 hat3 hb9 e3)
          refine hJJ.out _ _ trivial (fun hHeld => ?_)
          clear hJJ JJ
          refine wpAnyH_take (i := 19) (v := ?_) rfl (by kernel_rfl) (by kernel_rfl) (by kernel_rfl) (fun _ _ _ h => h) (Or.inl ⟨by kernel_rfl, ?_⟩) (by assumption) ?_
          rotate_left
          focus (intro w hSw; (try dsimp only at hSw); go_simp; (try with_reducible rfl); done)
          refine wpAnyH_take (i := 20) (v := ?_) rfl (by kernel_rfl) (by kernel_rfl) (by kernel_rfl) (fun _ _ _ h => h) (Or.inl ⟨by kernel_rfl, ?_⟩) (by assumption) ?_
          rotate_left
          focus (intro w hSw; (try dsimp only at hSw); go_simp; (try with_reducible rfl); done)
          try simp only [List.getElem_toArray, List.getElem_cons_succ, List.getElem_cons_zero, Act.put, List.setIfInBounds_toArray, List.set_cons_zero, List.set_cons_succ]
          refine wpAnyH_ready (rs := [21]) (by kernel_rfl) (by simp) ?_
          refine AllReadyH.cons rfl (fun JJ hJJ => ?_) AllReadyH.nil
          go_simp
          refine hJJ.out _ _ trivial (fun hHeld => ?_)
          clear hJJ JJ
          try simp only [List.getElem_toArray, List.getElem_cons_succ, List.getElem_cons_zero, Act.put, List.setIfInBounds_toArray, List.set_cons_zero, List.set_cons_succ]
          refine wpAnyH_done (by kernel_rfl) ?_ _
          refine NoPanic.normal ?_
          go_wp2_with fail
          all_goals (go_ret; exact .inr (.inr ⟨by omega, HBB.out.symm, FIN.out _ _ _ _ OW3.out HB9.out⟩))
        refine AllReadyH.cons rfl (fun JJ hJJ => ?_) ?_
        · go_simp
          refine hJJ.out _ _ trivial (fun hHeld => ?_)
          clear hJJ JJ
          try simp only [List.getElem_toArray, List.getElem_cons_succ, List.getElem_cons_zero, Act.put, List.setIfInBounds_toArray, List.set_cons_zero, List.set_cons_succ]
          refine wpAnyH_ready (rs := [8, 15]) (by kernel_rfl) (by simp) ?_
          refine AllReadyH.cons rfl (fun JJ hJJ => ?_) ?_
          · (refine pushS rfl _ _ rfl (.slice (some ⟨_, 0, none⟩) 0 0) (.slice A q c) [] (l.take q) (fun k => k < wk.heap.size) rfl rfl (OT.out _ (by (repeat (first | with_reducible exact (Below.refl _ _) | with_reducible apply Below.drew | with_reducible refine balloc ?_ _)))) (fun k hk => ne_new hk (by (first | exact Nat.le_refl _ | exact Nat.le_succ _))) (Own.lit' _ (by (simp only [heap_alloc_get, heap_drew_get] <;> simp <;> done)) (by (first | exact Nat.le_refl _ | exact Nat.le_succ _))) (by (repeat (first | with_reducible exact (Below.refl _ _) | with_reducible apply Below.drew | with_reducible refine balloc ?_ _))) LN1.out ?_; intro V1 n1 c1 w7 e1 ho1 hb7 hg1 hat1; rw [htl1.out] at e1; subst n1; have g0 := (hb7.cell hSl).trans x0; have hS7 := Nat.lt_of_lt_of_le hSl hb7.size; have OW1 := put ho1; have HB7 := put hb7; have HG1 := put hg1; have HAT1 := put hat1; clear ho1 hg1 hat1 hb7)
            refine hJJ.out _ _ trivial (fun hHeld => ?_)
            clear hJJ JJ
            try simp only [List.getElem_toArray, List.getElem_cons_succ, List.getElem_cons_zero, Act.put, List.setIfInBounds_toArray, List.set_cons_zero, List.set_cons_succ]
            refine wpAnyH_ready (rs := [11, 15]) (by kernel_rfl) (by simp) ?_
            refine AllReadyH.cons rfl (fun JJ hJJ => ?_) ?_
            · (refine pushS rfl _ _ rfl (.slice V1 q c1) (.slice (some ⟨_, 0, none⟩) 1 1) (l.take q) [s] (fun k => some k ≠ (Value.slice V1 q c1).ownBlock) rfl rfl (lit_sl (E := 9) (cs := [.string s]) (by first | (simp only [heap_alloc_get] <;> simp <;> done) | (refine Eq.trans (HG1.out.block _ ?_ (ne_lit (by simp))) ?_; rotate_left; (simp only [heap_alloc_get, heap_drew_get] <;> simp <;> done); (simp <;> omega))) rfl (by first | exact ne_fresh OW1.out | exact ne_grown HAT1.out (ne_lit (by simp)) (by simp <;> omega))) (fun k hk => hk) (OW1.out.below (by (repeat (first | with_reducible exact (Below.refl _ _) | with_reducible apply Below.drew | with_reducible refine balloc ?_ _)))) (by (repeat (first | with_reducible exact (Below.refl _ _) | with_reducible exact HB7.out | with_reducible apply Below.drew | with_reducible refine balloc ?_ _))) LN2.out ?_; intro V2 n2 c2 w8 e2 ho2 hb8 hg2 hat2; rw [htl2.out] at e2; subst n2; have h0 := (hb8.cell hSl).trans x0; have hS8 := Nat.lt_of_lt_of_le hSl hb8.size; have OW2 := put ho2; have HB8 := put hb8; clear ho2 hg2 hat2 hb8)
              refine hJJ.out _ _ trivial (fun hHeld => ?_)
              clear hJJ JJ
              try simp only [List.getElem_toArray, List.getElem_cons_succ, List.getElem_cons_zero, Act.put, List.setIfInBounds_toArray, List.set_cons_zero, List.set_cons_succ]
              refine wpAnyH_ready (rs := [15]) (by kernel_rfl) (by simp) ?_
              refine AllReadyH.cons rfl (fun JJ hJJ => ?_) AllReadyH.nil
              go_simp
              refine hJJ.out _ _ trivial (fun hHeld => ?_)
              clear hJJ JJ
              refine wpAnyH_take (i := 17) (v := ?_) rfl (by kernel_rfl) (by kernel_rfl) (by kernel_rfl) (fun _ _ _ h => h) (Or.inl ⟨by kernel_rfl, ?_⟩) (by assumption) ?_
              rotate_left
              focus (intro w hSw; (try dsimp only at hSw); go_simp; (try with_reducible rfl); done)
              try simp only [List.getElem_toArray, List.getElem_cons_succ, List.getElem_cons_zero, Act.put, List.setIfInBounds_toArray, List.set_cons_zero, List.set_cons_succ]
              refine wpAnyH_ready (rs := [18]) (by kernel_rfl) (by simp) ?_
              refine AllReadyH.cons rfl (fun JJ hJJ => ?_) AllReadyH.nil
              (refine pushS rfl _ _ rfl (.slice V2 (q + 1) c2) (.slice (if c = q then A else A.map (fun x => x.add (q))) (m - q) (c - q)) (l.take q ++ [s]) (l.drop q) (fun k => k < wk.heap.size) rfl rfl (ODD.out.below (by (repeat (first | with_reducible exact (Below.refl _ _) | with_reducible exact HB8.out | with_reducible apply Below.drew | with_reducible refine balloc ?_ _)))) (fun k hk => ne_own OW2.out hk) (OW2.out.below (by (repeat (first | with_reducible exact (Below.refl _ _) | with_reducible apply Below.drew | with_reducible refine balloc ?_ _)))) (by (repeat (first | with_reducible exact (Below.refl _ _) | with_reducible exact HB8.out | with_reducible apply Below.drew | with_reducible refine balloc ?_ _))) LN3.out ?_; intro V3 l3 c3' w9 e3 ho3 hb9 hg3 hat3; have z0 := (hb9.cell hSl).trans x0; have f0 := frz hb9 hSh; have OW3 := put ho3; have HB9 := put hb9; clear ho3 hg3 hat3 hb9 e3)
              refine hJJ.out _ _ trivial (fun hHeld => ?_)
              clear hJJ JJ
              refine wpAnyH_take (i := 19) (v := ?_) rfl (by kernel_rfl) (by kernel_rfl) (by kernel_rfl) (fun _ _ _ h => h) (Or.inl ⟨by kernel_rfl, ?_⟩) (by assumption) ?_
              rotate_left
              focus (intro w hSw; (try dsimp only at hSw); go_simp; (try with_reducible rfl); done)
              refine wpAnyH_take (i := 20) (v := ?_) rfl (by kernel_rfl) (by kernel_rfl) (by kernel_rfl) (fun _ _ _ h => h) (Or.inl ⟨by kernel_rfl, ?_⟩) (by assumption) ?_
              rotate_left
              focus (intro w hSw; (try dsimp only at hSw); go_simp; (try with_reducible rfl); done)
              try simp only [List.getElem_toArray, List.getElem_cons_succ, List.getElem_cons_zero, Act.put, List.setIfInBounds_toArray, List.set_cons_zero, List.set_cons_succ]
              refine wpAnyH_ready (rs := [21]) (by kernel_rfl) (by simp) ?_
              refine AllReadyH.cons rfl (fun JJ hJJ => ?_) AllReadyH.nil
              go_simp
              refine hJJ.out _ _ trivial (fun hHeld => ?_)
              clear hJJ JJ
              try simp only [List.getElem_toArray, List.getElem_cons_succ, List.getElem_cons_zero, Act.put, List.setIfInBounds_toArray, List.set_cons_zero, List.set_cons_succ]
              refine wpAnyH_done (by kernel_rfl) ?_ _
              refine NoPanic.normal ?_
              go_wp2_with fail
              all_goals (go_ret; exact .inr (.inr ⟨by omega, HBB.out.symm, FIN.out _ _ _ _ OW3.out HB9.out⟩))
            refine AllReadyH.cons rfl (fun JJ hJJ => ?_) AllReadyH.nil
            go_simp
            refine hJJ.out _ _ trivial (fun hHeld => ?_)
            clear hJJ JJ
            refine wpAnyH_take (i := 17) (v := ?_) rfl (by kernel_rfl) (by kernel_rfl) (by kernel_rfl) (fun _ _ _ h => h) (Or.inl ⟨by kernel_rfl, ?_⟩) (by assumption) ?_
            rotate_left
            focus (intro w hSw; (try dsimp only at hSw); go_simp; (try with_reducible rfl); done)
            try simp only [List.getElem_toArray, List.getElem_cons_succ, List.getElem_cons_zero, Act.put, List.setIfInBounds_toArray, List.set_cons_zero, List.set_cons_succ]
            refine wpAnyH_ready (rs := [11]) (by kernel_rfl) (by simp) ?_
            refine AllReadyH.cons rfl (fun JJ hJJ => ?_) AllReadyH.nil
            (refine pushS rfl _ _ rfl (.slice V1 q c1) (.slice (some ⟨_, 0, none⟩) 1 1) (l.take q) [s] (fun k => some k ≠ (Value.slice V1 q c1).ownBlock) rfl rfl (lit_sl (E := 9) (cs := [.string s]) (by first | (simp only [heap_alloc_get] <;> simp <;> done) | (refine Eq.trans (HG1.out.block _ ?_ (ne_lit (by simp))) ?_; rotate_left; (simp only [heap_alloc_get, heap_drew_get] <;> simp <;> done); (simp <;> omega))) rfl (by first | exact ne_fresh OW1.out | exact ne_grown HAT1.out (ne_lit (by simp)) (by simp <;> omega))) (fun k hk => hk) (OW1.out.below (by (repeat (first | with_reducible exact (Below.refl _ _) | with_reducible apply Below.drew | with_reducible refine balloc ?_ _)))) (by (repeat (first | with_reducible exact (Below.refl _ _) | with_reducible exact HB7.out | with_reducible apply Below.drew | with_reducible refine balloc ?_ _))) LN2.out ?_; intro V2 n2 c2 w8 e2 ho2 hb8 hg2 hat2; rw [htl2.out] at e2; subst n2; have h0 := (hb8.cell hSl).trans x0; have hS8 := Nat.lt_of_lt_of_le hSl hb8.size; have OW2 := put ho2; have HB8 := put hb8; clear ho2 hg2 hat2 hb8)
            refine hJJ.out _ _ trivial (fun hHeld => ?_)
            clear hJJ JJ
            try simp only [List.getElem_toArray, List.getElem_cons_succ, List.getElem_cons_zero, Act.put, List.setIfInBounds_toArray, List.set_cons_zero, List.set_cons_succ]
            refine wpAnyH_ready (rs := [18]) (by kernel_rfl) (by simp) ?_
            refine AllReadyH.cons rfl (fun JJ hJJ => ?_) AllReadyH.nil
            (refine pushS rfl _ _ rfl (.slice V2 (q + 1) c2) (.slice (if c = q then A else A.map (fun x => x.add (q))) (m - q) (c - q)) (l.take q ++ [s]) (l.drop q) (fun k => k < wk.heap.size) rfl rfl (ODD.out.below (by (repeat (first | with_reducible exact (Below.refl _ _) | with_reducible exact HB8.out | with_reducible apply Below.drew | with_reducible refine balloc ?_ _)))) (fun k hk => ne_own OW2.out hk) (OW2.out.below (by (repeat (first | with_reducible exact (Below.refl _ _) | with_reducible apply Below.drew | with_reducible refine balloc ?_ _)))) (by (repeat (first | with_reducible exact (Below.refl _ _) | with_reducible exact HB8.out | with_reducible apply Below.drew | with_reducible refine balloc ?_ _))) LN3.out ?_; intro V3 l3 c3' w9 e3 ho3 hb9 hg3 hat3; have z0 := (hb9.cell hSl).trans x0; have f0 := frz hb9 hSh; have OW3 := put ho3; have HB9 := put hb9; clear ho3 hg3 hat3 hb9 e3)
            refine hJJ.out _ _ trivial (fun hHeld => ?_)
            clear hJJ JJ
            refine wpAnyH_take (i := 19) (v := ?_) rfl (by kernel_rfl) (by kernel_rfl) (by kernel_rfl) (fun _ _ _ h => h) (Or.inl ⟨by kernel_rfl, ?_⟩) (by assumption) ?_
            rotate_left
            focus (intro w hSw; (try dsimp only at hSw); go_simp; (try with_reducible rfl); done)
            refine wpAnyH_take (i := 20) (v := ?_) rfl (by kernel_rfl) (by kernel_rfl) (by kernel_rfl) (fun _ _ _ h => h) (Or.inl ⟨by kernel_rfl, ?_⟩) (by assumption) ?_
            rotate_left
            focus (intro w hSw; (try dsimp only at hSw); go_simp; (try with_reducible rfl); done)
            try simp only [List.getElem_toArray, List.getElem_cons_succ, List.getElem_cons_zero, Act.put, List.setIfInBounds_toArray, List.set_cons_zero, List.set_cons_succ]
            refine wpAnyH_ready (rs := [21]) (by kernel_rfl) (by simp) ?_
            refine AllReadyH.cons rfl (fun JJ hJJ => ?_) AllReadyH.nil
            go_simp
            refine hJJ.out _ _ trivial (fun hHeld => ?_)
            clear hJJ JJ
            try simp only [List.getElem_toArray, List.getElem_cons_succ, List.getElem_cons_zero, Act.put, List.setIfInBounds_toArray, List.set_cons_zero, List.set_cons_succ]
            refine wpAnyH_done (by kernel_rfl) ?_ _
            refine NoPanic.normal ?_
            go_wp2_with fail
            all_goals (go_ret; exact .inr (.inr ⟨by omega, HBB.out.symm, FIN.out _ _ _ _ OW3.out HB9.out⟩))
          refine AllReadyH.cons rfl (fun JJ hJJ => ?_) AllReadyH.nil
          go_simp
          refine hJJ.out _ _ trivial (fun hHeld => ?_)
          clear hJJ JJ
          refine wpAnyH_take (i := 17) (v := ?_) rfl (by kernel_rfl) (by kernel_rfl) (by kernel_rfl) (fun _ _ _ h => h) (Or.inl ⟨by kernel_rfl, ?_⟩) (by assumption) ?_
          rotate_left
          focus (intro w hSw; (try dsimp only at hSw); go_simp; (try with_reducible rfl); done)
          try simp only [List.getElem_toArray, List.getElem_cons_succ, List.getElem_cons_zero, Act.put, List.setIfInBounds_toArray, List.set_cons_zero, List.set_cons_succ]
          refine wpAnyH_ready (rs := [8]) (by kernel_rfl) (by simp) ?_
          refine AllReadyH.cons rfl (fun JJ hJJ => ?_) AllReadyH.nil
          (refine pushS rfl _ _ rfl (.slice (some ⟨_, 0, none⟩) 0 0) (.slice A q c) [] (l.take q) (fun k => k < wk.heap.size) rfl rfl (OT.out _ (by (repeat (first | with_reducible exact (Below.refl _ _) | with_reducible apply Below.drew | with_reducible refine balloc ?_ _)))) (fun k hk => ne_new hk (by (first | exact Nat.le_refl _ | exact Nat.le_succ _))) (Own.lit' _ (by (simp only [heap_alloc_get, heap_drew_get] <;> simp <;> done)) (by (first | exact Nat.le_refl _ | exact Nat.le_succ _))) (by (repeat (first | with_reducible exact (Below.refl _ _) | with_reducible apply Below.drew | with_reducible refine balloc ?_ _))) LN1.out ?_; intro V1 n1 c1 w7 e1 ho1 hb7 hg1 hat1; rw [htl1.out] at e1; subst n1; have g0 := (hb7.cell hSl).trans x0; have hS7 := Nat.lt_of_lt_of_le hSl hb7.size; have OW1 := put ho1; have HB7 := put hb7; have HG1 := put hg1; have HAT1 := put hat1; clear ho1 hg1 hat1 hb7)
          refine hJJ.out _ _ trivial (fun hHeld => ?_)
          clear hJJ JJ
          try simp only [List.getElem_toArray, List.getElem_cons_succ, List.getElem_cons_zero, Act.put, List.setIfInBounds_toArray, List.set_cons_zero, List.set_cons_succ]
          refine wpAnyH_ready (rs := [11]) (by kernel_rfl) (by simp) ?_
          refine AllReadyH.cons rfl (fun JJ hJJ => ?_) AllReadyH.nil
          (refine pushS rfl _ _ rfl (.slice V1 q c1) (.slice (some ⟨_, 0, none⟩) 1 1) (l.take q) [s] (fun k => some k ≠ (Value.slice V1 q c1).ownBlock) rfl rfl (lit_sl (E := 9) (cs := [.string s]) (by first | (simp only [heap_alloc_get] <;> simp <;> done) | (refine Eq.trans (HG1.out.block _ ?_ (ne_lit (by simp))) ?_; rotate_left; (simp only [heap_alloc_get, heap_drew_get] <;> simp <;> done); (simp <;> omega))) rfl (by first | exact ne_fresh OW1.out | exact ne_grown HAT1.out (ne_lit (by simp)) (by simp <;> omega))) (fun k hk => hk) (OW1.out.below (by (repeat (first | with_reducible exact (Below.refl _ _) | with_reducible apply Below.drew | with_reducible refine balloc ?_ _)))) (by (repeat (first | with_reducible exact (Below.refl _ _) | with_reducible exact HB7.out | with_reducible apply Below.drew | with_reducible refine balloc ?_ _))) LN2.out ?_; intro V2 n2 c2 w8 e2 ho2 hb8 hg2 hat2; rw [htl2.out] at e2; subst n2; have h0 := (hb8.cell hSl).trans x0; have hS8 := Nat.lt_of_lt_of_le hSl hb8.size; have OW2 := put ho2; have HB8 := put hb8; clear ho2 hg2 hat2 hb8)
          refine hJJ.out _ _ trivial (fun hHeld => ?_)
          clear hJJ JJ
          try simp only [List.getElem_toArray, List.getElem_cons_succ, List.getElem_cons_zero, Act.put, List.setIfInBounds_toArray, List.set_cons_zero, List.set_cons_succ]
          refine wpAnyH_ready (rs := [18]) (by kernel_rfl) (by simp) ?_
          refine AllReadyH.cons rfl (fun JJ hJJ => ?_) AllReadyH.nil
          (refine pushS rfl _ _ rfl (.slice V2 (q + 1) c2) (.slice (if c = q then A else A.map (fun x => x.add (q))) (m - q) (c - q)) (l.take q ++ [s]) (l.drop q) (fun k => k < wk.heap.size) rfl rfl (ODD.out.below (by (repeat (first | with_reducible exact (Below.refl _ _) | with_reducible exact HB8.out | with_reducible apply Below.drew | with_reducible refine balloc ?_ _)))) (fun k hk => ne_own OW2.out hk) (OW2.out.below (by (repeat (first | with_reducible exact (Below.refl _ _) | with_reducible apply Below.drew | with_reducible refine balloc ?_ _)))) (by (repeat (first | with_reducible exact (Below.refl _ _) | with_reducible exact HB8.out | with_reducible apply Below.drew | with_reducible refine balloc ?_ _))) LN3.out ?_; intro V3 l3 c3' w9 e3 ho3 hb9 hg3 hat3; have z0 := (hb9.cell hSl).trans x0; have f0 := frz hb9 hSh; have OW3 := put ho3; have HB9 := put hb9; clear ho3 hg3 hat3 hb9 e3)
          refine hJJ.out _ _ trivial (fun hHeld => ?_)
          clear hJJ JJ
          refine wpAnyH_take (i := 19) (v := ?_) rfl (by kernel_rfl) (by kernel_rfl) (by kernel_rfl) (fun _ _ _ h => h) (Or.inl ⟨by kernel_rfl, ?_⟩) (by assumption) ?_
          rotate_left
          focus (intro w hSw; (try dsimp only at hSw); go_simp; (try with_reducible rfl); done)
          refine wpAnyH_take (i := 20) (v := ?_) rfl (by kernel_rfl) (by kernel_rfl) (by kernel_rfl) (fun _ _ _ h => h) (Or.inl ⟨by kernel_rfl, ?_⟩) (by assumption) ?_
          rotate_left
          focus (intro w hSw; (try dsimp only at hSw); go_simp; (try with_reducible rfl); done)
          try simp only [List.getElem_toArray, List.getElem_cons_succ, List.getElem_cons_zero, Act.put, List.setIfInBounds_toArray, List.set_cons_zero, List.set_cons_succ]
          refine wpAnyH_ready (rs := [21]) (by kernel_rfl) (by simp) ?_
          refine AllReadyH.cons rfl (fun JJ hJJ => ?_) AllReadyH.nil
          go_simp
          refine hJJ.out _ _ trivial (fun hHeld => ?_)
          clear hJJ JJ
          try simp only [List.getElem_toArray, List.getElem_cons_succ, List.getElem_cons_zero, Act.put, List.setIfInBounds_toArray, List.set_cons_zero, List.set_cons_succ]
          refine wpAnyH_done (by kernel_rfl) ?_ _
          refine NoPanic.normal ?_
          go_wp2_with fail
          all_goals (go_ret; exact .inr (.inr ⟨by omega, HBB.out.symm, FIN.out _ _ _ _ OW3.out HB9.out⟩))
        refine AllReadyH.cons rfl (fun JJ hJJ => ?_) AllReadyH.nil
        go_simp
        refine hJJ.out _ _ trivial (fun hHeld => ?_)
        clear hJJ JJ
        refine wpAnyH_take (i := 17) (v := ?_) rfl (by kernel_rfl) (by kernel_rfl) (by kernel_rfl) (fun _ _ _ h => h) (Or.inl ⟨by kernel_rfl, ?_⟩) (by assumption) ?_
        rotate_left
        focus (intro w hSw; (try dsimp only at hSw); go_simp; (try with_reducible rfl); done)
        try simp only [List.getElem_toArray, List.getElem_cons_succ, List.getElem_cons_zero, Act.put, List.setIfInBounds_toArray, List.set_cons_zero, List.set_cons_succ]
        refine wpAnyH_ready (rs := [8, 10]) (by kernel_rfl) (by simp) ?_
        refine AllReadyH.cons rfl (fun JJ hJJ => ?_) ?_
        · (refine pushS rfl _ _ rfl (.slice (some ⟨_, 0, none⟩) 0 0) (.slice A q c) [] (l.take q) (fun k => k < wk.heap.size) rfl rfl (OT.out _ (by (repeat (first | with_reducible exact (Below.refl _ _) | with_reducible apply Below.drew | with_reducible refine balloc ?_ _)))) (fun k hk => ne_new hk (by (first | exact Nat.le_refl _ | exact Nat.le_succ _))) (Own.lit' _ (by (simp only [heap_alloc_get, heap_drew_get] <;> simp <;> done)) (by (first | exact Nat.le_refl _ | exact Nat.le_succ _))) (by (repeat (first | with_reducible exact (Below.refl _ _) | with_reducible apply Below.drew | with_reducible refine balloc ?_ _))) LN1.out ?_; intro V1 n1 c1 w7 e1 ho1 hb7 hg1 hat1; rw [htl1.out] at e1; subst n1; have g0 := (hb7.cell hSl).trans x0; have hS7 := Nat.lt_of_lt_of_le hSl hb7.size; have OW1 := put ho1; have HB7 := put hb7; have HG1 := put hg1; have HAT1 := put hat1; clear ho1 hg1 hat1 hb7)
          refine hJJ.out _ _ trivial (fun hHeld => ?_)
          clear hJJ JJ
          try simp only [List.getElem_toArray, List.getElem_cons_succ, List.getElem_cons_zero, Act.put, List.setIfInBounds_toArray, List.set_cons_zero, List.set_cons_succ]
          refine wpAnyH_ready (rs := [10]) (by kernel_rfl) (by simp) ?_
          refine AllReadyH.cons rfl (fun JJ hJJ => ?_) AllReadyH.nil
          go_simp
          refine hJJ.out _ _ trivial (fun hHeld => ?_)
          clear hJJ JJ
          try simp only [List.getElem_toArray, List.getElem_cons_succ, List.getElem_cons_zero, Act.put, List.setIfInBounds_toArray, List.set_cons_zero, List.set_cons_succ]
          refine wpAnyH_ready (rs := [11]) (by kernel_rfl) (by simp) ?_
          refine AllReadyH.cons rfl (fun JJ hJJ => ?_) AllReadyH.nil
          (refine pushS rfl _ _ rfl (.slice V1 q c1) (.slice (some ⟨_, 0, none⟩) 1 1) (l.take q) [s] (fun k => some k ≠ (Value.slice V1 q c1).ownBlock) rfl rfl (lit_sl (E := 9) (cs := [.string s]) (by first | (simp only [heap_alloc_get] <;> simp <;> done) | (refine Eq.trans (HG1.out.block _ ?_ (ne_lit (by simp))) ?_; rotate_left; (simp only [heap_alloc_get, heap_drew_get] <;> simp <;> done); (simp <;> omega))) rfl (by first | exact ne_fresh OW1.out | exact ne_grown HAT1.out (ne_lit (by simp)) (by simp <;> omega))) (fun k hk => hk) (OW1.out.below (by (repeat (first | with_reducible exact (Below.refl _ _) | with_reducible apply Below.drew | with_reducible refine balloc ?_ _)))) (by (repeat (first | with_reducible exact (Below.refl _ _) | with_reducible exact HB7.out | with_reducible apply Below.drew | with_reducible refine balloc ?_ _))) LN2.out ?_; intro V2 n2 c2 w8 e2 ho2 hb8 hg2 hat2; rw [htl2.out] at e2; subst n2; have h0 := (hb8.cell hSl).trans x0; have hS8 := Nat.lt_of_lt_of_le hSl hb8.size; have OW2 := put ho2; have HB8 := put hb8; clear ho2 hg2 hat2 hb8)
          refine hJJ.out _ _ trivial (fun hHeld => ?_)
          clear hJJ JJ
          try simp only [List.getElem_toArray, List.getElem_cons_succ, List.getElem_cons_zero, Act.put, List.setIfInBounds_toArray, List.set_cons_zero, List.set_cons_succ]
          refine wpAnyH_ready (rs := [18]) (by kernel_rfl) (by simp) ?_
          refine AllReadyH.cons rfl (fun JJ hJJ => ?_) AllReadyH.nil
          (refine pushS rfl _ _ rfl (.slice V2 (q + 1) c2) (.slice (if c = q then A else A.map (fun x => x.add (q))) (m - q) (c - q)) (l.take q ++ [s]) (l.drop q) (fun k => k < wk.heap.size) rfl rfl (ODD.out.below (by (repeat (first | with_reducible exact (Below.refl _ _) | with_reducible exact HB8.out | with_reducible apply Below.drew | with_reducible refine balloc ?_ _)))) (fun k hk => ne_own OW2.out hk) (OW2.out.below (by (repeat (first | with_reducible exact (Below.refl _ _) | with_reducible apply Below.drew | with_reducible refine balloc ?_ _)))) (by (repeat (first | with_reducible exact (Below.refl _ _) | with_reducible exact HB8.out | with_reducible apply Below.drew | with_reducible refine balloc ?_ _))) LN3.out ?_; intro V3 l3 c3' w9 e3 ho3 hb9 hg3 hat3; have z0 := (hb9.cell hSl).trans x0; have f0 := frz hb9 hSh; have OW3 := put ho3; have HB9 := put hb9; clear ho3 hg3 hat3 hb9 e3)
          refine hJJ.out _ _ trivial (fun hHeld => ?_)
          clear hJJ JJ
          refine wpAnyH_take (i := 19) (v := ?_) rfl (by kernel_rfl) (by kernel_rfl) (by kernel_rfl) (fun _ _ _ h => h) (Or.inl ⟨by kernel_rfl, ?_⟩) (by assumption) ?_
          rotate_left
          focus (intro w hSw; (try dsimp only at hSw); go_simp; (try with_reducible rfl); done)
          refine wpAnyH_take (i := 20) (v := ?_) rfl (by kernel_rfl) (by kernel_rfl) (by kernel_rfl) (fun _ _ _ h => h) (Or.inl ⟨by kernel_rfl, ?_⟩) (by assumption) ?_
          rotate_left
          focus (intro w hSw; (try dsimp only at hSw); go_simp; (try with_reducible rfl); done)
          try simp only [List.getElem_toArray, List.getElem_cons_succ, List.getElem_cons_zero, Act.put, List.setIfInBounds_toArray, List.set_cons_zero, List.set_cons_succ]
          refine wpAnyH_ready (rs := [21]) (by kernel_rfl) (by simp) ?_
          refine AllReadyH.cons rfl (fun JJ hJJ => ?_) AllReadyH.nil
          go_simp
          refine hJJ.out _ _ trivial (fun hHeld => ?_)
          clear hJJ JJ
          try simp only [List.getElem_toArray, List.getElem_cons_succ, List.getElem_cons_zero, Act.put, List.setIfInBounds_toArray, List.set_cons_zero, List.set_cons_succ]
          refine wpAnyH_done (by kernel_rfl) ?_ _
          refine NoPanic.normal ?_
          go_wp2_with fail
          all_goals (go_ret; exact .inr (.inr ⟨by omega, HBB.out.symm, FIN.out _ _ _ _ OW3.out HB9.out⟩))
        refine AllReadyH.cons rfl (fun JJ hJJ => ?_) AllReadyH.nil
        go_simp
        refine hJJ.out _ _ trivial (fun hHeld => ?_)
        clear hJJ JJ
        try simp only [List.getElem_toArray, List.getElem_cons_succ, List.getElem_cons_zero, Act.put, List.setIfInBounds_toArray, List.set_cons_zero, List.set_cons_succ]
        refine wpAnyH_ready (rs := [8]) (by kernel_rfl) (by simp) ?_
        refine AllReadyH.cons rfl (fun JJ hJJ => ?_) AllReadyH.nil
        (refine pushS rfl _ _ rfl (.slice (some ⟨_, 0, none⟩) 0 0) (.slice A q c) [] (l.take q) (fun k => k < wk.heap.size) rfl rfl (OT.out _ (by (repeat (first | with_reducible exact (Below.refl _ _) | with_reducible apply Below.drew | with_reducible refine balloc ?_ _)))) (fun k hk => ne_new hk (by (first | exact Nat.le_refl _ | exact Nat.le_succ _))) (Own.lit' _ (by (simp only [heap_alloc_get, heap_drew_get] <;> simp <;> done)) (by (first | exact Nat.le_refl _ | exact Nat.le_succ _))) (by (repeat (first | with_reducible exact (Below.refl _ _) | with_reducible apply Below.drew | with_reducible refine balloc ?_ _))) LN1.out ?_; intro V1 n1 c1 w7 e1 ho1 hb7 hg1 hat1; rw [htl1.out] at e1; subst n1; have g0 := (hb7.cell hSl).trans x0; have hS7 := Nat.lt_of_lt_of_le hSl hb7.size; have OW1 := put ho1; have HB7 := put hb7; have HG1 := put hg1; have HAT1 := put hat1; clear ho1 hg1 hat1 hb7)
        refine hJJ.out _ _ trivial (fun hHeld => ?_)
        clear hJJ JJ
        try simp only [List.getElem_toArray, List.getElem_cons_succ, List.getElem_cons_zero, Act.put, List.setIfInBounds_toArray, List.set_cons_zero, List.set_cons_succ]
        refine wpAnyH_ready (rs := [11]) (by kernel_rfl) (by simp) ?_
        refine AllReadyH.cons rfl (fun JJ hJJ => ?_) AllReadyH.nil
        (refine pushS rfl _ _ rfl (.slice V1 q c1) (.slice (some ⟨_, 0, none⟩) 1 1) (l.take q) [s] (fun k => some k ≠ (Value.slice V1 q c1).ownBlock) rfl rfl (lit_sl (E := 9) (cs := [.string s]) (by first | (simp only [heap_alloc_get] <;> simp <;> done) | (refine Eq.trans (HG1.out.block _ ?_ (ne_lit (by simp))) ?_; rotate_left; (simp only [heap_alloc_get, heap_drew_get] <;> simp <;> done); (simp <;> omega))) rfl (by first | exact ne_fresh OW1.out | exact ne_grown HAT1.out (ne_lit (by simp)) (by simp <;> omega))) (fun k hk => hk) (OW1.out.below (by (repeat (first | with_reducible exact (Below.refl _ _) | with_reducible apply Below.drew | with_reducible refine balloc ?_ _)))) (by (repeat (first | with_reducible exact (Below.refl _ _) | with_reducible exact HB7.out | with_reducible apply Below.drew | with_reducible refine balloc ?_ _))) LN2.out ?_; intro V2 n2 c2 w8 e2 ho2 hb8 hg2 hat2; rw [htl2.out] at e2; subst n2; have h0 := (hb8.cell hSl).trans x0; have hS8 := Nat.lt_of_lt_of_le hSl hb8.size; have OW2 := put ho2; have HB8 := put hb8; clear ho2 hg2 hat2 hb8)
        refine hJJ.out _ _ trivial (fun hHeld => ?_)
        clear hJJ JJ
        try simp only [List.getElem_toArray, List.getElem_cons_succ, List.getElem_cons_zero, Act.put, List.setIfInBounds_toArray, List.set_cons_zero, List.set_cons_succ]
        refine wpAnyH_ready (rs := [18]) (by kernel_rfl) (by simp) ?_
        refine AllReadyH.cons rfl (fun JJ hJJ => ?_) AllReadyH.nil
        (refine pushS rfl _ _ rfl (.slice V2 (q + 1) c2) (.slice (if c = q then A else A.map (fun x => x.add (q))) (m - q) (c - q)) (l.take q ++ [s]) (l.drop q) (fun k => k < wk.heap.size) rfl rfl (ODD.out.below (by (repeat (first | with_reducible exact (Below.refl _ _) | with_reducible exact HB8.out | with_reducible apply Below.drew | with_reducible refine balloc ?_ _)))) (fun k hk => ne_own OW2.out hk) (OW2.out.below (by (repeat (first | with_reducible exact (Below.refl _ _) | with_reducible apply Below.drew | with_reducible refine balloc ?_ _)))) (by (repeat (first | with_reducible exact (Below.refl _ _) | with_reducible exact HB8.out | with_reducible apply Below.drew | with_reducible refine balloc ?_ _))) LN3.out ?_; intro V3 l3 c3' w9 e3 ho3 hb9 hg3 hat3; have z0 := (hb9.cell hSl).trans x0; have f0 := frz hb9 hSh; have OW3 := put ho3; have HB9 := put hb9; clear ho3 hg3 hat3 hb9 e3)
        refine hJJ.out _ _ trivial (fun hHeld => ?_)
        clear hJJ JJ
        refine wpAnyH_take (i := 19) (v := ?_) rfl (by kernel_rfl) (by kernel_rfl) (by kernel_rfl) (fun _ _ _ h => h) (Or.inl ⟨by kernel_rfl, ?_⟩) (by assumption) ?_
        rotate_left
        focus (intro w hSw; (try dsimp only at hSw); go_simp; (try with_reducible rfl); done)
        refine wpAnyH_take (i := 20) (v := ?_) rfl (by kernel_rfl) (by kernel_rfl) (by kernel_rfl) (fun _ _ _ h => h) (Or.inl ⟨by kernel_rfl, ?_⟩) (by assumption) ?_
        rotate_left
        focus (intro w hSw; (try dsimp only at hSw); go_simp; (try with_reducible rfl); done)
        try simp only [List.getElem_toArray, List.getElem_cons_succ, List.getElem_cons_zero, Act.put, List.setIfInBounds_toArray, List.set_cons_zero, List.set_cons_succ]
        refine wpAnyH_ready (rs := [21]) (by kernel_rfl) (by simp) ?_
        refine AllReadyH.cons rfl (fun JJ hJJ => ?_) AllReadyH.nil
        go_simp
        refine hJJ.out _ _ trivial (fun hHeld => ?_)
        clear hJJ JJ
        try simp only [List.getElem_toArray, List.getElem_cons_succ, List.getElem_cons_zero, Act.put, List.setIfInBounds_toArray, List.set_cons_zero, List.set_cons_succ]
        refine wpAnyH_done (by kernel_rfl) ?_ _
        refine NoPanic.normal ?_
        go_wp2_with fail
        all_goals (go_ret; exact .inr (.inr ⟨by omega, HBB.out.symm, FIN.out _ _ _ _ OW3.out HB9.out⟩))
      refine AllReadyH.cons rfl (fun JJ hJJ => ?_) ?_
      · go_simp
        refine hJJ.out _ _ trivial (fun hHeld => ?_)
        clear hJJ JJ
        try simp only [List.getElem_toArray, List.getElem_cons_succ, List.getElem_cons_zero, Act.put, List.setIfInBounds_toArray, List.set_cons_zero, List.set_cons_succ]
        refine wpAnyH_ready (rs := [5, 15]) (by kernel_rfl) (by simp) ?_
        refine AllReadyH.cons rfl (fun JJ hJJ => ?_) ?_
        · go_simp
          refine hJJ.out _ _ trivial (fun hHeld => ?_)
          clear hJJ JJ
          refine wpAnyH_take (i := 7) (v := ?_) rfl (by kernel_rfl) (by kernel_rfl) (by kernel_rfl) (fun _ _ _ h => h) (Or.inl ⟨by kernel_rfl, ?_⟩) (by assumption) ?_
          rotate_left
          focus (intro w hSw; (try dsimp only at hSw); go_simp; (try with_reducible rfl); done)
          try simp only [List.getElem_toArray, List.getElem_cons_succ, List.getElem_cons_zero, Act.put, List.setIfInBounds_toArray, List.set_cons_zero, List.set_cons_succ]
          refine wpAnyH_ready (rs := [8, 15]) (by kernel_rfl) (by simp) ?_
          refine AllReadyH.cons rfl (fun JJ hJJ => ?_) ?_
          · (refine pushS rfl _ _ rfl (.slice (some ⟨_, 0, none⟩) 0 0) (.slice A q c) [] (l.take q) (fun k => k < wk.heap.size) rfl rfl (OT.out _ (by (repeat (first | with_reducible exact (Below.refl _ _) | with_reducible apply Below.drew | with_reducible refine balloc ?_ _)))) (fun k hk => ne_new hk (by (first | exact Nat.le_refl _ | exact Nat.le_succ _))) (Own.lit' _ (by (simp only [heap_alloc_get, heap_drew_get] <;> simp <;> done)) (by (first | exact Nat.le_refl _ | exact Nat.le_succ _))) (by (repeat (first | with_reducible exact (Below.refl _ _) | with_reducible apply Below.drew | with_reducible refine balloc ?_ _))) LN1.out ?_; intro V1 n1 c1 w7 e1 ho1 hb7 hg1 hat1; rw [htl1.out] at e1; subst n1; have g0 := (hb7.cell hSl).trans x0; have hS7 := Nat.lt_of_lt_of_le hSl hb7.size; have OW1 := put ho1; have HB7 := put hb7; have HG1 := put hg1; have HAT1 := put hat1; clear ho1 hg1 hat1 hb7)
            refine hJJ.out _ _ trivial (fun hHeld => ?_)
            clear hJJ JJ
            try simp only [List.getElem_toArray, List.getElem_cons_succ, List.getElem_cons_zero, Act.put, List.setIfInBounds_toArray, List.set_cons_zero, List.set_cons_succ]
            refine wpAnyH_ready (rs := [11, 15]) (by kernel_rfl) (by simp) ?_
            refine AllReadyH.cons rfl (fun JJ hJJ => ?_) ?_
            · (refine pushS rfl _ _ rfl (.slice V1 q c1) (.slice (some ⟨_, 0, none⟩) 1 1) (l.take q) [s] (fun k => some k ≠ (Value.slice V1 q c1).ownBlock) rfl rfl (lit_sl (E := 9) (cs := [.string s]) (by first | (simp only [heap_alloc_get] <;> simp <;> done) | (refine Eq.trans (HG1.out.block _ ?_ (ne_lit (by simp))) ?_; rotate_left; (simp only [heap_alloc_get, heap_drew_get] <;> simp <;> done); (simp <;> omega))) rfl (by first | exact ne_fresh OW1.out | exact ne_grown HAT1.out (ne_lit (by simp)) (by simp <;> omega))) (fun k hk => hk) (OW1.out.below (by (repeat (first | with_reducible exact (Below.refl _ _) | with_reducible apply Below.drew | with_reducible refine balloc ?_ _)))) (by (repeat (first | with_reducible exact (Below.refl _ _) | with_reducible exact HB7.out | with_reducible apply Below.drew | with_reducible refine balloc ?_ _))) LN2.out ?_; intro V2 n2 c2 w8 e2 ho2 hb8 hg2 hat2; rw [htl2.out] at e2; subst n2; have h0 := (hb8.cell hSl).trans x0; have hS8 := Nat.lt_of_lt_of_le hSl hb8.size; have OW2 := put ho2; have HB8 := put hb8; clear ho2 hg2 hat2 hb8)
              refine hJJ.out _ _ trivial (fun hHeld => ?_)
              clear hJJ JJ
              try simp only [List.getElem_toArray, List.getElem_cons_succ, List.getElem_cons_zero, Act.put, List.setIfInBounds_toArray, List.set_cons_zero, List.set_cons_succ]
              refine wpAnyH_ready (rs := [15]) (by kernel_rfl) (by simp) ?_
              refine AllReadyH.cons rfl (fun JJ hJJ => ?_) AllReadyH.nil
              go_simp
              refine hJJ.out _ _ trivial (fun hHeld => ?_)
              clear hJJ JJ
              refine wpAnyH_take (i := 17) (v := ?_) rfl (by kernel_rfl) (by kernel_rfl) (by kernel_rfl) (fun _ _ _ h => h) (Or.inl ⟨by kernel_rfl, ?_⟩) (by assumption) ?_
              rotate_left
              focus (intro w hSw; (try dsimp only at hSw); go_simp; (try with_reducible rfl); done)
              try simp only [List.getElem_toArray, List.getElem_cons_succ, List.getElem_cons_zero, Act.put, List.setIfInBounds_toArray, List.set_cons_zero, List.set_cons_succ]
              refine wpAnyH_ready (rs := [18]) (by kernel_rfl) (by simp) ?_
              refine AllReadyH.cons rfl (fun JJ hJJ => ?_) AllReadyH.nil
              (refine pushS rfl _ _ rfl (.slice V2 (q + 1) c2) (.slice (if c = q then A else A.map (fun x => x.add (q))) (m - q) (c - q)) (l.take q ++ [s]) (l.drop q) (fun k => k < wk.heap.size) rfl rfl (ODD.out.below (by (repeat (first | with_reducible exact (Below.refl _ _) | with_reducible exact HB8.out | with_reducible apply Below.drew | with_reducible refine balloc ?_ _)))) (fun k hk => ne_own OW2.out hk) (OW2.out.below (by (repeat (first | with_reducible exact (Below.refl _ _) | with_reducible apply Below.drew | with_reducible refine balloc ?_ _)))) (by (repeat (first | with_reducible exact (Below.refl _ _) | with_reducible exact HB8.out | with_reducible apply Below.drew | with_reducible refine balloc ?_ _))) LN3.out ?_; intro V3 l3 c3' w9 e3 ho3 hb9 hg3 hat3; have z0 := (hb9.cell hSl).trans x0; have f0 := frz hb9 hSh; have OW3 := put ho3; have HB9 := put hb9; clear ho3 hg3 hat3 hb9 e3)
              refine hJJ.out _ _ trivial (fun hHeld => ?_)
              clear hJJ JJ
              refine wpAnyH_take (i := 19) (v := ?_) rfl (by kernel_rfl) (by kernel_rfl) (by kernel_rfl) (fun _ _ _ h => h) (Or.inl ⟨by kernel_rfl, ?_⟩) (by assumption) ?_
              rotate_left
              focus (intro w hSw; (try dsimp only at hSw); go_simp; (try with_reducible rfl); done)
              refine wpAnyH_take (i := 20) (v := ?_) rfl (by kernel_rfl) (by kernel_rfl) (by kernel_rfl) (fun _ _ _ h => h) (Or.inl ⟨by kernel_rfl, ?_⟩) (by assumption) ?_
              rotate_left
              focus (intro w hSw; (try dsimp only at hSw); go_simp; (try with_reducible rfl); done)
              try simp only [List.getElem_toArray, List.getElem_cons_succ, List.getElem_cons_zero, Act.put, List.setIfInBounds_toArray, List.set_cons_zero, List.set_cons_succ]
              refine wpAnyH_ready (rs := [21]) (by kernel_rfl) (by simp) ?_
              refine AllReadyH.cons rfl (fun JJ hJJ => ?_) AllReadyH.nil
              go_simp
              refine hJJ.out _ _ trivial (fun hHeld => ?_)
              clear hJJ JJ
              try simp only [List.getElem_toArray, List.getElem_cons_succ, List.getElem_cons_zero, Act.put, List.setIfInBounds_toArray, List.set_cons_zero, List.set_cons_succ]
              refine wpAnyH_done (by kernel_rfl) ?_ _
              refine NoPanic.normal ?_
              go_wp2_with fail
              all_goals (go_ret; exact .inr (.inr ⟨by omega, HBB.out.symm, FIN.out _ _ _ _ OW3.out HB9.out⟩))
            refine AllReadyH.cons rfl (fun JJ hJJ => ?_) AllReadyH.nil
            go_simp
            refine hJJ.out _ _ trivial (fun hHeld => ?_)
            clear hJJ JJ
            refine wpAnyH_take (i := 17) (v := ?_) rfl (by kernel_rfl) (by kernel_rfl) (by kernel_rfl) (fun _ _ _ h => h) (Or.inl ⟨by kernel_rfl, ?_⟩) (by assumption) ?_
            rotate_left
            focus (intro w hSw; (try dsimp only at hSw); go_simp; (try with_reducible rfl); done)
            try simp only [List.getElem_toArray, List.getElem_cons_succ, List.getElem_cons_zero, Act.put, List.setIfInBounds_toArray, List.set_cons_zero, List.set_cons_succ]
            refine wpAnyH_ready (rs := [11]) (by kernel_rfl) (by simp) ?_
            refine AllReadyH.cons rfl (fun JJ hJJ => ?_) AllReadyH.nil
            (refine pushS rfl _ _ rfl (.slice V1 q c1) (.slice (some ⟨_, 0, none⟩) 1 1) (l.take q) [s] (fun k => some k ≠ (Value.slice V1 q c1).ownBlock) rfl rfl (lit_sl (E := 9) (cs := [.string s]) (by first | (simp only [heap_alloc_get] <;> simp <;> done) | (refine Eq.trans (HG1.out.block _ ?_ (ne_lit (by simp))) ?_; rotate_left; (simp only [heap_alloc_get, heap_drew_get] <;> simp <;> done); (simp <;> omega))) rfl (by first | exact ne_fresh OW1.out | exact ne_grown HAT1.out (ne_lit (by simp)) (by simp <;> omega))) (fun k hk => hk) (OW1.out.below (by (repeat (first | with_reducible exact (Below.refl _ _) | with_reducible apply Below.drew | with_reducible refine balloc ?_ _)))) (by (repeat (first | with_reducible exact (Below.refl _ _) | with_reducible exact HB7.out | with_reducible apply Below.drew | with_reducible refine balloc ?_ _))) LN2.out ?_; intro V2 n2 c2 w8 e2 ho2 hb8 hg2 hat2; rw [htl2.out] at e2; subst n2; have h0 := (hb8.cell hSl).trans x0; have hS8 := Nat.lt_of_lt_of_le hSl hb8.size; have OW2 := put ho2; have HB8 := put hb8; clear ho2 hg2 hat2 hb8)
            refine hJJ.out _ _ trivial (fun hHeld => ?_)
            clear hJJ JJ
            try simp only [List.getElem_toArray, List.getElem_cons_succ, List.getElem_cons_zero, Act.put, List.setIfInBounds_toArray, List.set_cons_zero, List.set_cons_succ]
            refine wpAnyH_ready (rs := [18]) (by kernel_rfl) (by simp) ?_
            refine AllReadyH.cons rfl (fun JJ hJJ => ?_) AllReadyH.nil
            (refine pushS rfl _ _ rfl (.slice V2 (q + 1) c2) (.slice (if c = q then A else A.map (fun x => x.add (q))) (m - q) (c - q)) (l.take q ++ [s]) (l.drop q) (fun k => k < wk.heap.size) rfl rfl (ODD.out.below (by (repeat (first | with_reducible exact (Below.refl _ _) | with_reducible exact HB8.out | with_reducible apply Below.drew | with_reducible refine balloc ?_ _)))) (fun k hk => ne_own OW2.out hk) (OW2.out.below (by (repeat (first | with_reducible exact (Below.refl _ _) | with_reducible apply Below.drew | with_reducible refine balloc ?_ _)))) (by (repeat (first | with_reducible exact (Below.refl _ _) | with_reducible exact HB8.out | with_reducible apply Below.drew | with_reducible refine balloc ?_ _))) LN3.out ?_; intro V3 l3 c3' w9 e3 ho3 hb9 hg3 hat3; have z0 := (hb9.cell hSl).trans x0; have f0 := frz hb9 hSh; have OW3 := put ho3; have HB9 := put hb9; clear ho3 hg3 hat3 hb9 e3)
            refine hJJ.out _ _ trivial (fun hHeld => ?_)
            clear hJJ JJ
            refine wpAnyH_take (i := 19) (v := ?_) rfl (by kernel_rfl) (by kernel_rfl) (by kernel_rfl) (fun _ _ _ h => h) (Or.inl ⟨by kernel_rfl, ?_⟩) (by assumption) ?_
            rotate_left
            focus (intro w hSw; (try dsimp only at hSw); go_simp; (try with_reducible rfl); done)
            refine wpAnyH_take (i := 20) (v := ?_) rfl (by kernel_rfl) (by kernel_rfl) (by kernel_rfl) (fun _ _ _ h => h) (Or.inl ⟨by kernel_rfl, ?_⟩) (by assumption) ?_
            rotate_left
            focus (intro w hSw; (try dsimp only at hSw); go_simp; (try with_reducible rfl); done)
            try simp only [List.getElem_toArray, List.getElem_cons_succ, List.getElem_cons_zero, Act.put, List.setIfInBounds_toArray, List.set_cons_zero, List.set_cons_succ]
            refine wpAnyH_ready (rs := [21]) (by kernel_rfl) (by simp) ?_
            refine AllReadyH.cons rfl (fun JJ hJJ => ?_) AllReadyH.nil
            go_simp
            refine hJJ.out _ _ trivial (fun hHeld => ?_)
            clear hJJ JJ
            try simp only [List.getElem_toArray, List.getElem_cons_succ, List.getElem_cons_zero, Act.put, List.setIfInBounds_toArray, List.set_cons_zero, List.set_cons_succ]
            refine wpAnyH_done (by kernel_rfl) ?_ _
            refine NoPanic.normal ?_
            go_wp2_with fail
            all_goals (go_ret; exact .inr (.inr ⟨by omega, HBB.out.symm, FIN.out _ _ _ _ OW3.out HB9.out⟩))
          refine AllReadyH.cons rfl (fun JJ hJJ => ?_) AllReadyH.nil
          go_simp
          refine hJJ.out _ _ trivial (fun hHeld => ?_)
          clear hJJ JJ
          refine wpAnyH_take (i := 17) (v := ?_) rfl (by kernel_rfl) (by kernel_rfl) (by kernel_rfl) (fun _ _ _ h => h) (Or.inl ⟨by kernel_rfl, ?_⟩) (by assumption) ?_
          rotate_left
          focus (intro w hSw; (try dsimp only at hSw); go_simp; (try with_reducible rfl); done)
          try simp only [List.getElem_toArray, List.getElem_cons_succ, List.getElem_cons_zero, Act.put, List.setIfInBounds_toArray, List.set_cons_zero, List.set_cons_succ]
          refine wpAnyH_ready (rs := [8]) (by kernel_rfl) (by simp) ?_
          refine AllReadyH.cons rfl (fun JJ hJJ => ?_) AllReadyH.nil
          (refine pushS rfl _ _ rfl (.slice (some ⟨_, 0, none⟩) 0 0) (.slice A q c) [] (l.take q) (fun k => k < wk.heap.size) rfl rfl (OT.out _ (by (repeat (first | with_reducible exact (Below.refl _ _) | with_reducible apply Below.drew | with_reducible refine balloc ?_ _)))) (fun k hk => ne_new hk (by (first | exact Nat.le_refl _ | exact Nat.le_succ _))) (Own.lit' _ (by (simp only [heap_alloc_get, heap_drew_get] <;> simp <;> done)) (by (first | exact Nat.le_refl _ | exact Nat.le_succ _))) (by (repeat (first | with_reducible exact (Below.refl _ _) | with_reducible apply Below.drew | with_reducible refine balloc ?_ _))) LN1.out ?_; intro V1 n1 c1 w7 e1 ho1 hb7 hg1 hat1; rw [htl1.out] at e1; subst n1; have g0 := (hb7.cell hSl).trans x0; have hS7 := Nat.lt_of_lt_of_le hSl hb7.size; have OW1 := put ho1; have HB7 := put hb7; have HG1 := put hg1; have HAT1 := put hat1; clear ho1 hg1 hat1 hb7)
          refine hJJ.out _ _ trivial (fun hHeld => ?_)
          clear hJJ JJ
          try simp only [List.getElem_toArray, List.getElem_cons_succ, List.getElem_cons_zero, Act.put, List.setIfInBounds_toArray, List.set_cons_zero, List.set_cons_succ]
          refine wpAnyH_ready (rs := [11]) (by kernel_rfl) (by simp) ?_
          refine AllReadyH.cons rfl (fun JJ hJJ => ?_) AllReadyH.nil
          (refine pushS rfl _ _ rfl (.slice V1 q c1) (.slice (some ⟨_, 0, none⟩) 1 1) (l.take q) [s] (fun k => some k ≠ (Value.slice V1 q c1).ownBlock) rfl rfl (lit_sl (E := 9) (cs := [.string s]) (by first | (simp only [heap_alloc_get] <;> simp <;> done) | (refine Eq.trans (HG1.out.block _ ?_ (ne_lit (by simp))) ?_; rotate_left; (simp only [heap_alloc_get, heap_drew_get] <;> simp <;> done); (simp <;> omega))) rfl (by first | exact ne_fresh OW1.out | exact ne_grown HAT1.out (ne_lit (by simp)) (by simp <;> omega))) (fun k hk => hk) (OW1.out.below (by (repeat (first | with_reducible exact (Below.refl _ _) | with_reducible apply Below.drew | with_reducible refine balloc ?_ _)))) (by (repeat (first | with_reducible exact (Below.refl _ _) | with_reducible exact HB7.out | with_reducible apply Below.drew | with_reducible refine balloc ?_ _))) LN2.out ?_; intro V2 n2 c2 w8 e2 ho2 hb8 hg2 hat2; rw [htl2.out] at e2; subst n2; have h0 := (hb8.cell hSl).trans x0; have hS8 := Nat.lt_of_lt_of_le hSl hb8.size; have OW2 := put ho2; have HB8 := put hb8; clear ho2 hg2 hat2 hb8)
          refine hJJ.out _ _ trivial (fun hHeld => ?_)
          clear hJJ JJ
          try simp only [List.getElem_toArray, List.getElem_cons_succ, List.getElem_cons_zero, Act.put, List.setIfInBounds_toArray, List.set_cons_zero, List.set_cons_succ]
          refine wpAnyH_ready (rs := [18]) (by kernel_rfl) (by simp) ?_
          refine AllReadyH.cons rfl (fun JJ hJJ => ?_) AllReadyH.nil
          (refine pushS rfl _ _ rfl (.slice V2 (q + 1) c2) (.slice (if c = q then A else A.map (fun x => x.add (q))) (m - q) (c - q)) (l.take q ++ [s]) (l.drop q) (fun k => k < wk.heap.size) rfl rfl (ODD.out.below (by (repeat (first | with_reducible exact (Below.refl _ _) | with_reducible exact HB8.out | with_reducible apply Below.drew | with_reducible refine balloc ?_ _)))) (fun k hk => ne_own OW2.out hk) (OW2.out.below (by (repeat (first | with_reducible exact (Below.refl _ _) | with_reducible apply Below.drew | with_reducible refine balloc ?_ _)))) (by (repeat (first | with_reducible exact (Below.refl _ _) | with_reducible exact HB8.out | with_reducible apply Below.drew | with_reducible refine balloc ?_ _))) LN3.out ?_; intro V3 l3 c3' w9 e3 ho3 hb9 hg3 hat3; have z0 := (hb9.cell hSl).trans x0; have f0 := frz hb9 hSh; have OW3 := put ho3; have HB9 := put hb9; clear ho3 hg3 hat3 hb9 e3)
          refine hJJ.out _ _ trivial (fun hHeld => ?_)
          clear hJJ JJ
          refine wpAnyH_take (i := 19) (v := ?_) rfl (by kernel_rfl) (by kernel_rfl) (by kernel_rfl) (fun _ _ _ h => h) (Or.inl ⟨by kernel_rfl, ?_⟩) (by assumption) ?_
          rotate_left
          focus (intro w hSw; (try dsimp only at hSw); go_simp; (try with_reducible rfl); done)
          refine wpAnyH_take (i := 20) (v := ?_) rfl (by kernel_rfl) (by kernel_rfl) (by kernel_rfl) (fun _ _ _ h => h) (Or.inl ⟨by kernel_rfl, ?_⟩) (by assumption) ?_
          rotate_left
          focus (intro w hSw; (try dsimp only at hSw); go_simp; (try with_reducible rfl); done)
          try simp only [List.getElem_toArray, List.getElem_cons_succ, List.getElem_cons_zero, Act.put, List.setIfInBounds_toArray, List.set_cons_zero, List.set_cons_succ]
          refine wpAnyH_ready (rs := [21]) (by kernel_rfl) (by simp) ?_
          refine AllReadyH.cons rfl (fun JJ hJJ => ?_) AllReadyH.nil
          go_simp
          refine hJJ.out _ _ trivial (fun hHeld => ?_)
          clear hJJ JJ
          try simp only [List.getElem_toArray, List.getElem_cons_succ, List.getElem_cons_zero, Act.put, List.setIfInBounds_toArray, List.set_cons_zero, List.set_cons_succ]
          refine wpAnyH_done (by kernel_rfl) ?_ _
          refine NoPanic.normal ?_
          go_wp2_with fail
          all_goals (go_ret; exact .inr (.inr ⟨by omega, HBB.out.symm, FIN.out _ _ _ _ OW3.out HB9.out⟩))
        refine AllReadyH.cons rfl (fun JJ hJJ => ?_) AllReadyH.nil
        go_simp
        refine hJJ.out _ _ trivial (fun hHeld => ?_)
        clear hJJ JJ
        refine wpAnyH_take (i := 17) (v := ?_) rfl (by kernel_rfl) (by kernel_rfl) (by kernel_rfl) (fun _ _ _ h => h) (Or.inl ⟨by kernel_rfl, ?_⟩) (by assumption) ?_
        rotate_left
        focus (intro w hSw; (try dsimp only at hSw); go_simp; (try with_reducible rfl); done)
        try simp only [List.getElem_toArray, List.getElem_cons_succ, List.getElem_cons_zero, Act.put, List.setIfInBounds_toArray, List.set_cons_zero, List.set_cons_succ]
        refine wpAnyH_ready (rs := [5]) (by kernel_rfl) (by simp) ?_
        refine AllReadyH.cons rfl (fun JJ hJJ => ?_) AllReadyH.nil
        go_simp
        refine hJJ.out _ _ trivial (fun hHeld => ?_)
        clear hJJ JJ
        refine wpAnyH_take (i := 7) (v := ?_) rfl (by kernel_rfl) (by kernel_rfl) (by kernel_rfl) (fun _ _ _ h => h) (Or.inl ⟨by kernel_rfl, ?_⟩) (by assumption) ?_
        rotate_left
        focus (intro w hSw; (try dsimp only at hSw); go_simp; (try with_reducible rfl); done)
        try simp only [List.getElem_toArray, List.getElem_cons_succ, List.getElem_cons_zero, Act.put, List.setIfInBounds_toArray, List.set_cons_zero, List.set_cons_succ]
        refine wpAnyH_ready (rs := [8]) (by kernel_rfl) (by simp) ?_
        refine AllReadyH.cons rfl (fun JJ hJJ => ?_) AllReadyH.nil
        (refine pushS rfl _ _ rfl (.slice (some ⟨_, 0, none⟩) 0 0) (.slice A q c) [] (l.take q) (fun k => k < wk.heap.size) rfl rfl (OT.out _ (by (repeat (first | with_reducible exact (Below.refl _ _) | with_reducible apply Below.drew | with_reducible refine balloc ?_ _)))) (fun k hk => ne_new hk (by (first | exact Nat.le_refl _ | exact Nat.le_succ _))) (Own.lit' _ (by (simp only [heap_alloc_get, heap_drew_get] <;> simp <;> done)) (by (first | exact Nat.le_refl _ | exact Nat.le_succ _))) (by (repeat (first | with_reducible exact (Below.refl _ _) | with_reducible apply Below.drew | with_reducible refine balloc ?_ _))) LN1.out ?_; intro V1 n1 c1 w7 e1 ho1 hb7 hg1 hat1; rw [htl1.out] at e1; subst n1; have g0 := (hb7.cell hSl).trans x0; have hS7 := Nat.lt_of_lt_of_le hSl hb7.size; have OW1 := put ho1; have HB7 := put hb7; have HG1 := put hg1; have HAT1 := put hat1; clear ho1 hg1 hat1 hb7)
        refine hJJ.out _ _ trivial (fun hHeld => ?_)
        clear hJJ JJ
        try simp only [List.getElem_toArray, List.getElem_cons_succ, List.getElem_cons_zero, Act.put, List.setIfInBounds_toArray, List.set_cons_zero, List.set_cons_succ]
        refine wpAnyH_ready (rs := [11]) (by kernel_rfl) (by simp) ?_
        refine AllReadyH.cons rfl (fun JJ hJJ => ?_) AllReadyH.nil
        (refine pushS rfl _ _ rfl (.slice V1 q c1) (.slice (some ⟨_, 0, none⟩) 1 1) (l.take q) [s] (fun k => some k ≠ (Value.slice V1 q c1).ownBlock) rfl rfl (lit_sl (E := 9) (cs := [.string s]) (by first | (simp only [heap_alloc_get] <;> simp <;> done) | (refine Eq.trans (HG1.out.block _ ?_ (ne_lit (by simp))) ?_; rotate_left; (simp only [heap_alloc_get, heap_drew_get] <;> simp <;> done); (simp <;> omega))) rfl (by first | exact ne_fresh OW1.out | exact ne_grown HAT1.out (ne_lit (by simp)) (by simp <;> omega))) (fun k hk => hk) (OW1.out.below (by (repeat (first | with_reducible exact (Below.refl _ _) | with_reducible apply Below.drew | with_reducible refine balloc ?_ _)))) (by (repeat (first | with_reducible exact (Below.refl _ _) | with_reducible exact HB7.out | with_reducible apply Below.drew | with_reducible refine balloc ?_ _))) LN2.out ?_; intro V2 n2 c2 w8 e2 ho2 hb8 hg2 hat2; rw [htl2.out] at e2; subst n2; have h0 := (hb8.cell hSl).trans x0; have hS8 := Nat.lt_of_lt_of_le hSl hb8.size; have OW2 := put ho2; have HB8 := put hb8; clear ho2 hg2 hat2 hb8)
        refine hJJ.out _ _ trivial (fun hHeld => ?_)
        clear hJJ JJ
        try simp only [List.getElem_toArray, List.getElem_cons_succ, List.getElem_cons_zero, Act.put, List.setIfInBounds_toArray, List.set_cons_zero, List.set_cons_succ]
        refine wpAnyH_ready (rs := [18]) (by kernel_rfl) (by simp) ?_
        refine AllReadyH.cons rfl (fun JJ hJJ => ?_) AllReadyH.nil
        (refine pushS rfl _ _ rfl (.slice V2 (q + 1) c2) (.slice (if c = q then A else A.map (fun x => x.add (q))) (m - q) (c - q)) (l.take q ++ [s]) (l.drop q) (fun k => k < wk.heap.size) rfl rfl (ODD.out.below (by (repeat (first | with_reducible exact (Below.refl _ _) | with_reducible exact HB8.out | with_reducible apply Below.drew | with_reducible refine balloc ?_ _)))) (fun k hk => ne_own OW2.out hk) (OW2.out.below (by (repeat (first | with_reducible exact (Below.refl _ _) | with_reducible apply Below.drew | with_reducible refine balloc ?_ _)))) (by (repeat (first | with_reducible exact (Below.refl _ _) | with_reducible exact HB8.out | with_reducible apply Below.drew | with_reducible refine balloc ?_ _))) LN3.out ?_; intro V3 l3 c3' w9 e3 ho3 hb9 hg3 hat3; have z0 := (hb9.cell hSl).trans x0; have f0 := frz hb9 hSh; have OW3 := put ho3; have HB9 := put hb9; clear ho3 hg3 hat3 hb9 e3)
        refine hJJ.out _ _ trivial (fun hHeld => ?_)
        clear hJJ JJ
        refine wpAnyH_take (i := 19) (v := ?_) rfl (by kernel_rfl) (by kernel_rfl) (by kernel_rfl) (fun _ _ _ h => h) (Or.inl ⟨by kernel_rfl, ?_⟩) (by assumption) ?_
        rotate_left
        focus (intro w hSw; (try dsimp only at hSw); go_simp; (try with_reducible rfl); done)
        refine wpAnyH_take (i := 20) (v := ?_) rfl (by kernel_rfl) (by kernel_rfl) (by kernel_rfl) (fun _ _ _ h => h) (Or.inl ⟨by kernel_rfl, ?_⟩) (by assumption) ?_
        rotate_left
        focus (intro w hSw; (try dsimp only at hSw); go_simp; (try with_reducible rfl); done)
        try simp only [List.getElem_toArray, List.getElem_cons_succ, List.getElem_cons_zero, Act.put, List.setIfInBounds_toArray, List.set_cons_zero, List.set_cons_succ]
        refine wpAnyH_ready (rs := [21]) (by kernel_rfl) (by simp) ?_
        refine AllReadyH.cons rfl (fun JJ hJJ => ?_) AllReadyH.nil
        go_simp
        refine hJJ.out _ _ trivial (fun hHeld => ?_)
        clear hJJ JJ
        try simp only [List.getElem_toArray, List.getElem_cons_succ, List.getElem_cons_zero, Act.put, List.setIfInBounds_toArray, List.set_cons_zero, List.set_cons_succ]
        refine wpAnyH_done (by kernel_rfl) ?_ _
        refine NoPanic.normal ?_
        go_wp2_with fail
        all_goals (go_ret; exact .inr (.inr ⟨by omega, HBB.out.symm, FIN.out _ _ _ _ OW3.out HB9.out⟩))
      refine AllReadyH.cons rfl (fun JJ hJJ => ?_) AllReadyH.nil
      go_simp
      refine hJJ.out _ _ trivial (fun hHeld => ?_)
      clear hJJ JJ
      refine wpAnyH_take (i := 17) (v := ?_) rfl (by kernel_rfl) (by kernel_rfl) (by kernel_rfl) (fun _ _ _ h => h) (Or.inl ⟨by kernel_rfl, ?_⟩) (by assumption) ?_
      rotate_left
      focus (intro w hSw; (try dsimp only at hSw); go_simp; (try with_reducible rfl); done)
      try simp only [List.getElem_toArray, List.getElem_cons_succ, List.getElem_cons_zero, Act.put, List.setIfInBounds_toArray, List.set_cons_zero, List.set_cons_succ]
      refine wpAnyH_ready (rs := [5, 10]) (by kernel_rfl) (by simp) ?_
      refine AllReadyH.cons rfl (fun JJ hJJ => ?_) ?_
      · go_simp
        refine hJJ.out _ _ trivial (fun hHeld => ?_)
        clear hJJ JJ
        refine wpAnyH_take (i := 7) (v := ?_) rfl (by kernel_rfl) (by kernel_rfl) (by kernel_rfl) (fun _ _ _ h => h) (Or.inl ⟨by kernel_rfl, ?_⟩) (by assumption) ?_
        rotate_left
        focus (intro w hSw; (try dsimp only at hSw); go_simp; (try with_reducible rfl); done)
        try simp only [List.getElem_toArray, List.getElem_cons_succ, List.getElem_cons_zero, Act.put, List.setIfInBounds_toArray, List.set_cons_zero, List.set_cons_succ]
        refine wpAnyH_ready (rs := [8, 10]) (by kernel_rfl) (by simp) ?_
        refine AllReadyH.cons rfl (fun JJ hJJ => ?_) ?_
        · (refine pushS rfl _ _ rfl (.slice (some ⟨_, 0, none⟩) 0 0) (.slice A q c) [] (l.take q) (fun k => k < wk.heap.size) rfl rfl (OT.out _ (by (repeat (first | with_reducible exact (Below.refl _ _) | with_reducible apply Below.drew | with_reducible refine balloc ?_ _)))) (fun k hk => ne_new hk (by (first | exact Nat.le_refl _ | exact Nat.le_succ _))) (Own.lit' _ (by (simp only [heap_alloc_get, heap_drew_get] <;> simp <;> done)) (by (first | exact Nat.le_refl _ | exact Nat.le_succ _))) (by (repeat (first | with_reducible exact (Below.refl _ _) | with_reducible apply Below.drew | with_reducible refine balloc ?_ _))) LN1.out ?_; intro V1 n1 c1 w7 e1 ho1 hb7 hg1 hat1; rw [htl1.out] at e1; subst n1; have g0 := (hb7.cell hSl).trans x0; have hS7 := Nat.lt_of_lt_of_le hSl hb7.size; have OW1 := put ho1; have HB7 := put hb7; have HG1 := put hg1; have HAT1 := put hat1; clear ho1 hg1 hat1 hb7)
          refine hJJ.out _ _ trivial (fun hHeld => ?_)
          clear hJJ JJ
          try simp only [List.getElem_toArray, List.getElem_cons_succ, List.getElem_cons_zero, Act.put, List.setIfInBounds_toArray, List.set_cons_zero, List.set_cons_succ]
          refine wpAnyH_ready (rs := [10]) (by kernel_rfl) (by simp) ?_
          refine AllReadyH.cons rfl (fun JJ hJJ => ?_) AllReadyH.nil
          go_simp
          refine hJJ.out _ _ trivial (fun hHeld => ?_)
          clear hJJ JJ
          try simp only [List.getElem_toArray, List.getElem_cons_succ, List.getElem_cons_zero, Act.put, List.setIfInBounds_toArray, List.set_cons_zero, List.set_cons_succ]
          refine wpAnyH_ready (rs := [11]) (by kernel_rfl) (by simp) ?_
          refine AllReadyH.cons rfl (fun JJ hJJ => ?_) AllReadyH.nil
          (refine pushS rfl _ _ rfl (.slice V1 q c1) (.slice (some ⟨_, 0, none⟩) 1 1) (l.take q) [s] (fun k => some k ≠ (Value.slice V1 q c1).ownBlock) rfl rfl (lit_sl (E := 9) (cs := [.string s]) (by first | (simp only [heap_alloc_get] <;> simp <;> done) | (refine Eq.trans (HG1.out.block _ ?_ (ne_lit (by simp))) ?_; rotate_left; (simp only [heap_alloc_get, heap_drew_get] <;> simp <;> done); (simp <;> omega))) rfl (by first | exact ne_fresh OW1.out | exact ne_grown HAT1.out (ne_lit (by simp)) (by simp <;> omega))) (fun k hk => hk) (OW1.out.below (by (repeat (first | with_reducible exact (Below.refl _ _) | with_reducible apply Below.drew | with_reducible refine balloc ?_ _)))) (by (repeat (first | with_reducible exact (Below.refl _ _) | with_reducible exact HB7.out | with_reducible apply Below.drew | with_reducible refine balloc ?_ _))) LN2.out ?_; intro V2 n2 c2 w8 e2 ho2 hb8 hg2 hat2; rw [htl2.out] at e2; subst n2; have h0 := (hb8.cell hSl).trans x0; have hS8 := Nat.lt_of_lt_of_le hSl hb8.size; have OW2 := put ho2; have HB8 := put hb8; clear ho2 hg2 hat2 hb8)
          refine hJJ.out _ _ trivial (fun hHeld => ?_)
          clear hJJ JJ
          try simp only [List.getElem_toArray, List.getElem_cons_succ, List.getElem_cons_zero, Act.put, List.setIfInBounds_toArray, List.set_cons_zero, List.set_cons_succ]
          refine wpAnyH_ready (rs := [18]) (by kernel_rfl) (by simp) ?_
          refine AllReadyH.cons rfl (fun JJ hJJ => ?_) AllReadyH.nil
          (refine pushS rfl _ _ rfl (.slice V2 (q + 1) c2) (.slice (if c = q then A else A.map (fun x => x.add (q))) (m - q) (c - q)) (l.take q ++ [s]) (l.drop q) (fun k => k < wk.heap.size) rfl rfl (ODD.out.below (by (repeat (first | with_reducible exact (Below.refl _ _) | with_reducible exact HB8.out | with_reducible apply Below.drew | with_reducible refine balloc ?_ _)))) (fun k hk => ne_own OW2.out hk) (OW2.out.below (by (repeat (first | with_reducible exact (Below.refl _ _) | with_reducible apply Below.drew | with_reducible refine balloc ?_ _)))) (by (repeat (first | with_reducible exact (Below.refl _ _) | with_reducible exact HB8.out | with_reducible apply Below.drew | with_reducible refine balloc ?_ _))) LN3.out ?_; intro V3 l3 c3' w9 e3 ho3 hb9 hg3 hat3; have z0 := (hb9.cell hSl).trans x0; have f0 := frz hb9 hSh; have OW3 := put ho3; have HB9 := put hb9; clear ho3 hg3 hat3 hb9 e3)
          refine hJJ.out _ _ trivial (fun hHeld => ?_)
          clear hJJ JJ
          refine wpAnyH_take (i := 19) (v := ?_) rfl (by kernel_rfl) (by kernel_rfl) (by kernel_rfl) (fun _ _ _ h => h) (Or.inl ⟨by kernel_rfl, ?_⟩) (by assumption) ?_
          rotate_left
          focus (intro w hSw; (try dsimp only at hSw); go_simp; (try with_reducible rfl); done)
          refine wpAnyH_take (i := 20) (v := ?_) rfl (by kernel_rfl) (by kernel_rfl) (by kernel_rfl) (fun _ _ _ h => h) (Or.inl ⟨by kernel_rfl, ?_⟩) (by assumption) ?_
          rotate_left
          focus (intro w hSw; (try dsimp only at hSw); go_simp; (try with_reducible rfl); done)
          try simp only [List.getElem_toArray, List.getElem_cons_succ, List.getElem_cons_zero, Act.put, List.setIfInBounds_toArray, List.set_cons_zero, List.set_cons_succ]
          refine wpAnyH_ready (rs := [21]) (by kernel_rfl) (by simp) ?_
          refine AllReadyH.cons rfl (fun JJ hJJ => ?_) AllReadyH.nil
          go_simp
          refine hJJ.out _ _ trivial (fun hHeld => ?_)
          clear hJJ JJ
          try simp only [List.getElem_toArray, List.getElem_cons_succ, List.getElem_cons_zero, Act.put, List.setIfInBounds_toArray, List.set_cons_zero, List.set_cons_succ]
          refine wpAnyH_done (by kernel_rfl) ?_ _
          refine NoPanic.normal ?_
          go_wp2_with fail
          all_goals (go_ret; exact .inr (.inr ⟨by omega, HBB.out.symm, FIN.out _ _ _ _ OW3.out HB9.out⟩))
        refine AllReadyH.cons rfl (fun JJ hJJ => ?_) AllReadyH.nil
        go_simp
        refine hJJ.out _ _ trivial (fun hHeld => ?_)
        clear hJJ JJ
        try simp only [List.getElem_toArray, List.getElem_cons_succ, List.getElem_cons_zero, Act.put, List.setIfInBounds_toArray, List.set_cons_zero, List.set_cons_succ]
        refine wpAnyH_ready (rs := [8]) (by kernel_rfl) (by simp) ?_
        refine AllReadyH.cons rfl (fun JJ hJJ => ?_) AllReadyH.nil
        (refine pushS rfl _ _ rfl (.slice (some ⟨_, 0, none⟩) 0 0) (.slice A q c) [] (l.take q) (fun k => k < wk.heap.size) rfl rfl (OT.out _ (by (repeat (first | with_reducible exact (Below.refl _ _) | with_reducible apply Below.drew | with_reducible refine balloc ?_ _)))) (fun k hk => ne_new hk (by (first | exact Nat.le_refl _ | exact Nat.le_succ _))) (Own.lit' _ (by (simp only [heap_alloc_get, heap_drew_get] <;> simp <;> done)) (by (first | exact Nat.le_refl _ | exact Nat.le_succ _))) (by (repeat (first | with_reducible exact (Below.refl _ _) | with_reducible apply Below.drew | with_reducible refine balloc ?_ _))) LN1.out ?_; intro V1 n1 c1 w7 e1 ho1 hb7 hg1 hat1; rw [htl1.out] at e1; subst n1; have g0 := (hb7.cell hSl).trans x0; have hS7 := Nat.lt_of_lt_of_le hSl hb7.size; have OW1 := put ho1; have HB7 := put hb7; have HG1 := put hg1; have HAT1 := put hat1; clear ho1 hg1 hat1 hb7)
        refine hJJ.out _ _ trivial (fun hHeld => ?_)
        clear hJJ JJ
        try simp only [List.getElem_toArray, List.getElem_cons_succ, List.getElem_cons_zero, Act.put, List.setIfInBounds_toArray, List.set_cons_zero, List.set_cons_succ]
        refine wpAnyH_ready (rs := [11]) (by kernel_rfl) (by simp) ?_
        refine AllReadyH.cons rfl (fun JJ hJJ => ?_) AllReadyH.nil
        (refine pushS rfl _ _ rfl (.slice V1 q c1) (.slice (some ⟨_, 0, none⟩) 1 1) (l.take q) [s] (fun k => some k ≠ (Value.slice V1 q c1).ownBlock) rfl rfl (lit_sl (E := 9) (cs := [.string s]) (by first | (simp only [heap_alloc_get] <;> simp <;> done) | (refine Eq.trans (HG1.out.block _ ?_ (ne_lit (by simp))) ?_; rotate_left; (simp only [heap_alloc_get, heap_drew_get] <;> simp <;> done); (simp <;> omega))) rfl (by first | exact ne_fresh OW1.out | exact ne_grown HAT1.out (ne_lit (by simp)) (by simp <;> omega))) (fun k hk => hk) (OW1.out.below (by (repeat (first | with_reducible exact (Below.refl _ _) | with_reducible apply Below.drew | with_reducible refine balloc ?_ _)))) (by (repeat (first | with_reducible exact (Below.refl _ _) | with_reducible exact HB7.out | with_reducible apply Below.drew | with_reducible refine balloc ?_ _))) LN2.out ?_; intro V2 n2 c2 w8 e2 ho2 hb8 hg2 hat2; rw [htl2.out] at e2; subst n2; have h0 := (hb8.cell hSl).trans x0; have hS8 := Nat.lt_of_lt_of_le hSl hb8.size; have OW2 := put ho2; have HB8 := put hb8; clear ho2 hg2 hat2 hb8)
        refine hJJ.out _ _ trivial (fun hHeld => ?_)
        clear hJJ JJ
        try simp only [List.getElem_toArray, List.getElem_cons_succ, List.getElem_cons_zero, Act.put, List.setIfInBounds_toArray, List.set_cons_zero, List.set_cons_succ]
        refine wpAnyH_ready (rs := [18]) (by kernel_rfl) (by simp) ?_
        refine AllReadyH.cons rfl (fun JJ hJJ => ?_) AllReadyH.nil
        (refine pushS rfl _ _ rfl (.slice V2 (q + 1) c2) (.slice (if c = q then A else A.map (fun x => x.add (q))) (m - q) (c - q)) (l.take q ++ [s]) (l.drop q) (fun k => k < wk.heap.size) rfl rfl (ODD.out.below (by (repeat (first | with_reducible exact (Below.refl _ _) | with_reducible exact HB8.out | with_reducible apply Below.drew | with_reducible refine balloc ?_ _)))) (fun k hk => ne_own OW2.out hk) (OW2.out.below (by (repeat (first | with_reducible exact (Below.refl _ _) | with_reducible apply Below.drew | with_reducible refine balloc ?_ _)))) (by (repeat (first | with_reducible exact (Below.refl _ _) | with_reducible exact HB8.out | with_reducible apply Below.drew | with_reducible refine balloc ?_ _))) LN3.out ?_; intro V3 l3 c3' w9 e3 ho3 hb9 hg3 hat3; have z0 := (hb9.cell hSl).trans x0; have f0 := frz hb9 hSh; have OW3 := put ho3; have HB9 := put hb9; clear ho3 hg3 hat3 hb9 e3)
        refine hJJ.out _ _ trivial (fun hHeld => ?_)
        clear hJJ JJ
        refine wpAnyH_take (i := 19) (v := ?_) rfl (by kernel_rfl) (by kernel_rfl) (by kernel_rfl) (fun _ _ _ h => h) (Or.inl ⟨by kernel_rfl, ?_⟩) (by assumption) ?_
        rotate_left
        focus (intro w hSw; (try dsimp only at hSw); go_simp; (try with_reducible rfl); done)
        refine wpAnyH_take (i := 20) (v := ?_) rfl (by kernel_rfl) (by kernel_rfl) (by kernel_rfl) (fun _ _ _ h => h) (Or.inl ⟨by kernel_rfl, ?_⟩) (by assumption) ?_
        rotate_left
        focus (intro w hSw; (try dsimp only at hSw); go_simp; (try with_reducible rfl); done)
        try simp only [List.getElem_toArray, List.getElem_cons_succ, List.getElem_cons_zero, Act.put, List.setIfInBounds_toArray, List.set_cons_zero, List.set_cons_succ]
        refine wpAnyH_ready (rs := [21]) (by kernel_rfl) (by simp) ?_
        refine AllReadyH.cons rfl (fun JJ hJJ => ?_) AllReadyH.nil
        go_simp
        refine hJJ.out _ _ trivial (fun hHeld => ?_)
        clear hJJ JJ
        try simp only [List.getElem_toArray, List.getElem_cons_succ, List.getElem_cons_zero, Act.put, List.setIfInBounds_toArray, List.set_cons_zero, List.set_cons_succ]
        refine wpAnyH_done (by kernel_rfl) ?_ _
        refine NoPanic.normal ?_
        go_wp2_with fail
        all_goals (go_ret; exact .inr (.inr ⟨by omega, HBB.out.symm, FIN.out _ _ _ _ OW3.out HB9.out⟩))
      refine AllReadyH.cons rfl (fun JJ hJJ => ?_) AllReadyH.nil
      go_simp
      refine hJJ.out _ _ trivial (fun hHeld => ?_)
      clear hJJ JJ
      try simp only [List.getElem_toArray, List.getElem_cons_succ, List.getElem_cons_zero, Act.put, List.setIfInBounds_toArray, List.set_cons_zero, List.set_cons_succ]
      refine wpAnyH_ready (rs := [5]) (by kernel_rfl) (by simp) ?_
      refine AllReadyH.cons rfl (fun JJ hJJ => ?_) AllReadyH.nil
      go_simp
      refine hJJ.out _ _ trivial (fun hHeld => ?_)
      clear hJJ JJ
      refine wpAnyH_take (i := 7) (v := ?_) rfl (by kernel_rfl) (by kernel_rfl) (by kernel_rfl) (fun _ _ _ h => h) (Or.inl ⟨by kernel_rfl, ?_⟩) (by assumption) ?_
      rotate_left
      focus (intro w hSw; (try dsimp only at hSw); go_simp; (try with_reducible rfl); done)
      try simp only [List.getElem_toArray, List.getElem_cons_succ, List.getElem_cons_zero, Act.put, List.setIfInBounds_toArray, List.set_cons_zero, List.set_cons_succ]
      refine wpAnyH_ready (rs := [8]) (by kernel_rfl) (by simp) ?_
      refine AllReadyH.cons rfl (fun JJ hJJ => ?_) AllReadyH.nil
      (refine pushS rfl _ _ rfl (.slice (some ⟨_, 0, none⟩) 0 0) (.slice A q c) [] (l.take q) (fun k => k < wk.heap.size) rfl rfl (OT.out _ (by (repeat (first | with_reducible exact (Below.refl _ _) | with_reducible apply Below.drew | with_reducible refine balloc ?_ _)))) (fun k hk => ne_new hk (by (first | exact Nat.le_refl _ | exact Nat.le_succ _))) (Own.lit' _ (by (simp only [heap_alloc_get, heap_drew_get] <;> simp <;> done)) (by (first | exact Nat.le_refl _ | exact Nat.le_succ _))) (by (repeat (first | with_reducible exact (Below.refl _ _) | with_reducible apply Below.drew | with_reducible refine balloc ?_ _))) LN1.out ?_; intro V1 n1 c1 w7 e1 ho1 hb7 hg1 hat1; rw [htl1.out] at e1; subst n1; have g0 := (hb7.cell hSl).trans x0; have hS7 := Nat.lt_of_lt_of_le hSl hb7.size; have OW1 := put ho1; have HB7 := put hb7; have HG1 := put hg1; have HAT1 := put hat1; clear ho1 hg1 hat1 hb7)
      refine hJJ.out _ _ trivial (fun hHeld => ?_)
      clear hJJ JJ
      try simp only [List.getElem_toArray, List.getElem_cons_succ, List.getElem_cons_zero, Act.put, List.setIfInBounds_toArray, List.set_cons_zero, List.set_cons_succ]
      refine wpAnyH_ready (rs := [11]) (by kernel_rfl) (by simp) ?_
      refine AllReadyH.cons rfl (fun JJ hJJ => ?_) AllReadyH.nil
      (refine pushS rfl _ _ rfl (.slice V1 q c1) (.slice (some ⟨_, 0, none⟩) 1 1) (l.take q) [s] (fun k => some k ≠ (Value.slice V1 q c1).ownBlock) rfl rfl (lit_sl (E := 9) (cs := [.string s]) (by first | (simp only [heap_alloc_get] <;> simp <;> done) | (refine Eq.trans (HG1.out.block _ ?_ (ne_lit (by simp))) ?_; rotate_left; (simp only [heap_alloc_get, heap_drew_get] <;> simp <;> done); (simp <;> omega))) rfl (by first | exact ne_fresh OW1.out | exact ne_grown HAT1.out (ne_lit (by simp)) (by simp <;> omega))) (fun k hk => hk) (OW1.out.below (by (repeat (first | with_reducible exact (Below.refl _ _) | with_reducible apply Below.drew | with_reducible refine balloc ?_ _)))) (by (repeat (first | with_reducible exact (Below.refl _ _) | with_reducible exact HB7.out | with_reducible apply Below.drew | with_reducible refine balloc ?_ _))) LN2.out ?_; intro V2 n2 c2 w8 e2 ho2 hb8 hg2 hat2; rw [htl2.out] at e2; subst n2; have h0 := (hb8.cell hSl).trans x0; have hS8 := Nat.lt_of_lt_of_le hSl hb8.size; have OW2 := put ho2; have HB8 := put hb8; clear ho2 hg2 hat2 hb8)
      refine hJJ.out _ _ trivial (fun hHeld => ?_)
      clear hJJ JJ
      try simp only [List.getElem_toArray, List.getElem_cons_succ, List.getElem_cons_zero, Act.put, List.setIfInBounds_toArray, List.set_cons_zero, List.set_cons_succ]
      refine wpAnyH_ready (rs := [18]) (by kernel_rfl) (by simp) ?_
      refine AllReadyH.cons rfl (fun JJ hJJ => ?_) AllReadyH.nil
      (refine pushS rfl _ _ rfl (.slice V2 (q + 1) c2) (.slice (if c = q then A else A.map (fun x => x.add (q))) (m - q) (c - q)) (l.take q ++ [s]) (l.drop q) (fun k => k < wk.heap.size) rfl rfl (ODD.out.below (by (repeat (first | with_reducible exact (Below.refl _ _) | with_reducible exact HB8.out | with_reducible apply Below.drew | with_reducible refine balloc ?_ _)))) (fun k hk => ne_own OW2.out hk) (OW2.out.below (by (repeat (first | with_reducible exact (Below.refl _ _) | with_reducible apply Below.drew | with_reducible refine balloc ?_ _)))) (by (repeat (first | with_reducible exact (Below.refl _ _) | with_reducible exact HB8.out | with_reducible apply Below.drew | with_reducible refine balloc ?_ _))) LN3.out ?_; intro V3 l3 c3' w9 e3 ho3 hb9 hg3 hat3; have z0 := (hb9.cell hSl).trans x0; have f0 := frz hb9 hSh; have OW3 := put ho3; have HB9 := put hb9; clear ho3 hg3 hat3 hb9 e3)
      refine hJJ.out _ _ trivial (fun hHeld => ?_)
      clear hJJ JJ
      refine wpAnyH_take (i := 19) (v := ?_) rfl (by kernel_rfl) (by kernel_rfl) (by kernel_rfl) (fun _ _ _ h => h) (Or.inl ⟨by kernel_rfl, ?_⟩) (by assumption) ?_
      rotate_left
      focus (intro w hSw; (try dsimp only at hSw); go_simp; (try with_reducible rfl); done)
      refine wpAnyH_take (i := 20) (v := ?_) rfl (by kernel_rfl) (by kernel_rfl) (by kernel_rfl) (fun _ _ _ h => h) (Or.inl ⟨by kernel_rfl, ?_⟩) (by assumption) ?_
      rotate_left
      focus (intro w hSw; (try dsimp only at hSw); go_simp; (try with_reducible rfl); done)
      try simp only [List.getElem_toArray, List.getElem_cons_succ, List.getElem_cons_zero, Act.put, List.setIfInBounds_toArray, List.set_cons_zero, List.set_cons_succ]
      refine wpAnyH_ready (rs := [21]) (by kernel_rfl) (by simp) ?_
      refine AllReadyH.cons rfl (fun JJ hJJ => ?_) AllReadyH.nil
      go_simp
      refine hJJ.out _ _ trivial (fun hHeld => ?_)
      clear hJJ JJ
      try simp only [List.getElem_toArray, List.getElem_cons_succ, List.getElem_cons_zero, Act.put, List.setIfInBounds_toArray, List.set_cons_zero, List.set_cons_succ]
      refine wpAnyH_done (by kernel_rfl) ?_ _
      refine NoPanic.normal ?_
      go_wp2_with fail
      all_goals (go_ret; exact .inr (.inr ⟨by omega, HBB.out.symm, FIN.out _ _ _ _ OW3.out HB9.out⟩))
    refine AllReadyH.cons rfl (fun JJ hJJ => ?_) ?_
    · go_simp
      refine hJJ.out _ _ trivial (fun hHeld => ?_)
      clear hJJ JJ
      refine wpAnyH_take (i := 7) (v := ?_) rfl (by kernel_rfl) (by kernel_rfl) (by kernel_rfl) (fun _ _ _ h => h) (Or.inl ⟨by kernel_rfl, ?_⟩) (by assumption) ?_
      rotate_left
      focus (intro w hSw; (try dsimp only at hSw); go_simp; (try with_reducible rfl); done)
      try simp only [List.getElem_toArray, List.getElem_cons_succ, List.getElem_cons_zero, Act.put, List.setIfInBounds_toArray, List.set_cons_zero, List.set_cons_succ]
      refine wpAnyH_ready (rs := [1, 10, 15]) (by kernel_rfl) (by simp) ?_
      refine AllReadyH.cons rfl (fun JJ hJJ => ?_) ?_
      · go_simp
        refine hJJ.out _ _ trivial (fun hHeld => ?_)
        clear hJJ JJ
        try simp only [List.getElem_toArray, List.getElem_cons_succ, List.getElem_cons_zero, Act.put, List.setIfInBounds_toArray, List.set_cons_zero, List.set_cons_succ]
        refine wpAnyH_ready (rs := [8, 10, 15]) (by kernel_rfl) (by simp) ?_
        refine AllReadyH.cons rfl (fun JJ hJJ => ?_) ?_
        · (refine pushS rfl _ _ rfl (.slice (some ⟨_, 0, none⟩) 0 0) (.slice A q c) [] (l.take q) (fun k => k < wk.heap.size) rfl rfl (OT.out _ (by (repeat (first | with_reducible exact (Below.refl _ _) | with_reducible apply Below.drew | with_reducible refine balloc ?_ _)))) (fun k hk => ne_new hk (by (first | exact Nat.le_refl _ | exact Nat.le_succ _))) (Own.lit' _ (by (simp only [heap_alloc_get, heap_drew_get] <;> simp <;> done)) (by (first | exact Nat.le_refl _ | exact Nat.le_succ _))) (by (repeat (first | with_reducible exact (Below.refl _ _) | with_reducible apply Below.drew | with_reducible refine balloc ?_ _))) LN1.out ?_; intro V1 n1 c1 w7 e1 ho1 hb7 hg1 hat1; rw [htl1.out] at e1; subst n1; have g0 := (hb7.cell hSl).trans x0; have hS7 := Nat.lt_of_lt_of_le hSl hb7.size; have OW1 := put ho1; have HB7 := put hb7; have HG1 := put hg1; have HAT1 := put hat1; clear ho1 hg1 hat1 hb7)
          refine hJJ.out _ _ trivial (fun hHeld => ?_)
          clear hJJ JJ
          try simp only [List.getElem_toArray, List.getElem_cons_succ, List.getElem_cons_zero, Act.put, List.setIfInBounds_toArray, List.set_cons_zero, List.set_cons_succ]
          refine wpAnyH_ready (rs := [10, 15]) (by kernel_rfl) (by simp) ?_
          refine AllReadyH.cons rfl (fun JJ hJJ => ?_) ?_
          · go_simp
            refine hJJ.out _ _ trivial (fun hHeld => ?_)
            clear hJJ JJ
            try simp only [List.getElem_toArray, List.getElem_cons_succ, List.getElem_cons_zero, Act.put, List.setIfInBounds_toArray, List.set_cons_zero, List.set_cons_succ]
            refine wpAnyH_ready (rs := [11, 15]) (by kernel_rfl) (by simp) ?_
            refine AllReadyH.cons rfl (fun JJ hJJ => ?_) ?_
            · (refine pushS rfl _ _ rfl (.slice V1 q c1) (.slice (some ⟨_, 0, none⟩) 1 1) (l.take q) [s] (fun k => some k ≠ (Value.slice V1 q c1).ownBlock) rfl rfl (lit_sl (E := 9) (cs := [.string s]) (by first | (simp only [heap_alloc_get] <;> simp <;> done) | (refine Eq.trans (HG1.out.block _ ?_ (ne_lit (by simp))) ?_; rotate_left; (simp only [heap_alloc_get, heap_drew_get] <;> simp <;> done); (simp <;> omega))) rfl (by first | exact ne_fresh OW1.out | exact ne_grown HAT1.out (ne_lit (by simp)) (by simp <;> omega))) (fun k hk => hk) (OW1.out.below (by (repeat (first | with_reducible exact (Below.refl _ _) | with_reducible apply Below.drew | with_reducible refine balloc ?_ _)))) (by (repeat (first | with_reducible exact (Below.refl _ _) | with_reducible exact HB7.out | with_reducible apply Below.drew | with_reducible refine balloc ?_ _))) LN2.out ?_; intro V2 n2 c2 w8 e2 ho2 hb8 hg2 hat2; rw [htl2.out] at e2; subst n2; have h0 := (hb8.cell hSl).trans x0; have hS8 := Nat.lt_of_lt_of_le hSl hb8.size; have OW2 := put ho2; have HB8 := put hb8; clear ho2 hg2 hat2 hb8)
              refine hJJ.out _ _ trivial (fun hHeld => ?_)
              clear hJJ JJ
              try simp only [List.getElem_toArray, List.getElem_cons_succ, List.getElem_cons_zero, Act.put, List.setIfInBounds_toArray, List.set_cons_zero, List.set_cons_succ]
              refine wpAnyH_ready (rs := [15]) (by kernel_rfl) (by simp) ?_
              refine AllReadyH.cons rfl (fun JJ hJJ => ?_) AllReadyH.nil
              go_simp
              refine hJJ.out _ _ trivial (fun hHeld => ?_)
              clear hJJ JJ
              refine wpAnyH_take (i := 17) (v := ?_) rfl (by kernel_rfl) (by kernel_rfl) (by kernel_rfl) (fun _ _ _ h => h) (Or.inl ⟨by kernel_rfl, ?_⟩) (by assumption) ?_
              rotate_left
              focus (intro w hSw; (try dsimp only at hSw); go_simp; (try with_reducible rfl); done)
              try simp only [List.getElem_toArray, List.getElem_cons_succ, List.getElem_cons_zero, Act.put, List.setIfInBounds_toArray, List.set_cons_zero, List.set_cons_succ]
              refine wpAnyH_ready (rs := [18]) (by kernel_rfl) (by simp) ?_
              refine AllReadyH.cons rfl (fun JJ hJJ => ?_) AllReadyH.nil
              (refine pushS rfl _ _ rfl (.slice V2 (q + 1) c2) (.slice (if c = q then A else A.map (fun x => x.add (q))) (m - q) (c - q)) (l.take q ++ [s]) (l.drop q) (fun k => k < wk.heap.size) rfl rfl (ODD.out.below (by (repeat (first | with_reducible exact (Below.refl _ _) | with_reducible exact HB8.out | with_reducible apply Below.drew | with_reducible refine balloc ?_ _)))) (fun k hk => ne_own OW2.out hk) (OW2.out.below (by (repeat (first | with_reducible exact (Below.refl _ _) | with_reducible apply Below.drew | with_reducible refine balloc ?_ _)))) (by (repeat (first | with_reducible exact (Below.refl _ _) | with_reducible exact HB8.out | with_reducible apply Below.drew | with_reducible refine balloc ?_ _))) LN3.out ?_; intro V3 l3 c3' w9 e3 ho3 hb9 hg3 hat3; have z0 := (hb9.cell hSl).trans x0; have f0 := frz hb9 hSh; have OW3 := put ho3; have HB9 := put hb9; clear ho3 hg3 hat3 hb9 e3)
              refine hJJ.out _ _ trivial (fun hHeld => ?_)
              clear hJJ JJ
              refine wpAnyH_take (i := 19) (v := ?_) rfl (by kernel_rfl) (by kernel_rfl) (by kernel_rfl) (fun _ _ _ h => h) (Or.inl ⟨by kernel_rfl, ?_⟩) (by assumption) ?_
              rotate_left
              focus (intro w hSw; (try dsimp only at hSw); go_simp; (try with_reducible rfl); done)
              refine wpAnyH_take (i := 20) (v := ?_) rfl (by kernel_rfl) (by kernel_rfl) (by kernel_rfl) (fun _ _ _ h => h) (Or.inl ⟨by kernel_rfl, ?_⟩) (by assumption) ?_
              rotate_left
              focus (intro w hSw; (try dsimp only at hSw); go_simp; (try with_reducible rfl); done)
              try simp only [List.getElem_toArray, List.getElem_cons_succ, List.getElem_cons_zero, Act.put, List.setIfInBounds_toArray, List.set_cons_zero, List.set_cons_succ]
              refine wpAnyH_ready (rs := [21]) (by kernel_rfl) (by simp) ?_
              refine AllReadyH.cons rfl (fun JJ hJJ => ?_) AllReadyH.nil
              go_simp
              refine hJJ.out _ _ trivial (fun hHeld => ?_)
              clear hJJ JJ
              try simp only [List.getElem_toArray, List.getElem_cons_succ, List.getElem_cons_zero, Act.put, List.setIfInBounds_toArray, List.set_cons_zero, List.set_cons_succ]
              refine wpAnyH_done (by kernel_rfl) ?_ _
              refine NoPanic.normal ?_
              go_wp2_with fail
              all_goals (go_ret; exact .inr (.inr ⟨by omega, HBB.out.symm, FIN.out _ _ _ _ OW3.out HB9.out⟩))
            refine AllReadyH.cons rfl (fun JJ hJJ => ?_) AllReadyH.nil
            go_simp
            refine hJJ.out _ _ trivial (fun hHeld => ?_)
            clear hJJ JJ
            refine wpAnyH_take (i := 17) (v := ?_) rfl (by kernel_rfl) (by kernel_rfl) (by kernel_rfl) (fun _ _ _ h => h) (Or.inl ⟨by kernel_rfl, ?_⟩) (by assumption) ?_
            rotate_left
            focus (intro w hSw; (try dsimp only at hSw); go_simp; (try with_reducible rfl); done)
            try simp only [List.getElem_toArray, List.getElem_cons_succ, List.getElem_cons_zero, Act.put, List.setIfInBounds_toArray, List.set_cons_zero, List.set_cons_succ]
            refine wpAnyH_ready (rs := [11]) (by kernel_rfl) (by simp) ?_
            refine AllReadyH.cons rfl (fun JJ hJJ => ?_) AllReadyH.nil
            (refine pushS rfl _ _ rfl (.slice V1 q c1) (.slice (some ⟨_, 0, none⟩) 1 1) (l.take q) [s] (fun k => some k ≠ (Value.slice V1 q c1).ownBlock) rfl rfl (lit_sl (E := 9) (cs := [.string s]) (by first | (simp only [heap_alloc_get] <;> simp <;> done) | (refine Eq.trans (HG1.out.block _ ?_ (ne_lit (by simp))) ?_; rotate_left; (simp only [heap_alloc_get, heap_drew_get] <;> simp <;> done); (simp <;> omega))) rfl (by first | exact ne_fresh OW1.out | exact ne_grown HAT1.out (ne_lit (by simp)) (by simp <;> omega))) (fun k hk => hk) (OW1.out.below (by (repeat (first | with_reducible exact (Below.refl _ _) | with_reducible apply Below.drew | with_reducible refine balloc ?_ _)))) (by (repeat (first | with_reducible exact (Below.refl _ _) | with_reducible exact HB7.out | with_reducible apply Below.drew | with_reducible refine balloc ?_ _))) LN2.out ?_; intro V2 n2 c2 w8 e2 ho2 hb8 hg2 hat2; rw [htl2.out] at e2; subst n2; have h0 := (hb8.cell hSl).trans x0; have hS8 := Nat.lt_of_lt_of_le hSl hb8.size; have OW2 := put ho2; have HB8 := put hb8; clear ho2 hg2 hat2 hb8)
            refine hJJ.out _ _ trivial (fun hHeld => ?_)
            clear hJJ JJ
            try simp only [List.getElem_toArray, List.getElem_cons_succ, List.getElem_cons_zero, Act.put, List.setIfInBounds_toArray, List.set_cons_zero, List.set_cons_succ]
            refine wpAnyH_ready (rs := [18]) (by kernel_rfl) (by simp) ?_
            refine AllReadyH.cons rfl (fun JJ hJJ => ?_) AllReadyH.nil
            (refine pushS rfl _ _ rfl (.slice V2 (q + 1) c2) (.slice (if c = q then A else A.map (fun x => x.add (q))) (m - q) (c - q)) (l.take q ++ [s]) (l.drop q) (fun k => k < wk.heap.size) rfl rfl (ODD.out.below (by (repeat (first | with_reducible exact (Below.refl _ _) | with_reducible exact HB8.out | with_reducible apply Below.drew | with_reducible refine balloc ?_ _)))) (fun k hk => ne_own OW2.out hk) (OW2.out.below (by (repeat (first | with_reducible exact (Below.refl _ _) | with_reducible apply Below.drew | with_reducible refine balloc ?_ _)))) (by (repeat (first | with_reducible exact (Below.refl _ _) | with_reducible exact HB8.out | with_reducible apply Below.drew | with_reducible refine balloc ?_ _))) LN3.out ?_; intro V3 l3 c3' w9 e3 ho3 hb9 hg3 hat3; have z0 := (hb9.cell hSl).trans x0; have f0 := frz hb9 hSh; have OW3 := put ho3; have HB9 := put hb9; clear ho3 hg3 hat3 hb9 e3)
            refine hJJ.out _ _ trivial (fun hHeld => ?_)
            clear hJJ JJ
            refine wpAnyH_take (i := 19) (v := ?_) rfl (by kernel_rfl) (by kernel_rfl) (by kernel_rfl) (fun _ _ _ h => h) (Or.inl ⟨by kernel_rfl, ?_⟩) (by assumption) ?_
            rotate_left
            focus (intro w hSw; (try dsimp only at hSw); go_simp; (try with_reducible rfl); done)
            refine wpAnyH_take (i := 20) (v := ?_) rfl (by kernel_rfl) (by kernel_rfl) (by kernel_rfl) (fun _ _ _ h => h) (Or.inl ⟨by kernel_rfl, ?_⟩) (by assumption) ?_
            rotate_left
            focus (intro w hSw; (try dsimp only at hSw); go_simp; (try with_reducible rfl); done)
            try simp only [List.getElem_toArray, List.getElem_cons_succ, List.getElem_cons_zero, Act.put, List.setIfInBounds_toArray, List.set_cons_zero, List.set_cons_succ]
            refine wpAnyH_ready (rs := [21]) (by kernel_rfl) (by simp) ?_
            refine AllReadyH.cons rfl (fun JJ hJJ => ?_) AllReadyH.nil
            go_simp
            refine hJJ.out _ _ trivial (fun hHeld => ?_)
            clear hJJ JJ
            try simp only [List.getElem_toArray, List.getElem_cons_succ, List.getElem_cons_zero, Act.put, List.setIfInBounds_toArray, List.set_cons_zero, List.set_cons_succ]
            refine wpAnyH_done (by kernel_rfl) ?_ _
            refine NoPanic.normal ?_
            go_wp2_with fail
            all_goals (go_ret; exact .inr (.inr ⟨by omega, HBB.out.symm, FIN.out _ _ _ _ OW3.out HB9.out⟩))
          refine AllReadyH.cons rfl (fun JJ hJJ => ?_) AllReadyH.nil
          go_simp
          refine hJJ.out _ _ trivial (fun hHeld => ?_)
          clear hJJ JJ
          refine wpAnyH_take (i := 17) (v := ?_) rfl (by kernel_rfl) (by kernel_rfl) (by kernel_rfl) (fun _ _ _ h => h) (Or.inl ⟨by kernel_rfl, ?_⟩) (by assumption) ?_
          rotate_left
          focus (intro w hSw; (try dsimp only at hSw); go_simp; (try with_reducible rfl); done)
          try simp only [List.getElem_toArray, List.getElem_cons_succ, List.getElem_cons_zero, Act.put, List.setIfInBounds_toArray, List.set_cons_zero, List.set_cons_succ]
          refine wpAnyH_ready (rs := [10]) (by kernel_rfl) (by simp) ?_
          refine AllReadyH.cons rfl (fun JJ hJJ => ?_) AllReadyH.nil
          go_simp
          refine hJJ.out _ _ trivial (fun hHeld => ?_)
          clear hJJ JJ
          try simp only [List.getElem_toArray, List.getElem_cons_succ, List.getElem_cons_zero, Act.put, List.setIfInBounds_toArray, List.set_cons_zero, List.set_cons_succ]
          refine wpAnyH_ready (rs := [11]) (by kernel_rfl) (by simp) ?_
          refine AllReadyH.cons rfl (fun JJ hJJ => ?_) AllReadyH.nil
          (refine pushS rfl _ _ rfl (.slice V1 q c1) (.slice (some ⟨_, 0, none⟩) 1 1) (l.take q) [s] (fun k => some k ≠ (Value.slice V1 q c1).ownBlock) rfl rfl (lit_sl (E := 9) (cs := [.string s]) (by first | (simp only [heap_alloc_get] <;> simp <;> done) | (refine Eq.trans (HG1.out.block _ ?_ (ne_lit (by simp))) ?_; rotate_left; (simp only [heap_alloc_get, heap_drew_get] <;> simp <;> done); (simp <;> omega))) rfl (by first | exact ne_fresh OW1.out | exact ne_grown HAT1.out (ne_lit (by simp)) (by simp <;> omega))) (fun k hk => hk) (OW1.out.below (by (repeat (first | with_reducible exact (Below.refl _ _) | with_reducible apply Below.drew | with_reducible refine balloc ?_ _)))) (by (repeat (first | with_reducible exact (Below.refl _ _) | with_reducible exact HB7.out | with_reducible apply Below.drew | with_reducible refine balloc ?_ _))) LN2.out ?_; intro V2 n2 c2 w8 e2 ho2 hb8 hg2 hat2; rw [htl2.out] at e2; subst n2; have h0 := (hb8.cell hSl).trans x0; have hS8 := Nat.lt_of_lt_of_le hSl hb8.size; have OW2 := put ho2; have HB8 := put hb8; clear ho2 hg2 hat2 hb8)
          refine hJJ.out _ _ trivial (fun hHeld => ?_)
          clear hJJ JJ
          try simp only [List.getElem_toArray, List.getElem_cons_succ, List.getElem_cons_zero, Act.put, List.setIfInBounds_toArray, List.set_cons_zero, List.set_cons_succ]
          refine wpAnyH_ready (rs := [18]) (by kernel_rfl) (by simp) ?_
          refine AllReadyH.cons rfl (fun JJ hJJ => ?_) AllReadyH.nil
          (refine pushS rfl _ _ rfl (.slice V2 (q + 1) c2) (.slice (if c = q then A else A.map (fun x => x.add (q))) (m - q) (c - q)) (l.take q ++ [s]) (l.drop q) (fun k => k < wk.heap.size) rfl rfl (ODD.out.below (by (repeat (first | with_reducible exact (Below.refl _ _) | with_reducible exact HB8.out | with_reducible apply Below.drew | with_reducible refine balloc ?_ _)))) (fun k hk => ne_own OW2.out hk) (OW2.out.below (by (repeat (first | with_reducible exact (Below.refl _ _) | with_reducible apply Below.drew | with_reducible refine balloc ?_ _)))) (by (repeat (first | with_reducible exact (Below.refl _ _) | with_reducible exact HB8.out | with_reducible apply Below.drew | with_reducible refine balloc ?_ _))) LN3.out ?_; intro V3 l3 c3' w9 e3 ho3 hb9 hg3 hat3; have z0 := (hb9.cell hSl).trans x0; have f0 := frz hb9 hSh; have OW3 := put ho3; have HB9 := put hb9; clear ho3 hg3 hat3 hb9 e3)
          refine hJJ.out _ _ trivial (fun hHeld => ?_)
          clear hJJ JJ
          refine wpAnyH_take (i := 19) (v := ?_) rfl (by kernel_rfl) (by kernel_rfl) (by kernel_rfl) (fun _ _ _ h => h) (Or.inl ⟨by kernel_rfl, ?_⟩) (by assumption) ?_
          rotate_left
          focus (intro w hSw; (try dsimp only at hSw); go_simp; (try with_reducible rfl); done)
          refine wpAnyH_take (i := 20) (v := ?_) rfl (by kernel_rfl) (by kernel_rfl) (by kernel_rfl) (fun _ _ _ h => h) (Or.inl ⟨by kernel_rfl, ?_⟩) (by assumption) ?_
          rotate_left
          focus (intro w hSw; (try dsimp only at hSw); go_simp; (try with_reducible rfl); done)
          try simp only [List.getElem_toArray, List.getElem_cons_succ, List.getElem_cons_zero, Act.put, List.setIfInBounds_toArray, List.set_cons_zero, List.set_cons_succ]
          refine wpAnyH_ready (rs := [21]) (by kernel_rfl) (by simp) ?_
          refine AllReadyH.cons rfl (fun JJ hJJ => ?_) AllReadyH.nil
          go_simp
          refine hJJ.out _ _ trivial (fun hHeld => ?_)
          clear hJJ JJ
          try simp only [List.getElem_toArray, List.getElem_cons_succ, List.getElem_cons_zero, Act.put, List.setIfInBounds_toArray, List.set_cons_zero, List.set_cons_succ]
          refine wpAnyH_done (by kernel_rfl) ?_ _
          refine NoPanic.normal ?_
          go_wp2_with fail
          all_goals (go_ret; exact .inr (.inr ⟨by omega, HBB.out.symm, FIN.out _ _ _ _ OW3.out HB9.out⟩))
        refine AllReadyH.cons rfl (fun JJ hJJ => ?_) ?_
        · go_simp
          refine hJJ.out _ _ trivial (fun hHeld => ?_)
          clear hJJ JJ
          try simp only [List.getElem_toArray, List.getElem_cons_succ, List.getElem_cons_zero, Act.put, List.setIfInBounds_toArray, List.set_cons_zero, List.set_cons_succ]
          refine wpAnyH_ready (rs := [8, 15]) (by kernel_rfl) (by simp) ?_
          refine AllReadyH.cons rfl (fun JJ hJJ => ?_) ?_
          · (refine pushS rfl _ _ rfl (.slice (some ⟨_, 0, none⟩) 0 0) (.slice A q c) [] (l.take q) (fun k => k < wk.heap.size) rfl rfl (OT.out _ (by (repeat (first | with_reducible exact (Below.refl _ _) | with_reducible apply Below.drew | with_reducible refine balloc ?_ _)))) (fun k hk => ne_new hk (by (first | exact Nat.le_refl _ | exact Nat.le_succ _))) (Own.lit' _ (by (simp only [heap_alloc_get, heap_drew_get] <;> simp <;> done)) (by (first | exact Nat.le_refl _ | exact Nat.le_succ _))) (by (repeat (first | with_reducible exact (Below.refl _ _) | with_reducible apply Below.drew | with_reducible refine balloc ?_ _))) LN1.out ?_; intro V1 n1 c1 w7 e1 ho1 hb7 hg1 hat1; rw [htl1.out] at e1; subst n1; have g0 := (hb7.cell hSl).trans x0; have hS7 := Nat.lt_of_lt_of_le hSl hb7.size; have OW1 := put ho1; have HB7 := put hb7; have HG1 := put hg1; have HAT1 := put hat1; clear ho1 hg1 hat1 hb7)
            refine hJJ.out _ _ trivial (fun hHeld => ?_)
            clear hJJ JJ
            try simp only [List.getElem_toArray, List.getElem_cons_succ, List.getElem_cons_zero, Act.put, List.setIfInBounds_toArray, List.set_cons_zero, List.set_cons_succ]
            refine wpAnyH_ready (rs := [11, 15]) (by kernel_rfl) (by simp) ?_
            refine AllReadyH.cons rfl (fun JJ hJJ => ?_) ?_
            · (refine pushS rfl _ _ rfl (.slice V1 q c1) (.slice (some ⟨_, 0, none⟩) 1 1) (l.take q) [s] (fun k => some k ≠ (Value.slice V1 q c1).ownBlock) rfl rfl (lit_sl (E := 9) (cs := [.string s]) (by first | (simp only [heap_alloc_get] <;> simp <;> done) | (refine Eq.trans (HG1.out.block _ ?_ (ne_lit (by simp))) ?_; rotate_left; (simp only [heap_alloc_get, heap_drew_get] <;> simp <;> done); (simp <;> omega))) rfl (by first | exact ne_fresh OW1.out | exact ne_grown HAT1.out (ne_lit (by simp)) (by simp <;> omega))) (fun k hk => hk) (OW1.out.below (by (repeat (first | with_reducible exact (Below.refl _ _) | with_reducible apply Below.drew | with_reducible refine balloc ?_ _)))) (by (repeat (first | with_reducible exact (Below.refl _ _) | with_reducible exact HB7.out | with_reducible apply Below.drew | with_reducible refine balloc ?_ _))) LN2.out ?_; intro V2 n2 c2 w8 e2 ho2 hb8 hg2 hat2; rw [htl2.out] at e2; subst n2; have h0 := (hb8.cell hSl).trans x0; have hS8 := Nat.lt_of_lt_of_le hSl hb8.size; have OW2 := put ho2; have HB8 := put hb8; clear ho2 hg2 hat2 hb8)
              refine hJJ.out _ _ trivial (fun hHeld => ?_)
              clear hJJ JJ
              try simp only [List.getElem_toArray, List.getElem_cons_succ, List.getElem_cons_zero, Act.put, List.setIfInBounds_toArray, List.set_cons_zero, List.set_cons_succ]
              refine wpAnyH_ready (rs := [15]) (by kernel_rfl) (by simp) ?_
              refine AllReadyH.cons rfl (fun JJ hJJ => ?_) AllReadyH.nil
              go_simp
              refine hJJ.out _ _ trivial (fun hHeld => ?_)
              clear hJJ JJ
              refine wpAnyH_take (i := 17) (v := ?_) rfl (by kernel_rfl) (by kernel_rfl) (by kernel_rfl) (fun _ _ _ h => h) (Or.inl ⟨by kernel_rfl, ?_⟩) (by assumption) ?_
              rotate_left
              focus (intro w hSw; (try dsimp only at hSw); go_simp; (try with_reducible rfl); done)
              try simp only [List.getElem_toArray, List.getElem_cons_succ, List.getElem_cons_zero, Act.put, List.setIfInBounds_toArray, List.set_cons_zero, List.set_cons_succ]
              refine wpAnyH_ready (rs := [18]) (by kernel_rfl) (by simp) ?_
              refine AllReadyH.cons rfl (fun JJ hJJ => ?_) AllReadyH.nil
              (refine pushS rfl _ _ rfl (.slice V2 (q + 1) c2) (.slice (if c = q then A else A.map (fun x => x.add (q))) (m - q) (c - q)) (l.take q ++ [s]) (l.drop q) (fun k => k < wk.heap.size) rfl rfl (ODD.out.below (by (repeat (first | with_reducible exact (Below.refl _ _) | with_reducible exact HB8.out | with_reducible apply Below.drew | with_reducible refine balloc ?_ _)))) (fun k hk => ne_own OW2.out hk) (OW2.out.below (by (repeat (first | with_reducible exact (Below.refl _ _) | with_reducible apply Below.drew | with_reducible refine balloc ?_ _)))) (by (repeat (first | with_reducible exact (Below.refl _ _) | with_reducible exact HB8.out | with_reducible apply Below.drew | with_reducible refine balloc ?_ _))) LN3.out ?_; intro V3 l3 c3' w9 e3 ho3 hb9 hg3 hat3; have z0 := (hb9.cell hSl).trans x0; have f0 := frz hb9 hSh; have OW3 := put ho3; have HB9 := put hb9; clear ho3 hg3 hat3 hb9 e3)
              refine hJJ.out _ _ trivial (fun hHeld => ?_)
              clear hJJ JJ
              refine wpAnyH_take (i := 19) (v := ?_) rfl (by kernel_rfl) (by kernel_rfl) (by kernel_rfl) (fun _ _ _ h => h) (Or.inl ⟨by kernel_rfl, ?_⟩) (by assumption) ?_
              rotate_left
              focus (intro w hSw; (try dsimp only at hSw); go_simp; (try with_reducible rfl); done)
              refine wpAnyH_take (i := 20) (v := ?_) rfl (by kernel_rfl) (by kernel_rfl) (by kernel_rfl) (fun _ _ _ h => h) (Or.inl ⟨by kernel_rfl, ?_⟩) (by assumption) ?_
              rotate_left
              focus (intro w hSw; (try dsimp only at hSw); go_simp; (try with_reducible rfl); done)
              try simp only [List.getElem_toArray, List.getElem_cons_succ, List.getElem_cons_zero, Act.put, List.setIfInBounds_toArray, List.set_cons_zero, List.set_cons_succ]
              refine wpAnyH_ready (rs := [21]) (by kernel_rfl) (by simp) ?_
              refine AllReadyH.cons rfl (fun JJ hJJ => ?_) AllReadyH.nil
              go_simp
              refine hJJ.out _ _ trivial (fun hHeld => ?_)
              clear hJJ JJ
              try simp only [List.getElem_toArray, List.getElem_cons_succ, List.getElem_cons_zero, Act.put, List.setIfInBounds_toArray, List.set_cons_zero, List.set_cons_succ]
              refine wpAnyH_done (by kernel_rfl) ?_ _
              refine NoPanic.normal ?_
              go_wp2_with fail
              all_goals (go_ret; exact .inr (.inr ⟨by omega, HBB.out.symm, FIN.out _ _ _ _ OW3.out HB9.out⟩))
            refine AllReadyH.cons rfl (fun JJ hJJ => ?_) AllReadyH.nil
            go_simp
            refine hJJ.out _ _ trivial (fun hHeld => ?_)
            clear hJJ JJ
            refine wpAnyH_take (i := 17) (v := ?_) rfl (by kernel_rfl) (by kernel_rfl) (by kernel_rfl) (fun _ _ _ h => h) (Or.inl ⟨by kernel_rfl, ?_⟩) (by assumption) ?_
            rotate_left
            focus (intro w hSw; (try dsimp only at hSw); go_simp; (try with_reducible rfl); done)
            try simp only [List.getElem_toArray, List.getElem_cons_succ, List.getElem_cons_zero, Act.put, List.setIfInBounds_toArray, List.set_cons_zero, List.set_cons_succ]
            refine wpAnyH_ready (rs := [11]) (by kernel_rfl) (by simp) ?_
            refine AllReadyH.cons rfl (fun JJ hJJ => ?_) AllReadyH.nil
            (refine pushS rfl _ _ rfl (.slice V1 q c1) (.slice (some ⟨_, 0, none⟩) 1 1) (l.take q) [s] (fun k => some k ≠ (Value.slice V1 q c1).ownBlock) rfl rfl (lit_sl (E := 9) (cs := [.string s]) (by first | (simp only [heap_alloc_get] <;> simp <;> done) | (refine Eq.trans (HG1.out.block _ ?_ (ne_lit (by simp))) ?_; rotate_left; (simp only [heap_alloc_get, heap_drew_get] <;> simp <;> done); (simp <;> omega))) rfl (by first | exact ne_fresh OW1.out | exact ne_grown HAT1.out (ne_lit (by simp)) (by simp <;> omega))) (fun k hk => hk) (OW1.out.below (by (repeat (first | with_reducible exact (Below.refl _ _) | with_reducible apply Below.drew | with_reducible refine balloc ?_ _)))) (by (repeat (first | with_reducible exact (Below.refl _ _) | with_reducible exact HB7.out | with_reducible apply Below.drew | with_reducible refine balloc ?_ _))) LN2.out ?_; intro V2 n2 c2 w8 e2 ho2 hb8 hg2 hat2; rw [htl2.out] at e2; subst n2; have h0 := (hb8.cell hSl).trans x0; have hS8 := Nat.lt_of_lt_of_le hSl hb8.size; have OW2 := put ho2; have HB8 := put hb8; clear ho2 hg2 hat2 hb8)
            refine hJJ.out _ _ trivial (fun hHeld => ?_)
            clear hJJ JJ
            try simp only [List.getElem_toArray, List.getElem_cons_succ, List.getElem_cons_zero, Act.put, List.setIfInBounds_toArray, List.set_cons_zero, List.set_cons_succ]
            refine wpAnyH_ready (rs := [18]) (by kernel_rfl) (by simp) ?_
            refine AllReadyH.cons rfl (fun JJ hJJ => ?_) AllReadyH.nil
            (refine pushS rfl _ _ rfl (.slice V2 (q + 1) c2) (.slice (if c = q then A else A.map (fun x => x.add (q))) (m - q) (c - q)) (l.take q ++ [s]) (l.drop q) (fun k => k < wk.heap.size) rfl rfl (ODD.out.below (by (repeat (first | with_reducible exact (Below.refl _ _) | with_reducible exact HB8.out | with_reducible apply Below.drew | with_reducible refine balloc ?_ _)))) (fun k hk => ne_own OW2.out hk) (OW2.out.below (by (repeat (first | with_reducible exact (Below.refl _ _) | with_reducible apply Below.drew | with_reducible refine balloc ?_ _)))) (by (repeat (first | with_reducible exact (Below.refl _ _) | with_reducible exact HB8.out | with_reducible apply Below.drew | with_reducible refine balloc ?_ _))) LN3.out ?_; intro V3 l3 c3' w9 e3 ho3 hb9 hg3 hat3; have z0 := (hb9.cell hSl).trans x0; have f0 := frz hb9 hSh; have OW3 := put ho3; have HB9 := put hb9; clear ho3 hg3 hat3 hb9 e3)
            refine hJJ.out _ _ trivial (fun hHeld => ?_)
            clear hJJ JJ
            refine wpAnyH_take (i := 19) (v := ?_) rfl (by kernel_rfl) (by kernel_rfl) (by kernel_rfl) (fun _ _ _ h => h) (Or.inl ⟨by kernel_rfl, ?_⟩) (by assumption) ?_
            rotate_left
            focus (intro w hSw; (try dsimp only at hSw); go_simp; (try with_reducible rfl); done)
            refine wpAnyH_take (i := 20) (v := ?_) rfl (by kernel_rfl) (by kernel_rfl) (by kernel_rfl) (fun _ _ _ h => h) (Or.inl ⟨by kernel_rfl, ?_⟩) (by assumption) ?_
            rotate_left
            focus (intro w hSw; (try dsimp only at hSw); go_simp; (try with_reducible rfl); done)
            try simp only [List.getElem_toArray, List.getElem_cons_succ, List.getElem_cons_zero, Act.put, List.setIfInBounds_toArray, List.set_cons_zero, List.set_cons_succ]
            refine wpAnyH_ready (rs := [21]) (by kernel_rfl) (by simp) ?_
            refine AllReadyH.cons rfl (fun JJ hJJ => ?_) AllReadyH.nil
            go_simp
            refine hJJ.out _ _ trivial (fun hHeld => ?_)
            clear hJJ JJ
            try simp only [List.getElem_toArray, List.getElem_cons_succ, List.getElem_cons_zero, Act.put, List.setIfInBounds_toArray, List.set_cons_zero, List.set_cons_succ]
            refine wpAnyH_done (by kernel_rfl) ?_ _
            refine NoPanic.normal ?_
            go_wp2_with fail
            all_goals (go_ret; exact .inr (.inr ⟨by omega, HBB.out.symm, FIN.out _ _ _ _ OW3.out HB9.out⟩))
          refine AllReadyH.cons rfl (fun JJ hJJ => ?_) AllReadyH.nil
          go_simp
          refine hJJ.out _ _ trivial (fun hHeld => ?_)
          clear hJJ JJ
          refine wpAnyH_take (i := 17) (v := ?_) rfl (by kernel_rfl) (by kernel_rfl) (by kernel_rfl) (fun _ _ _ h => h) (Or.inl ⟨by kernel_rfl, ?_⟩) (by assumption) ?_
          rotate_left
          focus (intro w hSw; (try dsimp only at hSw); go_simp; (try with_reducible rfl); done)
          try simp only [List.getElem_toArray, List.getElem_cons_succ, List.getElem_cons_zero, Act.put, List.setIfInBounds_toArray, List.set_cons_zero, List.set_cons_succ]
          refine wpAnyH_ready (rs := [8]) (by kernel_rfl) (by simp) ?_
          refine AllReadyH.cons rfl (fun JJ hJJ => ?_) AllReadyH.nil
          (refine pushS rfl _ _ rfl (.slice (some ⟨_, 0, none⟩) 0 0) (.slice A q c) [] (l.take q) (fun k => k < wk.heap.size) rfl rfl (OT.out _ (by (repeat (first | with_reducible exact (Below.refl _ _) | with_reducible apply Below.drew | with_reducible refine balloc ?_ _)))) (fun k hk => ne_new hk (by (first | exact Nat.le_refl _ | exact Nat.le_succ _))) (Own.lit' _ (by (simp only [heap_alloc_get, heap_drew_get] <;> simp <;> done)) (by (first | exact Nat.le_refl _ | exact Nat.le_succ _))) (by (repeat (first | with_reducible exact (Below.refl _ _) | with_reducible apply Below.drew | with_reducible refine balloc ?_ _))) LN1.out ?_; intro V1 n1 c1 w7 e1 ho1 hb7 hg1 hat1; rw [htl1.out] at e1; subst n1; have g0 := (hb7.cell hSl).trans x0; have hS7 := Nat.lt_of_lt_of_le hSl hb7.size; have OW1 := put ho1; have HB7 := put hb7; have HG1 := put hg1; have HAT1 := put hat1; clear ho1 hg1 hat1 hb7)
          refine hJJ.out _ _ trivial (fun hHeld => ?_)
          clear hJJ JJ
          try simp only [List.getElem_toArray, List.getElem_cons_succ, List.getElem_cons_zero, Act.put, List.setIfInBounds_toArray, List.set_cons_zero, List.set_cons_succ]
          refine wpAnyH_ready (rs := [11]) (by kernel_rfl) (by simp) ?_
          refine AllReadyH.cons rfl (fun JJ hJJ => ?_) AllReadyH.nil
          (refine pushS rfl _ _ rfl (.slice V1 q c1) (.slice (some ⟨_, 0, none⟩) 1 1) (l.take q) [s] (fun k => some k ≠ (Value.slice V1 q c1).ownBlock) rfl rfl (lit_sl (E := 9) (cs := [.string s]) (by first | (simp only [heap_alloc_get] <;> simp <;> done) | (refine Eq.trans (HG1.out.block _ ?_ (ne_lit (by simp))) ?_; rotate_left; (simp only [heap_alloc_get, heap_drew_get] <;> simp <;> done); (simp <;> omega))) rfl (by first | exact ne_fresh OW1.out | exact ne_grown HAT1.out (ne_lit (by simp)) (by simp <;> omega))) (fun k hk => hk) (OW1.out.below (by (repeat (first | with_reducible exact (Below.refl _ _) | with_reducible apply Below.drew | with_reducible refine balloc ?_ _)))) (by (repeat (first | with_reducible exact (Below.refl _ _) | with_reducible exact HB7.out | with_reducible apply Below.drew | with_reducible refine balloc ?_ _))) LN2.out ?_; intro V2 n2 c2 w8 e2 ho2 hb8 hg2 hat2; rw [htl2.out] at e2; subst n2; have h0 := (hb8.cell hSl).trans x0; have hS8 := Nat.lt_of_lt_of_le hSl hb8.size; have OW2 := put ho2; have HB8 := put hb8; clear ho2 hg2 hat2 hb8)
          refine hJJ.out _ _ trivial (fun hHeld => ?_)
          clear hJJ JJ
          try simp only [List.getElem_toArray, List.getElem_cons_succ, List.getElem_cons_zero, Act.put, List.setIfInBounds_toArray, List.set_cons_zero, List.set_cons_succ]
          refine wpAnyH_ready (rs := [18]) (by kernel_rfl) (by simp) ?_
          refine AllReadyH.cons rfl (fun JJ hJJ => ?_) AllReadyH.nil
          (refine pushS rfl _ _ rfl (.slice V2 (q + 1) c2) (.slice (if c = q then A else A.map (fun x => x.add (q))) (m - q) (c - q)) (l.take q ++ [s]) (l.drop q) (fun k => k < wk.heap.size) rfl rfl (ODD.out.below (by (repeat (first | with_reducible exact (Below.refl _ _) | with_reducible exact HB8.out | with_reducible apply Below.drew | with_reducible refine balloc ?_ _)))) (fun k hk => ne_own OW2.out hk) (OW2.out.below (by (repeat (first | with_reducible exact (Below.refl _ _) | with_reducible apply Below.drew | with_reducible refine balloc ?_ _)))) (by (repeat (first | with_reducible exact (Below.refl _ _) | with_reducible exact HB8.out | with_reducible apply Below.drew | with_reducible refine balloc ?_ _))) LN3.out ?_; intro V3 l3 c3' w9 e3 ho3 hb9 hg3 hat3; have z0 := (hb9.cell hSl).trans x0; have f0 := frz hb9 hSh; have OW3 := put ho3; have HB9 := put hb9; clear ho3 hg3 hat3 hb9 e3)
          refine hJJ.out _ _ trivial (fun hHeld => ?_)
          clear hJJ JJ
          refine wpAnyH_take (i := 19) (v := ?_) rfl (by kernel_rfl) (by kernel_rfl) (by kernel_rfl) (fun _ _ _ h => h) (Or.inl ⟨by kernel_rfl, ?_⟩) (by assumption) ?_
          rotate_left
          focus (intro w hSw; (try dsimp only at hSw); go_simp; (try with_reducible rfl); done)
          refine wpAnyH_take (i := 20) (v := ?_) rfl (by kernel_rfl) (by kernel_rfl) (by kernel_rfl) (fun _ _ _ h => h) (Or.inl ⟨by kernel_rfl, ?_⟩) (by assumption) ?_
          rotate_left
          focus (intro w hSw; (try dsimp only at hSw); go_simp; (try with_reducible rfl); done)
          try simp only [List.getElem_toArray, List.getElem_cons_succ, List.getElem_cons_zero, Act.put, List.setIfInBounds_toArray, List.set_cons_zero, List.set_cons_succ]
          refine wpAnyH_ready (rs := [21]) (by kernel_rfl) (by simp) ?_
          refine AllReadyH.cons rfl (fun JJ hJJ => ?_) AllReadyH.nil
          go_simp
          refine hJJ.out _ _ trivial (fun hHeld => ?_)
          clear hJJ JJ
          try simp only [List.getElem_toArray, List.getElem_cons_succ, List.getElem_cons_zero, Act.put, List.setIfInBounds_toArray, List.set_cons_zero, List.set_cons_succ]
          refine wpAnyH_done (by kernel_rfl) ?_ _
          refine NoPanic.normal ?_
          go_wp2_with fail
          all_goals (go_ret; exact .inr (.inr ⟨by omega, HBB.out.symm, FIN.out _ _ _ _ OW3.out HB9.out⟩))
        refine AllReadyH.cons rfl (fun JJ hJJ => ?_) AllReadyH.nil
        go_simp
        refine hJJ.out _ _ trivial (fun hHeld => ?_)
        clear hJJ JJ
        refine wpAnyH_take (i := 17) (v := ?_) rfl (by kernel_rfl) (by kernel_rfl) (by kernel_rfl) (fun _ _ _ h => h) (Or.inl ⟨by kernel_rfl, ?_⟩) (by assumption) ?_
        rotate_left
        focus (intro w hSw; (try dsimp only at hSw); go_simp; (try with_reducible rfl); done)
        try simp only [List.getElem_toArray, List.getElem_cons_succ, List.getElem_cons_zero, Act.put, List.setIfInBounds_toArray, List.set_cons_zero, List.set_cons_succ]
        refine wpAnyH_ready (rs := [8, 10]) (by kernel_rfl) (by simp) ?_
        refine AllReadyH.cons rfl (fun JJ hJJ => ?_) ?_
        · (refine pushS rfl _ _ rfl (.slice (some ⟨_, 0, none⟩) 0 0) (.slice A q c) [] (l.take q) (fun k => k < wk.heap.size) rfl rfl (OT.out _ (by (repeat (first | with_reducible exact (Below.refl _ _) | with_reducible apply Below.drew | with_reducible refine balloc ?_ _)))) (fun k hk => ne_new hk (by (first | exact Nat.le_refl _ | exact Nat.le_succ _))) (Own.lit' _ (by (simp only [heap_alloc_get, heap_drew_get] <;> simp <;> done)) (by (first | exact Nat.le_refl _ | exact Nat.le_succ _))) (by (repeat (first | with_reducible exact (Below.refl _ _) | with_reducible apply Below.drew | with_reducible refine balloc ?_ _))) LN1.out ?_; intro V1 n1 c1 w7 e1 ho1 hb7 hg1 hat1; rw [htl1.out] at e1; subst n1; have g0 := (hb7.cell hSl).trans x0; have hS7 := Nat.lt_of_lt_of_le hSl hb7.size; have OW1 := put ho1; have HB7 := put hb7; have HG1 := put hg1; have HAT1 := put hat1; clear ho1 hg1 hat1 hb7)
          refine hJJ.out _ _ trivial (fun hHeld => ?_)
          clear hJJ JJ
          try simp only [List.getElem_toArray, List.getElem_cons_succ, List.getElem_cons_zero, Act.put, List.setIfInBounds_toArray, List.set_cons_zero, List.set_cons_succ]
          refine wpAnyH_ready (rs := [10]) (by kernel_rfl) (by simp) ?_
          refine AllReadyH.cons rfl (fun JJ hJJ => ?_) AllReadyH.nil
          go_simp
          refine hJJ.out _ _ trivial (fun hHeld => ?_)
          clear hJJ JJ
          try simp only [List.getElem_toArray, List.getElem_cons_succ, List.getElem_cons_zero, Act.put, List.setIfInBounds_toArray, List.set_cons_zero, List.set_cons_succ]
          refine wpAnyH_ready (rs := [11]) (by kernel_rfl) (by simp) ?_
          refine AllReadyH.cons rfl (fun JJ hJJ => ?_) AllReadyH.nil
          (refine pushS rfl _ _ rfl (.slice V1 q c1) (.slice (some ⟨_, 0, none⟩) 1 1) (l.take q) [s] (fun k => some k ≠ (Value.slice V1 q c1).ownBlock) rfl rfl (lit_sl (E := 9) (cs := [.string s]) (by first | (simp only [heap_alloc_get] <;> simp <;> done) | (refine Eq.trans (HG1.out.block _ ?_ (ne_lit (by simp))) ?_; rotate_left; (simp only [heap_alloc_get, heap_drew_get] <;> simp <;> done); (simp <;> omega))) rfl (by first | exact ne_fresh OW1.out | exact ne_grown HAT1.out (ne_lit (by simp)) (by simp <;> omega))) (fun k hk => hk) (OW1.out.below (by (repeat (first | with_reducible exact (Below.refl _ _) | with_reducible apply Below.drew | with_reducible refine balloc ?_ _)))) (by (repeat (first | with_reducible exact (Below.refl _ _) | with_reducible exact HB7.out | with_reducible apply Below.drew | with_reducible refine balloc ?_ _))) LN2.out ?_; intro V2 n2 c2 w8 e2 ho2 hb8 hg2 hat2; rw [htl2.out] at e2; subst n2; have h0 := (hb8.cell hSl).trans x0; have hS8 := Nat.lt_of_lt_of_le hSl hb8.size; have OW2 := put ho2; have HB8 := put hb8; clear ho2 hg2 hat2 hb8)
          refine hJJ.out _ _ trivial (fun hHeld => ?_)
          clear hJJ JJ
          try simp only [List.getElem_toArray, List.getElem_cons_succ, List.getElem_cons_zero, Act.put, List.setIfInBounds_toArray, List.set_cons_zero, List.set_cons_succ]
          refine wpAnyH_ready (rs := [18]) (by kernel_rfl) (by simp) ?_
          refine AllReadyH.cons rfl (fun JJ hJJ => ?_) AllReadyH.nil
          (refine pushS rfl _ _ rfl (.slice V2 (q + 1) c2) (.slice (if c = q then A else A.map (fun x => x.add (q))) (m - q) (c - q)) (l.take q ++ [s]) (l.drop q) (fun k => k < wk.heap.size) rfl rfl (ODD.out.below (by (repeat (first | with_reducible exact (Below.refl _ _) | with_reducible exact HB8.out | with_reducible apply Below.drew | with_reducible refine balloc ?_ _)))) (fun k hk => ne_own OW2.out hk) (OW2.out.below (by (repeat (first | with_reducible exact (Below.refl _ _) | with_reducible apply Below.drew | with_reducible refine balloc ?_ _)))) (by (repeat (first | with_reducible exact (Below.refl _ _) | with_reducible exact HB8.out | with_reducible apply Below.drew | with_reducible refine balloc ?_ _))) LN3.out ?_; intro V3 l3 c3' w9 e3 ho3 hb9 hg3 hat3; have z0 := (hb9.cell hSl).trans x0; have f0 := frz hb9 hSh; have OW3 := put ho3; have HB9 := put hb9; clear ho3 hg3 hat3 hb9 e3)
          refine hJJ.out _ _ trivial (fun hHeld => ?_)
          clear hJJ JJ
          refine wpAnyH_take (i := 19) (v := ?_) rfl (by kernel_rfl) (by kernel_rfl) (by kernel_rfl) (fun _ _ _ h => h) (Or.inl ⟨by kernel_rfl, ?_⟩) (by assumption) ?_
          rotate_left
          focus (intro w hSw; (try dsimp only at hSw); go_simp; (try with_reducible rfl); done)
          refine wpAnyH_take (i := 20) (v := ?_) rfl (by kernel_rfl) (by kernel_rfl) (by kernel_rfl) (fun _ _ _ h => h) (Or.inl ⟨by kernel_rfl, ?_⟩) (by assumption) ?_
          rotate_left
          focus (intro w hSw; (try dsimp only at hSw); go_simp; (try with_reducible rfl); done)
          try simp only [List.getElem_toArray, List.getElem_cons_succ, List.getElem_cons_zero, Act.put, List.setIfInBounds_toArray, List.set_cons_zero, List.set_cons_succ]
          refine wpAnyH_ready (rs := [21]) (by kernel_rfl) (by simp) ?_
          refine AllReadyH.cons rfl (fun JJ hJJ => ?_) AllReadyH.nil
          go_simp
          refine hJJ.out _ _ trivial (fun hHeld => ?_)
          clear hJJ JJ
          try simp only [List.getElem_toArray, List.getElem_cons_succ, List.getElem_cons_zero, Act.put, List.setIfInBounds_toArray, List.set_cons_zero, List.set_cons_succ]
          refine wpAnyH_done (by kernel_rfl) ?_ _
          refine NoPanic.normal ?_
          go_wp2_with fail
          all_goals (go_ret; exact .inr (.inr ⟨by omega, HBB.out.symm, FIN.out _ _ _ _ OW3.out HB9.out⟩))
        refine AllReadyH.cons rfl (fun JJ hJJ => ?_) AllReadyH.nil
        go_simp
        refine hJJ.out _ _ trivial (fun hHeld => ?_)
        clear hJJ JJ
        try simp only [List.getElem_toArray, List.getElem_cons_succ, List.getElem_cons_zero, Act.put, List.setIfInBounds_toArray, List.set_cons_zero, List.set_cons_succ]
        refine wpAnyH_ready (rs := [8]) (by kernel_rfl) (by simp) ?_
        refine AllReadyH.cons rfl (fun JJ hJJ => ?_) AllReadyH.nil
        (refine pushS rfl _ _ rfl (.slice (some ⟨_, 0, none⟩) 0 0) (.slice A q c) [] (l.take q) (fun k => k < wk.heap.size) rfl rfl (OT.out _ (by (repeat (first | with_reducible exact (Below.refl _ _) | with_reducible apply Below.drew | with_reducible refine balloc ?_ _)))) (fun k hk => ne_new hk (by (first | exact Nat.le_refl _ | exact Nat.le_succ _))) (Own.lit' _ (by (simp only [heap_alloc_get, heap_drew_get] <;> simp <;> done)) (by (first | exact Nat.le_refl _ | exact Nat.le_succ _))) (by (repeat (first | with_reducible exact (Below.refl _ _) | with_reducible apply Below.drew | with_reducible refine balloc ?_ _))) LN1.out ?_; intro V1 n1 c1 w7 e1 ho1 hb7 hg1 hat1; rw [htl1.out] at e1; subst n1; have g0 := (hb7.cell hSl).trans x0; have hS7 := Nat.lt_of_lt_of_le hSl hb7.size; have OW1 := put ho1; have HB7 := put hb7; have HG1 := put hg1; have HAT1 := put hat1; clear ho1 hg1 hat1 hb7)
        refine hJJ.out _ _ trivial (fun hHeld => ?_)
        clear hJJ JJ
        try simp only [List.getElem_toArray, List.getElem_cons_succ, List.getElem_cons_zero, Act.put, List.setIfInBounds_toArray, List.set_cons_zero, List.set_cons_succ]
        refine wpAnyH_ready (rs := [11]) (by kernel_rfl) (by simp) ?_
        refine AllReadyH.cons rfl (fun JJ hJJ => ?_) AllReadyH.nil
        (refine pushS rfl _ _ rfl (.slice V1 q c1) (.slice (some ⟨_, 0, none⟩) 1 1) (l.take q) [s] (fun k => some k ≠ (Value.slice V1 q c1).ownBlock) rfl rfl (lit_sl (E := 9) (cs := [.string s]) (by first | (simp only [heap_alloc_get] <;> simp <;> done) | (refine Eq.trans (HG1.out.block _ ?_ (ne_lit (by simp))) ?_; rotate_left; (simp only [heap_alloc_get, heap_drew_get] <;> simp <;> done); (simp <;> omega))) rfl (by first | exact ne_fresh OW1.out | exact ne_grown HAT1.out (ne_lit (by simp)) (by simp <;> omega))) (fun k hk => hk) (OW1.out.below (by (repeat (first | with_reducible exact (Below.refl _ _) | with_reducible apply Below.drew | with_reducible refine balloc ?_ _)))) (by (repeat (first | with_reducible exact (Below.refl _ _) | with_reducible exact HB7.out | with_reducible apply Below.drew | with_reducible refine balloc ?_ _))) LN2.out ?_; intro V2 n2 c2 w8 e2 ho2 hb8 hg2 hat2; rw [htl2.out] at e2; subst n2; have h0 := (hb8.cell hSl).trans x0; have hS8 := Nat.lt_of_lt_of_le hSl hb8.size; have OW2 := put ho2; have HB8 := put hb8; clear ho2 hg2 hat2 hb8)
        refine hJJ.out _ _ trivial (fun hHeld => ?_)
        clear hJJ JJ
        try simp only [List.getElem_toArray, List.getElem_cons_succ, List.getElem_cons_zero, Act.put, List.setIfInBounds_toArray, List.set_cons_zero, List.set_cons_succ]
        refine wpAnyH_ready (rs := [18]) (by kernel_rfl) (by simp) ?_
        refine AllReadyH.cons rfl (fun JJ hJJ => ?_) AllReadyH.nil
        (refine pushS rfl _ _ rfl (.slice V2 (q + 1) c2) (.slice (if c = q then A else A.map (fun x => x.add (q))) (m - q) (c - q)) (l.take q ++ [s]) (l.drop q) (fun k => k < wk.heap.size) rfl rfl (ODD.out.below (by (repeat (first | with_reducible exact (Below.refl _ _) | with_reducible exact HB8.out | with_reducible apply Below.drew | with_reducible refine balloc ?_ _)))) (fun k hk => ne_own OW2.out hk) (OW2.out.below (by (repeat (first | with_reducible exact (Below.refl _ _) | with_reducible apply Below.drew | with_reducible refine balloc ?_ _)))) (by (repeat (first | with_reducible exact (Below.refl _ _) | with_reducible exact HB8.out | with_reducible apply Below.drew | with_reducible refine balloc ?_ _))) LN3.out ?_; intro V3 l3 c3' w9 e3 ho3 hb9 hg3 hat3; have z0 := (hb9.cell hSl).trans x0; have f0 := frz hb9 hSh; have OW3 := put ho3; have HB9 := put hb9; clear ho3 hg3 hat3 hb9 e3)
        refine hJJ.out _ _ trivial (fun hHeld => ?_)
        clear hJJ JJ
        refine wpAnyH_take (i := 19) (v := ?_) rfl (by kernel_rfl) (by kernel_rfl) (by kernel_rfl) (fun _ _ _ h => h) (Or.inl ⟨by kernel_rfl, ?_⟩) (by assumption) ?_
        rotate_left
        focus (intro w hSw; (try dsimp only at hSw); go_simp; (try with_reducible rfl); done)
        refine wpAnyH_take (i := 20) (v := ?_) rfl (by kernel_rfl) (by kernel_rfl) (by kernel_rfl) (fun _ _ _ h => h) (Or.inl ⟨by kernel_rfl, ?_⟩) (by assumption) ?_
        rotate_left
        focus (intro w hSw; (try dsimp only at hSw); go_simp; (try with_reducible rfl); done)
        try simp only [List.getElem_toArray, List.getElem_cons_succ, List.getElem_cons_zero, Act.put, List.setIfInBounds_toArray, List.set_cons_zero, List.set_cons_succ]
        refine wpAnyH_ready (rs := [21]) (by kernel_rfl) (by simp) ?_
        refine AllReadyH.cons rfl (fun JJ hJJ => ?_) AllReadyH.nil
        go_simp
        refine hJJ.out _ _ trivial (fun hHeld => ?_)
        clear hJJ JJ
        try simp only [List.getElem_toArray, List.getElem_cons_succ, List.getElem_cons_zero, Act.put, List.setIfInBounds_toArray, List.set_cons_zero, List.set_cons_succ]
        refine wpAnyH_done (by kernel_rfl) ?_ _
        refine NoPanic.normal ?_
        go_wp2_with fail
        all_goals (go_ret; exact .inr (.inr ⟨by omega, HBB.out.symm, FIN.out _ _ _ _ OW3.out HB9.out⟩))
      refine AllReadyH.cons rfl (fun JJ hJJ => ?_) ?_
      · go_simp
        refine hJJ.out _ _ trivial (fun hHeld => ?_)
        clear hJJ JJ
        try simp only [List.getElem_toArray, List.getElem_cons_succ, List.getElem_cons_zero, Act.put, List.setIfInBounds_toArray, List.set_cons_zero, List.set_cons_succ]
        refine wpAnyH_ready (rs := [1, 15]) (by kernel_rfl) (by simp) ?_
        refine AllReadyH.cons rfl (fun JJ hJJ => ?_) ?_
        · go_simp
          refine hJJ.out _ _ trivial (fun hHeld => ?_)
          clear hJJ JJ
          try simp only [List.getElem_toArray, List.getElem_cons_succ, List.getElem_cons_zero, Act.put, List.setIfInBounds_toArray, List.set_cons_zero, List.set_cons_succ]
          refine wpAnyH_ready (rs := [8, 15]) (by kernel_rfl) (by simp) ?_
          refine AllReadyH.cons rfl (fun JJ hJJ => ?_) ?_
          · (refine pushS rfl _ _ rfl (.slice (some ⟨_, 0, none⟩) 0 0) (.slice A q c) [] (l.take q) (fun k => k < wk.heap.size) rfl rfl (OT.out _ (by (repeat (first | with_reducible exact (Below.refl _ _) | with_reducible apply Below.drew | with_reducible refine balloc ?_ _)))) (fun k hk => ne_new hk (by (first | exact Nat.le_refl _ | exact Nat.le_succ _))) (Own.lit' _ (by (simp only [heap_alloc_get, heap_drew_get] <;> simp <;> done)) (by (first | exact Nat.le_refl _ | exact Nat.le_succ _))) (by (repeat (first | with_reducible exact (Below.refl _ _) | with_reducible apply Below.drew | with_reducible refine balloc ?_ _))) LN1.out ?_; intro V1 n1 c1 w7 e1 ho1 hb7 hg1 hat1; rw [htl1.out] at e1; subst n1; have g0 := (hb7.cell hSl).trans x0; have hS7 := Nat.lt_of_lt_of_le hSl hb7.size; have OW1 := put ho1; have HB7 := put hb7; have HG1 := put hg1; have HAT1 := put hat1; clear ho1 hg1 hat1 hb7)
            refine hJJ.out _ _ trivial (fun hHeld => ?_)
            clear hJJ JJ
            try simp only [List.getElem_toArray, List.getElem_cons_succ, List.getElem_cons_zero, Act.put, List.setIfInBounds_toArray, List.set_cons_zero, List.set_cons_succ]
            refine wpAnyH_ready (rs := [11, 15]) (by kernel_rfl) (by simp) ?_
            refine AllReadyH.cons rfl (fun JJ hJJ => ?_) ?_
            · (refine pushS rfl _ _ rfl (.slice V1 q c1) (.slice (some ⟨_, 0, none⟩) 1 1) (l.take q) [s] (fun k => some k ≠ (Value.slice V1 q c1).ownBlock) rfl rfl (lit_sl (E := 9) (cs := [.string s]) (by first | (simp only [heap_alloc_get] <;> simp <;> done) | (refine Eq.trans (HG1.out.block _ ?_ (ne_lit (by simp))) ?_; rotate_left; (simp only [heap_alloc_get, heap_drew_get] <;> simp <;> done); (simp <;> omega))) rfl (by first | exact ne_fresh OW1.out | exact ne_grown HAT1.out (ne_lit (by simp)) (by simp <;> omega))) (fun k hk => hk) (OW1.out.below (by (repeat (first | with_reducible exact (Below.refl _ _) | with_reducible apply Below.drew | with_reducible refine balloc ?_ _)))) (by (repeat (first | with_reducible exact (Below.refl _ _) | with_reducible exact HB7.out | with_reducible apply Below.drew | with_reducible refine balloc ?_ _))) LN2.out ?_; intro V2 n2 c2 w8 e2 ho2 hb8 hg2 hat2; rw [htl2.out] at e2; subst n2; have h0 := (hb8.cell hSl).trans x0; have hS8 := Nat.lt_of_lt_of_le hSl hb8.size; have OW2 := put ho2; have HB8 := put hb8; clear ho2 hg2 hat2 hb8)
              refine hJJ.out _ _ trivial (fun hHeld => ?_)
              clear hJJ JJ
              try simp only [List.getElem_toArray, List.getElem_cons_succ, List.getElem_cons_zero, Act.put, List.setIfInBounds_toArray, List.set_cons_zero, List.set_cons_succ]
              refine wpAnyH_ready (rs := [15]) (by kernel_rfl) (by simp) ?_
              refine AllReadyH.cons rfl (fun JJ hJJ => ?_) AllReadyH.nil
              go_simp
              refine hJJ.out _ _ trivial (fun hHeld => ?_)
              clear hJJ JJ
              refine wpAnyH_take (i := 17) (v := ?_) rfl (by kernel_rfl) (by kernel_rfl) (by kernel_rfl) (fun _ _ _ h => h) (Or.inl ⟨by kernel_rfl, ?_⟩) (by assumption) ?_
              rotate_left
              focus (intro w hSw; (try dsimp only at hSw); go_simp; (try with_reducible rfl); done)
              try simp only [List.getElem_toArray, List.getElem_cons_succ, List.getElem_cons_zero, Act.put, List.setIfInBounds_toArray, List.set_cons_zero, List.set_cons_succ]
              refine wpAnyH_ready (rs := [18]) (by kernel_rfl) (by simp) ?_
              refine AllReadyH.cons rfl (fun JJ hJJ => ?_) AllReadyH.nil
              (refine pushS rfl _ _ rfl (.slice V2 (q + 1) c2) (.slice (if c = q then A else A.map (fun x => x.add (q))) (m - q) (c - q)) (l.take q ++ [s]) (l.drop q) (fun k => k < wk.heap.size) rfl rfl (ODD.out.below (by (repeat (first | with_reducible exact (Below.refl _ _) | with_reducible exact HB8.out | with_reducible apply Below.drew | with_reducible refine balloc ?_ _)))) (fun k hk => ne_own OW2.out hk) (OW2.out.below (by (repeat (first | with_reducible exact (Below.refl _ _) | with_reducible apply Below.drew | with_reducible refine balloc ?_ _)))) (by (repeat (first | with_reducible exact (Below.refl _ _) | with_reducible exact HB8.out | with_reducible apply Below.drew | with_reducible refine balloc ?_ _))) LN3.out ?_; intro V3 l3 c3' w9 e3 ho3 hb9 hg3 hat3; have z0 := (hb9.cell hSl).trans x0; have f0 := frz hb9 hSh; have OW3 := put ho3; have HB9 := put hb9; clear ho3 hg3 hat3 hb9 e3)
              refine hJJ.out _ _ trivial (fun hHeld => ?_)
              clear hJJ JJ
              refine wpAnyH_take (i := 19) (v := ?_) rfl (by kernel_rfl) (by kernel_rfl) (by kernel_rfl) (fun _ _ _ h => h) (Or.inl ⟨by kernel_rfl, ?_⟩) (by assumption) ?_
              rotate_left
              focus (intro w hSw; (try dsimp only at hSw); go_simp; (try with_reducible rfl); done)
              refine wpAnyH_take (i := 20) (v := ?_) rfl (by kernel_rfl) (by kernel_rfl) (by kernel_rfl) (fun _ _ _ h => h) (Or.inl ⟨by kernel_rfl, ?_⟩) (by assumption) ?_
              rotate_left
              focus (intro w hSw; (try dsimp only at hSw); go_simp; (try with_reducible rfl); done)
              try simp only [List.getElem_toArray, List.getElem_cons_succ, List.getElem_cons_zero, Act.put, List.setIfInBounds_toArray, List.set_cons_zero, List.set_cons_succ]
              refine wpAnyH_ready (rs := [21]) (by kernel_rfl) (by simp) ?_
              refine AllReadyH.cons rfl (fun JJ hJJ => ?_) AllReadyH.nil
              go_simp
              refine hJJ.out _ _ trivial (fun hHeld => ?_)
              clear hJJ JJ
              try simp only [List.getElem_toArray, List.getElem_cons_succ, List.getElem_cons_zero, Act.put, List.setIfInBounds_toArray, List.set_cons_zero, List.set_cons_succ]
              refine wpAnyH_done (by kernel_rfl) ?_ _
              refine NoPanic.normal ?_
              go_wp2_with fail
              all_goals (go_ret; exact .inr (.inr ⟨by omega, HBB.out.symm, FIN.out _ _ _ _ OW3.out HB9.out⟩))
            refine AllReadyH.cons rfl (fun JJ hJJ => ?_) AllReadyH.nil
            go_simp
            refine hJJ.out _ _ trivial (fun hHeld => ?_)
            clear hJJ JJ
            refine wpAnyH_take (i := 17) (v := ?_) rfl (by kernel_rfl) (by kernel_rfl) (by kernel_rfl) (fun _ _ _ h => h) (Or.inl ⟨by kernel_rfl, ?_⟩) (by assumption) ?_
            rotate_left
            focus (intro w hSw; (try dsimp only at hSw); go_simp; (try with_reducible rfl); done)
            try simp only [List.getElem_toArray, List.getElem_cons_succ, List.getElem_cons_zero, Act.put, List.setIfInBounds_toArray, List.set_cons_zero, List.set_cons_succ]
            refine wpAnyH_ready (rs := [11]) (by kernel_rfl) (by simp) ?_
            refine AllReadyH.cons rfl (fun JJ hJJ => ?_) AllReadyH.nil
            (refine pushS rfl _ _ rfl (.slice V1 q c1) (.slice (some ⟨_, 0, none⟩) 1 1) (l.take q) [s] (fun k => some k ≠ (Value.slice V1 q c1).ownBlock) rfl rfl (lit_sl (E := 9) (cs := [.string s]) (by first | (simp only [heap_alloc_get] <;> simp <;> done) | (refine Eq.trans (HG1.out.block _ ?_ (ne_lit (by simp))) ?_; rotate_left; (simp only [heap_alloc_get, heap_drew_get] <;> simp <;> done); (simp <;> omega))) rfl (by first | exact ne_fresh OW1.out | exact ne_grown HAT1.out (ne_lit (by simp)) (by simp <;> omega))) (fun k hk => hk) (OW1.out.below (by (repeat (first | with_reducible exact (Below.refl _ _) | with_reducible apply Below.drew | with_reducible refine balloc ?_ _)))) (by (repeat (first | with_reducible exact (Below.refl _ _) | with_reducible exact HB7.out | with_reducible apply Below.drew | with_reducible refine balloc ?_ _))) LN2.out ?_; intro V2 n2 c2 w8 e2 ho2 hb8 hg2 hat2; rw [htl2.out] at e2; subst n2; have h0 := (hb8.cell hSl).trans x0; have hS8 := Nat.lt_of_lt_of_le hSl hb8.size; have OW2 := put ho2; have HB8 := put hb8; clear ho2 hg2 hat2 hb8)
            refine hJJ.out _ _ trivial (fun hHeld => ?_)
            clear hJJ JJ
            try simp only [List.getElem_toArray, List.getElem_cons_succ, List.getElem_cons_zero, Act.put, List.setIfInBounds_toArray, List.set_cons_zero, List.set_cons_succ]
            refine wpAnyH_ready (rs := [18]) (by kernel_rfl) (by simp) ?_
            refine AllReadyH.cons rfl (fun JJ hJJ => ?_) AllReadyH.nil
            (refine pushS rfl _ _ rfl (.slice V2 (q + 1) c2) (.slice (if c = q then A else A.map (fun x => x.add (q))) (m - q) (c - q)) (l.take q ++ [s]) (l.drop q) (fun k => k < wk.heap.size) rfl rfl (ODD.out.below (by (repeat (first | with_reducible exact (Below.refl _ _) | with_reducible exact HB8.out | with_reducible apply Below.drew | with_reducible refine balloc ?_ _)))) (fun k hk => ne_own OW2.out hk) (OW2.out.below (by (repeat (first | with_reducible exact (Below.refl _ _) | with_reducible apply Below.drew | with_reducible refine balloc ?_ _)))) (by (repeat (first | with_reducible exact (Below.refl _ _) | with_reducible exact HB8.out | with_reducible apply Below.drew | with_reducible refine balloc ?_ _))) LN3.out ?_; intro V3 l3 c3' w9 e3 ho3 hb9 hg3 hat3; have z0 := (hb9.cell hSl).trans x0; have f0 := frz hb9 hSh; have OW3 := put ho3; have HB9 := put hb9; clear ho3 hg3 hat3 hb9 e3)
            refine hJJ.out _ _ trivial (fun hHeld => ?_)
            clear hJJ JJ
            refine wpAnyH_take (i := 19) (v := ?_) rfl (by kernel_rfl) (by kernel_rfl) (by kernel_rfl) (fun _ _ _ h => h) (Or.inl ⟨by kernel_rfl, ?_⟩) (by assumption) ?_
            rotate_left
            focus (intro w hSw; (try dsimp only at hSw); go_simp; (try with_reducible rfl); done)
            refine wpAnyH_take (i := 20) (v := ?_) rfl (by kernel_rfl) (by kernel_rfl) (by kernel_rfl) (fun _ _ _ h => h) (Or.inl ⟨by kernel_rfl, ?_⟩) (by assumption) ?_
            rotate_left
            focus (intro w hSw; (try dsimp only at hSw); go_simp; (try with_reducible rfl); done)
            try simp only [List.getElem_toArray, List.getElem_cons_succ, List.getElem_cons_zero, Act.put, List.setIfInBounds_toArray, List.set_cons_zero, List.set_cons_succ]
            refine wpAnyH_ready (rs := [21]) (by kernel_rfl) (by simp) ?_
            refine AllReadyH.cons rfl (fun JJ hJJ => ?_) AllReadyH.nil
            go_simp
            refine hJJ.out _ _ trivial (fun hHeld => ?_)
            clear hJJ JJ
            try simp only [List.getElem_toArray, List.getElem_cons_succ, List.getElem_cons_zero, Act.put, List.setIfInBounds_toArray, List.set_cons_zero, List.set_cons_succ]
            refine wpAnyH_done (by kernel_rfl) ?_ _
            refine NoPanic.normal ?_
            go_wp2_with fail
            all_goals (go_ret; exact .inr (.inr ⟨by omega, HBB.out.symm, FIN.out _ _ _ _ OW3.out HB9.out⟩))
          refine AllReadyH.cons rfl (fun JJ hJJ => ?_) AllReadyH.nil
          go_simp
          refine hJJ.out _ _ trivial (fun hHeld => ?_)
          clear hJJ JJ
          refine wpAnyH_take (i := 17) (v := ?_) rfl (by kernel_rfl) (by kernel_rfl) (by kernel_rfl) (fun _ _ _ h => h) (Or.inl ⟨by kernel_rfl, ?_⟩) (by assumption) ?_
          rotate_left
          focus (intro w hSw; (try dsimp only at hSw); go_simp; (try with_reducible rfl); done)
          try simp only [List.getElem_toArray, List.getElem_cons_succ, List.getElem_cons_zero, Act.put, List.setIfInBounds_toArray, List.set_cons_zero, List.set_cons_succ]
          refine wpAnyH_ready (rs := [8]) (by kernel_rfl) (by simp) ?_
          refine AllReadyH.cons rfl (fun JJ hJJ => ?_) AllReadyH.nil
          (refine pushS rfl _ _ rfl (.slice (some ⟨_, 0, none⟩) 0 0) (.slice A q c) [] (l.take q) (fun k => k < wk.heap.size) rfl rfl (OT.out _ (by (repeat (first | with_reducible exact (Below.refl _ _) | with_reducible apply Below.drew | with_reducible refine balloc ?_ _)))) (fun k hk => ne_new hk (by (first | exact Nat.le_refl _ | exact Nat.le_succ _))) (Own.lit' _ (by (simp only [heap_alloc_get, heap_drew_get] <;> simp <;> done)) (by (first | exact Nat.le_refl _ | exact Nat.le_succ _))) (by (repeat (first | with_reducible exact (Below.refl _ _) | with_reducible apply Below.drew | with_reducible refine balloc ?_ _))) LN1.out ?_; intro V1 n1 c1 w7 e1 ho1 hb7 hg1 hat1; rw [htl1.out] at e1; subst n1; have g0 := (hb7.cell hSl).trans x0; have hS7 := Nat.lt_of_lt_of_le hSl hb7.size; have OW1 := put ho1; have HB7 := put hb7; have HG1 := put hg1; have HAT1 := put hat1; clear ho1 hg1 hat1 hb7)
          refine hJJ.out _ _ trivial (fun hHeld => ?_)
          clear hJJ JJ
          try simp only [List.getElem_toArray, List.getElem_cons_succ, List.getElem_cons_zero, Act.put, List.setIfInBounds_toArray, List.set_cons_zero, List.set_cons_succ]
          refine wpAnyH_ready (rs := [11]) (by kernel_rfl) (by simp) ?_
          refine AllReadyH.cons rfl (fun JJ hJJ => ?_) AllReadyH.nil
          (refine pushS rfl _ _ rfl (.slice V1 q c1) (.slice (some ⟨_, 0, none⟩) 1 1) (l.take q) [s] (fun k => some k ≠ (Value.slice V1 q c1).ownBlock) rfl rfl (lit_sl (E := 9) (cs := [.string s]) (by first | (simp only [heap_alloc_get] <;> simp <;> done) | (refine Eq.trans (HG1.out.block _ ?_ (ne_lit (by simp))) ?_; rotate_left; (simp only [heap_alloc_get, heap_drew_get] <;> simp <;> done); (simp <;> omega))) rfl (by first | exact ne_fresh OW1.out | exact ne_grown HAT1.out (ne_lit (by simp)) (by simp <;> omega))) (fun k hk => hk) (OW1.out.below (by (repeat (first | with_reducible exact (Below.refl _ _) | with_reducible apply Below.drew | with_reducible refine balloc ?_ _)))) (by (repeat (first | with_reducible exact (Below.refl _ _) | with_reducible exact HB7.out | with_reducible apply Below.drew | with_reducible refine balloc ?_ _))) LN2.out ?_; intro V2 n2 c2 w8 e2 ho2 hb8 hg2 hat2; rw [htl2.out] at e2; subst n2; have h0 := (hb8.cell hSl).trans x0; have hS8 := Nat.lt_of_lt_of_le hSl hb8.size; have OW2 := put ho2; have HB8 := put hb8; clear ho2 hg2 hat2 hb8)
          refine hJJ.out _ _ trivial (fun hHeld => ?_)
          clear hJJ JJ
          try simp only [List.getElem_toArray, List.getElem_cons_succ, List.getElem_cons_zero, Act.put, List.setIfInBounds_toArray, List.set_cons_zero, List.set_cons_succ]
          refine wpAnyH_ready (rs := [18]) (by kernel_rfl) (by simp) ?_
          refine AllReadyH.cons rfl (fun JJ hJJ => ?_) AllReadyH.nil
          (refine pushS rfl _ _ rfl (.slice V2 (q + 1) c2) (.slice (if c = q then A else A.map (fun x => x.add (q))) (m - q) (c - q)) (l.take q ++ [s]) (l.drop q) (fun k => k < wk.heap.size) rfl rfl (ODD.out.below (by (repeat (first | with_reducible exact (Below.refl _ _) | with_reducible exact HB8.out | with_reducible apply Below.drew | with_reducible refine balloc ?_ _)))) (fun k hk => ne_own OW2.out hk) (OW2.out.below (by (repeat (first | with_reducible exact (Below.refl _ _) | with_reducible apply Below.drew | with_reducible refine balloc ?_ _)))) (by (repeat (first | with_reducible exact (Below.refl _ _) | with_reducible exact HB8.out | with_reducible apply Below.drew | with_reducible refine balloc ?_ _))) LN3.out ?_; intro V3 l3 c3' w9 e3 ho3 hb9 hg3 hat3; have z0 := (hb9.cell hSl).trans x0; have f0 := frz hb9 hSh; have OW3 := put ho3; have HB9 := put hb9; clear ho3 hg3 hat3 hb9 e3)
          refine hJJ.out _ _ trivial (fun hHeld => ?_)
          clear hJJ JJ
          refine wpAnyH_take (i := 19) (v := ?_) rfl (by kernel_rfl) (by kernel_rfl) (by kernel_rfl) (fun _ _ _ h => h) (Or.inl ⟨by kernel_rfl, ?_⟩) (by assumption) ?_
          rotate_left
          focus (intro w hSw; (try dsimp only at hSw); go_simp; (try with_reducible rfl); done)
          refine wpAnyH_take (i := 20) (v := ?_) rfl (by kernel_rfl) (by kernel_rfl) (by kernel_rfl) (fun _ _ _ h => h) (Or.inl ⟨by kernel_rfl, ?_⟩) (by assumption) ?_
          rotate_left
          focus (intro w hSw; (try dsimp only at hSw); go_simp; (try with_reducible rfl); done)
          try simp only [List.getElem_toArray, List.getElem_cons_succ, List.getElem_cons_zero, Act.put, List.setIfInBounds_toArray, List.set_cons_zero, List.set_cons_succ]
          refine wpAnyH_ready (rs := [21]) (by kernel_rfl) (by simp) ?_
          refine AllReadyH.cons rfl (fun JJ hJJ => ?_) AllReadyH.nil
          go_simp
          refine hJJ.out _ _ trivial (fun hHeld => ?_)
          clear hJJ JJ
          try simp only [List.getElem_toArray, List.getElem_cons_succ, List.getElem_cons_zero, Act.put, List.setIfInBounds_toArray, List.set_cons_zero, List.set_cons_succ]
          refine wpAnyH_done (by kernel_rfl) ?_ _
          refine NoPanic.normal ?_
          go_wp2_with fail
          all_goals (go_ret; exact .inr (.inr ⟨by omega, HBB.out.symm, FIN.out _ _ _ _ OW3.out HB9.out⟩))
        refine AllReadyH.cons rfl (fun JJ hJJ => ?_) AllReadyH.nil
        go_simp
        refine hJJ.out _ _ trivial (fun hHeld => ?_)
        clear hJJ JJ
        refine wpAnyH_take (i := 17) (v := ?_) rfl (by kernel_rfl) (by kernel_rfl) (by kernel_rfl) (fun _ _ _ h => h) (Or.inl ⟨by kernel_rfl, ?_⟩) (by assumption) ?_
        rotate_left
        focus (intro w hSw; (try dsimp only at hSw); go_simp; (try with_reducible rfl); done)
        try simp only [List.getElem_toArray, List.getElem_cons_succ, List.getElem_cons_zero, Act.put, List.setIfInBounds_toArray, List.set_cons_zero, List.set_cons_succ]
        refine wpAnyH_ready (rs := [1]) (by kernel_rfl) (by simp) ?_
        refine AllReadyH.cons rfl (fun JJ hJJ => ?_) AllReadyH.nil
        go_simp
        refine hJJ.out _ _ trivial (fun hHeld => ?_)
        clear hJJ JJ
        try simp only [List.getElem_toArray, List.getElem_cons_succ, List.getElem_cons_zero, Act.put, List.setIfInBounds_toArray, List.set_cons_zero, List.set_cons_succ]
        refine wpAnyH_ready (rs := [8]) (by kernel_rfl) (by simp) ?_
        refine AllReadyH.cons rfl (fun JJ hJJ => ?_) AllReadyH.nil
        (refine pushS rfl _ _ rfl (.slice (some ⟨_, 0, none⟩) 0 0) (.slice A q c) [] (l.take q) (fun k => k < wk.heap.size) rfl rfl (OT.out _ (by (repeat (first | with_reducible exact (Below.refl _ _) | with_reducible apply Below.drew | with_reducible refine balloc ?_ _)))) (fun k hk => ne_new hk (by (first | exact Nat.le_refl _ | exact Nat.le_succ _))) (Own.lit' _ (by (simp only [heap_alloc_get, heap_drew_get] <;> simp <;> done)) (by (first | exact Nat.le_refl _ | exact Nat.le_succ _))) (by (repeat (first | with_reducible exact (Below.refl _ _) | with_reducible apply Below.drew | with_reducible refine balloc ?_ _))) LN1.out ?_; intro V1 n1 c1 w7 e1 ho1 hb7 hg1 hat1; rw [htl1.out] at e1; subst n1; have g0 := (hb7.cell hSl).trans x0; have hS7 := Nat.lt_of_lt_of_le hSl hb7.size; have OW1 := put ho1; have HB7 := put hb7; have HG1 := put hg1; have HAT1 := put hat1; clear ho1 hg1 hat1 hb7)
        refine hJJ.out _ _ trivial (fun hHeld => ?_)
        clear hJJ JJ
        try simp only [List.getElem_toArray, List.getElem_cons_succ, List.getElem_cons_zero, Act.put, List.setIfInBounds_toArray, List.set_cons_zero, List.set_cons_succ]
        refine wpAnyH_ready (rs := [11]) (by kernel_rfl) (by simp) ?_
        refine AllReadyH.cons rfl (fun JJ hJJ => ?_) AllReadyH.nil
        (refine pushS rfl _ _ rfl (.slice V1 q c1) (.slice (some ⟨_, 0, none⟩) 1 1) (l.take q) [s] (fun k => some k ≠ (Value.slice V1 q c1).ownBlock) rfl rfl (lit_sl (E := 9) (cs := [.string s]) (by first | (simp only [heap_alloc_get] <;> simp <;> done) | (refine Eq.trans (HG1.out.block _ ?_ (ne_lit (by simp))) ?_; rotate_left; (simp only [heap_alloc_get, heap_drew_get] <;> simp <;> done); (simp <;> omega))) rfl (by first | exact ne_fresh OW1.out | exact ne_grown HAT1.out (ne_lit (by simp)) (by simp <;> omega))) (fun k hk => hk) (OW1.out.below (by (repeat (first | with_reducible exact (Below.refl _ _) | with_reducible apply Below.drew | with_reducible refine balloc ?_ _)))) (by (repeat (first | with_reducible exact (Below.refl _ _) | with_reducible exact HB7.out | with_reducible apply Below.drew | with_reducible refine balloc ?_ _))) LN2.out ?_; intro V2 n2 c2 w8 e2 ho2 hb8 hg2 hat2; rw [htl2.out] at e2; subst n2; have h0 := (hb8.cell hSl).trans x0; have hS8 := Nat.lt_of_lt_of_le hSl hb8.size; have OW2 := put ho2; have HB8 := put hb8; clear ho2 hg2 hat2 hb8)
        refine hJJ.out _ _ trivial (fun hHeld => ?_)
        clear hJJ JJ
        try simp only [List.getElem_toArray, List.getElem_cons_succ, List.getElem_cons_zero, Act.put, List.setIfInBounds_toArray, List.set_cons_zero, List.set_cons_succ]
        refine wpAnyH_ready (rs := [18]) (by kernel_rfl) (by simp) ?_
        refine AllReadyH.cons rfl (fun JJ hJJ => ?_) AllReadyH.nil
        (refine pushS rfl _ _ rfl (.slice V2 (q + 1) c2) (.slice (if c = q then A else A.map (fun x => x.add (q))) (m - q) (c - q)) (l.take q ++ [s]) (l.drop q) (fun k => k < wk.heap.size) rfl rfl (ODD.out.below (by (repeat (first | with_reducible exact (Below.refl _ _) | with_reducible exact HB8.out | with_reducible apply Below.drew | with_reducible refine balloc ?_ _)))) (fun k hk => ne_own OW2.out hk) (OW2.out.below (by (repeat (first | with_reducible exact (Below.refl _ _) | with_reducible apply Below.drew | with_reducible refine balloc ?_ _)))) (by (repeat (first | with_reducible exact (Below.refl _ _) | with_reducible exact HB8.out | with_reducible apply Below.drew | with_reducible refine balloc ?_ _))) LN3.out ?_; intro V3 l3 c3' w9 e3 ho3 hb9 hg3 hat3; have z0 := (hb9.cell hSl).trans x0; have f0 := frz hb9 hSh; have OW3 := put ho3; have HB9 := put hb9; clear ho3 hg3 hat3 hb9 e3)
        refine hJJ.out _ _ trivial (fun hHeld => ?_)
        clear hJJ JJ
        refine wpAnyH_take (i := 19) (v := ?_) rfl (by kernel_rfl) (by kernel_rfl) (by kernel_rfl) (fun _ _ _ h => h) (Or.inl ⟨by kernel_rfl, ?_⟩) (by assumption) ?_
        rotate_left
        focus (intro w hSw; (try dsimp only at hSw); go_simp; (try with_reducible rfl); done)
        refine wpAnyH_take (i := 20) (v := ?_) rfl (by kernel_rfl) (by kernel_rfl) (by kernel_rfl) (fun _ _ _ h => h) (Or.inl ⟨by kernel_rfl, ?_⟩) (by assumption) ?_
        rotate_left
        focus (intro w hSw; (try dsimp only at hSw); go_simp; (try with_reducible rfl); done)
        try simp only [List.getElem_toArray, List.getElem_cons_succ, List.getElem_cons_zero, Act.put, List.setIfInBounds_toArray, List.set_cons_zero, List.set_cons_succ]
        refine wpAnyH_ready (rs := [21]) (by kernel_rfl) (by simp) ?_
        refine AllReadyH.cons rfl (fun JJ hJJ => ?_) AllReadyH.nil
        go_simp
        refine hJJ.out _ _ trivial (fun hHeld => ?_)
        clear hJJ JJ
        try simp only [List.getElem_toArray, List.getElem_cons_succ, List.getElem_cons_zero, Act.put, List.setIfInBounds_toArray, List.set_cons_zero, List.set_cons_succ]
        refine wpAnyH_done (by kernel_rfl) ?_ _
        refine NoPanic.normal ?_
        go_wp2_with fail
        all_goals (go_ret; exact .inr (.inr ⟨by omega, HBB.out.symm, FIN.out _ _ _ _ OW3.out HB9.out⟩))
      refine AllReadyH.cons rfl (fun JJ hJJ => ?_) AllReadyH.nil
      go_simp
      refine hJJ.out _ _ trivial (fun hHeld => ?_)
      clear hJJ JJ
      refine wpAnyH_take (i := 17) (v := ?_) rfl (by kernel_rfl) (by kernel_rfl) (by kernel_rfl) (fun _ _ _ h => h) (Or.inl ⟨by kernel_rfl, ?_⟩) (by assumption) ?_
      rotate_left
      focus (intro w hSw; (try dsimp only at hSw); go_simp; (try with_reducible rfl); done)
      try simp only [List.getElem_toArray, List.getElem_cons_succ, List.getElem_cons_zero, Act.put, List.setIfInBounds_toArray, List.set_cons_zero, List.set_cons_succ]
      refine wpAnyH_ready (rs := [1, 10]) (by kernel_rfl) (by simp) ?_
      refine AllReadyH.cons rfl (fun JJ hJJ => ?_) ?_
      · go_simp
        refine hJJ.out _ _ trivial (fun hHeld => ?_)
        clear hJJ JJ
        try simp only [List.getElem_toArray, List.getElem_cons_succ, List.getElem_cons_zero, Act.put, List.setIfInBounds_toArray, List.set_cons_zero, List.set_cons_succ]
        refine wpAnyH_ready (rs := [8, 10]) (by kernel_rfl) (by simp) ?_
        refine AllReadyH.cons rfl (fun JJ hJJ => ?_) ?_
        · (refine pushS rfl _ _ rfl (.slice (some ⟨_, 0, none⟩) 0 0) (.slice A q c) [] (l.take q) (fun k => k < wk.heap.size) rfl rfl (OT.out _ (by (repeat (first | with_reducible exact (Below.refl _ _) | with_reducible apply Below.drew | with_reducible refine balloc ?_ _)))) (fun k hk => ne_new hk (by (first | exact Nat.le_refl _ | exact Nat.le_succ _))) (Own.lit' _ (by (simp only [heap_alloc_get, heap_drew_get] <;> simp <;> done)) (by (first | exact Nat.le_refl _ | exact Nat.le_succ _))) (by (repeat (first | with_reducible exact (Below.refl _ _) | with_reducible apply Below.drew | with_reducible refine balloc ?_ _))) LN1.out ?_; intro V1 n1 c1 w7 e1 ho1 hb7 hg1 hat1; rw [htl1.out] at e1; subst n1; have g0 := (hb7.cell hSl).trans x0; have hS7 := Nat.lt_of_lt_of_le hSl hb7.size; have OW1 := put ho1; have HB7 := put hb7; have HG1 := put hg1; have HAT1 := put hat1; clear ho1 hg1 hat1 hb7)
          refine hJJ.out _ _ trivial (fun hHeld => ?_)
          clear hJJ JJ
          try simp only [List.getElem_toArray, List.getElem_cons_succ, List.getElem_cons_zero, Act.put, List.setIfInBounds_toArray, List.set_cons_zero, List.set_cons_succ]
          refine wpAnyH_ready (rs := [10]) (by kernel_rfl) (by simp) ?_
          refine AllReadyH.cons rfl (fun JJ hJJ => ?_) AllReadyH.nil
          go_simp
          refine hJJ.out _ _ trivial (fun hHeld => ?_)
          clear hJJ JJ
          try simp only [List.getElem_toArray, List.getElem_cons_succ, List.getElem_cons_zero, Act.put, List.setIfInBounds_toArray, List.set_cons_zero, List.set_cons_succ]
          refine wpAnyH_ready (rs := [11]) (by kernel_rfl) (by simp) ?_
          refine AllReadyH.cons rfl (fun JJ hJJ => ?_) AllReadyH.nil
          (refine pushS rfl _ _ rfl (.slice V1 q c1) (.slice (some ⟨_, 0, none⟩) 1 1) (l.take q) [s] (fun k => some k ≠ (Value.slice V1 q c1).ownBlock) rfl rfl (lit_sl (E := 9) (cs := [.string s]) (by first | (simp only [heap_alloc_get] <;> simp <;> done) | (refine Eq.trans (HG1.out.block _ ?_ (ne_lit (by simp))) ?_; rotate_left; (simp only [heap_alloc_get, heap_drew_get] <;> simp <;> done); (simp <;> omega))) rfl (by first | exact ne_fresh OW1.out | exact ne_grown HAT1.out (ne_lit (by simp)) (by simp <;> omega))) (fun k hk => hk) (OW1.out.below (by (repeat (first | with_reducible exact (Below.refl _ _) | with_reducible apply Below.drew | with_reducible refine balloc ?_ _)))) (by (repeat (first | with_reducible exact (Below.refl _ _) | with_reducible exact HB7.out | with_reducible apply Below.drew | with_reducible refine balloc ?_ _))) LN2.out ?_; intro V2 n2 c2 w8 e2 ho2 hb8 hg2 hat2; rw [htl2.out] at e2; subst n2; have h0 := (hb8.cell hSl).trans x0; have hS8 := Nat.lt_of_lt_of_le hSl hb8.size; have OW2 := put ho2; have HB8 := put hb8; clear ho2 hg2 hat2 hb8)
          refine hJJ.out _ _ trivial (fun hHeld => ?_)
          clear hJJ JJ
          try simp only [List.getElem_toArray, List.getElem_cons_succ, List.getElem_cons_zero, Act.put, List.setIfInBounds_toArray, List.set_cons_zero, List.set_cons_succ]
          refine wpAnyH_ready (rs := [18]) (by kernel_rfl) (by simp) ?_
          refine AllReadyH.cons rfl (fun JJ hJJ => ?_) AllReadyH.nil
          (refine pushS rfl _ _ rfl (.slice V2 (q + 1) c2) (.slice (if c = q then A else A.map (fun x => x.add (q))) (m - q) (c - q)) (l.take q ++ [s]) (l.drop q) (fun k => k < wk.heap.size) rfl rfl (ODD.out.below (by (repeat (first | with_reducible exact (Below.refl _ _) | with_reducible exact HB8.out | with_reducible apply Below.drew | with_reducible refine balloc ?_ _)))) (fun k hk => ne_own OW2.out hk) (OW2.out.below (by (repeat (first | with_reducible exact (Below.refl _ _) | with_reducible apply Below.drew | with_reducible refine balloc ?_ _)))) (by (repeat (first | with_reducible exact (Below.refl _ _) | with_reducible exact HB8.out | with_reducible apply Below.drew | with_reducible refine balloc ?_ _))) LN3.out ?_; intro V3 l3 c3' w9 e3 ho3 hb9 hg3 hat3; have z0 := (hb9.cell hSl).trans x0; have f0 := frz hb9 hSh; have OW3 := put ho3; have HB9 := put hb9; clear ho3 hg3 hat3 hb9 e3)
          refine hJJ.out _ _ trivial (fun hHeld => ?_)
          clear hJJ JJ
          refine wpAnyH_take (i := 19) (v := ?_) rfl (by kernel_rfl) (by kernel_rfl) (by kernel_rfl) (fun _ _ _ h => h) (Or.inl ⟨by kernel_rfl, ?_⟩) (by assumption) ?_
          rotate_left
          focus (intro w hSw; (try dsimp only at hSw); go_simp; (try with_reducible rfl); done)
          refine wpAnyH_take (i := 20) (v := ?_) rfl (by kernel_rfl) (by kernel_rfl) (by kernel_rfl) (fun _ _ _ h => h) (Or.inl ⟨by kernel_rfl, ?_⟩) (by assumption) ?_
          rotate_left
          focus (intro w hSw; (try dsimp only at hSw); go_simp; (try with_reducible rfl); done)
          try simp only [List.getElem_toArray, List.getElem_cons_succ, List.getElem_cons_zero, Act.put, List.setIfInBounds_toArray, List.set_cons_zero, List.set_cons_succ]
          refine wpAnyH_ready (rs := [21]) (by kernel_rfl) (by simp) ?_
          refine AllReadyH.cons rfl (fun JJ hJJ => ?_) AllReadyH.nil
          go_simp
          refine hJJ.out _ _ trivial (fun hHeld => ?_)
          clear hJJ JJ
          try simp only [List.getElem_toArray, List.getElem_cons_succ, List.getElem_cons_zero, Act.put, List.setIfInBounds_toArray, List.set_cons_zero, List.set_cons_succ]
          refine wpAnyH_done (by kernel_rfl) ?_ _
          refine NoPanic.normal ?_
          go_wp2_with fail
          all_goals (go_ret; exact .inr (.inr ⟨by omega, HBB.out.symm, FIN.out _ _ _ _ OW3.out HB9.out⟩))
        refine AllReadyH.cons rfl (fun JJ hJJ => ?_) AllReadyH.nil
        go_simp
        refine hJJ.out _ _ trivial (fun hHeld => ?_)
        clear hJJ JJ
        try simp only [List.getElem_toArray, List.getElem_cons_succ, List.getElem_cons_zero, Act.put, List.setIfInBounds_toArray, List.set_cons_zero, List.set_cons_succ]
        refine wpAnyH_ready (rs := [8]) (by kernel_rfl) (by simp) ?_
        refine AllReadyH.cons rfl (fun JJ hJJ => ?_) AllReadyH.nil
        (refine pushS rfl _ _ rfl (.slice (some ⟨_, 0, none⟩) 0 0) (.slice A q c) [] (l.take q) (fun k => k < wk.heap.size) rfl rfl (OT.out _ (by (repeat (first | with_reducible exact (Below.refl _ _) | with_reducible apply Below.drew | with_reducible refine balloc ?_ _)))) (fun k hk => ne_new hk (by (first | exact Nat.le_refl _ | exact Nat.le_succ _))) (Own.lit' _ (by (simp only [heap_alloc_get, heap_drew_get] <;> simp <;> done)) (by (first | exact Nat.le_refl _ | exact Nat.le_succ _))) (by (repeat (first | with_reducible exact (Below.refl _ _) | with_reducible apply Below.drew | with_reducible refine balloc ?_ _))) LN1.out ?_; intro V1 n1 c1 w7 e1 ho1 hb7 hg1 hat1; rw [htl1.out] at e1; subst n1; have g0 := (hb7.cell hSl).trans x0; have hS7 := Nat.lt_of_lt_of_le hSl hb7.size; have OW1 := put ho1; have HB7 := put hb7; have HG1 := put hg1; have HAT1 := put hat1; clear ho1 hg1 hat1 hb7)
        refine hJJ.out _ _ trivial (fun hHeld => ?_)
        clear hJJ JJ
        try simp only [List.getElem_toArray, List.getElem_cons_succ, List.getElem_cons_zero, Act.put, List.setIfInBounds_toArray, List.set_cons_zero, List.set_cons_succ]
        refine wpAnyH_ready (rs := [11]) (by kernel_rfl) (by simp) ?_
        refine AllReadyH.cons rfl (fun JJ hJJ => ?_) AllReadyH.nil
        (refine pushS rfl _ _ rfl (.slice V1 q c1) (.slice (some ⟨_, 0, none⟩) 1 1) (l.take q) [s] (fun k => some k ≠ (Value.slice V1 q c1).ownBlock) rfl rfl (lit_sl (E := 9) (cs := [.string s]) (by first | (simp only [heap_alloc_get] <;> simp <;> done) | (refine Eq.trans (HG1.out.block _ ?_ (ne_lit (by simp))) ?_; rotate_left; (simp only [heap_alloc_get, heap_drew_get] <;> simp <;> done); (simp <;> omega))) rfl (by first | exact ne_fresh OW1.out | exact ne_grown HAT1.out (ne_lit (by simp)) (by simp <;> omega))) (fun k hk => hk) (OW1.out.below (by (repeat (first | with_reducible exact (Below.refl _ _) | with_reducible apply Below.drew | with_reducible refine balloc ?_ _)))) (by (repeat (first | with_reducible exact (Below.refl _ _) | with_reducible exact HB7.out | with_reducible apply Below.drew | with_reducible refine balloc ?_ _))) LN2.out ?_; intro V2 n2 c2 w8 e2 ho2 hb8 hg2 hat2; rw [htl2.out] at e2; subst n2; have h0 := (hb8.cell hSl).trans x0; have hS8 := Nat.lt_of_lt_of_le hSl hb8.size; have OW2 := put ho2; have HB8 := put hb8; clear ho2 hg2 hat2 hb8)
        refine hJJ.out _ _ trivial (fun hHeld => ?_)
        clear hJJ JJ
        try simp only [List.getElem_toArray, List.getElem_cons_succ, List.getElem_cons_zero, Act.put, List.setIfInBounds_toArray, List.set_cons_zero, List.set_cons_succ]
        refine wpAnyH_ready (rs := [18]) (by kernel_rfl) (by simp) ?_
        refine AllReadyH.cons rfl (fun JJ hJJ => ?_) AllReadyH.nil
        (refine pushS rfl _ _ rfl (.slice V2 (q + 1) c2) (.slice (if c = q then A else A.map (fun x => x.add (q))) (m - q) (c - q)) (l.take q ++ [s]) (l.drop q) (fun k => k < wk.heap.size) rfl rfl (ODD.out.below (by (repeat (first | with_reducible exact (Below.refl _ _) | with_reducible exact HB8.out | with_reducible apply Below.drew | with_reducible refine balloc ?_ _)))) (fun k hk => ne_own OW2.out hk) (OW2.out.below (by (repeat (first | with_reducible exact (Below.refl _ _) | with_reducible apply Below.drew | with_reducible refine balloc ?_ _)))) (by (repeat (first | with_reducible exact (Below.refl _ _) | with_reducible exact HB8.out | with_reducible apply Below.drew | with_reducible refine balloc ?_ _))) LN3.out ?_; intro V3 l3 c3' w9 e3 ho3 hb9 hg3 hat3; have z0 := (hb9.cell hSl).trans x0; have f0 := frz hb9 hSh; have OW3 := put ho3; have HB9 := put hb9; clear ho3 hg3 hat3 hb9 e3)
        refine hJJ.out _ _ trivial (fun hHeld => ?_)
        clear hJJ JJ
        refine wpAnyH_take (i := 19) (v := ?_) rfl (by kernel_rfl) (by kernel_rfl) (by kernel_rfl) (fun _ _ _ h => h) (Or.inl ⟨by kernel_rfl, ?_⟩) (by assumption) ?_
        rotate_left
        focus (intro w hSw; (try dsimp only at hSw); go_simp; (try with_reducible rfl); done)
        refine wpAnyH_take (i := 20) (v := ?_) rfl (by kernel_rfl) (by kernel_rfl) (by kernel_rfl) (fun _ _ _ h => h) (Or.inl ⟨by kernel_rfl, ?_⟩) (by assumption) ?_
        rotate_left
        focus (intro w hSw; (try dsimp only at hSw); go_simp; (try with_reducible rfl); done)
        try simp only [List.getElem_toArray, List.getElem_cons_succ, List.getElem_cons_zero, Act.put, List.setIfInBounds_toArray, List.set_cons_zero, List.set_cons_succ]
        refine wpAnyH_ready (rs := [21]) (by kernel_rfl) (by simp) ?_
        refine AllReadyH.cons rfl (fun JJ hJJ => ?_) AllReadyH.nil
        go_simp
        refine hJJ.out _ _ trivial (fun hHeld => ?_)
        clear hJJ JJ
        try simp only [List.getElem_toArray, List.getElem_cons_succ, List.getElem_cons_zero, Act.put, List.setIfInBounds_toArray, List.set_cons_zero, List.set_cons_succ]
        refine wpAnyH_done (by kernel_rfl) ?_ _
        refine NoPanic.normal ?_
        go_wp2_with fail
        all_goals (go_ret; exact .inr (.inr ⟨by omega, HBB.out.symm, FIN.out _ _ _ _ OW3.out HB9.out⟩))
      refine AllReadyH.cons rfl (fun JJ hJJ => ?_) AllReadyH.nil
      go_simp
      refine hJJ.out _ _ trivial (fun hHeld => ?_)
      clear hJJ JJ
      try simp only [List.getElem_toArray, List.getElem_cons_succ, List.getElem_cons_zero, Act.put, List.setIfInBounds_toArray, List.set_cons_zero, List.set_cons_succ]
      refine wpAnyH_ready (rs := [1]) (by kernel_rfl) (by simp) ?_
      refine AllReadyH.cons rfl (fun JJ hJJ => ?_) AllReadyH.nil
      go_simp
      refine hJJ.out _ _ trivial (fun hHeld => ?_)
      clear hJJ JJ
      try simp only [List.getElem_toArray, List.getElem_cons_succ, List.getElem_cons_zero, Act.put, List.setIfInBounds_toArray, List.set_cons_zero, List.set_cons_succ]
      refine wpAnyH_ready (rs := [8]) (by kernel_rfl) (by simp) ?_
      refine AllReadyH.cons rfl (fun JJ hJJ => ?_) AllReadyH.nil
      (refine pushS rfl _ _ rfl (.slice (some ⟨_, 0, none⟩) 0 0) (.slice A q c) [] (l.take q) (fun k => k < wk.heap.size) rfl rfl (OT.out _ (by (repeat (first | with_reducible exact (Below.refl _ _) | with_reducible apply Below.drew | with_reducible refine balloc ?_ _)))) (fun k hk => ne_new hk (by (first | exact Nat.le_refl _ | exact Nat.le_succ _))) (Own.lit' _ (by (simp only [heap_alloc_get, heap_drew_get] <;> simp <;> done)) (by (first | exact Nat.le_refl _ | exact Nat.le_succ _))) (by (repeat (first | with_reducible exact (Below.refl _ _) | with_reducible apply Below.drew | with_reducible refine balloc ?_ _))) LN1.out ?_; intro V1 n1 c1 w7 e1 ho1 hb7 hg1 hat1; rw [htl1.out] at e1; subst n1; have g0 := (hb7.cell hSl).trans x0; have hS7 := Nat.lt_of_lt_of_le hSl hb7.size; have OW1 := put ho1; have HB7 := put hb7; have HG1 := put hg1; have HAT1 := put hat1; clear ho1 hg1 hat1 hb7)
      refine hJJ.out _ _ trivial (fun hHeld => ?_)
      clear hJJ JJ
      try simp only [List.getElem_toArray, List.getElem_cons_succ, List.getElem_cons_zero, Act.put, List.setIfInBounds_toArray, List.set_cons_zero, List.set_cons_succ]
      refine wpAnyH_ready (rs := [11]) (by kernel_rfl) (by simp) ?_
      refine AllReadyH.cons rfl (fun JJ hJJ => ?_) AllReadyH.nil
      (refine pushS rfl _ _ rfl (.slice V1 q c1) (.slice (some ⟨_, 0, none⟩) 1 1) (l.take q) [s] (fun k => some k ≠ (Value.slice V1 q c1).ownBlock) rfl rfl (lit_sl (E := 9) (cs := [.string s]) (by first | (simp only [heap_alloc_get] <;> simp <;> done) | (refine Eq.trans (HG1.out.block _ ?_ (ne_lit (by simp))) ?_; rotate_left; (simp only [heap_alloc_get, heap_drew_get] <;> simp <;> done); (simp <;> omega))) rfl (by first | exact ne_fresh OW1.out | exact ne_grown HAT1.out (ne_lit (by simp)) (by simp <;> omega))) (fun k hk => hk) (OW1.out.below (by (repeat (first | with_reducible exact (Below.refl _ _) | with_reducible apply Below.drew | with_reducible refine balloc ?_ _)))) (by (repeat (first | with_reducible exact (Below.refl _ _) | with_reducible exact HB7.out | with_reducible apply Below.drew | with_reducible refine balloc ?_ _))) LN2.out ?_; intro V2 n2 c2 w8 e2 ho2 hb8 hg2 hat2; rw [htl2.out] at e2; subst n2; have h0 := (hb8.cell hSl).trans x0; have hS8 := Nat.lt_of_lt_of_le hSl hb8.size; have OW2 := put ho2; have HB8 := put hb8; clear ho2 hg2 hat2 hb8)
      refine hJJ.out _ _ trivial (fun hHeld => ?_)
      clear hJJ JJ
      try simp only [List.getElem_toArray, List.getElem_cons_succ, List.getElem_cons_zero, Act.put, List.setIfInBounds_toArray, List.set_cons_zero, List.set_cons_succ]
      refine wpAnyH_ready (rs := [18]) (by kernel_rfl) (by simp) ?_
      refine AllReadyH.cons rfl (fun JJ hJJ => ?_) AllReadyH.nil
      (refine pushS rfl _ _ rfl (.slice V2 (q + 1) c2) (.slice (if c = q then A else A.map (fun x => x.add (q))) (m - q) (c - q)) (l.take q ++ [s]) (l.drop q) (fun k => k < wk.heap.size) rfl rfl (ODD.out.below (by (repeat (first | with_reducible exact (Below.refl _ _) | with_reducible exact HB8.out | with_reducible apply Below.drew | with_reducible refine balloc ?_ _)))) (fun k hk => ne_own OW2.out hk) (OW2.out.below (by (repeat (first | with_reducible exact (Below.refl _ _) | with_reducible apply Below.drew | with_reducible refine balloc ?_ _)))) (by (repeat (first | with_reducible exact (Below.refl _ _) | with_reducible exact HB8.out | with_reducible apply Below.drew | with_reducible refine balloc ?_ _))) LN3.out ?_; intro V3 l3 c3' w9 e3 ho3 hb9 hg3 hat3; have z0 := (hb9.cell hSl).trans x0; have f0 := frz hb9 hSh; have OW3 := put ho3; have HB9 := put hb9; clear ho3 hg3 hat3 hb9 e3)
      refine hJJ.out _ _ trivial (fun hHeld => ?_)
      clear hJJ JJ
      refine wpAnyH_take (i := 19) (v := ?_) rfl (by kernel_rfl) (by kernel_rfl) (by kernel_rfl) (fun _ _ _ h => h) (Or.inl ⟨by kernel_rfl, ?_⟩) (by assumption) ?_
      rotate_left
      focus (intro w hSw; (try dsimp only at hSw); go_simp; (try with_reducible rfl); done)
      refine wpAnyH_take (i := 20) (v := ?_) rfl (by kernel_rfl) (by kernel_rfl) (by kernel_rfl) (fun _ _ _ h => h) (Or.inl ⟨by kernel_rfl, ?_⟩) (by assumption) ?_
      rotate_left
      focus (intro w hSw; (try dsimp only at hSw); go_simp; (try with_reducible rfl); done)
      try simp only [List.getElem_toArray, List.getElem_cons_succ, List.getElem_cons_zero, Act.put, List.setIfInBounds_toArray, List.set_cons_zero, List.set_cons_succ]
      refine wpAnyH_ready (rs := [21]) (by kernel_rfl) (by simp) ?_
      refine AllReadyH.cons rfl (fun JJ hJJ => ?_) AllReadyH.nil
      go_simp
      refine hJJ.out _ _ trivial (fun hHeld => ?_)
      clear hJJ JJ
      try simp only [List.getElem_toArray, List.getElem_cons_succ, List.getElem_cons_zero, Act.put, List.setIfInBounds_toArray, List.set_cons_zero, List.set_cons_succ]
      refine wpAnyH_done (by kernel_rfl) ?_ _
      refine NoPanic.normal ?_
      go_wp2_with fail
      all_goals (go_ret; exact .inr (.inr ⟨by omega, HBB.out.symm, FIN.out _ _ _ _ OW3.out HB9.out⟩))
    refine AllReadyH.cons rfl (fun JJ hJJ => ?_) ?_
    · go_simp
      refine hJJ.out _ _ trivial (fun hHeld => ?_)
      clear hJJ JJ
      try simp only [List.getElem_toArray, List.getElem_cons_succ, List.getElem_cons_zero, Act.put, List.setIfInBounds_toArray, List.set_cons_zero, List.set_cons_succ]
      refine wpAnyH_ready (rs := [1, 5, 15]) (by kernel_rfl) (by simp) ?_
      refine AllReadyH.cons rfl (fun JJ hJJ => ?_) ?_
      · go_simp
        refine hJJ.out _ _ trivial (fun hHeld => ?_)
        clear hJJ JJ
        try simp only [List.getElem_toArray, List.getElem_cons_succ, List.getElem_cons_zero, Act.put, List.setIfInBounds_toArray, List.set_cons_zero, List.set_cons_succ]
        refine wpAnyH_ready (rs := [5, 15]) (by kernel_rfl) (by simp) ?_
        refine AllReadyH.cons rfl (fun JJ hJJ => ?_) ?_
        · go_simp
          refine hJJ.out _ _ trivial (fun hHeld => ?_)
          clear hJJ JJ
          refine wpAnyH_take (i := 7) (v := ?_) rfl (by kernel_rfl) (by kernel_rfl) (by kernel_rfl) (fun _ _ _ h => h) (Or.inl ⟨by kernel_rfl, ?_⟩) (by assumption) ?_
          rotate_left
          focus (intro w hSw; (try dsimp only at hSw); go_simp; (try with_reducible rfl); done)
          try simp only [List.getElem_toArray, List.getElem_cons_succ, List.getElem_cons_zero, Act.put, List.setIfInBounds_toArray, List.set_cons_zero, List.set_cons_succ]
          refine wpAnyH_ready (rs := [8, 15]) (by kernel_rfl) (by simp) ?_
          refine AllReadyH.cons rfl (fun JJ hJJ => ?_) ?_
          · (refine pushS rfl _ _ rfl (.slice (some ⟨_, 0, none⟩) 0 0) (.slice A q c) [] (l.take q) (fun k => k < wk.heap.size) rfl rfl (OT.out _ (by (repeat (first | with_reducible exact (Below.refl _ _) | with_reducible apply Below.drew | with_reducible refine balloc ?_ _)))) (fun k hk => ne_new hk (by (first | exact Nat.le_refl _ | exact Nat.le_succ _))) (Own.lit' _ (by (simp only [heap_alloc_get, heap_drew_get] <;> simp <;> done)) (by (first | exact Nat.le_refl _ | exact Nat.le_succ _))) (by (repeat (first | with_reducible exact (Below.refl _ _) | with_reducible apply Below.drew | with_reducible refine balloc ?_ _))) LN1.out ?_; intro V1 n1 c1 w7 e1 ho1 hb7 hg1 hat1; rw [htl1.out] at e1; subst n1; have g0 := (hb7.cell hSl).trans x0; have hS7 := Nat.lt_of_lt_of_le hSl hb7.size; have OW1 := put ho1; have HB7 := put hb7; have HG1 := put hg1; have HAT1 := put hat1; clear ho1 hg1 hat1 hb7)
            refine hJJ.out _ _ trivial (fun hHeld => ?_)
            clear hJJ JJ
            try simp only [List.getElem_toArray, List.getElem_cons_succ, List.getElem_cons_zero, Act.put, List.setIfInBounds_toArray, List.set_cons_zero, List.set_cons_succ]
            refine wpAnyH_ready (rs := [11, 15]) (by kernel_rfl) (by simp) ?_
            refine AllReadyH.cons rfl (fun JJ hJJ => ?_) ?_
            · (refine pushS rfl _ _ rfl (.slice V1 q c1) (.slice (some ⟨_, 0, none⟩) 1 1) (l.take q) [s] (fun k => some k ≠ (Value.slice V1 q c1).ownBlock) rfl rfl (lit_sl (E := 9) (cs := [.string s]) (by first | (simp only [heap_alloc_get] <;> simp <;> done) | (refine Eq.trans (HG1.out.block _ ?_ (ne_lit (by simp))) ?_; rotate_left; (simp only [heap_alloc_get, heap_drew_get] <;> simp <;> done); (simp <;> omega))) rfl (by first | exact ne_fresh OW1.out | exact ne_grown HAT1.out (ne_lit (by simp)) (by simp <;> omega))) (fun k hk => hk) (OW1.out.below (by (repeat (first | with_reducible exact (Below.refl _ _) | with_reducible apply Below.drew | with_reducible refine balloc ?_ _)))) (by (repeat (first | with_reducible exact (Below.refl _ _) | with_reducible exact HB7.out | with_reducible apply Below.drew | with_reducible refine balloc ?_ _))) LN2.out ?_; intro V2 n2 c2 w8 e2 ho2 hb8 hg2 hat2; rw [htl2.out] at e2; subst n2; have h0 := (hb8.cell hSl).trans x0; have hS8 := Nat.lt_of_lt_of_le hSl hb8.size; have OW2 := put ho2; have HB8 := put hb8; clear ho2 hg2 hat2 hb8)
              refine hJJ.out _ _ trivial (fun hHeld => ?_)
              clear hJJ JJ
              try simp only [List.getElem_toArray, List.getElem_cons_succ, List.getElem_cons_zero, Act.put, List.setIfInBounds_toArray, List.set_cons_zero, List.set_cons_succ]
              refine wpAnyH_ready (rs := [15]) (by kernel_rfl) (by simp) ?_
              refine AllReadyH.cons rfl (fun JJ hJJ => ?_) AllReadyH.nil
              go_simp
              refine hJJ.out _ _ trivial (fun hHeld => ?_)
              clear hJJ JJ
              refine wpAnyH_take (i := 17) (v := ?_) rfl (by kernel_rfl) (by kernel_rfl) (by kernel_rfl) (fun _ _ _ h => h) (Or.inl ⟨by kernel_rfl, ?_⟩) (by assumption) ?_
              rotate_left
              focus (intro w hSw; (try dsimp only at hSw); go_simp; (try with_reducible rfl); done)
              try simp only [List.getElem_toArray, List.getElem_cons_succ, List.getElem_cons_zero, Act.put, List.setIfInBounds_toArray, List.set_cons_zero, List.set_cons_succ]
              refine wpAnyH_ready (rs := [18]) (by kernel_rfl) (by simp) ?_
              refine AllReadyH.cons rfl (fun JJ hJJ => ?_) AllReadyH.nil
              (refine pushS rfl _ _ rfl (.slice V2 (q + 1) c2) (.slice (if c = q then A else A.map (fun x => x.add (q))) (m - q) (c - q)) (l.take q ++ [s]) (l.drop q) (fun k => k < wk.heap.size) rfl rfl (ODD.out.below (by (repeat (first | with_reducible exact (Below.refl _ _) | with_reducible exact HB8.out | with_reducible apply Below.drew | with_reducible refine balloc ?_ _)))) (fun k hk => ne_own OW2.out hk) (OW2.out.below (by (repeat (first | with_reducible exact (Below.refl _ _) | with_reducible apply Below.drew | with_reducible refine balloc ?_ _)))) (by (repeat (first | with_reducible exact (Below.refl _ _) | with_reducible exact HB8.out | with_reducible apply Below.drew | with_reducible refine balloc ?_ _))) LN3.out ?_; intro V3 l3 c3' w9 e3 ho3 hb9 hg3 hat3; have z0 := (hb9.cell hSl).trans x0; have f0 := frz hb9 hSh; have OW3 := put ho3; have HB9 := put hb9; clear ho3 hg3 hat3 hb9 e3)
              refine hJJ.out _ _ trivial (fun hHeld => ?_)
              clear hJJ JJ
              refine wpAnyH_take (i := 19) (v := ?_) rfl (by kernel_rfl) (by kernel_rfl) (by kernel_rfl) (fun _ _ _ h => h) (Or.inl ⟨by kernel_rfl, ?_⟩) (by assumption) ?_
              rotate_left
              focus (intro w hSw; (try dsimp only at hSw); go_simp; (try with_reducible rfl); done)
              refine wpAnyH_take (i := 20) (v := ?_) rfl (by kernel_rfl) (by kernel_rfl) (by kernel_rfl) (fun _ _ _ h => h) (Or.inl ⟨by kernel_rfl, ?_⟩) (by assumption) ?_
              rotate_left
              focus (intro w hSw; (try dsimp only at hSw); go_simp; (try with_reducible rfl); done)
              try simp only [List.getElem_toArray, List.getElem_cons_succ, List.getElem_cons_zero, Act.put, List.setIfInBounds_toArray, List.set_cons_zero, List.set_cons_succ]
              refine wpAnyH_ready (rs := [21]) (by kernel_rfl) (by simp) ?_
              refine AllReadyH.cons rfl (fun JJ hJJ => ?_) AllReadyH.nil
              go_simp
              refine hJJ.out _ _ trivial (fun hHeld => ?_)
              clear hJJ JJ
              try simp only [List.getElem_toArray, List.getElem_cons_succ, List.getElem_cons_zero, Act.put, List.setIfInBounds_toArray, List.set_cons_zero, List.set_cons_succ]
              refine wpAnyH_done (by kernel_rfl) ?_ _
              refine NoPanic.normal ?_
              go_wp2_with fail
              all_goals (go_ret; exact .inr (.inr ⟨by omega, HBB.out.symm, FIN.out _ _ _ _ OW3.out HB9.out⟩))
            refine AllReadyH.cons rfl (fun JJ hJJ => ?_) AllReadyH.nil
            go_simp
            refine hJJ.out _ _ trivial (fun hHeld => ?_)
            clear hJJ JJ
            refine wpAnyH_take (i := 17) (v := ?_) rfl (by kernel_rfl) (by kernel_rfl) (by kernel_rfl) (fun _ _ _ h => h) (Or.inl ⟨by kernel_rfl, ?_⟩) (by assumption) ?_
            rotate_left
            focus (intro w hSw; (try dsimp only at hSw); go_simp; (try with_reducible rfl); done)
            try simp only [List.getElem_toArray, List.getElem_cons_succ, List.getElem_cons_zero, Act.put, List.setIfInBounds_toArray, List.set_cons_zero, List.set_cons_succ]
            refine wpAnyH_ready (rs := [11]) (by kernel_rfl) (by simp) ?_
            refine AllReadyH.cons rfl (fun JJ hJJ => ?_) AllReadyH.nil
            (refine pushS rfl _ _ rfl (.slice V1 q c1) (.slice (some ⟨_, 0, none⟩) 1 1) (l.take q) [s] (fun k => some k ≠ (Value.slice V1 q c1).ownBlock) rfl rfl (lit_sl (E := 9) (cs := [.string s]) (by first | (simp only [heap_alloc_get] <;> simp <;> done) | (refine Eq.trans (HG1.out.block _ ?_ (ne_lit (by simp))) ?_; rotate_left; (simp only [heap_alloc_get, heap_drew_get] <;> simp <;> done); (simp <;> omega))) rfl (by first | exact ne_fresh OW1.out | exact ne_grown HAT1.out (ne_lit (by simp)) (by simp <;> omega))) (fun k hk => hk) (OW1.out.below (by (repeat (first | with_reducible exact (Below.refl _ _) | with_reducible apply Below.drew | with_reducible refine balloc ?_ _)))) (by (repeat (first | with_reducible exact (Below.refl _ _) | with_reducible exact HB7.out | with_reducible apply Below.drew | with_reducible refine balloc ?_ _))) LN2.out ?_; intro V2 n2 c2 w8 e2 ho2 hb8 hg2 hat2; rw [htl2.out] at e2; subst n2; have h0 := (hb8.cell hSl).trans x0; have hS8 := Nat.lt_of_lt_of_le hSl hb8.size; have OW2 := put ho2; have HB8 := put hb8; clear ho2 hg2 hat2 hb8)
            refine hJJ.out _ _ trivial (fun hHeld => ?_)
            clear hJJ JJ
            try simp only [List.getElem_toArray, List.getElem_cons_succ, List.getElem_cons_zero, Act.put, List.setIfInBounds_toArray, List.set_cons_zero, List.set_cons_succ]
            refine wpAnyH_ready (rs := [18]) (by kernel_rfl) (by simp) ?_
            refine AllReadyH.cons rfl (fun JJ hJJ => ?_) AllReadyH.nil
            (refine pushS rfl _ _ rfl (.slice V2 (q + 1) c2) (.slice (if c = q then A else A.map (fun x => x.add (q))) (m - q) (c - q)) (l.take q ++ [s]) (l.drop q) (fun k => k < wk.heap.size) rfl rfl (ODD.out.below (by (repeat (first | with_reducible exact (Below.refl _ _) | with_reducible exact HB8.out | with_reducible apply Below.drew | with_reducible refine balloc ?_ _)))) (fun k hk => ne_own OW2.out hk) (OW2.out.below (by (repeat (first | with_reducible exact (Below.refl _ _) | with_reducible apply Below.drew | with_reducible refine balloc ?_ _)))) (by (repeat (first | with_reducible exact (Below.refl _ _) | with_reducible exact HB8.out | with_reducible apply Below.drew | with_reducible refine balloc ?_ _))) LN3.out ?_; intro V3 l3 c3' w9 e3 ho3 hb9 hg3 hat3; have z0 := (hb9.cell hSl).trans x0; have f0 := frz hb9 hSh; have OW3 := put ho3; have HB9 := put hb9; clear ho3 hg3 hat3 hb9 e3)
            refine hJJ.out _ _ trivial (fun hHeld => ?_)
            clear hJJ JJ
            refine wpAnyH_take (i := 19) (v := ?_) rfl (by kernel_rfl) (by kernel_rfl) (by kernel_rfl) (fun _ _ _ h => h) (Or.inl ⟨by kernel_rfl, ?_⟩) (by assumption) ?_
            rotate_left
            focus (intro w hSw; (try dsimp only at hSw); go_simp; (try with_reducible rfl); done)
            refine wpAnyH_take (i := 20) (v := ?_) rfl (by kernel_rfl) (by kernel_rfl) (by kernel_rfl) (fun _ _ _ h => h) (Or.inl ⟨by kernel_rfl, ?_⟩) (by assumption) ?_
            rotate_left
            focus (intro w hSw; (try dsimp only at hSw); go_simp; (try with_reducible rfl); done)
            try simp only [List.getElem_toArray, List.getElem_cons_succ, List.getElem_cons_zero, Act.put, List.setIfInBounds_toArray, List.set_cons_zero, List.set_cons_succ]
            refine wpAnyH_ready (rs := [21]) (by kernel_rfl) (by simp) ?_
            refine AllReadyH.cons rfl (fun JJ hJJ => ?_) AllReadyH.nil
            go_simp
            refine hJJ.out _ _ trivial (fun hHeld => ?_)
            clear hJJ JJ
            try simp only [List.getElem_toArray, List.getElem_cons_succ, List.getElem_cons_zero, Act.put, List.setIfInBounds_toArray, List.set_cons_zero, List.set_cons_succ]
            refine wpAnyH_done (by kernel_rfl) ?_ _
            refine NoPanic.normal ?_
            go_wp2_with fail
            all_goals (go_ret; exact .inr (.inr ⟨by omega, HBB.out.symm, FIN.out _ _ _ _ OW3.out HB9.out⟩))
          refine AllReadyH.cons rfl (fun JJ hJJ => ?_) AllReadyH.nil
          go_simp
          refine hJJ.out _ _ trivial (fun hHeld => ?_)
          clear hJJ JJ
          refine wpAnyH_take (i := 17) (v := ?_) rfl (by kernel_rfl) (by kernel_rfl) (by kernel_rfl) (fun _ _ _ h => h) (Or.inl ⟨by kernel_rfl, ?_⟩) (by assumption) ?_
          rotate_left
          focus (intro w hSw; (try dsimp only at hSw); go_simp; (try with_reducible rfl); done)
          try simp only [List.getElem_toArray, List.getElem_cons_succ, List.getElem_cons_zero, Act.put, List.setIfInBounds_toArray, List.set_cons_zero, List.set_cons_succ]
          refine wpAnyH_ready (rs := [8]) (by kernel_rfl) (by simp) ?_
          refine AllReadyH.cons rfl (fun JJ hJJ => ?_) AllReadyH.nil
          (refine pushS rfl _ _ rfl (.slice (some ⟨_, 0, none⟩) 0 0) (.slice A q c) [] (l.take q) (fun k => k < wk.heap.size) rfl rfl (OT.out _ (by (repeat (first | with_reducible exact (Below.refl _ _) | with_reducible apply Below.drew | with_reducible refine balloc ?_ _)))) (fun k hk => ne_new hk (by (first | exact Nat.le_refl _ | exact Nat.le_succ _))) (Own.lit' _ (by (simp only [heap_alloc_get, heap_drew_get] <;> simp <;> done)) (by (first | exact Nat.le_refl _ | exact Nat.le_succ _))) (by (repeat (first | with_reducible exact (Below.refl _ _) | with_reducible apply Below.drew | with_reducible refine balloc ?_ _))) LN1.out ?_; intro V1 n1 c1 w7 e1 ho1 hb7 hg1 hat1; rw [htl1.out] at e1; subst n1; have g0 := (hb7.cell hSl).trans x0; have hS7 := Nat.lt_of_lt_of_le hSl hb7.size; have OW1 := put ho1; have HB7 := put hb7; have HG1 := put hg1; have HAT1 := put hat1; clear ho1 hg1 hat1 hb7)
          refine hJJ.out _ _ trivial (fun hHeld => ?_)
          clear hJJ JJ
          try simp only [List.getElem_toArray, List.getElem_cons_succ, List.getElem_cons_zero, Act.put, List.setIfInBounds_toArray, List.set_cons_zero, List.set_cons_succ]
          refine wpAnyH_ready (rs := [11]) (by kernel_rfl) (by simp) ?_
          refine AllReadyH.cons rfl (fun JJ hJJ => ?_) AllReadyH.nil
          (refine pushS rfl _ _ rfl (.slice V1 q c1) (.slice (some ⟨_, 0, none⟩) 1 1) (l.take q) [s] (fun k => some k ≠ (Value.slice V1 q c1).ownBlock) rfl rfl (lit_sl (E := 9) (cs := [.string s]) (by first | (simp only [heap_alloc_get] <;> simp <;> done) | (refine Eq.trans (HG1.out.block _ ?_ (ne_lit (by simp))) ?_; rotate_left; (simp only [heap_alloc_get, heap_drew_get] <;> simp <;> done); (simp <;> omega))) rfl (by first | exact ne_fresh OW1.out | exact ne_grown HAT1.out (ne_lit (by simp)) (by simp <;> omega))) (fun k hk => hk) (OW1.out.below (by (repeat (first | with_reducible exact (Below.refl _ _) | with_reducible apply Below.drew | with_reducible refine balloc ?_ _)))) (by (repeat (first | with_reducible exact (Below.refl _ _) | with_reducible exact HB7.out | with_reducible apply Below.drew | with_reducible refine balloc ?_ _))) LN2.out ?_; intro V2 n2 c2 w8 e2 ho2 hb8 hg2 hat2; rw [htl2.out] at e2; subst n2; have h0 := (hb8.cell hSl).trans x0; have hS8 := Nat.lt_of_lt_of_le hSl hb8.size; have OW2 := put ho2; have HB8 := put hb8; clear ho2 hg2 hat2 hb8)
          refine hJJ.out _ _ trivial (fun hHeld => ?_)
          clear hJJ JJ
          try simp only [List.getElem_toArray, List.getElem_cons_succ, List.getElem_cons_zero, Act.put, List.setIfInBounds_toArray, List.set_cons_zero, List.set_cons_succ]
          refine wpAnyH_ready (rs := [18]) (by kernel_rfl) (by simp) ?_
          refine AllReadyH.cons rfl (fun JJ hJJ => ?_) AllReadyH.nil
          (refine pushS rfl _ _ rfl (.slice V2 (q + 1) c2) (.slice (if c = q then A else A.map (fun x => x.add (q))) (m - q) (c - q)) (l.take q ++ [s]) (l.drop q) (fun k => k < wk.heap.size) rfl rfl (ODD.out.below (by (repeat (first | with_reducible exact (Below.refl _ _) | with_reducible exact HB8.out | with_reducible apply Below.drew | with_reducible refine balloc ?_ _)))) (fun k hk => ne_own OW2.out hk) (OW2.out.below (by (repeat (first | with_reducible exact (Below.refl _ _) | with_reducible apply Below.drew | with_reducible refine balloc ?_ _)))) (by (repeat (first | with_reducible exact (Below.refl _ _) | with_reducible exact HB8.out | with_reducible apply Below.drew | with_reducible refine balloc ?_ _))) LN3.out ?_; intro V3 l3 c3' w9 e3 ho3 hb9 hg3 hat3; have z0 := (hb9.cell hSl).trans x0; have f0 := frz hb9 hSh; have OW3 := put ho3; have HB9 := put hb9; clear ho3 hg3 hat3 hb9 e3)
          refine hJJ.out _ _ trivial (fun hHeld => ?_)
          clear hJJ JJ
          refine wpAnyH_take (i := 19) (v := ?_) rfl (by kernel_rfl) (by kernel_rfl) (by kernel_rfl) (fun _ _ _ h => h) (Or.inl ⟨by kernel_rfl, ?_⟩) (by assumption) ?_
          rotate_left
          focus (intro w hSw; (try dsimp only at hSw); go_simp; (try with_reducible rfl); done)
          refine wpAnyH_take (i := 20) (v := ?_) rfl (by kernel_rfl) (by kernel_rfl) (by kernel_rfl) (fun _ _ _ h => h) (Or.inl ⟨by kernel_rfl, ?_⟩) (by assumption) ?_
          rotate_left
          focus (intro w hSw; (try dsimp only at hSw); go_simp; (try with_reducible rfl); done)
          try simp only [List.getElem_toArray, List.getElem_cons_succ, List.getElem_cons_zero, Act.put, List.setIfInBounds_toArray, List.set_cons_zero, List.set_cons_succ]
          refine wpAnyH_ready (rs := [21]) (by kernel_rfl) (by simp) ?_
          refine AllReadyH.cons rfl (fun JJ hJJ => ?_) AllReadyH.nil
          go_simp
          refine hJJ.out _ _ trivial (fun hHeld => ?_)
          clear hJJ JJ
          try simp only [List.getElem_toArray, List.getElem_cons_succ, List.getElem_cons_zero, Act.put, List.setIfInBounds_toArray, List.set_cons_zero, List.set_cons_succ]
          refine wpAnyH_done (by kernel_rfl) ?_ _
          refine NoPanic.normal ?_
          go_wp2_with fail
          all_goals (go_ret; exact .inr (.inr ⟨by omega, HBB.out.symm, FIN.out _ _ _ _ OW3.out HB9.out⟩))
        refine AllReadyH.cons rfl (fun JJ hJJ => ?_) AllReadyH.nil
        go_simp
        refine hJJ.out _ _ trivial (fun hHeld => ?_)
        clear hJJ JJ
        refine wpAnyH_take (i := 17) (v := ?_) rfl (by kernel_rfl) (by kernel_rfl) (by kernel_rfl) (fun _ _ _ h => h) (Or.inl ⟨by kernel_rfl, ?_⟩) (by assumption) ?_
        rotate_left
        focus (intro w hSw; (try dsimp only at hSw); go_simp; (try with_reducible rfl); done)
        try simp only [List.getElem_toArray, List.getElem_cons_succ, List.getElem_cons_zero, Act.put, List.setIfInBounds_toArray, List.set_cons_zero, List.set_cons_succ]
        refine wpAnyH_ready (rs := [5]) (by kernel_rfl) (by simp) ?_
        refine AllReadyH.cons rfl (fun JJ hJJ => ?_) AllReadyH.nil
        go_simp
        refine hJJ.out _ _ trivial (fun hHeld => ?_)
        clear hJJ JJ
        refine wpAnyH_take (i := 7) (v := ?_) rfl (by kernel_rfl) (by kernel_rfl) (by kernel_rfl) (fun _ _ _ h => h) (Or.inl ⟨by kernel_rfl, ?_⟩) (by assumption) ?_
        rotate_left
        focus (intro w hSw; (try dsimp only at hSw); go_simp; (try with_reducible rfl); done)
        try simp only [List.getElem_toArray, List.getElem_cons_succ, List.getElem_cons_zero, Act.put, List.setIfInBounds_toArray, List.set_cons_zero, List.set_cons_succ]
        refine wpAnyH_ready (rs := [8]) (by kernel_rfl) (by simp) ?_
        refine AllReadyH.cons rfl (fun JJ hJJ => ?_) AllReadyH.nil
        (refine pushS rfl _ _ rfl (.slice (some ⟨_, 0, none⟩) 0 0) (.slice A q c) [] (l.take q) (fun k => k < wk.heap.size) rfl rfl (OT.out _ (by (repeat (first | with_reducible exact (Below.refl _ _) | with_reducible apply Below.drew | with_reducible refine balloc ?_ _)))) (fun k hk => ne_new hk (by (first | exact Nat.le_refl _ | exact Nat.le_succ _))) (Own.lit' _ (by (simp only [heap_alloc_get, heap_drew_get] <;> simp <;> done)) (by (first | exact Nat.le_refl _ | exact Nat.le_succ _))) (by (repeat (first | with_reducible exact (Below.refl _ _) | with_reducible apply Below.drew | with_reducible refine balloc ?_ _))) LN1.out ?_; intro V1 n1 c1 w7 e1 ho1 hb7 hg1 hat1; rw [htl1.out] at e1; subst n1; have g0 := (hb7.cell hSl).trans x0; have hS7 := Nat.lt_of_lt_of_le hSl hb7.size; have OW1 := put ho1; have HB7 := put hb7; have HG1 := put hg1; have HAT1 := put hat1; clear ho1 hg1 hat1 hb7)
        refine hJJ.out _ _ trivial (fun hHeld => ?_)
        clear hJJ JJ
        try simp only [List.getElem_toArray, List.getElem_cons_succ, List.getElem_cons_zero, Act.put, List.setIfInBounds_toArray, List.set_cons_zero, List.set_cons_succ]
        refine wpAnyH_ready (rs := [11]) (by kernel_rfl) (by simp) ?_
        refine AllReadyH.cons rfl (fun JJ hJJ => ?_) AllReadyH.nil
        (refine pushS rfl _ _ rfl (.slice V1 q c1) (.slice (some ⟨_, 0, none⟩) 1 1) (l.take q) [s] (fun k => some k ≠ (Value.slice V1 q c1).ownBlock) rfl rfl (lit_sl (E := 9) (cs := [.string s]) (by first | (simp only [heap_alloc_get] <;> simp <;> done) | (refine Eq.trans (HG1.out.block _ ?_ (ne_lit (by simp))) ?_; rotate_left; (simp only [heap_alloc_get, heap_drew_get] <;> simp <;> done); (simp <;> omega))) rfl (by first | exact ne_fresh OW1.out | exact ne_grown HAT1.out (ne_lit (by simp)) (by simp <;> omega))) (fun k hk => hk) (OW1.out.below (by (repeat (first | with_reducible exact (Below.refl _ _) | with_reducible apply Below.drew | with_reducible refine balloc ?_ _)))) (by (repeat (first | with_reducible exact (Below.refl _ _) | with_reducible exact HB7.out | with_reducible apply Below.drew | with_reducible refine balloc ?_ _))) LN2.out ?_; intro V2 n2 c2 w8 e2 ho2 hb8 hg2 hat2; rw [htl2.out] at e2; subst n2; have h0 := (hb8.cell hSl).trans x0; have hS8 := Nat.lt_of_lt_of_le hSl hb8.size; have OW2 := put ho2; have HB8 := put hb8; clear ho2 hg2 hat2 hb8)
        refine hJJ.out _ _ trivial (fun hHeld => ?_)
        clear hJJ JJ
        try simp only [List.getElem_toArray, List.getElem_cons_succ, List.getElem_cons_zero, Act.put, List.setIfInBounds_toArray, List.set_cons_zero, List.set_cons_succ]
        refine wpAnyH_ready (rs := [18]) (by kernel_rfl) (by simp) ?_
        refine AllReadyH.cons rfl (fun JJ hJJ => ?_) AllReadyH.nil
        (refine pushS rfl _ _ rfl (.slice V2 (q + 1) c2) (.slice (if c = q then A else A.map (fun x => x.add (q))) (m - q) (c - q)) (l.take q ++ [s]) (l.drop q) (fun k => k < wk.heap.size) rfl rfl (ODD.out.below (by (repeat (first | with_reducible exact (Below.refl _ _) | with_reducible exact HB8.out | with_reducible apply Below.drew | with_reducible refine balloc ?_ _)))) (fun k hk => ne_own OW2.out hk) (OW2.out.below (by (repeat (first | with_reducible exact (Below.refl _ _) | with_reducible apply Below.drew | with_reducible refine balloc ?_ _)))) (by (repeat (first | with_reducible exact (Below.refl _ _) | with_reducible exact HB8.out | with_reducible apply Below.drew | with_reducible refine balloc ?_ _))) LN3.out ?_; intro V3 l3 c3' w9 e3 ho3 hb9 hg3 hat3; have z0 := (hb9.cell hSl).trans x0; have f0 := frz hb9 hSh; have OW3 := put ho3; have HB9 := put hb9; clear ho3 hg3 hat3 hb9 e3)
        refine hJJ.out _ _ trivial (fun hHeld => ?_)
        clear hJJ JJ
        refine wpAnyH_take (i := 19) (v := ?_) rfl (by kernel_rfl) (by kernel_rfl) (by kernel_rfl) (fun _ _ _ h => h) (Or.inl ⟨by kernel_rfl, ?_⟩) (by assumption) ?_
        rotate_left
        focus (intro w hSw; (try dsimp only at hSw); go_simp; (try with_reducible rfl); done)
        refine wpAnyH_take (i := 20) (v := ?_) rfl (by kernel_rfl) (by kernel_rfl) (by kernel_rfl) (fun _ _ _ h => h) (Or.inl ⟨by kernel_rfl, ?_⟩) (by assumption) ?_
        rotate_left
        focus (intro w hSw; (try dsimp only at hSw); go_simp; (try with_reducible rfl); done)
        try simp only [List.getElem_toArray, List.getElem_cons_succ, List.getElem_cons_zero, Act.put, List.setIfInBounds_toArray, List.set_cons_zero, List.set_cons_succ]
        refine wpAnyH_ready (rs := [21]) (by kernel_rfl) (by simp) ?_
        refine AllReadyH.cons rfl (fun JJ hJJ => ?_) AllReadyH.nil
        go_simp
        refine hJJ.out _ _ trivial (fun hHeld => ?_)
        clear hJJ JJ
        try simp only [List.getElem_toArray, List.getElem_cons_succ, List.getElem_cons_zero, Act.put, List.setIfInBounds_toArray, List.set_cons_zero, List.set_cons_succ]
        refine wpAnyH_done (by kernel_rfl) ?_ _
        refine NoPanic.normal ?_
        go_wp2_with fail
        all_goals (go_ret; exact .inr (.inr ⟨by omega, HBB.out.symm, FIN.out _ _ _ _ OW3.out HB9.out⟩))
      refine AllReadyH.cons rfl (fun JJ hJJ => ?_) ?_
      · go_simp
        refine hJJ.out _ _ trivial (fun hHeld => ?_)
        clear hJJ JJ
        refine wpAnyH_take (i := 7) (v := ?_) rfl (by kernel_rfl) (by kernel_rfl) (by kernel_rfl) (fun _ _ _ h => h) (Or.inl ⟨by kernel_rfl, ?_⟩) (by assumption) ?_
        rotate_left
        focus (intro w hSw; (try dsimp only at hSw); go_simp; (try with_reducible rfl); done)
        try simp only [List.getElem_toArray, List.getElem_cons_succ, List.getElem_cons_zero, Act.put, List.setIfInBounds_toArray, List.set_cons_zero, List.set_cons_succ]
        refine wpAnyH_ready (rs := [1, 15]) (by kernel_rfl) (by simp) ?_
        refine AllReadyH.cons rfl (fun JJ hJJ => ?_) ?_
        · go_simp
          refine hJJ.out _ _ trivial (fun hHeld => ?_)
          clear hJJ JJ
          try simp only [List.getElem_toArray, List.getElem_cons_succ, List.getElem_cons_zero, Act.put, List.setIfInBounds_toArray, List.set_cons_zero, List.set_cons_succ]
          refine wpAnyH_ready (rs := [8, 15]) (by kernel_rfl) (by simp) ?_
          refine AllReadyH.cons rfl (fun JJ hJJ => ?_) ?_
          · (refine pushS rfl _ _ rfl (.slice (some ⟨_, 0, none⟩) 0 0) (.slice A q c) [] (l.take q) (fun k => k < wk.heap.size) rfl rfl (OT.out _ (by (repeat (first | with_reducible exact (Below.refl _ _) | with_reducible apply Below.drew | with_reducible refine balloc ?_ _)))) (fun k hk => ne_new hk (by (first | exact Nat.le_refl _ | exact Nat.le_succ _))) (Own.lit' _ (by (simp only [heap_alloc_get, heap_drew_get] <;> simp <;> done)) (by (first | exact Nat.le_refl _ | exact Nat.le_succ _))) (by (repeat (first | with_reducible exact (Below.refl _ _) | with_reducible apply Below.drew | with_reducible refine balloc ?_ _))) LN1.out ?_; intro V1 n1 c1 w7 e1 ho1 hb7 hg1 hat1; rw [htl1.out] at e1; subst n1; have g0 := (hb7.cell hSl).trans x0; have hS7 := Nat.lt_of_lt_of_le hSl hb7.size; have OW1 := put ho1; have HB7 := put hb7; have HG1 := put hg1; have HAT1 := put hat1; clear ho1 hg1 hat1 hb7)
            refine hJJ.out _ _ trivial (fun hHeld => ?_)
            clear hJJ JJ
            try simp only [List.getElem_toArray, List.getElem_cons_succ, List.getElem_cons_zero, Act.put, List.setIfInBounds_toArray, List.set_cons_zero, List.set_cons_succ]
            refine wpAnyH_ready (rs := [11, 15]) (by kernel_rfl) (by simp) ?_
            refine AllReadyH.cons rfl (fun JJ hJJ => ?_) ?_
            · (refine pushS rfl _ _ rfl (.slice V1 q c1) (.slice (some ⟨_, 0, none⟩) 1 1) (l.take q) [s] (fun k => some k ≠ (Value.slice V1 q c1).ownBlock) rfl rfl (lit_sl (E := 9) (cs := [.string s]) (by first | (simp only [heap_alloc_get] <;> simp <;> done) | (refine Eq.trans (HG1.out.block _ ?_ (ne_lit (by simp))) ?_; rotate_left; (simp only [heap_alloc_get, heap_drew_get] <;> simp <;> done); (simp <;> omega))) rfl (by first | exact ne_fresh OW1.out | exact ne_grown HAT1.out (ne_lit (by simp)) (by simp <;> omega))) (fun k hk => hk) (OW1.out.below (by (repeat (first | with_reducible exact (Below.refl _ _) | with_reducible apply Below.drew | with_reducible refine balloc ?_ _)))) (by (repeat (first | with_reducible exact (Below.refl _ _) | with_reducible exact HB7.out | with_reducible apply Below.drew | with_reducible refine balloc ?_ _))) LN2.out ?_; intro V2 n2 c2 w8 e2 ho2 hb8 hg2 hat2; rw [htl2.out] at e2; subst n2; have h0 := (hb8.cell hSl).trans x0; have hS8 := Nat.lt_of_lt_of_le hSl hb8.size; have OW2 := put ho2; have HB8 := put hb8; clear ho2 hg2 hat2 hb8)
              refine hJJ.out _ _ trivial (fun hHeld => ?_)
              clear hJJ JJ
              try simp only [List.getElem_toArray, List.getElem_cons_succ, List.getElem_cons_zero, Act.put, List.setIfInBounds_toArray, List.set_cons_zero, List.set_cons_succ]
              refine wpAnyH_ready (rs := [15]) (by kernel_rfl) (by simp) ?_
              refine AllReadyH.cons rfl (fun JJ hJJ => ?_) AllReadyH.nil
              go_simp
              refine hJJ.out _ _ trivial (fun hHeld => ?_)
              clear hJJ JJ
              refine wpAnyH_take (i := 17) (v := ?_) rfl (by kernel_rfl) (by kernel_rfl) (by kernel_rfl) (fun _ _ _ h => h) (Or.inl ⟨by kernel_rfl, ?_⟩) (by assumption) ?_
              rotate_left
              focus (intro w hSw; (try dsimp only at hSw); go_simp; (try with_reducible rfl); done)
              try simp only [List.getElem_toArray, List.getElem_cons_succ, List.getElem_cons_zero, Act.put, List.setIfInBounds_toArray, List.set_cons_zero, List.set_cons_succ]
              refine wpAnyH_ready (rs := [18]) (by kernel_rfl) (by simp) ?_
              refine AllReadyH.cons rfl (fun JJ hJJ => ?_) AllReadyH.nil
              (refine pushS rfl _ _ rfl (.slice V2 (q + 1) c2) (.slice (if c = q then A else A.map (fun x => x.add (q))) (m - q) (c - q)) (l.take q ++ [s]) (l.drop q) (fun k => k < wk.heap.size) rfl rfl (ODD.out.below (by (repeat (first | with_reducible exact (Below.refl _ _) | with_reducible exact HB8.out | with_reducible apply Below.drew | with_reducible refine balloc ?_ _)))) (fun k hk => ne_own OW2.out hk) (OW2.out.below (by (repeat (first | with_reducible exact (Below.refl _ _) | with_reducible apply Below.drew | with_reducible refine balloc ?_ _)))) (by (repeat (first | with_reducible exact (Below.refl _ _) | with_reducible exact HB8.out | with_reducible apply Below.drew | with_reducible refine balloc ?_ _))) LN3.out ?_; intro V3 l3 c3' w9 e3 ho3 hb9 hg3 hat3; have z0 := (hb9.cell hSl).trans x0; have f0 := frz hb9 hSh; have OW3 := put ho3; have HB9 := put hb9; clear ho3 hg3 hat3 hb9 e3)
              refine hJJ.out _ _ trivial (fun hHeld => ?_)
              clear hJJ JJ
              refine wpAnyH_take (i := 19) (v := ?_) rfl (by kernel_rfl) (by kernel_rfl) (by kernel_rfl) (fun _ _ _ h => h) (Or.inl ⟨by kernel_rfl, ?_⟩) (by assumption) ?_
              rotate_left
              focus (intro w hSw; (try dsimp only at hSw); go_simp; (try with_reducible rfl); done)
              refine wpAnyH_take (i := 20) (v := ?_) rfl (by kernel_rfl) (by kernel_rfl) (by kernel_rfl) (fun _ _ _ h => h) (Or.inl ⟨by kernel_rfl, ?_⟩) (by assumption) ?_
              rotate_left
              focus (intro w hSw; (try dsimp only at hSw); go_simp; (try with_reducible rfl); done)
              try simp only [List.getElem_toArray, List.getElem_cons_succ, List.getElem_cons_zero, Act.put, List.setIfInBounds_toArray, List.set_cons_zero, List.set_cons_succ]
              refine wpAnyH_ready (rs := [21]) (by kernel_rfl) (by simp) ?_
              refine AllReadyH.cons rfl (fun JJ hJJ => ?_) AllReadyH.nil
              go_simp
              refine hJJ.out _ _ trivial (fun hHeld => ?_)
              clear hJJ JJ
              try simp only [List.getElem_toArray, List.getElem_cons_succ, List.getElem_cons_zero, Act.put, List.setIfInBounds_toArray, List.set_cons_zero, List.set_cons_succ]
              refine wpAnyH_done (by kernel_rfl) ?_ _
              refine NoPanic.normal ?_
              go_wp2_with fail
              all_goals (go_ret; exact .inr (.inr ⟨by omega, HBB.out.symm, FIN.out _ _ _ _ OW3.out HB9.out⟩))
            refine AllReadyH.cons rfl (fun JJ hJJ => ?_) AllReadyH.nil
            go_simp
            refine hJJ.out _ _ trivial (fun hHeld => ?_)
            clear hJJ JJ
            refine wpAnyH_take (i := 17) (v := ?_) rfl (by kernel_rfl) (by kernel_rfl) (by kernel_rfl) (fun _ _ _ h => h) (Or.inl ⟨by kernel_rfl, ?_⟩) (by assumption) ?_
            rotate_left
            focus (intro w hSw; (try dsimp only at hSw); go_simp; (try with_reducible rfl); done)
            try simp only [List.getElem_toArray, List.getElem_cons_succ, List.getElem_cons_zero, Act.put, List.setIfInBounds_toArray, List.set_cons_zero, List.set_cons_succ]
            refine wpAnyH_ready (rs := [11]) (by kernel_rfl) (by simp) ?_
            refine AllReadyH.cons rfl (fun JJ hJJ => ?_) AllReadyH.nil
            (refine pushS rfl _ _ rfl (.slice V1 q c1) (.slice (some ⟨_, 0, none⟩) 1 1) (l.take q) [s] (fun k => some k ≠ (Value.slice V1 q c1).ownBlock) rfl rfl (lit_sl (E := 9) (cs := [.string s]) (by first | (simp only [heap_alloc_get] <;> simp <;> done) | (refine Eq.trans (HG1.out.block _ ?_ (ne_lit (by simp))) ?_; rotate_left; (simp only [heap_alloc_get, heap_drew_get] <;> simp <;> done); (simp <;> omega))) rfl (by first | exact ne_fresh OW1.out | exact ne_grown HAT1.out (ne_lit (by simp)) (by simp <;> omega))) (fun k hk => hk) (OW1.out.below (by (repeat (first | with_reducible exact (Below.refl _ _) | with_reducible apply Below.drew | with_reducible refine balloc ?_ _)))) (by (repeat (first | with_reducible exact (Below.refl _ _) | with_reducible exact HB7.out | with_reducible apply Below.drew | with_reducible refine balloc ?_ _))) LN2.out ?_; intro V2 n2 c2 w8 e2 ho2 hb8 hg2 hat2; rw [htl2.out] at e2; subst n2; have h0 := (hb8.cell hSl).trans x0; have hS8 := Nat.lt_of_lt_of_le hSl hb8.size; have OW2 := put ho2; have HB8 := put hb8; clear ho2 hg2 hat2 hb8)
            refine hJJ.out _ _ trivial (fun hHeld => ?_)
            clear hJJ JJ
            try simp only [List.getElem_toArray, List.getElem_cons_succ, List.getElem_cons_zero, Act.put, List.setIfInBounds_toArray, List.set_cons_zero, List.set_cons_succ]
            refine wpAnyH_ready (rs := [18]) (by kernel_rfl) (by simp) ?_
            refine AllReadyH.cons rfl (fun JJ hJJ => ?_) AllReadyH.nil
            (refine pushS rfl _ _ rfl (.slice V2 (q + 1) c2) (.slice (if c = q then A else A.map (fun x => x.add (q))) (m - q) (c - q)) (l.take q ++ [s]) (l.drop q) (fun k => k < wk.heap.size) rfl rfl (ODD.out.below (by (repeat (first | with_reducible exact (Below.refl _ _) | with_reducible exact HB8.out | with_reducible apply Below.drew | with_reducible refine balloc ?_ _)))) (fun k hk => ne_own OW2.out hk) (OW2.out.below (by (repeat (first | with_reducible exact (Below.refl _ _) | with_reducible apply Below.drew | with_reducible refine balloc ?_ _)))) (by (repeat (first | with_reducible exact (Below.refl _ _) | with_reducible exact HB8.out | with_reducible apply Below.drew | with_reducible refine balloc ?_ _))) LN3.out ?_; intro V3 l3 c3' w9 e3 ho3 hb9 hg3 hat3; have z0 := (hb9.cell hSl).trans x0; have f0 := frz hb9 hSh; have OW3 := put ho3; have HB9 := put hb9; clear ho3 hg3 hat3 hb9 e3)
            refine hJJ.out _ _ trivial (fun hHeld => ?_)
            clear hJJ JJ
            refine wpAnyH_take (i := 19) (v := ?_) rfl (by kernel_rfl) (by kernel_rfl) (by kernel_rfl) (fun _ _ _ h => h) (Or.inl ⟨by kernel_rfl, ?_⟩) (by assumption) ?_
            rotate_left
            focus (intro w hSw; (try dsimp only at hSw); go_simp; (try with_reducible rfl); done)
            refine wpAnyH_take (i := 20) (v := ?_) rfl (by kernel_rfl) (by kernel_rfl) (by kernel_rfl) (fun _ _ _ h => h) (Or.inl ⟨by kernel_rfl, ?_⟩) (by assumption) ?_
            rotate_left
            focus (intro w hSw; (try dsimp only at hSw); go_simp; (try with_reducible rfl); done)
            try simp only [List.getElem_toArray, List.getElem_cons_succ, List.getElem_cons_zero, Act.put, List.setIfInBounds_toArray, List.set_cons_zero, List.set_cons_succ]
            refine wpAnyH_ready (rs := [21]) (by kernel_rfl) (by simp) ?_
            refine AllReadyH.cons rfl (fun JJ hJJ => ?_) AllReadyH.nil
            go_simp
            refine hJJ.out _ _ trivial (fun hHeld => ?_)
            clear hJJ JJ
            try simp only [List.getElem_toArray, List.getElem_cons_succ, List.getElem_cons_zero, Act.put, List.setIfInBounds_toArray, List.set_cons_zero, List.set_cons_succ]
            refine wpAnyH_done (by kernel_rfl) ?_ _
            refine NoPanic.normal ?_
            go_wp2_with fail
            all_goals (go_ret; exact .inr (.inr ⟨by omega, HBB.out.symm, FIN.out _ _ _ _ OW3.out HB9.out⟩))
          refine AllReadyH.cons rfl (fun JJ hJJ => ?_) AllReadyH.nil
          go_simp
          refine hJJ.out _ _ trivial (fun hHeld => ?_)
          clear hJJ JJ
          refine wpAnyH_take (i := 17) (v := ?_) rfl (by kernel_rfl) (by kernel_rfl) (by kernel_rfl) (fun _ _ _ h => h) (Or.inl ⟨by kernel_rfl, ?_⟩) (by assumption) ?_
          rotate_left
          focus (intro w hSw; (try dsimp only at hSw); go_simp; (try with_reducible rfl); done)
          try simp only [List.getElem_toArray, List.getElem_cons_succ, List.getElem_cons_zero, Act.put, List.setIfInBounds_toArray, List.set_cons_zero, List.set_cons_succ]
          refine wpAnyH_ready (rs := [8]) (by kernel_rfl) (by simp) ?_
          refine AllReadyH.cons rfl (fun JJ hJJ => ?_) AllReadyH.nil
          (refine pushS rfl _ _ rfl (.slice (some ⟨_, 0, none⟩) 0 0) (.slice A q c) [] (l.take q) (fun k => k < wk.heap.size) rfl rfl (OT.out _ (by (repeat (first | with_reducible exact (Below.refl _ _) | with_reducible apply Below.drew | with_reducible refine balloc ?_ _)))) (fun k hk => ne_new hk (by (first | exact Nat.le_refl _ | exact Nat.le_succ _))) (Own.lit' _ (by (simp only [heap_alloc_get, heap_drew_get] <;> simp <;> done)) (by (first | exact Nat.le_refl _ | exact Nat.le_succ _))) (by (repeat (first | with_reducible exact (Below.refl _ _) | with_reducible apply Below.drew | with_reducible refine balloc ?_ _))) LN1.out ?_; intro V1 n1 c1 w7 e1 ho1 hb7 hg1 hat1; rw [htl1.out] at e1; subst n1; have g0 := (hb7.cell hSl).trans x0; have hS7 := Nat.lt_of_lt_of_le hSl hb7.size; have OW1 := put ho1; have HB7 := put hb7; have HG1 := put hg1; have HAT1 := put hat1; clear ho1 hg1 hat1 hb7)
          refine hJJ.out _ _ trivial (fun hHeld => ?_)
          clear hJJ JJ
          try simp only [List.getElem_toArray, List.getElem_cons_succ, List.getElem_cons_zero, Act.put, List.setIfInBounds_toArray, List.set_cons_zero, List.set_cons_succ]
          refine wpAnyH_ready (rs := [11]) (by kernel_rfl) (by simp) ?_
          refine AllReadyH.cons rfl (fun JJ hJJ => ?_) AllReadyH.nil
          (refine pushS rfl _ _ rfl (.slice V1 q c1) (.slice (some ⟨_, 0, none⟩) 1 1) (l.take q) [s] (fun k => some k ≠ (Value.slice V1 q c1).ownBlock) rfl rfl (lit_sl (E := 9) (cs := [.string s]) (by first | (simp only [heap_alloc_get] <;> simp <;> done) | (refine Eq.trans (HG1.out.block _ ?_ (ne_lit (by simp))) ?_; rotate_left; (simp only [heap_alloc_get, heap_drew_get] <;> simp <;> done); (simp <;> omega))) rfl (by first | exact ne_fresh OW1.out | exact ne_grown HAT1.out (ne_lit (by simp)) (by simp <;> omega))) (fun k hk => hk) (OW1.out.below (by (repeat (first | with_reducible exact (Below.refl _ _) | with_reducible apply Below.drew | with_reducible refine balloc ?_ _)))) (by (repeat (first | with_reducible exact (Below.refl _ _) | with_reducible exact HB7.out | with_reducible apply Below.drew | with_reducible refine balloc ?_ _))) LN2.out ?_; intro V2 n2 c2 w8 e2 ho2 hb8 hg2 hat2; rw [htl2.out] at e2; subst n2; have h0 := (hb8.cell hSl).trans x0; have hS8 := Nat.lt_of_lt_of_le hSl hb8.size; have OW2 := put ho2; have HB8 := put hb8; clear ho2 hg2 hat2 hb8)
          refine hJJ.out _ _ trivial (fun hHeld => ?_)
          clear hJJ JJ
          try simp only [List.getElem_toArray, List.getElem_cons_succ, List.getElem_cons_zero, Act.put, List.setIfInBounds_toArray, List.set_cons_zero, List.set_cons_succ]
          refine wpAnyH_ready (rs := [18]) (by kernel_rfl) (by simp) ?_
          refine AllReadyH.cons rfl (fun JJ hJJ => ?_) AllReadyH.nil
          (refine pushS rfl _ _ rfl (.slice V2 (q + 1) c2) (.slice (if c = q then A else A.map (fun x => x.add (q))) (m - q) (c - q)) (l.take q ++ [s]) (l.drop q) (fun k => k < wk.heap.size) rfl rfl (ODD.out.below (by (repeat (first | with_reducible exact (Below.refl _ _) | with_reducible exact HB8.out | with_reducible apply Below.drew | with_reducible refine balloc ?_ _)))) (fun k hk => ne_own OW2.out hk) (OW2.out.below (by (repeat (first | with_reducible exact (Below.refl _ _) | with_reducible apply Below.drew | with_reducible refine balloc ?_ _)))) (by (repeat (first | with_reducible exact (Below.refl _ _) | with_reducible exact HB8.out | with_reducible apply Below.drew | with_reducible refine balloc ?_ _))) LN3.out ?_; intro V3 l3 c3' w9 e3 ho3 hb9 hg3 hat3; have z0 := (hb9.cell hSl).trans x0; have f0 := frz hb9 hSh; have OW3 := put ho3; have HB9 := put hb9; clear ho3 hg3 hat3 hb9 e3)
          refine hJJ.out _ _ trivial (fun hHeld => ?_)
          clear hJJ JJ
          refine wpAnyH_take (i := 19) (v := ?_) rfl (by kernel_rfl) (by kernel_rfl) (by kernel_rfl) (fun _ _ _ h => h) (Or.inl ⟨by kernel_rfl, ?_⟩) (by assumption) ?_
          rotate_left
          focus (intro w hSw; (try dsimp only at hSw); go_simp; (try with_reducible rfl); done)
          refine wpAnyH_take (i := 20) (v := ?_) rfl (by kernel_rfl) (by kernel_rfl) (by kernel_rfl) (fun _ _ _ h => h) (Or.inl ⟨by kernel_rfl, ?_⟩) (by assumption) ?_
          rotate_left
          focus (intro w hSw; (try dsimp only at hSw); go_simp; (try with_reducible rfl); done)
          try simp only [List.getElem_toArray, List.getElem_cons_succ, List.getElem_cons_zero, Act.put, List.setIfInBounds_toArray, List.set_cons_zero, List.set_cons_succ]
          refine wpAnyH_ready (rs := [21]) (by kernel_rfl) (by simp) ?_
          refine AllReadyH.cons rfl (fun JJ hJJ => ?_) AllReadyH.nil
          go_simp
          refine hJJ.out _ _ trivial (fun hHeld => ?_)
          clear hJJ JJ
          try simp only [List.getElem_toArray, List.getElem_cons_succ, List.getElem_cons_zero, Act.put, List.setIfInBounds_toArray, List.set_cons_zero, List.set_cons_succ]
          refine wpAnyH_done (by kernel_rfl) ?_ _
          refine NoPanic.normal ?_
          go_wp2_with fail
          all_goals (go_ret; exact .inr (.inr ⟨by omega, HBB.out.symm, FIN.out _ _ _ _ OW3.out HB9.out⟩))
        refine AllReadyH.cons rfl (fun JJ hJJ => ?_) AllReadyH.nil
        go_simp
        refine hJJ.out _ _ trivial (fun hHeld => ?_)
        clear hJJ JJ
        refine wpAnyH_take (i := 17) (v := ?_) rfl (by kernel_rfl) (by kernel_rfl) (by kernel_rfl) (fun _ _ _ h => h) (Or.inl ⟨by kernel_rfl, ?_⟩) (by assumption) ?_
        rotate_left
        focus (intro w hSw; (try dsimp only at hSw); go_simp; (try with_reducible rfl); done)
        try simp only [List.getElem_toArray, List.getElem_cons_succ, List.getElem_cons_zero, Act.put, List.setIfInBounds_toArray, List.set_cons_zero, List.set_cons_succ]
        refine wpAnyH_ready (rs := [1]) (by kernel_rfl) (by simp) ?_
        refine AllReadyH.cons rfl (fun JJ hJJ => ?_) AllReadyH.nil
        go_simp
        refine hJJ.out _ _ trivial (fun hHeld => ?_)
        clear hJJ JJ
        try simp only [List.getElem_toArray, List.getElem_cons_succ, List.getElem_cons_zero, Act.put, List.setIfInBounds_toArray, List.set_cons_zero, List.set_cons_succ]
        refine wpAnyH_ready (rs := [8]) (by kernel_rfl) (by simp) ?_
        refine AllReadyH.cons rfl (fun JJ hJJ => ?_) AllReadyH.nil
        (refine pushS rfl _ _ rfl (.slice (some ⟨_, 0, none⟩) 0 0) (.slice A q c) [] (l.take q) (fun k => k < wk.heap.size) rfl rfl (OT.out _ (by (repeat (first | with_reducible exact (Below.refl _ _) | with_reducible apply Below.drew | with_reducible refine balloc ?_ _)))) (fun k hk => ne_new hk (by (first | exact Nat.le_refl _ | exact Nat.le_succ _))) (Own.lit' _ (by (simp only [heap_alloc_get, heap_drew_get] <;> simp <;> done)) (by (first | exact Nat.le_refl _ | exact Nat.le_succ _))) (by (repeat (first | with_reducible exact (Below.refl _ _) | with_reducible apply Below.drew | with_reducible refine balloc ?_ _))) LN1.out ?_; intro V1 n1 c1 w7 e1 ho1 hb7 hg1 hat1; rw [htl1.out] at e1; subst n1; have g0 := (hb7.cell hSl).trans x0; have hS7 := Nat.lt_of_lt_of_le hSl hb7.size; have OW1 := put ho1; have HB7 := put hb7; have HG1 := put hg1; have HAT1 := put hat1; clear ho1 hg1 hat1 hb7)
        refine hJJ.out _ _ trivial (fun hHeld => ?_)
        clear hJJ JJ
        try simp only [List.getElem_toArray, List.getElem_cons_succ, List.getElem_cons_zero, Act.put, List.setIfInBounds_toArray, List.set_cons_zero, List.set_cons_succ]
        refine wpAnyH_ready (rs := [11]) (by kernel_rfl) (by simp) ?_
        refine AllReadyH.cons rfl (fun JJ hJJ => ?_) AllReadyH.nil
        (refine pushS rfl _ _ rfl (.slice V1 q c1) (.slice (some ⟨_, 0, none⟩) 1 1) (l.take q) [s] (fun k => some k ≠ (Value.slice V1 q c1).ownBlock) rfl rfl (lit_sl (E := 9) (cs := [.string s]) (by first | (simp only [heap_alloc_get] <;> simp <;> done) | (refine Eq.trans (HG1.out.block _ ?_ (ne_lit (by simp))) ?_; rotate_left; (simp only [heap_alloc_get, heap_drew_get] <;> simp <;> done); (simp <;> omega))) rfl (by first | exact ne_fresh OW1.out | exact ne_grown HAT1.out (ne_lit (by simp)) (by simp <;> omega))) (fun k hk => hk) (OW1.out.below (by (repeat (first | with_reducible exact (Below.refl _ _) | with_reducible apply Below.drew | with_reducible refine balloc ?_ _)))) (by (repeat (first | with_reducible exact (Below.refl _ _) | with_reducible exact HB7.out | with_reducible apply Below.drew | with_reducible refine balloc ?_ _))) LN2.out ?_; intro V2 n2 c2 w8 e2 ho2 hb8 hg2 hat2; rw [htl2.out] at e2; subst n2; have h0 := (hb8.cell hSl).trans x0; have hS8 := Nat.lt_of_lt_of_le hSl hb8.size; have OW2 := put ho2; have HB8 := put hb8; clear ho2 hg2 hat2 hb8)
        refine hJJ.out _ _ trivial (fun hHeld => ?_)
        clear hJJ JJ
        try simp only [List.getElem_toArray, List.getElem_cons_succ, List.getElem_cons_zero, Act.put, List.setIfInBounds_toArray, List.set_cons_zero, List.set_cons_succ]
        refine wpAnyH_ready (rs := [18]) (by kernel_rfl) (by simp) ?_
        refine AllReadyH.cons rfl (fun JJ hJJ => ?_) AllReadyH.nil
        (refine pushS rfl _ _ rfl (.slice V2 (q + 1) c2) (.slice (if c = q then A else A.map (fun x => x.add (q))) (m - q) (c - q)) (l.take q ++ [s]) (l.drop q) (fun k => k < wk.heap.size) rfl rfl (ODD.out.below (by (repeat (first | with_reducible exact (Below.refl _ _) | with_reducible exact HB8.out | with_reducible apply Below.drew | with_reducible refine balloc ?_ _)))) (fun k hk => ne_own OW2.out hk) (OW2.out.below (by (repeat (first | with_reducible exact (Below.refl _ _) | with_reducible apply Below.drew | with_reducible refine balloc ?_ _)))) (by (repeat (first | with_reducible exact (Below.refl _ _) | with_reducible exact HB8.out | with_reducible apply Below.drew | with_reducible refine balloc ?_ _))) LN3.out ?_; intro V3 l3 c3' w9 e3 ho3 hb9 hg3 hat3; have z0 := (hb9.cell hSl).trans x0; have f0 := frz hb9 hSh; have OW3 := put ho3; have HB9 := put hb9; clear ho3 hg3 hat3 hb9 e3)
        refine hJJ.out _ _ trivial (fun hHeld => ?_)
        clear hJJ JJ
        refine wpAnyH_take (i := 19) (v := ?_) rfl (by kernel_rfl) (by kernel_rfl) (by kernel_rfl) (fun _ _ _ h => h) (Or.inl ⟨by kernel_rfl, ?_⟩) (by assumption) ?_
        rotate_left
        focus (intro w hSw; (try dsimp only at hSw); go_simp; (try with_reducible rfl); done)
        refine wpAnyH_take (i := 20) (v := ?_) rfl (by kernel_rfl) (by kernel_rfl) (by kernel_rfl) (fun _ _ _ h => h) (Or.inl ⟨by kernel_rfl, ?_⟩) (by assumption) ?_
        rotate_left
        focus (intro w hSw; (try dsimp only at hSw); go_simp; (try with_reducible rfl); done)
        try simp only [List.getElem_toArray, List.getElem_cons_succ, List.getElem_cons_zero, Act.put, List.setIfInBounds_toArray, List.set_cons_zero, List.set_cons_succ]
        refine wpAnyH_ready (rs := [21]) (by kernel_rfl) (by simp) ?_
        refine AllReadyH.cons rfl (fun JJ hJJ => ?_) AllReadyH.nil
        go_simp
        refine hJJ.out _ _ trivial (fun hHeld => ?_)
        clear hJJ JJ
        try simp only [List.getElem_toArray, List.getElem_cons_succ, List.getElem_cons_zero, Act.put, List.setIfInBounds_toArray, List.set_cons_zero, List.set_cons_succ]
        refine wpAnyH_done (by kernel_rfl) ?_ _
        refine NoPanic.normal ?_
        go_wp2_with fail
        all_goals (go_ret; exact .inr (.inr ⟨by omega, HBB.out.symm, FIN.out _ _ _ _ OW3.out HB9.out⟩))
      refine AllReadyH.cons rfl (fun JJ hJJ => ?_) AllReadyH.nil
      go_simp
      refine hJJ.out _ _ trivial (fun hHeld => ?_)
      clear hJJ JJ
      refine wpAnyH_take (i := 17) (v := ?_) rfl (by kernel_rfl) (by kernel_rfl) (by kernel_rfl) (fun _ _ _ h => h) (Or.inl ⟨by kernel_rfl, ?_⟩) (by assumption) ?_
      rotate_left
      focus (intro w hSw; (try dsimp only at hSw); go_simp; (try with_reducible rfl); done)
      try simp only [List.getElem_toArray, List.getElem_cons_succ, List.getElem_cons_zero, Act.put, List.setIfInBounds_toArray, List.set_cons_zero, List.set_cons_succ]
      refine wpAnyH_ready (rs := [1, 5]) (by kernel_rfl) (by simp) ?_
      refine AllReadyH.cons rfl (fun JJ hJJ => ?_) ?_
      · go_simp
        refine hJJ.out _ _ trivial (fun hHeld => ?_)
        clear hJJ JJ
        try simp only [List.getElem_toArray, List.getElem_cons_succ, List.getElem_cons_zero, Act.put, List.setIfInBounds_toArray, List.set_cons_zero, List.set_cons_succ]
        refine wpAnyH_ready (rs := [5]) (by kernel_rfl) (by simp) ?_
        refine AllReadyH.cons rfl (fun JJ hJJ => ?_) AllReadyH.nil
        go_simp
        refine hJJ.out _ _ trivial (fun hHeld => ?_)
        clear hJJ JJ
        refine wpAnyH_take (i := 7) (v := ?_) rfl (by kernel_rfl) (by kernel_rfl) (by kernel_rfl) (fun _ _ _ h => h) (Or.inl ⟨by kernel_rfl, ?_⟩) (by assumption) ?_
        rotate_left
        focus (intro w hSw; (try dsimp only at hSw); go_simp; (try with_reducible rfl); done)
        try simp only [List.getElem_toArray, List.getElem_cons_succ, List.getElem_cons_zero, Act.put, List.setIfInBounds_toArray, List.set_cons_zero, List.set_cons_succ]
        refine wpAnyH_ready (rs := [8]) (by kernel_rfl) (by simp) ?_
        refine AllReadyH.cons rfl (fun JJ hJJ => ?_) AllReadyH.nil
        (refine pushS rfl _ _ rfl (.slice (some ⟨_, 0, none⟩) 0 0) (.slice A q c) [] (l.take q) (fun k => k < wk.heap.size) rfl rfl (OT.out _ (by (repeat (first | with_reducible exact (Below.refl _ _) | with_reducible apply Below.drew | with_reducible refine balloc ?_ _)))) (fun k hk => ne_new hk (by (first | exact Nat.le_refl _ | exact Nat.le_succ _))) (Own.lit' _ (by (simp only [heap_alloc_get, heap_drew_get] <;> simp <;> done)) (by (first | exact Nat.le_refl _ | exact Nat.le_succ _))) (by (repeat (first | with_reducible exact (Below.refl _ _) | with_reducible apply Below.drew | with_reducible refine balloc ?_ _))) LN1.out ?_; intro V1 n1 c1 w7 e1 ho1 hb7 hg1 hat1; rw [htl1.out] at e1; subst n1; have g0 := (hb7.cell hSl).trans x0; have hS7 := Nat.lt_of_lt_of_le hSl hb7.size; have OW1 := put ho1; have HB7 := put hb7; have HG1 := put hg1; have HAT1 := put hat1; clear ho1 hg1 hat1 hb7)
        refine hJJ.out _ _ trivial (fun hHeld => ?_)
        clear hJJ JJ
        try simp only [List.getElem_toArray, List.getElem_cons_succ, List.getElem_cons_zero, Act.put, List.setIfInBounds_toArray, List.set_cons_zero, List.set_cons_succ]
        refine wpAnyH_ready (rs := [11]) (by kernel_rfl) (by simp) ?_
        refine AllReadyH.cons rfl (fun JJ hJJ => ?_) AllReadyH.nil
        (refine pushS rfl _ _ rfl (.slice V1 q c1) (.slice (some ⟨_, 0, none⟩) 1 1) (l.take q) [s] (fun k => some k ≠ (Value.slice V1 q c1).ownBlock) rfl rfl (lit_sl (E := 9) (cs := [.string s]) (by first | (simp only [heap_alloc_get] <;> simp <;> done) | (refine Eq.trans (HG1.out.block _ ?_ (ne_lit (by simp))) ?_; rotate_left; (simp only [heap_alloc_get, heap_drew_get] <;> simp <;> done); (simp <;> omega))) rfl (by first | exact ne_fresh OW1.out | exact ne_grown HAT1.out (ne_lit (by simp)) (by simp <;> omega))) (fun k hk => hk) (OW1.out.below (by (repeat (first | with_reducible exact (Below.refl _ _) | with_reducible apply Below.drew | with_reducible refine balloc ?_ _)))) (by (repeat (first | with_reducible exact (Below.refl _ _) | with_reducible exact HB7.out | with_reducible apply Below.drew | with_reducible refine balloc ?_ _))) LN2.out ?_; intro V2 n2 c2 w8 e2 ho2 hb8 hg2 hat2; rw [htl2.out] at e2; subst n2; have h0 := (hb8.cell hSl).trans x0; have hS8 := Nat.lt_of_lt_of_le hSl hb8.size; have OW2 := put ho2; have HB8 := put hb8; clear ho2 hg2 hat2 hb8)
        refine hJJ.out _ _ trivial (fun hHeld => ?_)
        clear hJJ JJ
        try simp only [List.getElem_toArray, List.getElem_cons_succ, List.getElem_cons_zero, Act.put, List.setIfInBounds_toArray, List.set_cons_zero, List.set_cons_succ]
        refine wpAnyH_ready (rs := [18]) (by kernel_rfl) (by simp) ?_
        refine AllReadyH.cons rfl (fun JJ hJJ => ?_) AllReadyH.nil
        (refine pushS rfl _ _ rfl (.slice V2 (q + 1) c2) (.slice (if c = q then A else A.map (fun x => x.add (q))) (m - q) (c - q)) (l.take q ++ [s]) (l.drop q) (fun k => k < wk.heap.size) rfl rfl (ODD.out.below (by (repeat (first | with_reducible exact (Below.refl _ _) | with_reducible exact HB8.out | with_reducible apply Below.drew | with_reducible refine balloc ?_ _)))) (fun k hk => ne_own OW2.out hk) (OW2.out.below (by (repeat (first | with_reducible exact (Below.refl _ _) | with_reducible apply Below.drew | with_reducible refine balloc ?_ _)))) (by (repeat (first | with_reducible exact (Below.refl _ _) | with_reducible exact HB8.out | with_reducible apply Below.drew | with_reducible refine balloc ?_ _))) LN3.out ?_; intro V3 l3 c3' w9 e3 ho3 hb9 hg3 hat3; have z0 := (hb9.cell hSl).trans x0; have f0 := frz hb9 hSh; have OW3 := put ho3; have HB9 := put hb9; clear ho3 hg3 hat3 hb9 e3)
        refine hJJ.out _ _ trivial (fun hHeld => ?_)
        clear hJJ JJ
        refine wpAnyH_take (i := 19) (v := ?_) rfl (by kernel_rfl) (by kernel_rfl) (by kernel_rfl) (fun _ _ _ h => h) (Or.inl ⟨by kernel_rfl, ?_⟩) (by assumption) ?_
        rotate_left
        focus (intro w hSw; (try dsimp only at hSw); go_simp; (try with_reducible rfl); done)
        refine wpAnyH_take (i := 20) (v := ?_) rfl (by kernel_rfl) (by kernel_rfl) (by kernel_rfl) (fun _ _ _ h => h) (Or.inl ⟨by kernel_rfl, ?_⟩) (by assumption) ?_
        rotate_left
        focus (intro w hSw; (try dsimp only at hSw); go_simp; (try with_reducible rfl); done)
        try simp only [List.getElem_toArray, List.getElem_cons_succ, List.getElem_cons_zero, Act.put, List.setIfInBounds_toArray, List.set_cons_zero, List.set_cons_succ]
        refine wpAnyH_ready (rs := [21]) (by kernel_rfl) (by simp) ?_
        refine AllReadyH.cons rfl (fun JJ hJJ => ?_) AllReadyH.nil
        go_simp
        refine hJJ.out _ _ trivial (fun hHeld => ?_)
        clear hJJ JJ
        try simp only [List.getElem_toArray, List.getElem_cons_succ, List.getElem_cons_zero, Act.put, List.setIfInBounds_toArray, List.set_cons_zero, List.set_cons_succ]
        refine wpAnyH_done (by kernel_rfl) ?_ _
        refine NoPanic.normal ?_
        go_wp2_with fail
        all_goals (go_ret; exact .inr (.inr ⟨by omega, HBB.out.symm, FIN.out _ _ _ _ OW3.out HB9.out⟩))
      refine AllReadyH.cons rfl (fun JJ hJJ => ?_) AllReadyH.nil
      go_simp
      refine hJJ.out _ _ trivial (fun hHeld => ?_)
      clear hJJ JJ
      refine wpAnyH_take (i := 7) (v := ?_) rfl (by kernel_rfl) (by kernel_rfl) (by kernel_rfl) (fun _ _ _ h => h) (Or.inl ⟨by kernel_rfl, ?_⟩) (by assumption) ?_
      rotate_left
      focus (intro w hSw; (try dsimp only at hSw); go_simp; (try with_reducible rfl); done)
      try simp only [List.getElem_toArray, List.getElem_cons_succ, List.getElem_cons_zero, Act.put, List.setIfInBounds_toArray, List.set_cons_zero, List.set_cons_succ]
      refine wpAnyH_ready (rs := [1]) (by kernel_rfl) (by simp) ?_
      refine AllReadyH.cons rfl (fun JJ hJJ => ?_) AllReadyH.nil
      go_simp
      refine hJJ.out _ _ trivial (fun hHeld => ?_)
      clear hJJ JJ
      try simp only [List.getElem_toArray, List.getElem_cons_succ, List.getElem_cons_zero, Act.put, List.setIfInBounds_toArray, List.set_cons_zero, List.set_cons_succ]
      refine wpAnyH_ready (rs := [8]) (by kernel_rfl) (by simp) ?_
      refine AllReadyH.cons rfl (fun JJ hJJ => ?_) AllReadyH.nil
      (refine pushS rfl _ _ rfl (.slice (some ⟨_, 0, none⟩) 0 0) (.slice A q c) [] (l.take q) (fun k => k < wk.heap.size) rfl rfl (OT.out _ (by (repeat (first | with_reducible exact (Below.refl _ _) | with_reducible apply Below.drew | with_reducible refine balloc ?_ _)))) (fun k hk => ne_new hk (by (first | exact Nat.le_refl _ | exact Nat.le_succ _))) (Own.lit' _ (by (simp only [heap_alloc_get, heap_drew_get] <;> simp <;> done)) (by (first | exact Nat.le_refl _ | exact Nat.le_succ _))) (by (repeat (first | with_reducible exact (Below.refl _ _) | with_reducible apply Below.drew | with_reducible refine balloc ?_ _))) LN1.out ?_; intro V1 n1 c1 w7 e1 ho1 hb7 hg1 hat1; rw [htl1.out] at e1; subst n1; have g0 := (hb7.cell hSl).trans x0; have hS7 := Nat.lt_of_lt_of_le hSl hb7.size; have OW1 := put ho1; have HB7 := put hb7; have HG1 := put hg1; have HAT1 := put hat1; clear ho1 hg1 hat1 hb7)
      refine hJJ.out _ _ trivial (fun hHeld => ?_)
      clear hJJ JJ
      try simp only [List.getElem_toArray, List.getElem_cons_succ, List.getElem_cons_zero, Act.put, List.setIfInBounds_toArray, List.set_cons_zero, List.set_cons_succ]
      refine wpAnyH_ready (rs := [11]) (by kernel_rfl) (by simp) ?_
      refine AllReadyH.cons rfl (fun JJ hJJ => ?_) AllReadyH.nil
      (refine pushS rfl _ _ rfl (.slice V1 q c1) (.slice (some ⟨_, 0, none⟩) 1 1) (l.take q) [s] (fun k => some k ≠ (Value.slice V1 q c1).ownBlock) rfl rfl (lit_sl (E := 9) (cs := [.string s]) (by first | (simp only [heap_alloc_get] <;> simp <;> done) | (refine Eq.trans (HG1.out.block _ ?_ (ne_lit (by simp))) ?_; rotate_left; (simp only [heap_alloc_get, heap_drew_get] <;> simp <;> done); (simp <;> omega))) rfl (by first | exact ne_fresh OW1.out | exact ne_grown HAT1.out (ne_lit (by simp)) (by simp <;> omega))) (fun k hk => hk) (OW1.out.below (by (repeat (first | with_reducible exact (Below.refl _ _) | with_reducible apply Below.drew | with_reducible refine balloc ?_ _)))) (by (repeat (first | with_reducible exact (Below.refl _ _) | with_reducible exact HB7.out | with_reducible apply Below.drew | with_reducible refine balloc ?_ _))) LN2.out ?_; intro V2 n2 c2 w8 e2 ho2 hb8 hg2 hat2; rw [htl2.out] at e2; subst n2; have h0 := (hb8.cell hSl).trans x0; have hS8 := Nat.lt_of_lt_of_le hSl hb8.size; have OW2 := put ho2; have HB8 := put hb8; clear ho2 hg2 hat2 hb8)
      refine hJJ.out _ _ trivial (fun hHeld => ?_)
      clear hJJ JJ
      try simp only [List.getElem_toArray, List.getElem_cons_succ, List.getElem_cons_zero, Act.put, List.setIfInBounds_toArray, List.set_cons_zero, List.set_cons_succ]
      refine wpAnyH_ready (rs := [18]) (by kernel_rfl) (by simp) ?_
      refine AllReadyH.cons rfl (fun JJ hJJ => ?_) AllReadyH.nil
      (refine pushS rfl _ _ rfl (.slice V2 (q + 1) c2) (.slice (if c = q then A else A.map (fun x => x.add (q))) (m - q) (c - q)) (l.take q ++ [s]) (l.drop q) (fun k => k < wk.heap.size) rfl rfl (ODD.out.below (by (repeat (first | with_reducible exact (Below.refl _ _) | with_reducible exact HB8.out | with_reducible apply Below.drew | with_reducible refine balloc ?_ _)))) (fun k hk => ne_own OW2.out hk) (OW2.out.below (by (repeat (first | with_reducible exact (Below.refl _ _) | with_reducible apply Below.drew | with_reducible refine balloc ?_ _)))) (by (repeat (first | with_reducible exact (Below.refl _ _) | with_reducible exact HB8.out | with_reducible apply Below.drew | with_reducible refine balloc ?_ _))) LN3.out ?_; intro V3 l3 c3' w9 e3 ho3 hb9 hg3 hat3; have z0 := (hb9.cell hSl).trans x0; have f0 := frz hb9 hSh; have OW3 := put ho3; have HB9 := put hb9; clear ho3 hg3 hat3 hb9 e3)
      refine hJJ.out _ _ trivial (fun hHeld => ?_)
      clear hJJ JJ
      refine wpAnyH_take (i := 19) (v := ?_) rfl (by kernel_rfl) (by kernel_rfl) (by kernel_rfl) (fun _ _ _ h => h) (Or.inl ⟨by kernel_rfl, ?_⟩) (by assumption) ?_
      rotate_left
      focus (intro w hSw; (try dsimp only at hSw); go_simp; (try with_reducible rfl); done)
      refine wpAnyH_take (i := 20) (v := ?_) rfl (by kernel_rfl) (by kernel_rfl) (by kernel_rfl) (fun _ _ _ h => h) (Or.inl ⟨by kernel_rfl, ?_⟩) (by assumption) ?_
      rotate_left
      focus (intro w hSw; (try dsimp only at hSw); go_simp; (try with_reducible rfl); done)
      try simp only [List.getElem_toArray, List.getElem_cons_succ, List.getElem_cons_zero, Act.put, List.setIfInBounds_toArray, List.set_cons_zero, List.set_cons_succ]
      refine wpAnyH_ready (rs := [21]) (by kernel_rfl) (by simp) ?_
      refine AllReadyH.cons rfl (fun JJ hJJ => ?_) AllReadyH.nil
      go_simp
      refine hJJ.out _ _ trivial (fun hHeld => ?_)
      clear hJJ JJ
      try simp only [List.getElem_toArray, List.getElem_cons_succ, List.getElem_cons_zero, Act.put, List.setIfInBounds_toArray, List.set_cons_zero, List.set_cons_succ]
      refine wpAnyH_done (by kernel_rfl) ?_ _
      refine NoPanic.normal ?_
      go_wp2_with fail
      all_goals (go_ret; exact .inr (.inr ⟨by omega, HBB.out.symm, FIN.out _ _ _ _ OW3.out HB9.out⟩))
    refine AllReadyH.cons rfl (fun JJ hJJ => ?_) AllReadyH.nil
    go_simp
    refine hJJ.out _ _ trivial (fun hHeld => ?_)
    clear hJJ JJ
    refine wpAnyH_take (i := 17) (v := ?_) rfl (by kernel_rfl) (by kernel_rfl) (by kernel_rfl) (fun _ _ _ h => h) (Or.inl ⟨by kernel_rfl, ?_⟩) (by assumption) ?_
    rotate_left
    focus (intro w hSw; (try dsimp only at hSw); go_simp; (try with_reducible rfl); done)
    try simp only [List.getElem_toArray, List.getElem_cons_succ, List.getElem_cons_zero, Act.put, List.setIfInBounds_toArray, List.set_cons_zero, List.set_cons_succ]
    refine wpAnyH_ready (rs := [1, 5, 10]) (by kernel_rfl) (by simp) ?_
    refine AllReadyH.cons rfl (fun JJ hJJ => ?_) ?_
    · go_simp
      refine hJJ.out _ _ trivial (fun hHeld => ?_)
      clear hJJ JJ
      try simp only [List.getElem_toArray, List.getElem_cons_succ, List.getElem_cons_zero, Act.put, List.setIfInBounds_toArray, List.set_cons_zero, List.set_cons_succ]
      refine wpAnyH_ready (rs := [5, 10]) (by kernel_rfl) (by simp) ?_
      refine AllReadyH.cons rfl (fun JJ hJJ => ?_) ?_
      · go_simp
        refine hJJ.out _ _ trivial (fun hHeld => ?_)
        clear hJJ JJ
        refine wpAnyH_take (i := 7) (v := ?_) rfl (by kernel_rfl) (by kernel_rfl) (by kernel_rfl) (fun _ _ _ h => h) (Or.inl ⟨by kernel_rfl, ?_⟩) (by assumption) ?_
        rotate_left
        focus (intro w hSw; (try dsimp only at hSw); go_simp; (try with_reducible rfl); done)
        try simp only [List.getElem_toArray, List.getElem_cons_succ, List.getElem_cons_zero, Act.put, List.setIfInBounds_toArray, List.set_cons_zero, List.set_cons_succ]
        refine wpAnyH_ready (rs := [8, 10]) (by kernel_rfl) (by simp) ?_
        refine AllReadyH.cons rfl (fun JJ hJJ => ?_) ?_
        · (refine pushS rfl _ _ rfl (.slice (some ⟨_, 0, none⟩) 0 0) (.slice A q c) [] (l.take q) (fun k => k < wk.heap.size) rfl rfl (OT.out _ (by (repeat (first | with_reducible exact (Below.refl _ _) | with_reducible apply Below.drew | with_reducible refine balloc ?_ _)))) (fun k hk => ne_new hk (by (first | exact Nat.le_refl _ | exact Nat.le_succ _))) (Own.lit' _ (by (simp only [heap_alloc_get, heap_drew_get] <;> simp <;> done)) (by (first | exact Nat.le_refl _ | exact Nat.le_succ _))) (by (repeat (first | with_reducible exact (Below.refl _ _) | with_reducible apply Below.drew | with_reducible refine balloc ?_ _))) LN1.out ?_; intro V1 n1 c1 w7 e1 ho1 hb7 hg1 hat1; rw [htl1.out] at e1; subst n1; have g0 := (hb7.cell hSl).trans x0; have hS7 := Nat.lt_of_lt_of_le hSl hb7.size; have OW1 := put ho1; have HB7 := put hb7; have HG1 := put hg1; have HAT1 := put hat1; clear ho1 hg1 hat1 hb7)
          refine hJJ.out _ _ trivial (fun hHeld => ?_)
          clear hJJ JJ
          try simp only [List.getElem_toArray, List.getElem_cons_succ, List.getElem_cons_zero, Act.put, List.setIfInBounds_toArray, List.set_cons_zero, List.set_cons_succ]
          refine wpAnyH_ready (rs := [10]) (by kernel_rfl) (by simp) ?_
          refine AllReadyH.cons rfl (fun JJ hJJ => ?_) AllReadyH.nil
          go_simp
          refine hJJ.out _ _ trivial (fun hHeld => ?_)
          clear hJJ JJ
          try simp only [List.getElem_toArray, List.getElem_cons_succ, List.getElem_cons_zero, Act.put, List.setIfInBounds_toArray, List.set_cons_zero, List.set_cons_succ]
          refine wpAnyH_ready (rs := [11]) (by kernel_rfl) (by simp) ?_
          refine AllReadyH.cons rfl (fun JJ hJJ => ?_) AllReadyH.nil
          (refine pushS rfl _ _ rfl (.slice V1 q c1) (.slice (some ⟨_, 0, none⟩) 1 1) (l.take q) [s] (fun k => some k ≠ (Value.slice V1 q c1).ownBlock) rfl rfl (lit_sl (E := 9) (cs := [.string s]) (by first | (simp only [heap_alloc_get] <;> simp <;> done) | (refine Eq.trans (HG1.out.block _ ?_ (ne_lit (by simp))) ?_; rotate_left; (simp only [heap_alloc_get, heap_drew_get] <;> simp <;> done); (simp <;> omega))) rfl (by first | exact ne_fresh OW1.out | exact ne_grown HAT1.out (ne_lit (by simp)) (by simp <;> omega))) (fun k hk => hk) (OW1.out.below (by (repeat (first | with_reducible exact (Below.refl _ _) | with_reducible apply Below.drew | with_reducible refine balloc ?_ _)))) (by (repeat (first | with_reducible exact (Below.refl _ _) | with_reducible exact HB7.out | with_reducible apply Below.drew | with_reducible refine balloc ?_ _))) LN2.out ?_; intro V2 n2 c2 w8 e2 ho2 hb8 hg2 hat2; rw [htl2.out] at e2; subst n2; have h0 := (hb8.cell hSl).trans x0; have hS8 := Nat.lt_of_lt_of_le hSl hb8.size; have OW2 := put ho2; have HB8 := put hb8; clear ho2 hg2 hat2 hb8)
          refine hJJ.out _ _ trivial (fun hHeld => ?_)
          clear hJJ JJ
          try simp only [List.getElem_toArray, List.getElem_cons_succ, List.getElem_cons_zero, Act.put, List.setIfInBounds_toArray, List.set_cons_zero, List.set_cons_succ]
          refine wpAnyH_ready (rs := [18]) (by kernel_rfl) (by simp) ?_
          refine AllReadyH.cons rfl (fun JJ hJJ => ?_) AllReadyH.nil
          (refine pushS rfl _ _ rfl (.slice V2 (q + 1) c2) (.slice (if c = q then A else A.map (fun x => x.add (q))) (m - q) (c - q)) (l.take q ++ [s]) (l.drop q) (fun k => k < wk.heap.size) rfl rfl (ODD.out.below (by (repeat (first | with_reducible exact (Below.refl _ _) | with_reducible exact HB8.out | with_reducible apply Below.drew | with_reducible refine balloc ?_ _)))) (fun k hk => ne_own OW2.out hk) (OW2.out.below (by (repeat (first | with_reducible exact (Below.refl _ _) | with_reducible apply Below.drew | with_reducible refine balloc ?_ _)))) (by (repeat (first | with_reducible exact (Below.refl _ _) | with_reducible exact HB8.out | with_reducible apply Below.drew | with_reducible refine balloc ?_ _))) LN3.out ?_; intro V3 l3 c3' w9 e3 ho3 hb9 hg3 hat3; have z0 := (hb9.cell hSl).trans x0; have f0 := frz hb9 hSh; have OW3 := put ho3; have HB9 := put hb9; clear ho3 hg3 hat3 hb9 e3)
          refine hJJ.out _ _ trivial (fun hHeld => ?_)
          clear hJJ JJ
          refine wpAnyH_take (i := 19) (v := ?_) rfl (by kernel_rfl) (by kernel_rfl) (by kernel_rfl) (fun _ _ _ h => h) (Or.inl ⟨by kernel_rfl, ?_⟩) (by assumption) ?_
          rotate_left
          focus (intro w hSw; (try dsimp only at hSw); go_simp; (try with_reducible rfl); done)
          refine wpAnyH_take (i := 20) (v := ?_) rfl (by kernel_rfl) (by kernel_rfl) (by kernel_rfl) (fun _ _ _ h => h) (Or.inl ⟨by kernel_rfl, ?_⟩) (by assumption) ?_
          rotate_left
          focus (intro w hSw; (try dsimp only at hSw); go_simp; (try with_reducible rfl); done)
          try simp only [List.getElem_toArray, List.getElem_cons_succ, List.getElem_cons_zero, Act.put, List.setIfInBounds_toArray, List.set_cons_zero, List.set_cons_succ]
          refine wpAnyH_ready (rs := [21]) (by kernel_rfl) (by simp) ?_
          refine AllReadyH.cons rfl (fun JJ hJJ => ?_) AllReadyH.nil
          go_simp
          refine hJJ.out _ _ trivial (fun hHeld => ?_)
          clear hJJ JJ
          try simp only [List.getElem_toArray, List.getElem_cons_succ, List.getElem_cons_zero, Act.put, List.setIfInBounds_toArray, List.set_cons_zero, List.set_cons_succ]
          refine wpAnyH_done (by kernel_rfl) ?_ _
          refine NoPanic.normal ?_
          go_wp2_with fail
          all_goals (go_ret; exact .inr (.inr ⟨by omega, HBB.out.symm, FIN.out _ _ _ _ OW3.out HB9.out⟩))
        refine AllReadyH.cons rfl (fun JJ hJJ => ?_) AllReadyH.nil
        go_simp
        refine hJJ.out _ _ trivial (fun hHeld => ?_)
        clear hJJ JJ
        try simp only [List.getElem_toArray, List.getElem_cons_succ, List.getElem_cons_zero, Act.put, List.setIfInBounds_toArray, List.set_cons_zero, List.set_cons_succ]
        refine wpAnyH_ready (rs := [8]) (by kernel_rfl) (by simp) ?_
        refine AllReadyH.cons rfl (fun JJ hJJ => ?_) AllReadyH.nil
        (refine pushS rfl _ _ rfl (.slice (some ⟨_, 0, none⟩) 0 0) (.slice A q c) [] (l.take q) (fun k => k < wk.heap.size) rfl rfl (OT.out _ (by (repeat (first | with_reducible exact (Below.refl _ _) | with_reducible apply Below.drew | with_reducible refine balloc ?_ _)))) (fun k hk => ne_new hk (by (first | exact Nat.le_refl _ | exact Nat.le_succ _))) (Own.lit' _ (by (simp only [heap_alloc_get, heap_drew_get] <;> simp <;> done)) (by (first | exact Nat.le_refl _ | exact Nat.le_succ _))) (by (repeat (first | with_reducible exact (Below.refl _ _) | with_reducible apply Below.drew | with_reducible refine balloc ?_ _))) LN1.out ?_; intro V1 n1 c1 w7 e1 ho1 hb7 hg1 hat1; rw [htl1.out] at e1; subst n1; have g0 := (hb7.cell hSl).trans x0; have hS7 := Nat.lt_of_lt_of_le hSl hb7.size; have OW1 := put ho1; have HB7 := put hb7; have HG1 := put hg1; have HAT1 := put hat1; clear ho1 hg1 hat1 hb7)
        refine hJJ.out _ _ trivial (fun hHeld => ?_)
        clear hJJ JJ
        try simp only [List.getElem_toArray, List.getElem_cons_succ, List.getElem_cons_zero, Act.put, List.setIfInBounds_toArray, List.set_cons_zero, List.set_cons_succ]
        refine wpAnyH_ready (rs := [11]) (by kernel_rfl) (by simp) ?_
        refine AllReadyH.cons rfl (fun JJ hJJ => ?_) AllReadyH.nil
        (refine pushS rfl _ _ rfl (.slice V1 q c1) (.slice (some ⟨_, 0, none⟩) 1 1) (l.take q) [s] (fun k => some k ≠ (Value.slice V1 q c1).ownBlock) rfl rfl (lit_sl (E := 9) (cs := [.string s]) (by first | (simp only [heap_alloc_get] <;> simp <;> done) | (refine Eq.trans (HG1.out.block _ ?_ (ne_lit (by simp))) ?_; rotate_left; (simp only [heap_alloc_get, heap_drew_get] <;> simp <;> done); (simp <;> omega))) rfl (by first | exact ne_fresh OW1.out | exact ne_grown HAT1.out (ne_lit (by simp)) (by simp <;> omega))) (fun k hk => hk) (OW1.out.below (by (repeat (first | with_reducible exact (Below.refl _ _) | with_reducible apply Below.drew | with_reducible refine balloc ?_ _)))) (by (repeat (first | with_reducible exact (Below.refl _ _) | with_reducible exact HB7.out | with_reducible apply Below.drew | with_reducible refine balloc ?_ _))) LN2.out ?_; intro V2 n2 c2 w8 e2 ho2 hb8 hg2 hat2; rw [htl2.out] at e2; subst n2; have h0 := (hb8.cell hSl).trans x0; have hS8 := Nat.lt_of_lt_of_le hSl hb8.size; have OW2 := put ho2; have HB8 := put hb8; clear ho2 hg2 hat2 hb8)
        refine hJJ.out _ _ trivial (fun hHeld => ?_)
        clear hJJ JJ
        try simp only [List.getElem_toArray, List.getElem_cons_succ, List.getElem_cons_zero, Act.put, List.setIfInBounds_toArray, List.set_cons_zero, List.set_cons_succ]
        refine wpAnyH_ready (rs := [18]) (by kernel_rfl) (by simp) ?_
        refine AllReadyH.cons rfl (fun JJ hJJ => ?_) AllReadyH.nil
        (refine pushS rfl _ _ rfl (.slice V2 (q + 1) c2) (.slice (if c = q then A else A.map (fun x => x.add (q))) (m - q) (c - q)) (l.take q ++ [s]) (l.drop q) (fun k => k < wk.heap.size) rfl rfl (ODD.out.below (by (repeat (first | with_reducible exact (Below.refl _ _) | with_reducible exact HB8.out | with_reducible apply Below.drew | with_reducible refine balloc ?_ _)))) (fun k hk => ne_own OW2.out hk) (OW2.out.below (by (repeat (first | with_reducible exact (Below.refl _ _) | with_reducible apply Below.drew | with_reducible refine balloc ?_ _)))) (by (repeat (first | with_reducible exact (Below.refl _ _) | with_reducible exact HB8.out | with_reducible apply Below.drew | with_reducible refine balloc ?_ _))) LN3.out ?_; intro V3 l3 c3' w9 e3 ho3 hb9 hg3 hat3; have z0 := (hb9.cell hSl).trans x0; have f0 := frz hb9 hSh; have OW3 := put ho3; have HB9 := put hb9; clear ho3 hg3 hat3 hb9 e3)
        refine hJJ.out _ _ trivial (fun hHeld => ?_)
        clear hJJ JJ
        refine wpAnyH_take (i := 19) (v := ?_) rfl (by kernel_rfl) (by kernel_rfl) (by kernel_rfl) (fun _ _ _ h => h) (Or.inl ⟨by kernel_rfl, ?_⟩) (by assumption) ?_
        rotate_left
        focus (intro w hSw; (try dsimp only at hSw); go_simp; (try with_reducible rfl); done)
        refine wpAnyH_take (i := 20) (v := ?_) rfl (by kernel_rfl) (by kernel_rfl) (by kernel_rfl) (fun _ _ _ h => h) (Or.inl ⟨by kernel_rfl, ?_⟩) (by assumption) ?_
        rotate_left
        focus (intro w hSw; (try dsimp only at hSw); go_simp; (try with_reducible rfl); done)
        try simp only [List.getElem_toArray, List.getElem_cons_succ, List.getElem_cons_zero, Act.put, List.setIfInBounds_toArray, List.set_cons_zero, List.set_cons_succ]
        refine wpAnyH_ready (rs := [21]) (by kernel_rfl) (by simp) ?_
        refine AllReadyH.cons rfl (fun JJ hJJ => ?_) AllReadyH.nil
        go_simp
        refine hJJ.out _ _ trivial (fun hHeld => ?_)
        clear hJJ JJ
        try simp only [List.getElem_toArray, List.getElem_cons_succ, List.getElem_cons_zero, Act.put, List.setIfInBounds_toArray, List.set_cons_zero, List.set_cons_succ]
        refine wpAnyH_done (by kernel_rfl) ?_ _
        refine NoPanic.normal ?_
        go_wp2_with fail
        all_goals (go_ret; exact .inr (.inr ⟨by omega, HBB.out.symm, FIN.out _ _ _ _ OW3.out HB9.out⟩))
      refine AllReadyH.cons rfl (fun JJ hJJ => ?_) AllReadyH.nil
      go_simp
      refine hJJ.out _ _ trivial (fun hHeld => ?_)
      clear hJJ JJ
      try simp only [List.getElem_toArray, List.getElem_cons_succ, List.getElem_cons_zero, Act.put, List.setIfInBounds_toArray, List.set_cons_zero, List.set_cons_succ]
      refine wpAnyH_ready (rs := [5]) (by kernel_rfl) (by simp) ?_
      refine AllReadyH.cons rfl (fun JJ hJJ => ?_) AllReadyH.nil
      go_simp
      refine hJJ.out _ _ trivial (fun hHeld => ?_)
      clear hJJ JJ
      refine wpAnyH_take (i := 7) (v := ?_) rfl (by kernel_rfl) (by kernel_rfl) (by kernel_rfl) (fun _ _ _ h => h) (Or.inl ⟨by kernel_rfl, ?_⟩) (by assumption) ?_
      rotate_left
      focus (intro w hSw; (try dsimp only at hSw); go_simp; (try with_reducible rfl); done)
      try simp only [List.getElem_toArray, List.getElem_cons_succ, List.getElem_cons_zero, Act.put, List.setIfInBounds_toArray, List.set_cons_zero, List.set_cons_succ]
      refine wpAnyH_ready (rs := [8]) (by kernel_rfl) (by simp) ?_
      refine AllReadyH.cons rfl (fun JJ hJJ => ?_) AllReadyH.nil
      (refine pushS rfl _ _ rfl (.slice (some ⟨_, 0, none⟩) 0 0) (.slice A q c) [] (l.take q) (fun k => k < wk.heap.size) rfl rfl (OT.out _ (by (repeat (first | with_reducible exact (Below.refl _ _) | with_reducible apply Below.drew | with_reducible refine balloc ?_ _)))) (fun k hk => ne_new hk (by (first | exact Nat.le_refl _ | exact Nat.le_succ _))) (Own.lit' _ (by (simp only [heap_alloc_get, heap_drew_get] <;> simp <;> done)) (by (first | exact Nat.le_refl _ | exact Nat.le_succ _))) (by (repeat (first | with_reducible exact (Below.refl _ _) | with_reducible apply Below.drew | with_reducible refine balloc ?_ _))) LN1.out ?_; intro V1 n1 c1 w7 e1 ho1 hb7 hg1 hat1; rw [htl1.out] at e1; subst n1; have g0 := (hb7.cell hSl).trans x0; have hS7 := Nat.lt_of_lt_of_le hSl hb7.size; have OW1 := put ho1; have HB7 := put hb7; have HG1 := put hg1; have HAT1 := put hat1; clear ho1 hg1 hat1 hb7)
      refine hJJ.out _ _ trivial (fun hHeld => ?_)
      clear hJJ JJ
      try simp only [List.getElem_toArray, List.getElem_cons_succ, List.getElem_cons_zero, Act.put, List.setIfInBounds_toArray, List.set_cons_zero, List.set_cons_succ]
      refine wpAnyH_ready (rs := [11]) (by kernel_rfl) (by simp) ?_
      refine AllReadyH.cons rfl (fun JJ hJJ => ?_) AllReadyH.nil
      (refine pushS rfl _ _ rfl (.slice V1 q c1) (.slice (some ⟨_, 0, none⟩) 1 1) (l.take q) [s] (fun k => some k ≠ (Value.slice V1 q c1).ownBlock) rfl rfl (lit_sl (E := 9) (cs := [.string s]) (by first | (simp only [heap_alloc_get] <;> simp <;> done) | (refine Eq.trans (HG1.out.block _ ?_ (ne_lit (by simp))) ?_; rotate_left; (simp only [heap_alloc_get, heap_drew_get] <;> simp <;> done); (simp <;> omega))) rfl (by first | exact ne_fresh OW1.out | exact ne_grown HAT1.out (ne_lit (by simp)) (by simp <;> omega))) (fun k hk => hk) (OW1.out.below (by (repeat (first | with_reducible exact (Below.refl _ _) | with_reducible apply Below.drew | with_reducible refine balloc ?_ _)))) (by (repeat (first | with_reducible exact (Below.refl _ _) | with_reducible exact HB7.out | with_reducible apply Below.drew | with_reducible refine balloc ?_ _))) LN2.out ?_; intro V2 n2 c2 w8 e2 ho2 hb8 hg2 hat2; rw [htl2.out] at e2; subst n2; have h0 := (hb8.cell hSl).trans x0; have hS8 := Nat.lt_of_lt_of_le hSl hb8.size; have OW2 := put ho2; have HB8 := put hb8; clear ho2 hg2 hat2 hb8)
      refine hJJ.out _ _ trivial (fun hHeld => ?_)
      clear hJJ JJ
      try simp only [List.getElem_toArray, List.getElem_cons_succ, List.getElem_cons_zero, Act.put, List.setIfInBounds_toArray, List.set_cons_zero, List.set_cons_succ]
      refine wpAnyH_ready (rs := [18]) (by kernel_rfl) (by simp) ?_
      refine AllReadyH.cons rfl (fun JJ hJJ => ?_) AllReadyH.nil
      (refine pushS rfl _ _ rfl (.slice V2 (q + 1) c2) (.slice (if c = q then A else A.map (fun x => x.add (q))) (m - q) (c - q)) (l.take q ++ [s]) (l.drop q) (fun k => k < wk.heap.size) rfl rfl (ODD.out.below (by (repeat (first | with_reducible exact (Below.refl _ _) | with_reducible exact HB8.out | with_reducible apply Below.drew | with_reducible refine balloc ?_ _)))) (fun k hk => ne_own OW2.out hk) (OW2.out.below (by (repeat (first | with_reducible exact (Below.refl _ _) | with_reducible apply Below.drew | with_reducible refine balloc ?_ _)))) (by (repeat (first | with_reducible exact (Below.refl _ _) | with_reducible exact HB8.out | with_reducible apply Below.drew | with_reducible refine balloc ?_ _))) LN3.out ?_; intro V3 l3 c3' w9 e3 ho3 hb9 hg3 hat3; have z0 := (hb9.cell hSl).trans x0; have f0 := frz hb9 hSh; have OW3 := put ho3; have HB9 := put hb9; clear ho3 hg3 hat3 hb9 e3)
      refine hJJ.out _ _ trivial (fun hHeld => ?_)
      clear hJJ JJ
      refine wpAnyH_take (i := 19) (v := ?_) rfl (by kernel_rfl) (by kernel_rfl) (by kernel_rfl) (fun _ _ _ h => h) (Or.inl ⟨by kernel_rfl, ?_⟩) (by assumption) ?_
      rotate_left
      focus (intro w hSw; (try dsimp only at hSw); go_simp; (try with_reducible rfl); done)
      refine wpAnyH_take (i := 20) (v := ?_) rfl (by kernel_rfl) (by kernel_rfl) (by kernel_rfl) (fun _ _ _ h => h) (Or.inl ⟨by kernel_rfl, ?_⟩) (by assumption) ?_
      rotate_left
      focus (intro w hSw; (try dsimp only at hSw); go_simp; (try with_reducible rfl); done)
      try simp only [List.getElem_toArray, List.getElem_cons_succ, List.getElem_cons_zero, Act.put, List.setIfInBounds_toArray, List.set_cons_zero, List.set_cons_succ]
      refine wpAnyH_ready (rs := [21]) (by kernel_rfl) (by simp) ?_
      refine AllReadyH.cons rfl (fun JJ hJJ => ?_) AllReadyH.nil
      go_simp
      refine hJJ.out _ _ trivial (fun hHeld => ?_)
      clear hJJ JJ
      try simp only [List.getElem_toArray, List.getElem_cons_succ, List.getElem_cons_zero, Act.put, List.setIfInBounds_toArray, List.set_cons_zero, List.set_cons_succ]
      refine wpAnyH_done (by kernel_rfl) ?_ _
      refine NoPanic.normal ?_
      go_wp2_with fail
      all_goals (go_ret; exact .inr (.inr ⟨by omega, HBB.out.symm, FIN.out _ _ _ _ OW3.out HB9.out⟩))
    refine AllReadyH.cons rfl (fun JJ hJJ => ?_) ?_
    · go_simp
      refine hJJ.out _ _ trivial (fun hHeld => ?_)
      clear hJJ JJ
      refine wpAnyH_take (i := 7) (v := ?_) rfl (by kernel_rfl) (by kernel_rfl) (by kernel_rfl) (fun _ _ _ h => h) (Or.inl ⟨by kernel_rfl, ?_⟩) (by assumption) ?_
      rotate_left
      focus (intro w hSw; (try dsimp only at hSw); go_simp; (try with_reducible rfl); done)
      try simp only [List.getElem_toArray, List.getElem_cons_succ, List.getElem_cons_zero, Act.put, List.setIfInBounds_toArray, List.set_cons_zero, List.set_cons_succ]
      refine wpAnyH_ready (rs := [1, 10]) (by kernel_rfl) (by simp) ?_
      refine AllReadyH.cons rfl (fun JJ hJJ => ?_) ?_
      · go_simp
        refine hJJ.out _ _ trivial (fun hHeld => ?_)
        clear hJJ JJ
        try simp only [List.getElem_toArray, List.getElem_cons_succ, List.getElem_cons_zero, Act.put, List.setIfInBounds_toArray, List.set_cons_zero, List.set_cons_succ]
        refine wpAnyH_ready (rs := [8, 10]) (by kernel_rfl) (by simp) ?_
        refine AllReadyH.cons rfl (fun JJ hJJ => ?_) ?_
        · (refine pushS rfl _ _ rfl (.slice (some ⟨_, 0, none⟩) 0 0) (.slice A q c) [] (l.take q) (fun k => k < wk.heap.size) rfl rfl (OT.out _ (by (repeat (first | with_reducible exact (Below.refl _ _) | with_reducible apply Below.drew | with_reducible refine balloc ?_ _)))) (fun k hk => ne_new hk (by (first | exact Nat.le_refl _ | exact Nat.le_succ _))) (Own.lit' _ (by (simp only [heap_alloc_get, heap_drew_get] <;> simp <;> done)) (by (first | exact Nat.le_refl _ | exact Nat.le_succ _))) (by (repeat (first | with_reducible exact (Below.refl _ _) | with_reducible apply Below.drew | with_reducible refine balloc ?_ _))) LN1.out ?_; intro V1 n1 c1 w7 e1 ho1 hb7 hg1 hat1; rw [htl1.out] at e1; subst n1; have g0 := (hb7.cell hSl).trans x0; have hS7 := Nat.lt_of_lt_of_le hSl hb7.size; have OW1 := put ho1; have HB7 := put hb7; have HG1 := put hg1; have HAT1 := put hat1; clear ho1 hg1 hat1 hb7)
          refine hJJ.out _ _ trivial (fun hHeld => ?_)
          clear hJJ JJ
          try simp only [List.getElem_toArray, List.getElem_cons_succ, List.getElem_cons_zero, Act.put, List.setIfInBounds_toArray, List.set_cons_zero, List.set_cons_succ]
          refine wpAnyH_ready (rs := [10]) (by kernel_rfl) (by simp) ?_
          refine AllReadyH.cons rfl (fun JJ hJJ => ?_) AllReadyH.nil
          go_simp
          refine hJJ.out _ _ trivial (fun hHeld => ?_)
          clear hJJ JJ
          try simp only [List.getElem_toArray, List.getElem_cons_succ, List.getElem_cons_zero, Act.put, List.setIfInBounds_toArray, List.set_cons_zero, List.set_cons_succ]
          refine wpAnyH_ready (rs := [11]) (by kernel_rfl) (by simp) ?_
          refine AllReadyH.cons rfl (fun JJ hJJ => ?_) AllReadyH.nil
          (refine pushS rfl _ _ rfl (.slice V1 q c1) (.slice (some ⟨_, 0, none⟩) 1 1) (l.take q) [s] (fun k => some k ≠ (Value.slice V1 q c1).ownBlock) rfl rfl (lit_sl (E := 9) (cs := [.string s]) (by first | (simp only [heap_alloc_get] <;> simp <;> done) | (refine Eq.trans (HG1.out.block _ ?_ (ne_lit (by simp))) ?_; rotate_left; (simp only [heap_alloc_get, heap_drew_get] <;> simp <;> done); (simp <;> omega))) rfl (by first | exact ne_fresh OW1.out | exact ne_grown HAT1.out (ne_lit (by simp)) (by simp <;> omega))) (fun k hk => hk) (OW1.out.below (by (repeat (first | with_reducible exact (Below.refl _ _) | with_reducible apply Below.drew | with_reducible refine balloc ?_ _)))) (by (repeat (first | with_reducible exact (Below.refl _ _) | with_reducible exact HB7.out | with_reducible apply Below.drew | with_reducible refine balloc ?_ _))) LN2.out ?_; intro V2 n2 c2 w8 e2 ho2 hb8 hg2 hat2; rw [htl2.out] at e2; subst n2; have h0 := (hb8.cell hSl).trans x0; have hS8 := Nat.lt_of_lt_of_le hSl hb8.size; have OW2 := put ho2; have HB8 := put hb8; clear ho2 hg2 hat2 hb8)
          refine hJJ.out _ _ trivial (fun hHeld => ?_)
          clear hJJ JJ
          try simp only [List.getElem_toArray, List.getElem_cons_succ, List.getElem_cons_zero, Act.put, List.setIfInBounds_toArray, List.set_cons_zero, List.set_cons_succ]
          refine wpAnyH_ready (rs := [18]) (by kernel_rfl) (by simp) ?_
          refine AllReadyH.cons rfl (fun JJ hJJ => ?_) AllReadyH.nil
          (refine pushS rfl _ _ rfl (.slice V2 (q + 1) c2) (.slice (if c = q then A else A.map (fun x => x.add (q))) (m - q) (c - q)) (l.take q ++ [s]) (l.drop q) (fun k => k < wk.heap.size) rfl rfl (ODD.out.below (by (repeat (first | with_reducible exact (Below.refl _ _) | with_reducible exact HB8.out | with_reducible apply Below.drew | with_reducible refine balloc ?_ _)))) (fun k hk => ne_own OW2.out hk) (OW2.out.below (by (repeat (first | with_reducible exact (Below.refl _ _) | with_reducible apply Below.drew | with_reducible refine balloc ?_ _)))) (by (repeat (first | with_reducible exact (Below.refl _ _) | with_reducible exact HB8.out | with_reducible apply Below.drew | with_reducible refine balloc ?_ _))) LN3.out ?_; intro V3 l3 c3' w9 e3 ho3 hb9 hg3 hat3; have z0 := (hb9.cell hSl).trans x0; have f0 := frz hb9 hSh; have OW3 := put ho3; have HB9 := put hb9; clear ho3 hg3 hat3 hb9 e3)
          refine hJJ.out _ _ trivial (fun hHeld => ?_)
          clear hJJ JJ
          refine wpAnyH_take (i := 19) (v := ?_) rfl (by kernel_rfl) (by kernel_rfl) (by kernel_rfl) (fun _ _ _ h => h) (Or.inl ⟨by kernel_rfl, ?_⟩) (by assumption) ?_
          rotate_left
          focus (intro w hSw; (try dsimp only at hSw); go_simp; (try with_reducible rfl); done)
          refine wpAnyH_take (i := 20) (v := ?_) rfl (by kernel_rfl) (by kernel_rfl) (by kernel_rfl) (fun _ _ _ h => h) (Or.inl ⟨by kernel_rfl, ?_⟩) (by assumption) ?_
          rotate_left
          focus (intro w hSw; (try dsimp only at hSw); go_simp; (try with_reducible rfl); done)
          try simp only [List.getElem_toArray, List.getElem_cons_succ, List.getElem_cons_zero, Act.put, List.setIfInBounds_toArray, List.set_cons_zero, List.set_cons_succ]
          refine wpAnyH_ready (rs := [21]) (by kernel_rfl) (by simp) ?_
          refine AllReadyH.cons rfl (fun JJ hJJ => ?_) AllReadyH.nil
          go_simp
          refine hJJ.out _ _ trivial (fun hHeld => ?_)
          clear hJJ JJ
          try simp only [List.getElem_toArray, List.getElem_cons_succ, List.getElem_cons_zero, Act.put, List.setIfInBounds_toArray, List.set_cons_zero, List.set_cons_succ]
          refine wpAnyH_done (by kernel_rfl) ?_ _
          refine NoPanic.normal ?_
          go_wp2_with fail
          all_goals (go_ret; exact .inr (.inr ⟨by omega, HBB.out.symm, FIN.out _ _ _ _ OW3.out HB9.out⟩))
        refine AllReadyH.cons rfl (fun JJ hJJ => ?_) AllReadyH.nil
        go_simp
        refine hJJ.out _ _ trivial (fun hHeld => ?_)
        clear hJJ JJ
        try simp only [List.getElem_toArray, List.getElem_cons_succ, List.getElem_cons_zero, Act.put, List.setIfInBounds_toArray, List.set_cons_zero, List.set_cons_succ]
        refine wpAnyH_ready (rs := [8]) (by kernel_rfl) (by simp) ?_
        refine AllReadyH.cons rfl (fun JJ hJJ => ?_) AllReadyH.nil
        (refine pushS rfl _ _ rfl (.slice (some ⟨_, 0, none⟩) 0 0) (.slice A q c) [] (l.take q) (fun k => k < wk.heap.size) rfl rfl (OT.out _ (by (repeat (first | with_reducible exact (Below.refl _ _) | with_reducible apply Below.drew | with_reducible refine balloc ?_ _)))) (fun k hk => ne_new hk (by (first | exact Nat.le_refl _ | exact Nat.le_succ _))) (Own.lit' _ (by (simp only [heap_alloc_get, heap_drew_get] <;> simp <;> done)) (by (first | exact Nat.le_refl _ | exact Nat.le_succ _))) (by (repeat (first | with_reducible exact (Below.refl _ _) | with_reducible apply Below.drew | with_reducible refine balloc ?_ _))) LN1.out ?_; intro V1 n1 c1 w7 e1 ho1 hb7 hg1 hat1; rw [htl1.out] at e1; subst n1; have g0 := (hb7.cell hSl).trans x0; have hS7 := Nat.lt_of_lt_of_le hSl hb7.size; have OW1 := put ho1; have HB7 := put hb7; have HG1 := put hg1; have HAT1 := put hat1; clear ho1 hg1 hat1 hb7)
        refine hJJ.out _ _ trivial (fun hHeld => ?_)
        clear hJJ JJ
        try simp only [List.getElem_toArray, List.getElem_cons_succ, List.getElem_cons_zero, Act.put, List.setIfInBounds_toArray, List.set_cons_zero, List.set_cons_succ]
        refine wpAnyH_ready (rs := [11]) (by kernel_rfl) (by simp) ?_
        refine AllReadyH.cons rfl (fun JJ hJJ => ?_) AllReadyH.nil
        (refine pushS rfl _ _ rfl (.slice V1 q c1) (.slice (some ⟨_, 0, none⟩) 1 1) (l.take q) [s] (fun k => some k ≠ (Value.slice V1 q c1).ownBlock) rfl rfl (lit_sl (E := 9) (cs := [.string s]) (by first | (simp only [heap_alloc_get] <;> simp <;> done) | (refine Eq.trans (HG1.out.block _ ?_ (ne_lit (by simp))) ?_; rotate_left; (simp only [heap_alloc_get, heap_drew_get] <;> simp <;> done); (simp <;> omega))) rfl (by first | exact ne_fresh OW1.out | exact ne_grown HAT1.out (ne_lit (by simp)) (by simp <;> omega))) (fun k hk => hk) (OW1.out.below (by (repeat (first | with_reducible exact (Below.refl _ _) | with_reducible apply Below.drew | with_reducible refine balloc ?_ _)))) (by (repeat (first | with_reducible exact (Below.refl _ _) | with_reducible exact HB7.out | with_reducible apply Below.drew | with_reducible refine balloc ?_ _))) LN2.out ?_; intro V2 n2 c2 w8 e2 ho2 hb8 hg2 hat2; rw [htl2.out] at e2; subst n2; have h0 := (hb8.cell hSl).trans x0; have hS8 := Nat.lt_of_lt_of_le hSl hb8.size; have OW2 := put ho2; have HB8 := put hb8; clear ho2 hg2 hat2 hb8)
        refine hJJ.out _ _ trivial (fun hHeld => ?_)
        clear hJJ JJ
        try simp only [List.getElem_toArray, List.getElem_cons_succ, List.getElem_cons_zero, Act.put, List.setIfInBounds_toArray, List.set_cons_zero, List.set_cons_succ]
        refine wpAnyH_ready (rs := [18]) (by kernel_rfl) (by simp) ?_
        refine AllReadyH.cons rfl (fun JJ hJJ => ?_) AllReadyH.nil
        (refine pushS rfl _ _ rfl (.slice V2 (q + 1) c2) (.slice (if c = q then A else A.map (fun x => x.add (q))) (m - q) (c - q)) (l.take q ++ [s]) (l.drop q) (fun k => k < wk.heap.size) rfl rfl (ODD.out.below (by (repeat (first | with_reducible exact (Below.refl _ _) | with_reducible exact HB8.out | with_reducible apply Below.drew | with_reducible refine balloc ?_ _)))) (fun k hk => ne_own OW2.out hk) (OW2.out.below (by (repeat (first | with_reducible exact (Below.refl _ _) | with_reducible apply Below.drew | with_reducible refine balloc ?_ _)))) (by (repeat (first | with_reducible exact (Below.refl _ _) | with_reducible exact HB8.out | with_reducible apply Below.drew | with_reducible refine balloc ?_ _))) LN3.out ?_; intro V3 l3 c3' w9 e3 ho3 hb9 hg3 hat3; have z0 := (hb9.cell hSl).trans x0; have f0 := frz hb9 hSh; have OW3 := put ho3; have HB9 := put hb9; clear ho3 hg3 hat3 hb9 e3)
        refine hJJ.out _ _ trivial (fun hHeld => ?_)
        clear hJJ JJ
        refine wpAnyH_take (i := 19) (v := ?_) rfl (by kernel_rfl) (by kernel_rfl) (by kernel_rfl) (fun _ _ _ h => h) (Or.inl ⟨by kernel_rfl, ?_⟩) (by assumption) ?_
        rotate_left
        focus (intro w hSw; (try dsimp only at hSw); go_simp; (try with_reducible rfl); done)
        refine wpAnyH_take (i := 20) (v := ?_) rfl (by kernel_rfl) (by kernel_rfl) (by kernel_rfl) (fun _ _ _ h => h) (Or.inl ⟨by kernel_rfl, ?_⟩) (by assumption) ?_
        rotate_left
        focus (intro w hSw; (try dsimp only at hSw); go_simp; (try with_reducible rfl); done)
        try simp only [List.getElem_toArray, List.getElem_cons_succ, List.getElem_cons_zero, Act.put, List.setIfInBounds_toArray, List.set_cons_zero, List.set_cons_succ]
        refine wpAnyH_ready (rs := [21]) (by kernel_rfl) (by simp) ?_
        refine AllReadyH.cons rfl (fun JJ hJJ => ?_) AllReadyH.nil
        go_simp
        refine hJJ.out _ _ trivial (fun hHeld => ?_)
        clear hJJ JJ
        try simp only [List.getElem_toArray, List.getElem_cons_succ, List.getElem_cons_zero, Act.put, List.setIfInBounds_toArray, List.set_cons_zero, List.set_cons_succ]
        refine wpAnyH_done (by kernel_rfl) ?_ _
        refine NoPanic.normal ?_
        go_wp2_with fail
        all_goals (go_ret; exact .inr (.inr ⟨by omega, HBB.out.symm, FIN.out _ _ _ _ OW3.out HB9.out⟩))
      refine AllReadyH.cons rfl (fun JJ hJJ => ?_) AllReadyH.nil
      go_simp
      refine hJJ.out _ _ trivial (fun hHeld => ?_)
      clear hJJ JJ
      try simp only [List.getElem_toArray, List.getElem_cons_succ, List.getElem_cons_zero, Act.put, List.setIfInBounds_toArray, List.set_cons_zero, List.set_cons_succ]
      refine wpAnyH_ready (rs := [1]) (by kernel_rfl) (by simp) ?_
      refine AllReadyH.cons rfl (fun JJ hJJ => ?_) AllReadyH.nil
      go_simp
      refine hJJ.out _ _ trivial (fun hHeld => ?_)
      clear hJJ JJ
      try simp only [List.getElem_toArray, List.getElem_cons_succ, List.getElem_cons_zero, Act.put, List.setIfInBounds_toArray, List.set_cons_zero, List.set_cons_succ]
      refine wpAnyH_ready (rs := [8]) (by kernel_rfl) (by simp) ?_
      refine AllReadyH.cons rfl (fun JJ hJJ => ?_) AllReadyH.nil
      (refine pushS rfl _ _ rfl (.slice (some ⟨_, 0, none⟩) 0 0) (.slice A q c) [] (l.take q) (fun k => k < wk.heap.size) rfl rfl (OT.out _ (by (repeat (first | with_reducible exact (Below.refl _ _) | with_reducible apply Below.drew | with_reducible refine balloc ?_ _)))) (fun k hk => ne_new hk (by (first | exact Nat.le_refl _ | exact Nat.le_succ _))) (Own.lit' _ (by (simp only [heap_alloc_get, heap_drew_get] <;> simp <;> done)) (by (first | exact Nat.le_refl _ | exact Nat.le_succ _))) (by (repeat (first | with_reducible exact (Below.refl _ _) | with_reducible apply Below.drew | with_reducible refine balloc ?_ _))) LN1.out ?_; intro V1 n1 c1 w7 e1 ho1 hb7 hg1 hat1; rw [htl1.out] at e1; subst n1; have g0 := (hb7.cell hSl).trans x0; have hS7 := Nat.lt_of_lt_of_le hSl hb7.size; have OW1 := put ho1; have HB7 := put hb7; have HG1 := put hg1; have HAT1 := put hat1; clear ho1 hg1 hat1 hb7)
      refine hJJ.out _ _ trivial (fun hHeld => ?_)
      clear hJJ JJ
      try simp only [List.getElem_toArray, List.getElem_cons_succ, List.getElem_cons_zero, Act.put, List.setIfInBounds_toArray, List.set_cons_zero, List.set_cons_succ]
      refine wpAnyH_ready (rs := [11]) (by kernel_rfl) (by simp) ?_
      refine AllReadyH.cons rfl (fun JJ hJJ => ?_) AllReadyH.nil
      (refine pushS rfl _ _ rfl (.slice V1 q c1) (.slice (some ⟨_, 0, none⟩) 1 1) (l.take q) [s] (fun k => some k ≠ (Value.slice V1 q c1).ownBlock) rfl rfl (lit_sl (E := 9) (cs := [.string s]) (by first | (simp only [heap_alloc_get] <;> simp <;> done) | (refine Eq.trans (HG1.out.block _ ?_ (ne_lit (by simp))) ?_; rotate_left; (simp only [heap_alloc_get, heap_drew_get] <;> simp <;> done); (simp <;> omega))) rfl (by first | exact ne_fresh OW1.out | exact ne_grown HAT1.out (ne_lit (by simp)) (by simp <;> omega))) (fun k hk => hk) (OW1.out.below (by (repeat (first | with_reducible exact (Below.refl _ _) | with_reducible apply Below.drew | with_reducible refine balloc ?_ _)))) (by (repeat (first | with_reducible exact (Below.refl _ _) | with_reducible exact HB7.out | with_reducible apply Below.drew | with_reducible refine balloc ?_ _))) LN2.out ?_; intro V2 n2 c2 w8 e2 ho2 hb8 hg2 hat2; rw [htl2.out] at e2; subst n2; have h0 := (hb8.cell hSl).trans x0; have hS8 := Nat.lt_of_lt_of_le hSl hb8.size; have OW2 := put ho2; have HB8 := put hb8; clear ho2 hg2 hat2 hb8)
      refine hJJ.out _ _ trivial (fun hHeld => ?_)
      clear hJJ JJ
      try simp only [List.getElem_toArray, List.getElem_cons_succ, List.getElem_cons_zero, Act.put, List.setIfInBounds_toArray, List.set_cons_zero, List.set_cons_succ]
      refine wpAnyH_ready (rs := [18]) (by kernel_rfl) (by simp) ?_
      refine AllReadyH.cons rfl (fun JJ hJJ => ?_) AllReadyH.nil
      (refine pushS rfl _ _ rfl (.slice V2 (q + 1) c2) (.slice (if c = q then A else A.map (fun x => x.add (q))) (m - q) (c - q)) (l.take q ++ [s]) (l.drop q) (fun k => k < wk.heap.size) rfl rfl (ODD.out.below (by (repeat (first | with_reducible exact (Below.refl _ _) | with_reducible exact HB8.out | with_reducible apply Below.drew | with_reducible refine balloc ?_ _)))) (fun k hk => ne_own OW2.out hk) (OW2.out.below (by (repeat (first | with_reducible exact (Below.refl _ _) | with_reducible apply Below.drew | with_reducible refine balloc ?_ _)))) (by (repeat (first | with_reducible exact (Below.refl _ _) | with_reducible exact HB8.out | with_reducible apply Below.drew | with_reducible refine balloc ?_ _))) LN3.out ?_; intro V3 l3 c3' w9 e3 ho3 hb9 hg3 hat3; have z0 := (hb9.cell hSl).trans x0; have f0 := frz hb9 hSh; have OW3 := put ho3; have HB9 := put hb9; clear ho3 hg3 hat3 hb9 e3)
      refine hJJ.out _ _ trivial (fun hHeld => ?_)
      clear hJJ JJ
      refine wpAnyH_take (i := 19) (v := ?_) rfl (by kernel_rfl) (by kernel_rfl) (by kernel_rfl) (fun _ _ _ h => h) (Or.inl ⟨by kernel_rfl, ?_⟩) (by assumption) ?_
      rotate_left
      focus (intro w hSw; (try dsimp only at hSw); go_simp; (try with_reducible rfl); done)
      refine wpAnyH_take (i := 20) (v := ?_) rfl (by kernel_rfl) (by kernel_rfl) (by kernel_rfl) (fun _ _ _ h => h) (Or.inl ⟨by kernel_rfl, ?_⟩) (by assumption) ?_
      rotate_left
      focus (intro w hSw; (try dsimp only at hSw); go_simp; (try with_reducible rfl); done)
      try simp only [List.getElem_toArray, List.getElem_cons_succ, List.getElem_cons_zero, Act.put, List.setIfInBounds_toArray, List.set_cons_zero, List.set_cons_succ]
      refine wpAnyH_ready (rs := [21]) (by kernel_rfl) (by simp) ?_
      refine AllReadyH.cons rfl (fun JJ hJJ => ?_) AllReadyH.nil
      go_simp
      refine hJJ.out _ _ trivial (fun hHeld => ?_)
      clear hJJ JJ
      try simp only [List.getElem_toArray, List.getElem_cons_succ, List.getElem_cons_zero, Act.put, List.setIfInBounds_toArray, List.set_cons_zero, List.set_cons_succ]
      refine wpAnyH_done (by kernel_rfl) ?_ _
      refine NoPanic.normal ?_
      go_wp2_with fail
      all_goals (go_ret; exact .inr (.inr ⟨by omega, HBB.out.symm, FIN.out _ _ _ _ OW3.out HB9.out⟩))
    refine AllReadyH.cons rfl (fun JJ hJJ => ?_) AllReadyH.nil
    go_simp
    refine hJJ.out _ _ trivial (fun hHeld => ?_)
    clear hJJ JJ
    try simp only [List.getElem_toArray, List.getElem_cons_succ, List.getElem_cons_zero, Act.put, List.setIfInBounds_toArray, List.set_cons_zero, List.set_cons_succ]
    refine wpAnyH_ready (rs := [1, 5]) (by kernel_rfl) (by simp) ?_
    refine AllReadyH.cons rfl (fun JJ hJJ => ?_) ?_
    · go_simp
      refine hJJ.out _ _ trivial (fun hHeld => ?_)
      clear hJJ JJ
      try simp only [List.getElem_toArray, List.getElem_cons_succ, List.getElem_cons_zero, Act.put, List.setIfInBounds_toArray, List.set_cons_zero, List.set_cons_succ]
      refine wpAnyH_ready (rs := [5]) (by kernel_rfl) (by simp) ?_
      refine AllReadyH.cons rfl (fun JJ hJJ => ?_) AllReadyH.nil
      go_simp
      refine hJJ.out _ _ trivial (fun hHeld => ?_)
      clear hJJ JJ
      refine wpAnyH_take (i := 7) (v := ?_) rfl (by kernel_rfl) (by kernel_rfl) (by kernel_rfl) (fun _ _ _ h => h) (Or.inl ⟨by kernel_rfl, ?_⟩) (by assumption) ?_
      rotate_left
      focus (intro w hSw; (try dsimp only at hSw); go_simp; (try with_reducible rfl); done)
      try simp only [List.getElem_toArray, List.getElem_cons_succ, List.getElem_cons_zero, Act.put, List.setIfInBounds_toArray, List.set_cons_zero, List.set_cons_succ]
      refine wpAnyH_ready (rs := [8]) (by kernel_rfl) (by simp) ?_
      refine AllReadyH.cons rfl (fun JJ hJJ => ?_) AllReadyH.nil
      (refine pushS rfl _ _ rfl (.slice (some ⟨_, 0, none⟩) 0 0) (.slice A q c) [] (l.take q) (fun k => k < wk.heap.size) rfl rfl (OT.out _ (by (repeat (first | with_reducible exact (Below.refl _ _) | with_reducible apply Below.drew | with_reducible refine balloc ?_ _)))) (fun k hk => ne_new hk (by (first | exact Nat.le_refl _ | exact Nat.le_succ _))) (Own.lit' _ (by (simp only [heap_alloc_get, heap_drew_get] <;> simp <;> done)) (by (first | exact Nat.le_refl _ | exact Nat.le_succ _))) (by (repeat (first | with_reducible exact (Below.refl _ _) | with_reducible apply Below.drew | with_reducible refine balloc ?_ _))) LN1.out ?_; intro V1 n1 c1 w7 e1 ho1 hb7 hg1 hat1; rw [htl1.out] at e1; subst n1; have g0 := (hb7.cell hSl).trans x0; have hS7 := Nat.lt_of_lt_of_le hSl hb7.size; have OW1 := put ho1; have HB7 := put hb7; have HG1 := put hg1; have HAT1 := put hat1; clear ho1 hg1 hat1 hb7)
      refine hJJ.out _ _ trivial (fun hHeld => ?_)
      clear hJJ JJ
      try simp only [List.getElem_toArray, List.getElem_cons_succ, List.getElem_cons_zero, Act.put, List.setIfInBounds_toArray, List.set_cons_zero, List.set_cons_succ]
      refine wpAnyH_ready (rs := [11]) (by kernel_rfl) (by simp) ?_
      refine AllReadyH.cons rfl (fun JJ hJJ => ?_) AllReadyH.nil
      (refine pushS rfl _ _ rfl (.slice V1 q c1) (.slice (some ⟨_, 0, none⟩) 1 1) (l.take q) [s] (fun k => some k ≠ (Value.slice V1 q c1).ownBlock) rfl rfl (lit_sl (E := 9) (cs := [.string s]) (by first | (simp only [heap_alloc_get] <;> simp <;> done) | (refine Eq.trans (HG1.out.block _ ?_ (ne_lit (by simp))) ?_; rotate_left; (simp only [heap_alloc_get, heap_drew_get] <;> simp <;> done); (simp <;> omega))) rfl (by first | exact ne_fresh OW1.out | exact ne_grown HAT1.out (ne_lit (by simp)) (by simp <;> omega))) (fun k hk => hk) (OW1.out.below (by (repeat (first | with_reducible exact (Below.refl _ _) | with_reducible apply Below.drew | with_reducible refine balloc ?_ _)))) (by (repeat (first | with_reducible exact (Below.refl _ _) | with_reducible exact HB7.out | with_reducible apply Below.drew | with_reducible refine balloc ?_ _))) LN2.out ?_; intro V2 n2 c2 w8 e2 ho2 hb8 hg2 hat2; rw [htl2.out] at e2; subst n2; have h0 := (hb8.cell hSl).trans x0; have hS8 := Nat.lt_of_lt_of_le hSl hb8.size; have OW2 := put ho2; have HB8 := put hb8; clear ho2 hg2 hat2 hb8)
      refine hJJ.out _ _ trivial (fun hHeld => ?_)
      clear hJJ JJ
      try simp only [List.getElem_toArray, List.getElem_cons_succ, List.getElem_cons_zero, Act.put, List.setIfInBounds_toArray, List.set_cons_zero, List.set_cons_succ]
      refine wpAnyH_ready (rs := [18]) (by kernel_rfl) (by simp) ?_
      refine AllReadyH.cons rfl (fun JJ hJJ => ?_) AllReadyH.nil
      (refine pushS rfl _ _ rfl (.slice V2 (q + 1) c2) (.slice (if c = q then A else A.map (fun x => x.add (q))) (m - q) (c - q)) (l.take q ++ [s]) (l.drop q) (fun k => k < wk.heap.size) rfl rfl (ODD.out.below (by (repeat (first | with_reducible exact (Below.refl _ _) | with_reducible exact HB8.out | with_reducible apply Below.drew | with_reducible refine balloc ?_ _)))) (fun k hk => ne_own OW2.out hk) (OW2.out.below (by (repeat (first | with_reducible exact (Below.refl _ _) | with_reducible apply Below.drew | with_reducible refine balloc ?_ _)))) (by (repeat (first | with_reducible exact (Below.refl _ _) | with_reducible exact HB8.out | with_reducible apply Below.drew | with_reducible refine balloc ?_ _))) LN3.out ?_; intro V3 l3 c3' w9 e3 ho3 hb9 hg3 hat3; have z0 := (hb9.cell hSl).trans x0; have f0 := frz hb9 hSh; have OW3 := put ho3; have HB9 := put hb9; clear ho3 hg3 hat3 hb9 e3)
      refine hJJ.out _ _ trivial (fun hHeld => ?_)
      clear hJJ JJ
      refine wpAnyH_take (i := 19) (v := ?_) rfl (by kernel_rfl) (by kernel_rfl) (by kernel_rfl) (fun _ _ _ h => h) (Or.inl ⟨by kernel_rfl, ?_⟩) (by assumption) ?_
      rotate_left
      focus (intro w hSw; (try dsimp only at hSw); go_simp; (try with_reducible rfl); done)
      refine wpAnyH_take (i := 20) (v := ?_) rfl (by kernel_rfl) (by kernel_rfl) (by kernel_rfl) (fun _ _ _ h => h) (Or.inl ⟨by kernel_rfl, ?_⟩) (by assumption) ?_
      rotate_left
      focus (intro w hSw; (try dsimp only at hSw); go_simp; (try with_reducible rfl); done)
      try simp only [List.getElem_toArray, List.getElem_cons_succ, List.getElem_cons_zero, Act.put, List.setIfInBounds_toArray, List.set_cons_zero, List.set_cons_succ]
      refine wpAnyH_ready (rs := [21]) (by kernel_rfl) (by simp) ?_
      refine AllReadyH.cons rfl (fun JJ hJJ => ?_) AllReadyH.nil
      go_simp
      refine hJJ.out _ _ trivial (fun hHeld => ?_)
      clear hJJ JJ
      try simp only [List.getElem_toArray, List.getElem_cons_succ, List.getElem_cons_zero, Act.put, List.setIfInBounds_toArray, List.set_cons_zero, List.set_cons_succ]
      refine wpAnyH_done (by kernel_rfl) ?_ _
      refine NoPanic.normal ?_
      go_wp2_with fail
      all_goals (go_ret; exact .inr (.inr ⟨by omega, HBB.out.symm, FIN.out _ _ _ _ OW3.out HB9.out⟩))
    refine AllReadyH.cons rfl (fun JJ hJJ => ?_) AllReadyH.nil
    go_simp
    refine hJJ.out _ _ trivial (fun hHeld => ?_)
    clear hJJ JJ
    refine wpAnyH_take (i := 7) (v := ?_) rfl (by kernel_rfl) (by kernel_rfl) (by kernel_rfl) (fun _ _ _ h => h) (Or.inl ⟨by kernel_rfl, ?_⟩) (by assumption) ?_
    rotate_left
    focus (intro w hSw; (try dsimp only at hSw); go_simp; (try with_reducible rfl); done)
    try simp only [List.getElem_toArray, List.getElem_cons_succ, List.getElem_cons_zero, Act.put, List.setIfInBounds_toArray, List.set_cons_zero, List.set_cons_succ]
    refine wpAnyH_ready (rs := [1]) (by kernel_rfl) (by simp) ?_
    refine AllReadyH.cons rfl (fun JJ hJJ => ?_) AllReadyH.nil
    go_simp
    refine hJJ.out _ _ trivial (fun hHeld => ?_)
    clear hJJ JJ
    try simp only [List.getElem_toArray, List.getElem_cons_succ, List.getElem_cons_zero, Act.put, List.setIfInBounds_toArray, List.set_cons_zero, List.set_cons_succ]
    refine wpAnyH_ready (rs := [8]) (by kernel_rfl) (by simp) ?_
    refine AllReadyH.cons rfl (fun JJ hJJ => ?_) AllReadyH.nil
    (refine pushS rfl _ _ rfl (.slice (some ⟨_, 0, none⟩) 0 0) (.slice A q c) [] (l.take q) (fun k => k < wk.heap.size) rfl rfl (OT.out _ (by (repeat (first | with_reducible exact (Below.refl _ _) | with_reducible apply Below.drew | with_reducible refine balloc ?_ _)))) (fun k hk => ne_new hk (by (first | exact Nat.le_refl _ | exact Nat.le_succ _))) (Own.lit' _ (by (simp only [heap_alloc_get, heap_drew_get] <;> simp <;> done)) (by (first | exact Nat.le_refl _ | exact Nat.le_succ _))) (by (repeat (first | with_reducible exact (Below.refl _ _) | with_reducible apply Below.drew | with_reducible refine balloc ?_ _))) LN1.out ?_; intro V1 n1 c1 w7 e1 ho1 hb7 hg1 hat1; rw [htl1.out] at e1; subst n1; have g0 := (hb7.cell hSl).trans x0; have hS7 := Nat.lt_of_lt_of_le hSl hb7.size; have OW1 := put ho1; have HB7 := put hb7; have HG1 := put hg1; have HAT1 := put hat1; clear ho1 hg1 hat1 hb7)
    refine hJJ.out _ _ trivial (fun hHeld => ?_)
    clear hJJ JJ
    try simp only [List.getElem_toArray, List.getElem_cons_succ, List.getElem_cons_zero, Act.put, List.setIfInBounds_toArray, List.set_cons_zero, List.set_cons_succ]
    refine wpAnyH_ready (rs := [11]) (by kernel_rfl) (by simp) ?_
    refine AllReadyH.cons rfl (fun JJ hJJ => ?_) AllReadyH.nil
    (refine pushS rfl _ _ rfl (.slice V1 q c1) (.slice (some ⟨_, 0, none⟩) 1 1) (l.take q) [s] (fun k => some k ≠ (Value.slice V1 q c1).ownBlock) rfl rfl (lit_sl (E := 9) (cs := [.string s]) (by first | (simp only [heap_alloc_get] <;> simp <;> done) | (refine Eq.trans (HG1.out.block _ ?_ (ne_lit (by simp))) ?_; rotate_left; (simp only [heap_alloc_get, heap_drew_get] <;> simp <;> done); (simp <;> omega))) rfl (by first | exact ne_fresh OW1.out | exact ne_grown HAT1.out (ne_lit (by simp)) (by simp <;> omega))) (fun k hk => hk) (OW1.out.below (by (repeat (first | with_reducible exact (Below.refl _ _) | with_reducible apply Below.drew | with_reducible refine balloc ?_ _)))) (by (repeat (first | with_reducible exact (Below.refl _ _) | with_reducible exact HB7.out | with_reducible apply Below.drew | with_reducible refine balloc ?_ _))) LN2.out ?_; intro V2 n2 c2 w8 e2 ho2 hb8 hg2 hat2; rw [htl2.out] at e2; subst n2; have h0 := (hb8.cell hSl).trans x0; have hS8 := Nat.lt_of_lt_of_le hSl hb8.size; have OW2 := put ho2; have HB8 := put hb8; clear ho2 hg2 hat2 hb8)
    refine hJJ.out _ _ trivial (fun hHeld => ?_)
    clear hJJ JJ
    try simp only [List.getElem_toArray, List.getElem_cons_succ, List.getElem_cons_zero, Act.put, List.setIfInBounds_toArray, List.set_cons_zero, List.set_cons_succ]
    refine wpAnyH_ready (rs := [18]) (by kernel_rfl) (by simp) ?_
    refine AllReadyH.cons rfl (fun JJ hJJ => ?_) AllReadyH.nil
    (refine pushS rfl _ _ rfl (.slice V2 (q + 1) c2) (.slice (if c = q then A else A.map (fun x => x.add (q))) (m - q) (c - q)) (l.take q ++ [s]) (l.drop q) (fun k => k < wk.heap.size) rfl rfl (ODD.out.below (by (repeat (first | with_reducible exact (Below.refl _ _) | with_reducible exact HB8.out | with_reducible apply Below.drew | with_reducible refine balloc ?_ _)))) (fun k hk => ne_own OW2.out hk) (OW2.out.below (by (repeat (first | with_reducible exact (Below.refl _ _) | with_reducible apply Below.drew | with_reducible refine balloc ?_ _)))) (by (repeat (first | with_reducible exact (Below.refl _ _) | with_reducible exact HB8.out | with_reducible apply Below.drew | with_reducible refine balloc ?_ _))) LN3.out ?_; intro V3 l3 c3' w9 e3 ho3 hb9 hg3 hat3; have z0 := (hb9.cell hSl).trans x0; have f0 := frz hb9 hSh; have OW3 := put ho3; have HB9 := put hb9; clear ho3 hg3 hat3 hb9 e3)
    refine hJJ.out _ _ trivial (fun hHeld => ?_)
    clear hJJ JJ
    refine wpAnyH_take (i := 19) (v := ?_) rfl (by kernel_rfl) (by kernel_rfl) (by kernel_rfl) (fun _ _ _ h => h) (Or.inl ⟨by kernel_rfl, ?_⟩) (by assumption) ?_
    rotate_left
    focus (intro w hSw; (try dsimp only at hSw); go_simp; (try with_reducible rfl); done)
    refine wpAnyH_take (i := 20) (v := ?_) rfl (by kernel_rfl) (by kernel_rfl) (by kernel_rfl) (fun _ _ _ h => h) (Or.inl ⟨by kernel_rfl, ?_⟩) (by assumption) ?_
    rotate_left
    focus (intro w hSw; (try dsimp only at hSw); go_simp; (try with_reducible rfl); done)
    try simp only [List.getElem_toArray, List.getElem_cons_succ, List.getElem_cons_zero, Act.put, List.setIfInBounds_toArray, List.set_cons_zero, List.set_cons_succ]
    refine wpAnyH_ready (rs := [21]) (by kernel_rfl) (by simp) ?_
    refine AllReadyH.cons rfl (fun JJ hJJ => ?_) AllReadyH.nil
    go_simp
    refine hJJ.out _ _ trivial (fun hHeld => ?_)
    clear hJJ JJ
    try simp only [List.getElem_toArray, List.getElem_cons_succ, List.getElem_cons_zero, Act.put, List.setIfInBounds_toArray, List.set_cons_zero, List.set_cons_succ]
    refine wpAnyH_done (by kernel_rfl) ?_ _
    refine NoPanic.normal ?_
    go_wp2_with fail
    all_goals (go_ret; exact .inr (.inr ⟨by omega, HBB.out.symm, FIN.out _ _ _ _ OW3.out HB9.out⟩))
end Go.Proofs.Ytcpahknlabnnbaa.T
