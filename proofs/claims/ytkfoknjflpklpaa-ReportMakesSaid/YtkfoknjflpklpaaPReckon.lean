/- tripwireref28.reckon. -/
import Derived.Test.YtkfoknjflpklpaaPAlike
import Derived.Test.YtkfoknjflpklpaaPPlusR
import Derived.Test.YtkfoknjflpklpaaPAhead
import Derived.Test.YtkfoknjflpklpaaPSpec
namespace Go.Proofs.Ytkfoknjflpklpaa.P
open Go Go.RowKit Go.Sort Go.Proofs.Ytkfoknjflpklpaa.Mem Go.Proofs.Ytkfoknjflpklpaa.Cmp Go.Proofs.Ytkfoknjflpklpaa.D

def VC (w : World) (X : Nat) (x : Val) : Prop := w.heap[X]? = some (.cells #[.int .i64 x.kind, .int .i64 x.n, .string x.s] 55 (0, 0))
theorem VC.set {w : World} {X : Nat} {x : Val} (h : VC w X x) (y : Val) : VC (((w.setCell ⟨X, 0, none⟩ (.int .i64 y.kind)).setCell ⟨X, 1, none⟩ (.int .i64 y.n)).setCell ⟨X, 2, none⟩ (.string y.s)) X y := v_stored h _ _ _
theorem set3_heap (w : World) (X k : Nat) (u0 u1 u2 : Value) (h : k ≠ X) : (((w.setCell ⟨X, 0, none⟩ u0).setCell ⟨X, 1, none⟩ u1).setCell ⟨X, 2, none⟩ u2).heap[k]? = w.heap[k]? := (Below.heap_setCell _ ⟨X, 2, none⟩ _ k h).trans ((Below.heap_setCell _ ⟨X, 1, none⟩ _ k h).trans (Below.heap_setCell _ ⟨X, 0, none⟩ _ k h))

set_option maxHeartbeats 16000000 in
set_option maxRecDepth 100000 in
theorem reckonCalls (ok okg : Nat → Prop) (v : Value) (A2 : Option Addr) (c2 : Nat) (rows : List (List Val)) (g : List Nat) (x : Smm) (w : World) (h : Sl tRow ok w v rows) (hg : Row (tInt .i64) okg w A2 (nats g)) (hgl : g.length ≤ 1000) (hgr : ∀ i ∈ g, i < rows.length) (hc : x.kind ≠ 1 → g ≠ [] → ∃ j : Nat, x.col = j ∧ ∀ r ∈ rows, j < r.length ∧ r.length ≤ 1000) (hin : ∀ r ∈ rows, ∀ y ∈ r, InR y.n) (h1 : 1 ≤ x.kind) (h5 : x.kind ≤ 5) :
    Calls Try.prog 74 #[v, .slice A2 g.length c2, .agg #[.int .i64 x.kind, .int .i64 x.col]] w fun e w' => e = .returned (.tuple #[.agg #[.int .i64 (sumR rows g x).1.kind, .int .i64 (sumR rows g x).1.n, .string (sumR rows g x).1.s], .int .i64 (sumR rows g x).2]) ∧ Below w.heap.size w w' := by
  obtain ⟨A, c, rfl, l1, l2, l3⟩ := h.shape
  have HS := put h
  have HG := put hg
  have HGR := put hgr
  have HC := put hc
  have HIN := put hin
  obtain ⟨m, hm⟩ : ∃ m, m = rows.length := ⟨_, rfl⟩
  obtain ⟨n, hn⟩ : ∃ n, n = g.length := ⟨_, rfl⟩
  rw [← hm] at l1 l3 ⊢
  rw [← hn] at hgl ⊢
  have HM := put hm
  have HN := put hn
  clear h hg hgr hc hin hm hn
  by_cases hk1 : x.kind = 1
  · have kz : (x.kind == 1) = true := by simp [hk1]
    have E : Kp (sumR rows g x = (numV n, 0)) := put (by unfold sumR; rw [if_pos hk1, HN.out])
    clear hk1 h1 h5
    go_enter Try.func74, Try.ntmps74
    go_wp2_with fail
    refine bodyPost_ret (v := .tuple #[.agg #[.int .i64 2, .int .i64 (n : Int), .string { data := #[] }], .int .i64 0]) (by simp [results, Try.results74, go_sem]) rfl ⟨by rw [E.out]; rfl, balloc (balloc (Below.refl _ _) _) _⟩
  · have kz : (x.kind == 1) = false := by simp [hk1]
    have HRS := put (refSum_eq rows g x (by omega) h5)
    have HC1 := put (HC.out hk1)
    obtain ⟨w3, hw3⟩ : ∃ w3, w3 = ((w.alloc (.cells #[.int .i64 x.kind, .int .i64 x.col] 145)).alloc (.cells #[.int .i64 0, .int .i64 0, .string { data := #[] }] 55)).alloc (.cells #[.int .i64 0, .int .i64 0, .string { data := #[] }] 55) := ⟨_, rfl⟩
    obtain ⟨X, hX⟩ : ∃ X, X = w.heap.size := ⟨_, rfl⟩
    obtain ⟨R, hR⟩ : ∃ R, R = w.heap.size + 1 := ⟨_, rfl⟩
    obtain ⟨B, hB⟩ : ∃ B, B = w.heap.size + 1 + 1 := ⟨_, rfl⟩
    have HX3 : Kp (w3.heap[X]? = some (.cells #[.int .i64 x.kind, .int .i64 x.col] 145 (0, 0))) := put (by rw [hw3, hX]; simp only [hag, alloc_size, Nat.add_assoc, Nat.reduceAdd]; repeat (first | rfl | rw [if_pos (by omega)] | rw [if_neg (by omega)]))
    have VR3 : Kp (VC w3 R nullV) := put (by unfold VC; rw [hw3, hR]; simp only [hag, alloc_size, Nat.add_assoc, Nat.reduceAdd]; repeat (first | rfl | rw [if_pos (by omega)] | rw [if_neg (by omega)]))
    have VB3 : Kp (VC w3 B nullV) := put (by unfold VC; rw [hw3, hB]; simp only [hag, alloc_size, Nat.add_assoc, Nat.reduceAdd]; repeat (first | rfl | rw [if_pos (by omega)] | rw [if_neg (by omega)]))
    have KB3 : Kp (Below w.heap.size w w3) := put (by rw [hw3]; exact balloc (balloc (balloc (Below.refl _ _) _) _) _)
    have HRB : Kp (R ≠ B) := put (by omega)
    have HXB : Kp (X ≠ B) := put (by omega)
    have HBW : Kp (w.heap.size ≤ B) := put (by omega)
    have HRW : Kp (w.heap.size ≤ R) := put (by omega)
    clear hk1
    go_enter Try.func74, Try.ntmps74
    go_wp2_with fail
    rw [← hw3, ← hB, ← hR, ← hX]
    clear hw3 hB hR hX kz
    go_loopg [8, 10] n (fun kx s8 s10 wr => ∃ (i p : Nat) (best : Val), s8 = .int .i64 p ∧ s10 = .int .i64 i ∧ i ≤ n ∧ n - i ≤ kx ∧ p ≤ i ∧ Kp (refSum x.kind p best ((g.map fun i => cell rows i x.col).drop i) = sumR rows g x) ∧ Kp (InR best.n) ∧ Kp (wr.heap[X]? = some (.cells #[.int .i64 x.kind, .int .i64 x.col] 145 (0, 0))) ∧ Kp (VC wr B best) ∧ Kp (VC wr R nullV) ∧ Kp (Below w.heap.size w wr))
    case atStart => exact ⟨0, 0, nullV, rfl, rfl, Nat.zero_le _, Nat.le_refl _, Nat.le_refl _, HRS, put ⟨by decide, by decide⟩, HX3, VB3, VR3, KB3⟩
    case round =>
      obtain ⟨i, p, best, rfl, rfl, hi, hkx, hp, HSM, HI, HX, VB, VR, KB⟩ := hrel
      by_cases hlt : i < n
      · have hlz : (i : Int) < (n : Int) := by omega
        have i0 : (0 : Int) ≤ (i : Int) := by omega
        obtain ⟨ad2, gi, rfl, hgi, g0⟩ := ints_get (Row.move HG.out (fun k _ hk => KB.out.block k hk)) i (by unfold nats; rw [List.length_map, ← HN.out]; exact hlt)
        obtain ⟨q, rfl, hq⟩ : ∃ q : Nat, gi = (q : Int) ∧ g[i]? = some q := by
          unfold nats at hgi
          rw [List.getElem?_map] at hgi
          obtain ⟨q, h1, h2⟩ := Option.map_eq_some_iff.1 hgi
          exact ⟨q, h2.symm, h1⟩
        have hqr : q < rows.length := HGR.out q (List.mem_of_getElem? hq)
        have hqz : (q : Int) < (m : Int) := by have := HM.out; omega
        have q0 : (0 : Int) ≤ (q : Int) := by omega
        obtain ⟨ad, r, A1, c1, rfl, hr, x0, hs⟩ := rows_get (HS.out.below KB.out).row.1 q hqr
        obtain ⟨col, hcol, hCC⟩ := HC1.out (fun e => by rw [e] at hq; simp at hq)
        have hcr := hCC r (List.mem_of_getElem? hr)
        obtain ⟨ad1, rfl, y0, y1, y2⟩ := vals_get hs.row.1 col hcr.1
        have hcz : (col : Int) < (r.length : Int) := by omega
        have cz0 : (0 : Int) ≤ (col : Int) := by omega
        obtain ⟨y, hy⟩ : ∃ y, y = r[col]'hcr.1 := ⟨_, rfl⟩
        rw [← hy] at y0 y1 y2
        have HD : Kp ((g.map fun i => cell rows i x.col).drop i = y :: (g.map fun i => cell rows i x.col).drop (i + 1)) := put (by
          have h1 : (g.map fun i => cell rows i x.col)[i]? = some y := by
            rw [List.getElem?_map, hq, Option.map_some, hcol, cell_eq hr (show r[col]? = some y by rw [hy]; exact List.getElem?_eq_getElem _)]
          obtain ⟨h2, h3⟩ := List.getElem?_eq_some_iff.1 h1
          rw [List.drop_eq_getElem_cons h2, h3])
        have HYI : Kp (InR y.n) := put (HIN.out r (List.mem_of_getElem? hr) y (by rw [hy]; exact List.getElem_mem _))
        have HS2 : Kp (sumR rows g x = refSum x.kind p best (y :: (g.map fun i => cell rows i x.col).drop (i + 1))) := put (by rw [← HSM.out, HD.out])
        obtain ⟨_, k1⟩ := k_cells HX.out
        rw [hcol] at k1
        have G0 := put g0
        have X0 := put x0
        have K1 := put k1
        have YA := put y0
        have YB := put y1
        have YC := put y2
        have hi1 : (i : Int) ≤ 1000 := by omega
        have hp1 : (p : Int) ≤ 1000 := by omega
        clear hy hgi hq hqr hr hs hcol hcr hCC g0 x0 k1 y0 y1 y2 HSM HD
        go_wp2_with fail
        refine wp_region_noPanic ?_
        refine wp_region_held_drew (S := (fun w' => G wr w')) (by kernel_rfl) (G.refl _).drew (fun hHeld => ?_)
        refine wpAnyH_take (i := 0) (v := ?_) rfl (by kernel_rfl) (by kernel_rfl) (by kernel_rfl) (fun _ _ _ h => h) (Or.inl ⟨by kernel_rfl, ?_⟩) (by assumption) ?_
        rotate_left
        focus (intro w hSw; (try dsimp only at hSw); go_simp; (try with_reducible rfl); done)
        try simp only [List.getElem_toArray, List.getElem_cons_zero, Act.put, List.setIfInBounds_toArray, List.set_cons_zero, List.set_cons_succ]
        refine wpAnyH_take (i := 1) (v := ?_) rfl (by kernel_rfl) (by kernel_rfl) (by kernel_rfl) (fun _ _ _ h => h) (Or.inl ⟨by kernel_rfl, ?_⟩) (by assumption) ?_
        rotate_left
        focus (intro w hSw; (try dsimp only at hSw); go_simp; (try with_reducible rfl); done)
        try simp only [List.getElem_toArray, List.getElem_cons_succ, List.getElem_cons_zero, Act.put, List.setIfInBounds_toArray, List.set_cons_zero, List.set_cons_succ]
        refine wpAnyH_take (i := 2) (v := ?_) rfl (by kernel_rfl) (by kernel_rfl) (by kernel_rfl) (fun _ _ _ h => h) (Or.inl ⟨by kernel_rfl, ?_⟩) (by assumption) ?_
        rotate_left
        focus (intro w hSw; (try dsimp only at hSw); go_simp; (try with_reducible rfl); done)
        try simp only [List.getElem_toArray, List.getElem_cons_succ, List.getElem_cons_zero, Act.put, List.setIfInBounds_toArray, List.set_cons_zero, List.set_cons_succ]
        refine wpAnyH_take (i := 3) (v := ?_) rfl (by kernel_rfl) (by kernel_rfl) (by kernel_rfl) (fun _ _ _ h => h) (Or.inl ⟨by kernel_rfl, ?_⟩) (by assumption) ?_
        rotate_left
        focus (intro w hSw; (try dsimp only at hSw); go_simp; (try with_reducible rfl); done)
        try simp only [List.getElem_toArray, List.getElem_cons_succ, List.getElem_cons_zero, Act.put, List.setIfInBounds_toArray, List.set_cons_zero, List.set_cons_succ]
        refine wpAnyH_take (i := 4) (v := ?_) rfl (by kernel_rfl) (by kernel_rfl) (by kernel_rfl) (fun _ _ _ h => h) (Or.inl ⟨by kernel_rfl, ?_⟩) (by assumption) ?_
        rotate_left
        focus (intro w hSw; (try dsimp only at hSw); have g0 := G.cellOf hSw G0.out; have x0 := G.cellOf hSw X0.out; have k1 := G.cellOf hSw K1.out; have y0 := G.cellOf hSw YA.out; have y1 := G.cellOf hSw YB.out; have y2 := G.cellOf hSw YC.out; go_simp; (try with_reducible rfl); done)
        try simp only [List.getElem_toArray, List.getElem_cons_succ, List.getElem_cons_zero, Act.put, List.setIfInBounds_toArray, List.set_cons_zero, List.set_cons_succ]
        refine wpAnyH_take (i := 5) (v := ?_) rfl (by kernel_rfl) (by kernel_rfl) (by kernel_rfl) (fun _ _ _ h => h) (Or.inl ⟨by kernel_rfl, ?_⟩) (by assumption) ?_
        rotate_left
        focus (intro w hSw; (try dsimp only at hSw); go_simp; (try with_reducible rfl); done)
        try simp only [List.getElem_toArray, List.getElem_cons_succ, List.getElem_cons_zero, Act.put, List.setIfInBounds_toArray, List.set_cons_zero, List.set_cons_succ]
        refine wpAnyH_take (i := 6) (v := ?_) rfl (by kernel_rfl) (by kernel_rfl) (by kernel_rfl) (fun _ _ _ h => h) (Or.inl ⟨by kernel_rfl, ?_⟩) (by assumption) ?_
        rotate_left
        focus (intro w hSw; (try dsimp only at hSw); have g0 := G.cellOf hSw G0.out; have x0 := G.cellOf hSw X0.out; have k1 := G.cellOf hSw K1.out; have y0 := G.cellOf hSw YA.out; have y1 := G.cellOf hSw YB.out; have y2 := G.cellOf hSw YC.out; go_simp; (try with_reducible rfl); done)
        try simp only [List.getElem_toArray, List.getElem_cons_succ, List.getElem_cons_zero, Act.put, List.setIfInBounds_toArray, List.set_cons_zero, List.set_cons_succ]
        refine wpAnyH_take (i := 7) (v := ?_) rfl (by kernel_rfl) (by kernel_rfl) (by kernel_rfl) (fun _ _ _ h => h) (Or.inl ⟨by kernel_rfl, ?_⟩) (by assumption) ?_
        rotate_left
        focus (intro w hSw; (try dsimp only at hSw); go_simp; (try with_reducible rfl); done)
        try simp only [List.getElem_toArray, List.getElem_cons_succ, List.getElem_cons_zero, Act.put, List.setIfInBounds_toArray, List.set_cons_zero, List.set_cons_succ]
        refine wpAnyH_take (i := 8) (v := ?_) rfl (by kernel_rfl) (by kernel_rfl) (by kernel_rfl) (fun _ _ _ h => h) (Or.inl ⟨by kernel_rfl, ?_⟩) (by assumption) ?_
        rotate_left
        focus (intro w hSw; (try dsimp only at hSw); have g0 := G.cellOf hSw G0.out; have x0 := G.cellOf hSw X0.out; have k1 := G.cellOf hSw K1.out; have y0 := G.cellOf hSw YA.out; have y1 := G.cellOf hSw YB.out; have y2 := G.cellOf hSw YC.out; go_simp; (try with_reducible rfl); done)
        try simp only [List.getElem_toArray, List.getElem_cons_succ, List.getElem_cons_zero, Act.put, List.setIfInBounds_toArray, List.set_cons_zero, List.set_cons_succ]
        refine wpAnyH_take (i := 9) (v := ?_) rfl (by kernel_rfl) (by kernel_rfl) (by kernel_rfl) (fun _ _ _ h => h) (Or.inl ⟨by kernel_rfl, ?_⟩) (by assumption) ?_
        rotate_left
        focus (intro w hSw; (try dsimp only at hSw); go_simp; (try with_reducible rfl); done)
        try simp only [List.getElem_toArray, List.getElem_cons_succ, List.getElem_cons_zero, Act.put, List.setIfInBounds_toArray, List.set_cons_zero, List.set_cons_succ]
        refine wpAnyH_take (i := 10) (v := ?_) rfl (by kernel_rfl) (by kernel_rfl) (by kernel_rfl) (fun _ _ _ h => h) (Or.inl ⟨by kernel_rfl, ?_⟩) (by assumption) ?_
        rotate_left
        focus (intro w hSw; (try dsimp only at hSw); have g0 := G.cellOf hSw G0.out; have x0 := G.cellOf hSw X0.out; have k1 := G.cellOf hSw K1.out; have y0 := G.cellOf hSw YA.out; have y1 := G.cellOf hSw YB.out; have y2 := G.cellOf hSw YC.out; go_simp; (try with_reducible rfl); done)
        try simp only [List.getElem_toArray, List.getElem_cons_succ, List.getElem_cons_zero, Act.put, List.setIfInBounds_toArray, List.set_cons_zero, List.set_cons_succ]
        refine wpAnyH_ready (rs := [11]) (by kernel_rfl) (by simp) ?_
        refine AllReadyH.cons rfl (fun JJ hJJ => ?_) AllReadyH.nil
        go_simp
        refine hJJ.out _ _ ?_ (fun hHeld2 => ?_)
        · exact G.alloc hHeld _
        clear hJJ JJ hHeld
        have hHeld := hHeld2
        clear hHeld2
        try simp only [List.getElem_toArray, List.getElem_cons_succ, List.getElem_cons_zero, Act.put, List.setIfInBounds_toArray, List.set_cons_zero, List.set_cons_succ]
        refine wpAnyH_ready (rs := [12]) (by kernel_rfl) (by simp) ?_
        refine AllReadyH.cons rfl (fun JJ hJJ => ?_) AllReadyH.nil
        go_simp
        refine hJJ.out _ _ ?_ (fun hHeld2 => ?_)
        · exact G.alloc (G.refl _).drew _
        clear hJJ JJ hHeld
        have hHeld := hHeld2
        clear hHeld2
        try simp only [List.getElem_toArray, List.getElem_cons_succ, List.getElem_cons_zero, Act.put, List.setIfInBounds_toArray, List.set_cons_zero, List.set_cons_succ]
        refine wpAnyH_done (by kernel_rfl) ?_ _
        refine NoPanic.normal ?_
        clear hHeld
        obtain ⟨w8, hw8⟩ : ∃ w8, w8 = (wr.alloc (.cells #[.int .i64 y.kind, .int .i64 y.n, .string y.s] 55)).drew := ⟨_, rfl⟩
        have hb8 : Below wr.heap.size wr w8 := by rw [hw8]; exact (balloc (Below.refl _ _) _).drew
        have HX8 := put ((hb8.block X (Array.getElem?_eq_some_iff.1 HX.out).1).trans HX.out)
        have VB8 : Kp (VC w8 B best) := put ((hb8.block B (Array.getElem?_eq_some_iff.1 VB.out).1).trans VB.out)
        have VR8 : Kp (VC w8 R nullV) := put ((hb8.block R (Array.getElem?_eq_some_iff.1 VR.out).1).trans VR.out)
        have KB8 := put (KB.out.trans (hb8.mono KB.out.size))
        have V11 : Kp (VC w8 wr.heap.size y) := put (by unfold VC; rw [hw8]; exact heap_alloc_new wr _)
        have HTB : Kp (wr.heap.size ≠ B) := put (fun e => by have := (Array.getElem?_eq_some_iff.1 VB.out).1; omega)
        rw [← hw8]
        obtain ⟨T, hT⟩ : ∃ T, T = wr.heap.size := ⟨_, rfl⟩
        rw [← hT] at V11 HTB ⊢
        obtain ⟨c0, c1', c2'⟩ := v_cells V11.out
        obtain ⟨k0, k1⟩ := k_cells HX8.out
        obtain ⟨b0, b1, b2⟩ := v_cells VB8.out
        clear hw8 hT hb8
        by_cases hy0 : y.kind = 0
        · have yz : (y.kind == 0) = true := by simp [hy0]
          have HS3 : Kp (refSum x.kind p best ((g.map fun i => cell rows i x.col).drop (i + 1)) = sumR rows g x) := put (by rw [HS2.out, refSum, if_pos hy0])
          clear hy0
          go_wp2_with fail
          go_roundg (n - (i + 1))
          case measure => omega
          case rel => exact ⟨i + 1, p, best, rfl, by go_num, by omega, Nat.le_refl _, by omega, HS3, HI, HX8, VB8, VR8, KB8⟩
        · have yz : (y.kind == 0) = false := by simp [hy0]
          by_cases hk3 : x.kind = 3
          · have k3z : (x.kind == 3) = true := by simp [hk3]
            have HSA : Kp (sumR rows g x = if (plus (if p = 0 then zeroOf y else best) y).2 = 0 then refSum x.kind (p + 1) (plus (if p = 0 then zeroOf y else best) y).1 ((g.map fun i => cell rows i x.col).drop (i + 1)) else (nullV, (plus (if p = 0 then zeroOf y else best) y).2)) := put (by rw [HS2.out, refSum, if_neg hy0, if_pos hk3])
            clear hy0 hk3
            by_cases hp0 : p = 0
            · have pz : ((p : Int) + 1 == 1) = true := by simp [hp0]
              rw [if_pos hp0] at HSA
              clear hp0
              by_cases hy3 : y.kind = 3
              · have y3z : (y.kind == 3) = true := by simp [hy3]
                have HS0 : Kp (sumR rows g x = if (plus ⟨3, 0, ⟨#[]⟩⟩ y).2 = 0 then refSum x.kind (p + 1) (plus ⟨3, 0, ⟨#[]⟩⟩ y).1 ((g.map fun i => cell rows i x.col).drop (i + 1)) else (nullV, (plus ⟨3, 0, ⟨#[]⟩⟩ y).2)) := put (by have h9 := HSA.out; rwa [show zeroOf y = ⟨3, 0, ⟨#[]⟩⟩ by unfold zeroOf; rw [if_pos hy3]] at h9)
                clear hy3
                obtain ⟨f0, f1, f2⟩ := v_fr VB8.out
                have VS1 : VC (((w8.setCell ⟨B, 0, none⟩ (.int .i64 2)).setCell ⟨B, 1, none⟩ (.int .i64 0)).setCell ⟨B, 2, none⟩ (.string { data := #[] })) B (⟨2, 0, ⟨#[]⟩⟩ : Val) := VC.set VB8.out (⟨2, 0, ⟨#[]⟩⟩ : Val)
                have VT1 : VC (((w8.setCell ⟨B, 0, none⟩ (.int .i64 2)).setCell ⟨B, 1, none⟩ (.int .i64 0)).setCell ⟨B, 2, none⟩ (.string { data := #[] })) T y := (set3_heap _ _ _ _ _ _ HTB.out).trans V11.out
                have VR1 : VC (((w8.setCell ⟨B, 0, none⟩ (.int .i64 2)).setCell ⟨B, 1, none⟩ (.int .i64 0)).setCell ⟨B, 2, none⟩ (.string { data := #[] })) R nullV := (set3_heap _ _ _ _ _ _ HRB.out).trans VR8.out
                have HX1 : (((w8.setCell ⟨B, 0, none⟩ (.int .i64 2)).setCell ⟨B, 1, none⟩ (.int .i64 0)).setCell ⟨B, 2, none⟩ (.string { data := #[] })).heap[X]? = some (.cells #[.int .i64 x.kind, .int .i64 x.col] 145 (0, 0)) := (set3_heap _ _ _ _ _ _ HXB.out).trans HX8.out
                have KB1 : Below w.heap.size w (((w8.setCell ⟨B, 0, none⟩ (.int .i64 2)).setCell ⟨B, 1, none⟩ (.int .i64 0)).setCell ⟨B, 2, none⟩ (.string { data := #[] })) := below_set (below_set (below_set KB8.out HBW.out) HBW.out) HBW.out
                obtain ⟨d0, d1, d2⟩ := v_cells VS1
                obtain ⟨e0, e1, e2⟩ := v_cells VT1
                dsimp only at d0 d1 d2
                have VS2 : VC ((((((w8.setCell ⟨B, 0, none⟩ (.int .i64 2)).setCell ⟨B, 1, none⟩ (.int .i64 0)).setCell ⟨B, 2, none⟩ (.string { data := #[] })).setCell ⟨B, 0, none⟩ (.int .i64 3)).setCell ⟨B, 1, none⟩ (.int .i64 0)).setCell ⟨B, 2, none⟩ (.string { data := #[] })) B (⟨3, 0, ⟨#[]⟩⟩ : Val) := VC.set VS1 (⟨3, 0, ⟨#[]⟩⟩ : Val)
                have VT2 : VC ((((((w8.setCell ⟨B, 0, none⟩ (.int .i64 2)).setCell ⟨B, 1, none⟩ (.int .i64 0)).setCell ⟨B, 2, none⟩ (.string { data := #[] })).setCell ⟨B, 0, none⟩ (.int .i64 3)).setCell ⟨B, 1, none⟩ (.int .i64 0)).setCell ⟨B, 2, none⟩ (.string { data := #[] })) T y := (set3_heap _ _ _ _ _ _ HTB.out).trans VT1
                have VR2 : VC ((((((w8.setCell ⟨B, 0, none⟩ (.int .i64 2)).setCell ⟨B, 1, none⟩ (.int .i64 0)).setCell ⟨B, 2, none⟩ (.string { data := #[] })).setCell ⟨B, 0, none⟩ (.int .i64 3)).setCell ⟨B, 1, none⟩ (.int .i64 0)).setCell ⟨B, 2, none⟩ (.string { data := #[] })) R nullV := (set3_heap _ _ _ _ _ _ HRB.out).trans VR1
                have HX2 : ((((((w8.setCell ⟨B, 0, none⟩ (.int .i64 2)).setCell ⟨B, 1, none⟩ (.int .i64 0)).setCell ⟨B, 2, none⟩ (.string { data := #[] })).setCell ⟨B, 0, none⟩ (.int .i64 3)).setCell ⟨B, 1, none⟩ (.int .i64 0)).setCell ⟨B, 2, none⟩ (.string { data := #[] })).heap[X]? = some (.cells #[.int .i64 x.kind, .int .i64 x.col] 145 (0, 0)) := (set3_heap _ _ _ _ _ _ HXB.out).trans HX1
                have KB2 : Below w.heap.size w ((((((w8.setCell ⟨B, 0, none⟩ (.int .i64 2)).setCell ⟨B, 1, none⟩ (.int .i64 0)).setCell ⟨B, 2, none⟩ (.string { data := #[] })).setCell ⟨B, 0, none⟩ (.int .i64 3)).setCell ⟨B, 1, none⟩ (.int .i64 0)).setCell ⟨B, 2, none⟩ (.string { data := #[] })) := below_set (below_set (below_set KB1 HBW.out) HBW.out) HBW.out
                obtain ⟨d0', d1', d2'⟩ := v_cells VS2
                obtain ⟨e0', e1', e2'⟩ := v_cells VT2
                dsimp only at d0' d1' d2'
                have HXb : Kp (((((((w8.setCell ⟨B, 0, none⟩ (.int .i64 2)).setCell ⟨B, 1, none⟩ (.int .i64 0)).setCell ⟨B, 2, none⟩ (.string { data := #[] })).setCell ⟨B, 0, none⟩ (.int .i64 3)).setCell ⟨B, 1, none⟩ (.int .i64 0)).setCell ⟨B, 2, none⟩ (.string { data := #[] })).heap[X]? = some (.cells #[.int .i64 x.kind, .int .i64 x.col] 145 (0, 0))) := put HX2
                have VBb : Kp (VC ((((((w8.setCell ⟨B, 0, none⟩ (.int .i64 2)).setCell ⟨B, 1, none⟩ (.int .i64 0)).setCell ⟨B, 2, none⟩ (.string { data := #[] })).setCell ⟨B, 0, none⟩ (.int .i64 3)).setCell ⟨B, 1, none⟩ (.int .i64 0)).setCell ⟨B, 2, none⟩ (.string { data := #[] })) B (⟨3, 0, ⟨#[]⟩⟩ : Val)) := put VS2
                have VRb : Kp (VC ((((((w8.setCell ⟨B, 0, none⟩ (.int .i64 2)).setCell ⟨B, 1, none⟩ (.int .i64 0)).setCell ⟨B, 2, none⟩ (.string { data := #[] })).setCell ⟨B, 0, none⟩ (.int .i64 3)).setCell ⟨B, 1, none⟩ (.int .i64 0)).setCell ⟨B, 2, none⟩ (.string { data := #[] })) R nullV) := put VR2
                have KBb : Kp (Below w.heap.size w ((((((w8.setCell ⟨B, 0, none⟩ (.int .i64 2)).setCell ⟨B, 1, none⟩ (.int .i64 0)).setCell ⟨B, 2, none⟩ (.string { data := #[] })).setCell ⟨B, 0, none⟩ (.int .i64 3)).setCell ⟨B, 1, none⟩ (.int .i64 0)).setCell ⟨B, 2, none⟩ (.string { data := #[] }))) := put KB2
                have HI0 : Kp (InR ((⟨3, 0, ⟨#[]⟩⟩ : Val)).n) := put ⟨by decide, by decide⟩
                clear VS1 VT1 VR1 HX1 KB1 VS2 VT2 VR2 HX2 KB2
                go_wp2_with fail
                refine (refPlusCalls (⟨3, 0, ⟨#[]⟩⟩ : Val) y HI0.out HYI.out _).mono ?_
                rintro e w9 ⟨rfl, hb9⟩
                obtain ⟨pv, hpv⟩ : ∃ pv, pv = plus (⟨3, 0, ⟨#[]⟩⟩ : Val) y := ⟨_, rfl⟩
                rw [← hpv]
                have HPI : Kp (InR pv.1.n) := put (by rw [hpv]; exact plus_in (⟨3, 0, ⟨#[]⟩⟩ : Val) y)
                have HSP : Kp (sumR rows g x = if pv.2 = 0 then refSum x.kind (p + 1) pv.1 ((g.map fun i => cell rows i x.col).drop (i + 1)) else (nullV, pv.2)) := put (by rw [HS0.out, hpv])
                have hX9 := (hb9.block X (Array.getElem?_eq_some_iff.1 HXb.out).1).trans HXb.out
                have hB9 := (hb9.block B (Array.getElem?_eq_some_iff.1 VBb.out).1).trans VBb.out
                have hR9 := (hb9.block R (Array.getElem?_eq_some_iff.1 VRb.out).1).trans VRb.out
                have KB9 := KBb.out.trans (hb9.mono KBb.out.size)
                obtain ⟨wq, hwq⟩ : ∃ wq, wq = w9.alloc (.cells #[.int .i64 pv.1.kind, .int .i64 pv.1.n, .string pv.1.s] 55) := ⟨_, rfl⟩
                have hbq : Below w9.heap.size w9 wq := by rw [hwq]; exact balloc (Below.refl _ _) _
                have HXq := put ((hbq.block X (Array.getElem?_eq_some_iff.1 hX9).1).trans hX9)
                have VBq : Kp (VC wq B (⟨3, 0, ⟨#[]⟩⟩ : Val)) := put ((hbq.block B (Array.getElem?_eq_some_iff.1 hB9).1).trans hB9)
                have VRq : Kp (VC wq R nullV) := put ((hbq.block R (Array.getElem?_eq_some_iff.1 hR9).1).trans hR9)
                have KBq : Kp (Below w.heap.size w wq) := put (by rw [hwq]; exact balloc KB9 _)
                have VT : Kp (VC wq w9.heap.size pv.1) := put (by rw [hwq]; exact heap_alloc_new _ _)
                have HTN : Kp (w9.heap.size ≠ B) := put (fun e => by have := (Array.getElem?_eq_some_iff.1 hB9).1; omega)
                have HPV := put hpv
                clear hpv hb9 hX9 hB9 hR9 KB9 hbq
                by_cases he : pv.2 = 0
                · have ez : (pv.2 != 0) = false := by simp [he]
                  have HS1 : Kp (refSum x.kind (p + 1) pv.1 ((g.map fun i => cell rows i x.col).drop (i + 1)) = sumR rows g x) := put (by rw [HSP.out, if_pos he])
                  obtain ⟨f0, f1, f2⟩ := v_fr VBq.out
                  obtain ⟨t0, t1, t2⟩ := v_cells VT.out
                  obtain ⟨q0', q1', q2'⟩ := v_cells VBq.out
                  have VBs : Kp (VC (((wq.setCell ⟨B, 0, none⟩ (.int .i64 pv.1.kind)).setCell ⟨B, 1, none⟩ (.int .i64 pv.1.n)).setCell ⟨B, 2, none⟩ (.string pv.1.s)) B pv.1) := put (VC.set VBq.out pv.1)
                  have VRs : Kp (VC (((wq.setCell ⟨B, 0, none⟩ (.int .i64 pv.1.kind)).setCell ⟨B, 1, none⟩ (.int .i64 pv.1.n)).setCell ⟨B, 2, none⟩ (.string pv.1.s)) R nullV) := put ((set3_heap _ _ _ _ _ _ HRB.out).trans VRq.out)
                  have HXs : Kp ((((wq.setCell ⟨B, 0, none⟩ (.int .i64 pv.1.kind)).setCell ⟨B, 1, none⟩ (.int .i64 pv.1.n)).setCell ⟨B, 2, none⟩ (.string pv.1.s)).heap[X]? = some (.cells #[.int .i64 x.kind, .int .i64 x.col] 145 (0, 0))) := put ((set3_heap _ _ _ _ _ _ HXB.out).trans HXq.out)
                  have KBs : Kp (Below w.heap.size w (((wq.setCell ⟨B, 0, none⟩ (.int .i64 pv.1.kind)).setCell ⟨B, 1, none⟩ (.int .i64 pv.1.n)).setCell ⟨B, 2, none⟩ (.string pv.1.s))) := put (below_set (below_set (below_set KBq.out HBW.out) HBW.out) HBW.out)
                  rw [hwq] at VBs VRs HXs KBs f0 f1 f2 t0 t1 t2 q0' q1' q2'
                  clear he hwq
                  go_wp2_with fail
                  go_roundg (n - (i + 1))
                  case measure => omega
                  case rel => exact ⟨i + 1, p + 1, pv.1, by go_num, by go_num, by omega, Nat.le_refl _, by omega, HS1, HPI, HXs, VBs, VRs, KBs⟩
                · have ez : (pv.2 != 0) = true := by simp [he]
                  have HS1 : Kp (sumR rows g x = (nullV, pv.2)) := put (by rw [HSP.out, if_neg he])
                  obtain ⟨f0, f1, f2⟩ := v_fr VRq.out
                  obtain ⟨q0', q1', q2'⟩ := v_cells VRq.out
                  obtain ⟨s0, s1, s2⟩ := v_cells (VC.set VRq.out nullV)
                  have KBs : Kp (Below w.heap.size w (((wq.setCell ⟨R, 0, none⟩ (.int .i64 nullV.kind)).setCell ⟨R, 1, none⟩ (.int .i64 nullV.n)).setCell ⟨R, 2, none⟩ (.string nullV.s))) := put (below_set (below_set (below_set KBq.out HRW.out) HRW.out) HRW.out)
                  rw [hwq] at KBs f0 f1 f2 s0 s1 s2 q0' q1' q2'
                  clear he hwq
                  have sn : nullV = ⟨0, 0, ⟨#[]⟩⟩ := rfl
                  rw [sn] at s0 s1 s2 KBs q0' q1' q2'
                  dsimp only at s0 s1 s2 KBs q0' q1' q2'
                  go_wp2_with fail
                  refine bodyPost_ret (v := .tuple #[.agg #[.int .i64 0, .int .i64 0, .string { data := #[] }], .int .i64 pv.2]) (by simp [results, Try.results74, go_sem, s0, s1, s2]) rfl ⟨by rw [HS1.out]; try rfl, KBs.out⟩
              · have y3z : (y.kind == 3) = false := by simp [hy3]
                have HS0 : Kp (sumR rows g x = if (plus ⟨2, 0, ⟨#[]⟩⟩ y).2 = 0 then refSum x.kind (p + 1) (plus ⟨2, 0, ⟨#[]⟩⟩ y).1 ((g.map fun i => cell rows i x.col).drop (i + 1)) else (nullV, (plus ⟨2, 0, ⟨#[]⟩⟩ y).2)) := put (by have h9 := HSA.out; rwa [show zeroOf y = ⟨2, 0, ⟨#[]⟩⟩ by unfold zeroOf; rw [if_neg hy3]] at h9)
                clear hy3
                obtain ⟨f0, f1, f2⟩ := v_fr VB8.out
                have VS1 : VC (((w8.setCell ⟨B, 0, none⟩ (.int .i64 2)).setCell ⟨B, 1, none⟩ (.int .i64 0)).setCell ⟨B, 2, none⟩ (.string { data := #[] })) B (⟨2, 0, ⟨#[]⟩⟩ : Val) := VC.set VB8.out (⟨2, 0, ⟨#[]⟩⟩ : Val)
                have VT1 : VC (((w8.setCell ⟨B, 0, none⟩ (.int .i64 2)).setCell ⟨B, 1, none⟩ (.int .i64 0)).setCell ⟨B, 2, none⟩ (.string { data := #[] })) T y := (set3_heap _ _ _ _ _ _ HTB.out).trans V11.out
                have VR1 : VC (((w8.setCell ⟨B, 0, none⟩ (.int .i64 2)).setCell ⟨B, 1, none⟩ (.int .i64 0)).setCell ⟨B, 2, none⟩ (.string { data := #[] })) R nullV := (set3_heap _ _ _ _ _ _ HRB.out).trans VR8.out
                have HX1 : (((w8.setCell ⟨B, 0, none⟩ (.int .i64 2)).setCell ⟨B, 1, none⟩ (.int .i64 0)).setCell ⟨B, 2, none⟩ (.string { data := #[] })).heap[X]? = some (.cells #[.int .i64 x.kind, .int .i64 x.col] 145 (0, 0)) := (set3_heap _ _ _ _ _ _ HXB.out).trans HX8.out
                have KB1 : Below w.heap.size w (((w8.setCell ⟨B, 0, none⟩ (.int .i64 2)).setCell ⟨B, 1, none⟩ (.int .i64 0)).setCell ⟨B, 2, none⟩ (.string { data := #[] })) := below_set (below_set (below_set KB8.out HBW.out) HBW.out) HBW.out
                obtain ⟨d0, d1, d2⟩ := v_cells VS1
                obtain ⟨e0, e1, e2⟩ := v_cells VT1
                dsimp only at d0 d1 d2
                have HXb : Kp ((((w8.setCell ⟨B, 0, none⟩ (.int .i64 2)).setCell ⟨B, 1, none⟩ (.int .i64 0)).setCell ⟨B, 2, none⟩ (.string { data := #[] })).heap[X]? = some (.cells #[.int .i64 x.kind, .int .i64 x.col] 145 (0, 0))) := put HX1
                have VBb : Kp (VC (((w8.setCell ⟨B, 0, none⟩ (.int .i64 2)).setCell ⟨B, 1, none⟩ (.int .i64 0)).setCell ⟨B, 2, none⟩ (.string { data := #[] })) B (⟨2, 0, ⟨#[]⟩⟩ : Val)) := put VS1
                have VRb : Kp (VC (((w8.setCell ⟨B, 0, none⟩ (.int .i64 2)).setCell ⟨B, 1, none⟩ (.int .i64 0)).setCell ⟨B, 2, none⟩ (.string { data := #[] })) R nullV) := put VR1
                have KBb : Kp (Below w.heap.size w (((w8.setCell ⟨B, 0, none⟩ (.int .i64 2)).setCell ⟨B, 1, none⟩ (.int .i64 0)).setCell ⟨B, 2, none⟩ (.string { data := #[] }))) := put KB1
                have HI0 : Kp (InR ((⟨2, 0, ⟨#[]⟩⟩ : Val)).n) := put ⟨by decide, by decide⟩
                clear VS1 VT1 VR1 HX1 KB1
                go_wp2_with fail
                refine (refPlusCalls (⟨2, 0, ⟨#[]⟩⟩ : Val) y HI0.out HYI.out _).mono ?_
                rintro e w9 ⟨rfl, hb9⟩
                obtain ⟨pv, hpv⟩ : ∃ pv, pv = plus (⟨2, 0, ⟨#[]⟩⟩ : Val) y := ⟨_, rfl⟩
                rw [← hpv]
                have HPI : Kp (InR pv.1.n) := put (by rw [hpv]; exact plus_in (⟨2, 0, ⟨#[]⟩⟩ : Val) y)
                have HSP : Kp (sumR rows g x = if pv.2 = 0 then refSum x.kind (p + 1) pv.1 ((g.map fun i => cell rows i x.col).drop (i + 1)) else (nullV, pv.2)) := put (by rw [HS0.out, hpv])
                have hX9 := (hb9.block X (Array.getElem?_eq_some_iff.1 HXb.out).1).trans HXb.out
                have hB9 := (hb9.block B (Array.getElem?_eq_some_iff.1 VBb.out).1).trans VBb.out
                have hR9 := (hb9.block R (Array.getElem?_eq_some_iff.1 VRb.out).1).trans VRb.out
                have KB9 := KBb.out.trans (hb9.mono KBb.out.size)
                obtain ⟨wq, hwq⟩ : ∃ wq, wq = w9.alloc (.cells #[.int .i64 pv.1.kind, .int .i64 pv.1.n, .string pv.1.s] 55) := ⟨_, rfl⟩
                have hbq : Below w9.heap.size w9 wq := by rw [hwq]; exact balloc (Below.refl _ _) _
                have HXq := put ((hbq.block X (Array.getElem?_eq_some_iff.1 hX9).1).trans hX9)
                have VBq : Kp (VC wq B (⟨2, 0, ⟨#[]⟩⟩ : Val)) := put ((hbq.block B (Array.getElem?_eq_some_iff.1 hB9).1).trans hB9)
                have VRq : Kp (VC wq R nullV) := put ((hbq.block R (Array.getElem?_eq_some_iff.1 hR9).1).trans hR9)
                have KBq : Kp (Below w.heap.size w wq) := put (by rw [hwq]; exact balloc KB9 _)
                have VT : Kp (VC wq w9.heap.size pv.1) := put (by rw [hwq]; exact heap_alloc_new _ _)
                have HTN : Kp (w9.heap.size ≠ B) := put (fun e => by have := (Array.getElem?_eq_some_iff.1 hB9).1; omega)
                have HPV := put hpv
                clear hpv hb9 hX9 hB9 hR9 KB9 hbq
                by_cases he : pv.2 = 0
                · have ez : (pv.2 != 0) = false := by simp [he]
                  have HS1 : Kp (refSum x.kind (p + 1) pv.1 ((g.map fun i => cell rows i x.col).drop (i + 1)) = sumR rows g x) := put (by rw [HSP.out, if_pos he])
                  obtain ⟨f0, f1, f2⟩ := v_fr VBq.out
                  obtain ⟨t0, t1, t2⟩ := v_cells VT.out
                  obtain ⟨q0', q1', q2'⟩ := v_cells VBq.out
                  have VBs : Kp (VC (((wq.setCell ⟨B, 0, none⟩ (.int .i64 pv.1.kind)).setCell ⟨B, 1, none⟩ (.int .i64 pv.1.n)).setCell ⟨B, 2, none⟩ (.string pv.1.s)) B pv.1) := put (VC.set VBq.out pv.1)
                  have VRs : Kp (VC (((wq.setCell ⟨B, 0, none⟩ (.int .i64 pv.1.kind)).setCell ⟨B, 1, none⟩ (.int .i64 pv.1.n)).setCell ⟨B, 2, none⟩ (.string pv.1.s)) R nullV) := put ((set3_heap _ _ _ _ _ _ HRB.out).trans VRq.out)
                  have HXs : Kp ((((wq.setCell ⟨B, 0, none⟩ (.int .i64 pv.1.kind)).setCell ⟨B, 1, none⟩ (.int .i64 pv.1.n)).setCell ⟨B, 2, none⟩ (.string pv.1.s)).heap[X]? = some (.cells #[.int .i64 x.kind, .int .i64 x.col] 145 (0, 0))) := put ((set3_heap _ _ _ _ _ _ HXB.out).trans HXq.out)
                  have KBs : Kp (Below w.heap.size w (((wq.setCell ⟨B, 0, none⟩ (.int .i64 pv.1.kind)).setCell ⟨B, 1, none⟩ (.int .i64 pv.1.n)).setCell ⟨B, 2, none⟩ (.string pv.1.s))) := put (below_set (below_set (below_set KBq.out HBW.out) HBW.out) HBW.out)
                  rw [hwq] at VBs VRs HXs KBs f0 f1 f2 t0 t1 t2 q0' q1' q2'
                  clear he hwq
                  go_wp2_with fail
                  go_roundg (n - (i + 1))
                  case measure => omega
                  case rel => exact ⟨i + 1, p + 1, pv.1, by go_num, by go_num, by omega, Nat.le_refl _, by omega, HS1, HPI, HXs, VBs, VRs, KBs⟩
                · have ez : (pv.2 != 0) = true := by simp [he]
                  have HS1 : Kp (sumR rows g x = (nullV, pv.2)) := put (by rw [HSP.out, if_neg he])
                  obtain ⟨f0, f1, f2⟩ := v_fr VRq.out
                  obtain ⟨q0', q1', q2'⟩ := v_cells VRq.out
                  obtain ⟨s0, s1, s2⟩ := v_cells (VC.set VRq.out nullV)
                  have KBs : Kp (Below w.heap.size w (((wq.setCell ⟨R, 0, none⟩ (.int .i64 nullV.kind)).setCell ⟨R, 1, none⟩ (.int .i64 nullV.n)).setCell ⟨R, 2, none⟩ (.string nullV.s))) := put (below_set (below_set (below_set KBq.out HRW.out) HRW.out) HRW.out)
                  rw [hwq] at KBs f0 f1 f2 s0 s1 s2 q0' q1' q2'
                  clear he hwq
                  have sn : nullV = ⟨0, 0, ⟨#[]⟩⟩ := rfl
                  rw [sn] at s0 s1 s2 KBs q0' q1' q2'
                  dsimp only at s0 s1 s2 KBs q0' q1' q2'
                  go_wp2_with fail
                  refine bodyPost_ret (v := .tuple #[.agg #[.int .i64 0, .int .i64 0, .string { data := #[] }], .int .i64 pv.2]) (by simp [results, Try.results74, go_sem, s0, s1, s2]) rfl ⟨by rw [HS1.out]; try rfl, KBs.out⟩
            · have pz : ((p : Int) + 1 == 1) = false := by simp; omega
              rw [if_neg hp0] at HSA
              clear hp0
              have HS0 := HSA
              have HXb : Kp (w8.heap[X]? = some (.cells #[.int .i64 x.kind, .int .i64 x.col] 145 (0, 0))) := put HX8.out
              have VBb : Kp (VC w8 B best) := put VB8.out
              have VRb : Kp (VC w8 R nullV) := put VR8.out
              have KBb : Kp (Below w.heap.size w w8) := put KB8.out
              have HI0 := HI
              go_wp2_with fail
              refine (refPlusCalls best y HI0.out HYI.out _).mono ?_
              rintro e w9 ⟨rfl, hb9⟩
              obtain ⟨pv, hpv⟩ : ∃ pv, pv = plus best y := ⟨_, rfl⟩
              rw [← hpv]
              have HPI : Kp (InR pv.1.n) := put (by rw [hpv]; exact plus_in best y)
              have HSP : Kp (sumR rows g x = if pv.2 = 0 then refSum x.kind (p + 1) pv.1 ((g.map fun i => cell rows i x.col).drop (i + 1)) else (nullV, pv.2)) := put (by rw [HS0.out, hpv])
              have hX9 := (hb9.block X (Array.getElem?_eq_some_iff.1 HXb.out).1).trans HXb.out
              have hB9 := (hb9.block B (Array.getElem?_eq_some_iff.1 VBb.out).1).trans VBb.out
              have hR9 := (hb9.block R (Array.getElem?_eq_some_iff.1 VRb.out).1).trans VRb.out
              have KB9 := KBb.out.trans (hb9.mono KBb.out.size)
              obtain ⟨wq, hwq⟩ : ∃ wq, wq = w9.alloc (.cells #[.int .i64 pv.1.kind, .int .i64 pv.1.n, .string pv.1.s] 55) := ⟨_, rfl⟩
              have hbq : Below w9.heap.size w9 wq := by rw [hwq]; exact balloc (Below.refl _ _) _
              have HXq := put ((hbq.block X (Array.getElem?_eq_some_iff.1 hX9).1).trans hX9)
              have VBq : Kp (VC wq B best) := put ((hbq.block B (Array.getElem?_eq_some_iff.1 hB9).1).trans hB9)
              have VRq : Kp (VC wq R nullV) := put ((hbq.block R (Array.getElem?_eq_some_iff.1 hR9).1).trans hR9)
              have KBq : Kp (Below w.heap.size w wq) := put (by rw [hwq]; exact balloc KB9 _)
              have VT : Kp (VC wq w9.heap.size pv.1) := put (by rw [hwq]; exact heap_alloc_new _ _)
              have HTN : Kp (w9.heap.size ≠ B) := put (fun e => by have := (Array.getElem?_eq_some_iff.1 hB9).1; omega)
              have HPV := put hpv
              clear hpv hb9 hX9 hB9 hR9 KB9 hbq
              by_cases he : pv.2 = 0
              · have ez : (pv.2 != 0) = false := by simp [he]
                have HS1 : Kp (refSum x.kind (p + 1) pv.1 ((g.map fun i => cell rows i x.col).drop (i + 1)) = sumR rows g x) := put (by rw [HSP.out, if_pos he])
                obtain ⟨f0, f1, f2⟩ := v_fr VBq.out
                obtain ⟨t0, t1, t2⟩ := v_cells VT.out
                obtain ⟨q0', q1', q2'⟩ := v_cells VBq.out
                have VBs : Kp (VC (((wq.setCell ⟨B, 0, none⟩ (.int .i64 pv.1.kind)).setCell ⟨B, 1, none⟩ (.int .i64 pv.1.n)).setCell ⟨B, 2, none⟩ (.string pv.1.s)) B pv.1) := put (VC.set VBq.out pv.1)
                have VRs : Kp (VC (((wq.setCell ⟨B, 0, none⟩ (.int .i64 pv.1.kind)).setCell ⟨B, 1, none⟩ (.int .i64 pv.1.n)).setCell ⟨B, 2, none⟩ (.string pv.1.s)) R nullV) := put ((set3_heap _ _ _ _ _ _ HRB.out).trans VRq.out)
                have HXs : Kp ((((wq.setCell ⟨B, 0, none⟩ (.int .i64 pv.1.kind)).setCell ⟨B, 1, none⟩ (.int .i64 pv.1.n)).setCell ⟨B, 2, none⟩ (.string pv.1.s)).heap[X]? = some (.cells #[.int .i64 x.kind, .int .i64 x.col] 145 (0, 0))) := put ((set3_heap _ _ _ _ _ _ HXB.out).trans HXq.out)
                have KBs : Kp (Below w.heap.size w (((wq.setCell ⟨B, 0, none⟩ (.int .i64 pv.1.kind)).setCell ⟨B, 1, none⟩ (.int .i64 pv.1.n)).setCell ⟨B, 2, none⟩ (.string pv.1.s))) := put (below_set (below_set (below_set KBq.out HBW.out) HBW.out) HBW.out)
                rw [hwq] at VBs VRs HXs KBs f0 f1 f2 t0 t1 t2 q0' q1' q2'
                clear he hwq
                go_wp2_with fail
                go_roundg (n - (i + 1))
                case measure => omega
                case rel => exact ⟨i + 1, p + 1, pv.1, by go_num, by go_num, by omega, Nat.le_refl _, by omega, HS1, HPI, HXs, VBs, VRs, KBs⟩
              · have ez : (pv.2 != 0) = true := by simp [he]
                have HS1 : Kp (sumR rows g x = (nullV, pv.2)) := put (by rw [HSP.out, if_neg he])
                obtain ⟨f0, f1, f2⟩ := v_fr VRq.out
                obtain ⟨q0', q1', q2'⟩ := v_cells VRq.out
                obtain ⟨s0, s1, s2⟩ := v_cells (VC.set VRq.out nullV)
                have KBs : Kp (Below w.heap.size w (((wq.setCell ⟨R, 0, none⟩ (.int .i64 nullV.kind)).setCell ⟨R, 1, none⟩ (.int .i64 nullV.n)).setCell ⟨R, 2, none⟩ (.string nullV.s))) := put (below_set (below_set (below_set KBq.out HRW.out) HRW.out) HRW.out)
                rw [hwq] at KBs f0 f1 f2 s0 s1 s2 q0' q1' q2'
                clear he hwq
                have sn : nullV = ⟨0, 0, ⟨#[]⟩⟩ := rfl
                rw [sn] at s0 s1 s2 KBs q0' q1' q2'
                dsimp only at s0 s1 s2 KBs q0' q1' q2'
                go_wp2_with fail
                refine bodyPost_ret (v := .tuple #[.agg #[.int .i64 0, .int .i64 0, .string { data := #[] }], .int .i64 pv.2]) (by simp [results, Try.results74, go_sem, s0, s1, s2]) rfl ⟨by rw [HS1.out]; try rfl, KBs.out⟩
          · have k3z : (x.kind == 3) = false := by simp [hk3]
            have HSA : Kp (sumR rows g x = if p = 0 ∨ (x.kind = 4 ∧ ord y best < 0) ∨ (x.kind = 5 ∧ 0 < ord y best) then refSum x.kind (p + 1) y ((g.map fun i => cell rows i x.col).drop (i + 1)) else refSum x.kind (p + 1) best ((g.map fun i => cell rows i x.col).drop (i + 1))) := put (by rw [HS2.out, refSum, if_neg hy0, if_neg hk3])
            clear hy0 hk3
            go_wp2_with fail
            refine (refOrdG y best _).mono ?_
            rintro e w9 ⟨rfl, hg9⟩
            have hX9 := G.heap hg9 HX8.out
            have VB9 : Kp (VC w9 B best) := put (G.heap hg9 VB8.out)
            have VR9 : Kp (VC w9 R nullV) := put (G.heap hg9 VR8.out)
            have V119 : Kp (VC w9 T y) := put (G.heap hg9 V11.out)
            have KB9 := put (KB8.out.trans (hg9.below.mono KB8.out.size))
            have HX9 := put hX9
            obtain ⟨o, ho⟩ : ∃ o, o = ord y best := ⟨_, rfl⟩
            rw [← ho] at HSA ⊢
            clear c0 c1' c2' k0 k1 b0 b1 b2 hg9 hX9 ho
            obtain ⟨c0, c1', c2'⟩ := v_cells V119.out
            obtain ⟨k0, k1⟩ := k_cells HX9.out
            by_cases hp0 : p = 0
            · have pz : ((p : Int) + 1 == 1) = true := by simp [hp0]
              have HS3 : Kp (refSum x.kind (p + 1) y ((g.map fun i => cell rows i x.col).drop (i + 1)) = sumR rows g x) := put (by rw [HSA.out, if_pos (Or.inl hp0)])
              clear hp0
              obtain ⟨f0, f1, f2⟩ := v_fr VB9.out
              obtain ⟨q0', q1', q2'⟩ := v_cells VB9.out
              have VBs : Kp (VC (((w9.setCell ⟨B, 0, none⟩ (.int .i64 y.kind)).setCell ⟨B, 1, none⟩ (.int .i64 y.n)).setCell ⟨B, 2, none⟩ (.string y.s)) B y) := put (VC.set VB9.out y)
              have VRs : Kp (VC (((w9.setCell ⟨B, 0, none⟩ (.int .i64 y.kind)).setCell ⟨B, 1, none⟩ (.int .i64 y.n)).setCell ⟨B, 2, none⟩ (.string y.s)) R nullV) := put ((set3_heap _ _ _ _ _ _ HRB.out).trans VR9.out)
              have HXs : Kp ((((w9.setCell ⟨B, 0, none⟩ (.int .i64 y.kind)).setCell ⟨B, 1, none⟩ (.int .i64 y.n)).setCell ⟨B, 2, none⟩ (.string y.s)).heap[X]? = some (.cells #[.int .i64 x.kind, .int .i64 x.col] 145 (0, 0))) := put ((set3_heap _ _ _ _ _ _ HXB.out).trans HX9.out)
              have KBs : Kp (Below w.heap.size w (((w9.setCell ⟨B, 0, none⟩ (.int .i64 y.kind)).setCell ⟨B, 1, none⟩ (.int .i64 y.n)).setCell ⟨B, 2, none⟩ (.string y.s))) := put (below_set (below_set (below_set KB9.out HBW.out) HBW.out) HBW.out)
              go_wp2_with fail
              go_roundg (n - (i + 1))
              case measure => omega
              case rel => exact ⟨i + 1, p + 1, y, by go_num, by go_num, by omega, Nat.le_refl _, by omega, HS3, HYI, HXs, VBs, VRs, KBs⟩
            · have pz : ((p : Int) + 1 == 1) = false := by simp; omega
              by_cases h4 : x.kind = 4
              · have k4z : (x.kind == 4) = true := by simp [h4]
                have k5z : (x.kind == 5) = false := by simp [h4]
                by_cases hoz : o < 0
                · have HS3 : Kp (refSum x.kind (p + 1) y ((g.map fun i => cell rows i x.col).drop (i + 1)) = sumR rows g x) := put (by rw [HSA.out, if_pos (Or.inr (Or.inl ⟨h4, hoz⟩))])
                  clear hp0 h4
                  obtain ⟨f0, f1, f2⟩ := v_fr VB9.out
                  obtain ⟨q0', q1', q2'⟩ := v_cells VB9.out
                  have VBs : Kp (VC (((w9.setCell ⟨B, 0, none⟩ (.int .i64 y.kind)).setCell ⟨B, 1, none⟩ (.int .i64 y.n)).setCell ⟨B, 2, none⟩ (.string y.s)) B y) := put (VC.set VB9.out y)
                  have VRs : Kp (VC (((w9.setCell ⟨B, 0, none⟩ (.int .i64 y.kind)).setCell ⟨B, 1, none⟩ (.int .i64 y.n)).setCell ⟨B, 2, none⟩ (.string y.s)) R nullV) := put ((set3_heap _ _ _ _ _ _ HRB.out).trans VR9.out)
                  have HXs : Kp ((((w9.setCell ⟨B, 0, none⟩ (.int .i64 y.kind)).setCell ⟨B, 1, none⟩ (.int .i64 y.n)).setCell ⟨B, 2, none⟩ (.string y.s)).heap[X]? = some (.cells #[.int .i64 x.kind, .int .i64 x.col] 145 (0, 0))) := put ((set3_heap _ _ _ _ _ _ HXB.out).trans HX9.out)
                  have KBs : Kp (Below w.heap.size w (((w9.setCell ⟨B, 0, none⟩ (.int .i64 y.kind)).setCell ⟨B, 1, none⟩ (.int .i64 y.n)).setCell ⟨B, 2, none⟩ (.string y.s))) := put (below_set (below_set (below_set KB9.out HBW.out) HBW.out) HBW.out)
                  go_wp2_with fail
                  go_roundg (n - (i + 1))
                  case measure => omega
                  case rel => exact ⟨i + 1, p + 1, y, by go_num, by go_num, by omega, Nat.le_refl _, by omega, HS3, HYI, HXs, VBs, VRs, KBs⟩
                · have HS3 : Kp (refSum x.kind (p + 1) best ((g.map fun i => cell rows i x.col).drop (i + 1)) = sumR rows g x) := put (by rw [HSA.out, if_neg (by rintro (h | ⟨_, h⟩ | ⟨h, _⟩); exact hp0 h; exact hoz h; omega)])
                  clear hp0 h4
                  go_wp2_with fail
                  go_roundg (n - (i + 1))
                  case measure => omega
                  case rel => exact ⟨i + 1, p + 1, best, by go_num, by go_num, by omega, Nat.le_refl _, by omega, HS3, HI, HX9, VB9, VR9, KB9⟩
              · have k4z : (x.kind == 4) = false := by simp [h4]
                by_cases h5' : x.kind = 5
                · have k5z : (x.kind == 5) = true := by simp [h5']
                  by_cases hoz : 0 < o
                  · have hoz2 : o > 0 := hoz
                    have HS3 : Kp (refSum x.kind (p + 1) y ((g.map fun i => cell rows i x.col).drop (i + 1)) = sumR rows g x) := put (by rw [HSA.out, if_pos (Or.inr (Or.inr ⟨h5', hoz⟩))])
                    clear hp0 h4 h5'
                    obtain ⟨f0, f1, f2⟩ := v_fr VB9.out
                    obtain ⟨q0', q1', q2'⟩ := v_cells VB9.out
                    have VBs : Kp (VC (((w9.setCell ⟨B, 0, none⟩ (.int .i64 y.kind)).setCell ⟨B, 1, none⟩ (.int .i64 y.n)).setCell ⟨B, 2, none⟩ (.string y.s)) B y) := put (VC.set VB9.out y)
                    have VRs : Kp (VC (((w9.setCell ⟨B, 0, none⟩ (.int .i64 y.kind)).setCell ⟨B, 1, none⟩ (.int .i64 y.n)).setCell ⟨B, 2, none⟩ (.string y.s)) R nullV) := put ((set3_heap _ _ _ _ _ _ HRB.out).trans VR9.out)
                    have HXs : Kp ((((w9.setCell ⟨B, 0, none⟩ (.int .i64 y.kind)).setCell ⟨B, 1, none⟩ (.int .i64 y.n)).setCell ⟨B, 2, none⟩ (.string y.s)).heap[X]? = some (.cells #[.int .i64 x.kind, .int .i64 x.col] 145 (0, 0))) := put ((set3_heap _ _ _ _ _ _ HXB.out).trans HX9.out)
                    have KBs : Kp (Below w.heap.size w (((w9.setCell ⟨B, 0, none⟩ (.int .i64 y.kind)).setCell ⟨B, 1, none⟩ (.int .i64 y.n)).setCell ⟨B, 2, none⟩ (.string y.s))) := put (below_set (below_set (below_set KB9.out HBW.out) HBW.out) HBW.out)
                    go_wp2_with fail
                    go_roundg (n - (i + 1))
                    case measure => omega
                    case rel => exact ⟨i + 1, p + 1, y, by go_num, by go_num, by omega, Nat.le_refl _, by omega, HS3, HYI, HXs, VBs, VRs, KBs⟩
                  · have hoz2 : ¬ o > 0 := hoz
                    have HS3 : Kp (refSum x.kind (p + 1) best ((g.map fun i => cell rows i x.col).drop (i + 1)) = sumR rows g x) := put (by rw [HSA.out, if_neg (by rintro (h | ⟨h, _⟩ | ⟨_, h⟩); exact hp0 h; exact h4 h; exact hoz h)])
                    clear hp0 h4 h5'
                    go_wp2_with fail
                    go_roundg (n - (i + 1))
                    case measure => omega
                    case rel => exact ⟨i + 1, p + 1, best, by go_num, by go_num, by omega, Nat.le_refl _, by omega, HS3, HI, HX9, VB9, VR9, KB9⟩
                · have k5z : (x.kind == 5) = false := by simp [h5']
                  have HS3 : Kp (refSum x.kind (p + 1) best ((g.map fun i => cell rows i x.col).drop (i + 1)) = sumR rows g x) := put (by rw [HSA.out, if_neg (by rintro (h | ⟨h, _⟩ | ⟨h, _⟩); exact hp0 h; exact h4 h; exact h5' h)])
                  clear hp0 h4 h5'
                  go_wp2_with fail
                  go_roundg (n - (i + 1))
                  case measure => omega
                  case rel => exact ⟨i + 1, p + 1, best, by go_num, by go_num, by omega, Nat.le_refl _, by omega, HS3, HI, HX9, VB9, VR9, KB9⟩
      · have hlz : ¬ (i : Int) < (n : Int) := by omega
        obtain rfl : i = n := by omega
        have HE : Kp (sumR rows g x = (if x.kind = 2 then numV p else best, 0)) := put (by rw [← HSM.out, List.drop_eq_nil_of_le (by rw [List.length_map, HN.out]; exact Nat.le_refl _), refSum])
        obtain ⟨k0, k1⟩ := k_cells HX.out
        obtain ⟨f0, f1, f2⟩ := v_fr VR.out
        obtain ⟨r0, r1, r2⟩ := v_cells VR.out
        by_cases h2 : x.kind = 2
        · have k2z : (x.kind == 2) = true := by simp [h2]
          have HE2 : Kp (sumR rows g x = (numV p, 0)) := put (by rw [HE.out, if_pos h2])
          obtain ⟨s0, s1, s2⟩ := v_cells (VC.set VR.out (numV p))
          dsimp only [numV] at s0 s1 s2
          clear h2
          go_wp2_with fail
          refine bodyPost_ret (v := .tuple #[.agg #[.int .i64 2, .int .i64 (p : Int), .string { data := #[] }], .int .i64 0]) (by simp [results, Try.results74, go_sem, s0, s1, s2]) rfl ⟨by rw [HE2.out]; try rfl, below_set (below_set (below_set KB.out HRW.out) HRW.out) HRW.out⟩
        · have k2z : (x.kind == 2) = false := by simp [h2]
          have HE2 : Kp (sumR rows g x = (best, 0)) := put (by rw [HE.out, if_neg h2])
          obtain ⟨b0, b1, b2⟩ := v_cells VB.out
          obtain ⟨s0, s1, s2⟩ := v_cells (VC.set VR.out best)
          clear h2
          go_wp2_with fail
          refine bodyPost_ret (v := .tuple #[.agg #[.int .i64 best.kind, .int .i64 best.n, .string best.s], .int .i64 0]) (by simp [results, Try.results74, go_sem, s0, s1, s2]) rfl ⟨by rw [HE2.out]; try rfl, below_set (below_set (below_set KB.out HRW.out) HRW.out) HRW.out⟩
end Go.Proofs.Ytkfoknjflpklpaa.P
