/- Of a group: what is known, the least, the greatest. -/
import Derived.Test.YtkfoknjflpklpaaPCheck
namespace Go.Proofs.Ytkfoknjflpklpaa.P
open Go Go.RowKit Go.Sort Go.Proofs.Ytkfoknjflpklpaa.Mem Go.Proofs.Ytkfoknjflpklpaa.Cmp Go.Proofs.Ytkfoknjflpklpaa.D

theorem G.cellOf {w w' : World} {a : Addr} {v : Value} (h : G w w') (hc : w.cell? a = some v) : w'.cell? a = some v := (h.below.cell (World.block_lt_of_cell? w a hc)).trans hc
/-- A group's numbers. -/
def nats (g : List Nat) : List Int := g.map Int.ofNat
theorem cell_eq {rows : List (List Val)} {i j : Nat} {r : List Val} {x : Val} (h : rows[i]? = some r) (h2 : r[j]? = some x) : cell rows i (j : Int) = x := by
  obtain ⟨hj, e⟩ := List.getElem?_eq_some_iff.1 h2
  unfold cell atV
  rw [List.getD_eq_getElem?_getD, h]
  simp only [Option.getD_some]
  rw [if_pos ⟨by omega, by omega⟩, Int.toNat_natCast, List.getD_eq_getElem?_getD, h2]
  rfl

set_option maxHeartbeats 8000000 in
set_option maxRecDepth 100000 in
theorem knownCalls (ok okg : Nat → Prop) (v : Value) (A2 : Option Addr) (c2 : Nat) (rows : List (List Val)) (g : List Nat) (col : Int) (w : World) (h : Sl tRow ok w v rows) (hg : Row (tInt .i64) okg w A2 (nats g)) (hgl : g.length ≤ 1000) (hgr : ∀ i ∈ g, i < rows.length) (hc : g ≠ [] → ∃ j : Nat, col = j ∧ ∀ r ∈ rows, j < r.length ∧ r.length ≤ 1000) :
    Calls Try.prog 125 #[v, .slice A2 g.length c2, .int .i64 col] w fun e w' => ∃ vo, e = .returned vo ∧ Own tVal 55 (fun _ => False) w' w.heap.size vo (knownR rows g col) ∧ Below w.heap.size w w' := by
  obtain ⟨A, c, rfl, l1, l2, l3⟩ := h.shape
  have HS := put h
  have HG := put hg
  have HGR := put hgr
  have HC := put hc
  obtain ⟨m, hm⟩ : ∃ m, m = rows.length := ⟨_, rfl⟩
  obtain ⟨n, hn⟩ : ∃ n, n = g.length := ⟨_, rfl⟩
  rw [← hm] at l1 l3 ⊢
  rw [← hn] at hgl ⊢
  have HM := put hm
  have HN := put hn
  clear h hg hgr hc hm hn
  go_enter Try.func125, Try.ntmps125
  go_wp2_with fail
  go_loopg [7, 13] n (fun kx s7 s13 wr => ∃ (i : Nat) (A8 : Option Addr) (p8 c8 : Nat), s7 = .slice A8 p8 c8 ∧ s13 = .int .i64 i ∧ i ≤ n ∧ n - i ≤ kx ∧ Kp (p8 = (knownR rows (g.take i) col).length) ∧ Kp (Own tVal 55 (fun _ => False) wr w.heap.size (.slice A8 p8 c8) (knownR rows (g.take i) col)) ∧ Kp (Below w.heap.size w wr))
  case atStart => exact ⟨0, none, 0, 0, rfl, rfl, Nat.zero_le _, Nat.le_refl _, put rfl, put (Own.nil _ _ _ _ _), put (Below.refl _ _)⟩
  case round =>
    obtain ⟨i, A8, p8, c8, rfl, rfl, hi, hkx, HP8, KO, KB⟩ := hrel
    by_cases hlt : i < n
    · have hlz : (i : Int) < (n : Int) := by omega
      have i0 : (0 : Int) ≤ (i : Int) := by omega
      obtain ⟨ad2, gi, rfl, hgi, g0⟩ := ints_get (Row.move HG.out (fun k _ hk => KB.out.block k hk)) i (by unfold nats; rw [List.length_map, ← HN.out]; exact hlt)
      obtain ⟨q, rfl, hq⟩ : ∃ q : Nat, gi = (q : Int) ∧ g[i]? = some q := by
        unfold nats at hgi
        rw [List.getElem?_map] at hgi
        obtain ⟨q, h1, h2⟩ := Option.map_eq_some_iff.1 hgi
        exact ⟨q, h2.symm, h1⟩
      have hqr : q < rows.length := HGR.out q (List.mem_of_getElem? hq)
      have hqz : (q : Int) < (m : Int) := by have := HM.out; omega
      have q0 : (0 : Int) ≤ (q : Int) := by omega
      obtain ⟨ad, r, A1, c1, rfl, hr, x0, hs⟩ := rows_get (HS.out.below KB.out).row.1 q hqr
      obtain ⟨col, rfl, hCC⟩ := HC.out (fun e => by rw [e] at hq; simp at hq)
      have hcr := hCC r (List.mem_of_getElem? hr)
      obtain ⟨ad1, rfl, y0, y1, y2⟩ := vals_get hs.row.1 col hcr.1
      have hcz : (col : Int) < (r.length : Int) := by omega
      have cz0 : (0 : Int) ≤ (col : Int) := by omega
      obtain ⟨x, hx⟩ : ∃ x, x = r[col]'hcr.1 := ⟨_, rfl⟩
      rw [← hx] at y0 y1 y2
      have HCE : Kp (cell rows q col = x) := put (cell_eq hr (by rw [hx]; exact List.getElem?_eq_getElem _))
      have HQ := put hq
      clear hx hgi hq hqr hr hs hcr hCC
      have hkl : Kp ((knownR rows (g.take i) col).length ≤ 1000) := put (by
        unfold knownR
        refine Nat.le_trans (List.length_filter_le _ _) ?_
        rw [List.length_map, List.length_take]; omega)
      by_cases hk : x.kind = 0
      · have kz : (x.kind != 0) = false := by simp [hk]
        have HE : Kp (knownR rows (g.take (i + 1)) col = knownR rows (g.take i) col) := put (by
          unfold knownR
          rw [take_one HQ.out, List.map_append, List.filter_append]
          simp [HCE.out, hk])
        clear hk
        go_wp2_with fail
        go_roundg (n - (i + 1))
        case measure => omega
        case rel => exact ⟨i + 1, A8, p8, c8, rfl, by go_num, by omega, Nat.le_refl _, put (by rw [HE.out]; exact HP8.out), put (by rw [HE.out]; exact (KO.out.below (balloc (Below.refl _ _) _))), put (KB.out.trans ((balloc (Below.refl _ _) _).mono KB.out.size))⟩
      · have kz : (x.kind != 0) = true := by simp [hk]
        have HE : Kp (knownR rows (g.take (i + 1)) col = knownR rows (g.take i) col ++ [x]) := put (by
          unfold knownR
          rw [take_one HQ.out, List.map_append, List.filter_append]
          simp [HCE.out, hk])
        clear hk
        have HBK : Kp (Below wr.heap.size wr (wr.alloc (.cells #[.int .i64 x.kind, .int .i64 x.n, .string x.s] 55))) := put (balloc (Below.refl _ _) _)
        have HOW := put (KO.out.below HBK.out)
        rw [HP8.out] at HOW ⊢
        go_wp2_with (at_builtin; refine wpList_push (W := wr.alloc (.cells #[.int .i64 x.kind, .int .i64 x.n, .string x.s] 55)) tVal w.heap.size rfl _ _ 30 55 _ 32 rfl Try.underlying30 infoVal rfl (by decide) (by decide) (.slice A8 (knownR rows (g.take i) col).length c8) (knownR rows (g.take i) col) x [.int .i64 x.kind, .int .i64 x.n, .string x.s] (fun _ => False) rfl (by simp; rfl) rfl HOW.out (Nat.le_trans KB.out.size HBK.out.size) (by have := hkl.out; omega) ?_; intro v1 w7 hown hg hat; obtain ⟨A9, c9, e9, _, _⟩ := hown.form; subst e9; have hb7 : Below w.heap.size w w7 := (KB.out.trans (HBK.out.mono KB.out.size)).grown hg (Nat.le_trans KB.out.size HBK.out.size) (fun k hk => (HOW.out.lt k hk).1); have HB7 := put hb7; have HOWN := put hown; clear hown hg hat hb7)
        go_roundg (n - (i + 1))
        case measure => omega
        case rel => exact ⟨i + 1, A9, _, c9, rfl, by go_num, by omega, Nat.le_refl _, put (by rw [HE.out, List.length_append]; rfl), put (by have h := HOWN.out; rw [List.length_append] at h; rw [HE.out]; exact h), HB7⟩
    · have hlz : ¬ (i : Int) < (n : Int) := by omega
      obtain rfl : n = i := by omega
      have ho := KO.out
      rw [List.take_of_length_le (by rw [HN.out]; exact Nat.le_refl _)] at ho
      have HO := put ho
      clear ho
      go_wp2_with fail
      go_ret
      exact ⟨_, rfl, HO.out, KB.out⟩

theorem v_stored {w : World} {X : Nat} {a0 a1 a2 : Value} {t : TypeId} (h : w.heap[X]? = some (.cells #[a0, a1, a2] t (0, 0))) (u0 u1 u2 : Value) : (((w.setCell ⟨X, 0, none⟩ u0).setCell ⟨X, 1, none⟩ u1).setCell ⟨X, 2, none⟩ u2).heap[X]? = some (.cells #[u0, u1, u2] t (0, 0)) := by
  simp [World.setCell, Array.getElem?_modify, h]

set_option maxHeartbeats 8000000 in
set_option maxRecDepth 100000 in
theorem minCalls (ok : Nat → Prop) (A : Option Addr) (c : Nat) (v : Val) (l : List Val) (w : World) (h : Row tVal ok w A (v :: l)) (hl : l.length ≤ 1000) :
    Calls Try.prog 126 #[.slice A (v :: l).length c, .func (.func 107) #[] #[]] w fun e w' => e = .returned (.agg #[.int .i64 (minF v l).kind, .int .i64 (minF v l).n, .string (minF v l).s]) ∧ Below w.heap.size w w' := by
  have HX := put h
  have HL := put hl
  obtain ⟨ad, rfl, x0, x1, x2⟩ := vals_get h 0 (by simp)
  simp only [List.getElem_cons_zero, Nat.zero_mul, add_zero] at x0 x1 x2
  obtain ⟨n, hn⟩ : ∃ n, n = (v :: l).length := ⟨_, rfl⟩
  have hn1 : n = l.length + 1 := by rw [hn]; simp
  rw [← hn]
  have HN := put hn1
  have hnp : ¬ (n : Int) < 1 := by omega
  have hnq : (0 : Int) < (n : Int) := by omega
  have hn9 : n ≤ 1001 := by omega
  have y0 : ∀ o, (w.alloc o).cell? ad = some (.int .i64 v.kind) := fun o => (World.cell?_alloc_some _ _ _ (by rw [x0]; rfl)).trans x0
  have y1 : ∀ o, (w.alloc o).cell? ⟨ad.block, ad.off + 1, none⟩ = some (.int .i64 v.n) := fun o => (World.cell?_alloc_some _ _ _ (by rw [x1]; rfl)).trans x1
  have y2 : ∀ o, (w.alloc o).cell? ⟨ad.block, ad.off + 2, none⟩ = some (.string v.s) := fun o => (World.cell?_alloc_some _ _ _ (by rw [x2]; rfl)).trans x2
  clear h hl hn hn1
  have eo : ∀ args w, (callFunc 107 args).run Try.prog w = .ok (.enter 107 args) w := fun args w => by rfl
  go_enter Try.func126, Try.ntmps126
  go_wp2_with fail
  obtain ⟨w2, hw2⟩ : ∃ w2, w2 = (w.alloc (.cells #[.int .i64 0, .int .i64 0, .string { data := #[] }] 55)).alloc (.cells #[.int .i64 v.kind, .int .i64 v.n, .string v.s] 55) := ⟨_, rfl⟩
  have hK : w2.heap[w.heap.size + 1]? = some (.cells #[.int .i64 v.kind, .int .i64 v.n, .string v.s] 55 (0, 0)) := by rw [hw2, hag, if_pos (by simp)]
  have hR : w2.heap[w.heap.size]? = some (.cells #[.int .i64 0, .int .i64 0, .string { data := #[] }] 55 (0, 0)) := by rw [hw2, hag, if_neg (by simp), hag, if_pos rfl]
  have hb2 : Below w.heap.size w w2 := by rw [hw2]; exact balloc (balloc (Below.refl _ _) _) _
  rw [← hw2]
  clear hw2 x0 x1 x2 y0 y1 y2
  obtain ⟨R, hRe⟩ : ∃ R, R = w.heap.size := ⟨_, rfl⟩
  rw [← hRe] at hR hK ⊢
  obtain ⟨K, hKe⟩ : ∃ K, K = R + 1 := ⟨_, rfl⟩
  rw [← hKe] at hK ⊢
  have HKB : Kp (w.heap.size ≤ K) := put (by omega)
  have HRB : Kp (w.heap.size ≤ R) := put (by omega)
  have hKR : K ≠ R := by omega
  have HK0 := put hK
  have HR0 := put hR
  have HB2 := put hb2
  have hRK : R ≠ K := hKR.symm
  have HRK := put hRK
  clear hK hb2 hRe hKe hR
  go_loopg [6] n (fun kx s6 wr => ∃ (i : Nat), s6 = .int .i64 i ∧ 1 ≤ i ∧ i ≤ n ∧ n - i ≤ kx ∧ Kp (wr.heap[K]? = some (.cells #[.int .i64 (minF v (l.take (i - 1))).kind, .int .i64 (minF v (l.take (i - 1))).n, .string (minF v (l.take (i - 1))).s] 55 (0, 0))) ∧ Kp (wr.heap[R]? = some (.cells #[.int .i64 0, .int .i64 0, .string { data := #[] }] 55 (0, 0))) ∧ Kp (Below w.heap.size w wr))
  case atStart => exact ⟨1, rfl, Nat.le_refl _, by omega, by omega, HK0, HR0, HB2⟩
  case round =>
    obtain ⟨i, rfl, hi1, hi, hkx, HK, HRR, KB⟩ := hrel
    by_cases hlt : i < n
    · have hlz : (i : Int) < (n : Int) := by omega
      have i0 : (0 : Int) ≤ (i : Int) := by omega
      have hix : i < (v :: l).length := by have := HN.out; simp; omega
      obtain ⟨ad2, e2, y0, y1, y2⟩ := vals_get (Row.move HX.out (fun k _ hk => KB.out.block k hk)) i hix
      obtain rfl : ad = ad2 := by injection e2
      obtain ⟨x, hx⟩ : ∃ x, x = (v :: l)[i] := ⟨_, rfl⟩
      rw [← hx] at y0 y1 y2
      obtain ⟨b, hbb⟩ : ∃ b, b = minF v (l.take (i - 1)) := ⟨_, rfl⟩
      rw [← hbb] at HK
      have hxl : l[i - 1]? = some x := by
        obtain ⟨j, rfl⟩ : ∃ j, i = j + 1 := ⟨i - 1, by omega⟩
        rw [hx]
        simp only [Nat.add_sub_cancel, List.getElem_cons_succ]
        exact List.getElem?_eq_getElem _
      have HF : Kp (minF v (l.take i) = if ord x b < 0 then x else b) := put (by
        have := take_one hxl
        rw [show i - 1 + 1 = i by omega] at this
        rw [this, hbb]
        unfold minF
        rw [List.foldl_append]
        rfl)
      have Y0 := put y0
      have Y1 := put y1
      have Y2 := put y2
      clear e2 hx hbb hxl hix y0 y1 y2
      go_wp2_with fail
      refine wp_region_noPanic ?_
      refine wp_region_held_drew (S := (fun w' => G wr w')) (by kernel_rfl) (G.refl _).drew (fun hHeld => ?_)
      refine wpAnyH_take (i := 0) (v := ?_) rfl (by kernel_rfl) (by kernel_rfl) (by kernel_rfl) (fun _ _ _ h => h) (Or.inl ⟨by kernel_rfl, ?_⟩) (by assumption) ?_
      rotate_left
      · intro w hSw; (try dsimp only at hSw); go_simp; try with_reducible rfl
      try simp only [List.getElem_toArray, List.getElem_cons_zero, Act.put, List.setIfInBounds_toArray, List.set_cons_zero, List.set_cons_succ]
      refine wpAnyH_take (i := 1) (v := ?_) rfl (by kernel_rfl) (by kernel_rfl) (by kernel_rfl) (fun _ _ _ h => h) (Or.inl ⟨by kernel_rfl, ?_⟩) (by assumption) ?_
      rotate_left
      · intro w hSw; (try dsimp only at hSw); go_simp; try with_reducible rfl
      try simp only [List.getElem_toArray, List.getElem_cons_succ, List.getElem_cons_zero, Act.put, List.setIfInBounds_toArray, List.set_cons_zero, List.set_cons_succ]
      refine wpAnyH_take (i := 2) (v := ?_) rfl (by kernel_rfl) (by kernel_rfl) (by kernel_rfl) (fun _ _ _ h => h) (Or.inl ⟨by kernel_rfl, ?_⟩) (by assumption) ?_
      rotate_left
      · intro w hSw; (try dsimp only at hSw); go_simp; try with_reducible rfl
      try simp only [List.getElem_toArray, List.getElem_cons_succ, List.getElem_cons_zero, Act.put, List.setIfInBounds_toArray, List.set_cons_zero, List.set_cons_succ]
      refine wpAnyH_take (i := 3) (v := ?_) rfl (by kernel_rfl) (by kernel_rfl) (by kernel_rfl) (fun _ _ _ h => h) (Or.inl ⟨by kernel_rfl, ?_⟩) (by assumption) ?_
      rotate_left
      · intro w hSw; (try dsimp only at hSw); go_simp; try with_reducible rfl
      try simp only [List.getElem_toArray, List.getElem_cons_succ, List.getElem_cons_zero, Act.put, List.setIfInBounds_toArray, List.set_cons_zero, List.set_cons_succ]
      refine wpAnyH_take (i := 4) (v := ?_) rfl (by kernel_rfl) (by kernel_rfl) (by kernel_rfl) (fun _ _ _ h => h) (Or.inl ⟨by kernel_rfl, ?_⟩) (by assumption) ?_
      rotate_left
      · intro w hSw; (try dsimp only at hSw); obtain ⟨k0, k1, k2⟩ := v_cells (G.heap hSw HK.out); have z0 := G.cellOf hSw Y0.out; have z1 := G.cellOf hSw Y1.out; have z2 := G.cellOf hSw Y2.out; go_simp; try with_reducible rfl
      try simp only [List.getElem_toArray, List.getElem_cons_succ, List.getElem_cons_zero, Act.put, List.setIfInBounds_toArray, List.set_cons_zero, List.set_cons_succ]
      refine wpAnyH_take (i := 5) (v := ?_) rfl (by kernel_rfl) (by kernel_rfl) (by kernel_rfl) (fun _ _ _ h => h) (Or.inl ⟨by kernel_rfl, ?_⟩) (by assumption) ?_
      rotate_left
      · intro w hSw; (try dsimp only at hSw); obtain ⟨k0, k1, k2⟩ := v_cells (G.heap hSw HK.out); have z0 := G.cellOf hSw Y0.out; have z1 := G.cellOf hSw Y1.out; have z2 := G.cellOf hSw Y2.out; go_simp; try with_reducible rfl
      try simp only [List.getElem_toArray, List.getElem_cons_succ, List.getElem_cons_zero, Act.put, List.setIfInBounds_toArray, List.set_cons_zero, List.set_cons_succ]
      refine wpAnyH_ready (rs := [6]) (by kernel_rfl) (by simp) ?_
      refine AllReadyH.cons rfl (fun JJ hJJ => ?_) AllReadyH.nil
      go_simp
      ((try clear hb); go_at_fn 107; refine (ordCalls x b _).mono ?_; rintro e w5 ⟨rfl, hg⟩; have hb := G.trans hHeld hg; clear hg)
      refine hJJ.out _ _ ?_ (fun hHeld2 => ?_)
      · exact hb
      clear hJJ JJ hHeld
      have hHeld := hHeld2
      clear hHeld2
      try simp only [List.getElem_toArray, List.getElem_cons_succ, List.getElem_cons_zero, Act.put, List.setIfInBounds_toArray, List.set_cons_zero, List.set_cons_succ]
      refine wpAnyH_take (i := 7) (v := ?_) rfl (by kernel_rfl) (by kernel_rfl) (by kernel_rfl) (fun _ _ _ h => h) (Or.inl ⟨by kernel_rfl, ?_⟩) (by assumption) ?_
      rotate_left
      · intro w hSw; (try dsimp only at hSw); go_simp; try with_reducible rfl
      try simp only [List.getElem_toArray, List.getElem_cons_succ, List.getElem_cons_zero, Act.put, List.setIfInBounds_toArray, List.set_cons_zero, List.set_cons_succ]
      refine wpAnyH_done (by kernel_rfl) ?_ _
      refine NoPanic.normal ?_
      have HG7 := put hHeld
      clear hHeld
      have hK7 := G.heap HG7.out HK.out
      have hR7 := G.heap HG7.out HRR.out
      have hb7 := HG7.out.below
      rename World => w7
      by_cases ht : ord x b < 0
      · have HT : Kp (minF v (l.take i) = x) := put (by rw [HF.out, if_pos ht])
        obtain ⟨k0, k1, k2⟩ := v_cells hK7
        obtain ⟨f0, f1, f2⟩ := v_fr hK7
        have z0 := G.cellOf HG7.out Y0.out
        have z1 := G.cellOf HG7.out Y1.out
        have z2 := G.cellOf HG7.out Y2.out
        have HB7 := put (KB.out.trans (hb7.mono KB.out.size))
        have HK8 : Kp ((((w7.setCell ⟨K, 0, none⟩ (.int .i64 x.kind)).setCell ⟨K, 1, none⟩ (.int .i64 x.n)).setCell ⟨K, 2, none⟩ (.string x.s)).heap[K]? = some (.cells #[.int .i64 x.kind, .int .i64 x.n, .string x.s] 55 (0, 0))) := put (v_stored hK7 _ _ _)
        have HR8 : Kp ((((w7.setCell ⟨K, 0, none⟩ (.int .i64 x.kind)).setCell ⟨K, 1, none⟩ (.int .i64 x.n)).setCell ⟨K, 2, none⟩ (.string x.s)).heap[R]? = some (.cells #[.int .i64 0, .int .i64 0, .string { data := #[] }] 55 (0, 0))) := put ((Below.heap_setCell _ ⟨K, 2, none⟩ _ R HRK.out).trans ((Below.heap_setCell _ ⟨K, 1, none⟩ _ R HRK.out).trans ((Below.heap_setCell _ ⟨K, 0, none⟩ _ R HRK.out).trans hR7)))
        have td : decide (ord x b < 0) = true := decide_eq_true ht
        clear hK7 hb7 hR7
        go_wp2_with fail
        go_roundg (n - (i + 1))
        case measure => omega
        case rel => exact ⟨i + 1, by go_num, by omega, by omega, Nat.le_refl _, put (by rw [show i + 1 - 1 = i by omega, HT.out]; exact HK8.out), HR8, put (below_set (below_set (below_set HB7.out HKB.out) HKB.out) HKB.out)⟩
      · have HT : Kp (minF v (l.take i) = b) := put (by rw [HF.out, if_neg ht])
        have HK7 := put hK7
        have HB7 := put (KB.out.trans (hb7.mono KB.out.size))
        have HR7 := put hR7
        have td : decide (ord x b < 0) = false := decide_eq_false ht
        clear hK7 hb7 hR7
        go_wp2_with fail
        go_roundg (n - (i + 1))
        case measure => omega
        case rel => exact ⟨i + 1, by go_num, by omega, by omega, Nat.le_refl _, put (by rw [show i + 1 - 1 = i by omega, HT.out]; exact HK7.out), HR7, HB7⟩
    · have hlz : ¬ (i : Int) < (n : Int) := by omega
      obtain rfl : n = i := by omega
      have HE : Kp (minF v (l.take (n - 1)) = minF v l) := put (by rw [List.take_of_length_le (by have := HN.out; omega)])
      rw [HE.out] at HK
      obtain ⟨k0, k1, k2⟩ := v_cells HK.out
      obtain ⟨r0, r1, r2⟩ := v_cells HRR.out
      obtain ⟨f0, f1, f2⟩ := v_fr HRR.out
      have hR8 := v_stored HRR.out (.int .i64 (minF v l).kind) (.int .i64 (minF v l).n) (.string (minF v l).s)
      obtain ⟨s0, s1, s2⟩ := v_cells hR8
      go_wp2_with fail
      refine bodyPost_ret (v := .agg #[.int .i64 (minF v l).kind, .int .i64 (minF v l).n, .string (minF v l).s]) (by simp [results, Try.results126, go_sem, s0, s1, s2]) rfl ⟨rfl, below_set (below_set (below_set KB.out HRB.out) HRB.out) HRB.out⟩

set_option maxHeartbeats 8000000 in
set_option maxRecDepth 100000 in
theorem maxCalls (ok : Nat → Prop) (A : Option Addr) (c : Nat) (v : Val) (l : List Val) (w : World) (h : Row tVal ok w A (v :: l)) (hl : l.length ≤ 1000) :
    Calls Try.prog 127 #[.slice A (v :: l).length c, .func (.func 107) #[] #[]] w fun e w' => e = .returned (.agg #[.int .i64 (maxF v l).kind, .int .i64 (maxF v l).n, .string (maxF v l).s]) ∧ Below w.heap.size w w' := by
  have HX := put h
  have HL := put hl
  obtain ⟨ad, rfl, x0, x1, x2⟩ := vals_get h 0 (by simp)
  simp only [List.getElem_cons_zero, Nat.zero_mul, add_zero] at x0 x1 x2
  obtain ⟨n, hn⟩ : ∃ n, n = (v :: l).length := ⟨_, rfl⟩
  have hn1 : n = l.length + 1 := by rw [hn]; simp
  rw [← hn]
  have HN := put hn1
  have hnp : ¬ (n : Int) < 1 := by omega
  have hnq : (0 : Int) < (n : Int) := by omega
  have hn9 : n ≤ 1001 := by omega
  have y0 : ∀ o, (w.alloc o).cell? ad = some (.int .i64 v.kind) := fun o => (World.cell?_alloc_some _ _ _ (by rw [x0]; rfl)).trans x0
  have y1 : ∀ o, (w.alloc o).cell? ⟨ad.block, ad.off + 1, none⟩ = some (.int .i64 v.n) := fun o => (World.cell?_alloc_some _ _ _ (by rw [x1]; rfl)).trans x1
  have y2 : ∀ o, (w.alloc o).cell? ⟨ad.block, ad.off + 2, none⟩ = some (.string v.s) := fun o => (World.cell?_alloc_some _ _ _ (by rw [x2]; rfl)).trans x2
  clear h hl hn hn1
  have eo : ∀ args w, (callFunc 107 args).run Try.prog w = .ok (.enter 107 args) w := fun args w => by rfl
  go_enter Try.func127, Try.ntmps127
  go_wp2_with fail
  obtain ⟨w2, hw2⟩ : ∃ w2, w2 = (w.alloc (.cells #[.int .i64 0, .int .i64 0, .string { data := #[] }] 55)).alloc (.cells #[.int .i64 v.kind, .int .i64 v.n, .string v.s] 55) := ⟨_, rfl⟩
  have hK : w2.heap[w.heap.size + 1]? = some (.cells #[.int .i64 v.kind, .int .i64 v.n, .string v.s] 55 (0, 0)) := by rw [hw2, hag, if_pos (by simp)]
  have hR : w2.heap[w.heap.size]? = some (.cells #[.int .i64 0, .int .i64 0, .string { data := #[] }] 55 (0, 0)) := by rw [hw2, hag, if_neg (by simp), hag, if_pos rfl]
  have hb2 : Below w.heap.size w w2 := by rw [hw2]; exact balloc (balloc (Below.refl _ _) _) _
  rw [← hw2]
  clear hw2 x0 x1 x2 y0 y1 y2
  obtain ⟨R, hRe⟩ : ∃ R, R = w.heap.size := ⟨_, rfl⟩
  rw [← hRe] at hR hK ⊢
  obtain ⟨K, hKe⟩ : ∃ K, K = R + 1 := ⟨_, rfl⟩
  rw [← hKe] at hK ⊢
  have HKB : Kp (w.heap.size ≤ K) := put (by omega)
  have HRB : Kp (w.heap.size ≤ R) := put (by omega)
  have hKR : K ≠ R := by omega
  have HK0 := put hK
  have HR0 := put hR
  have HB2 := put hb2
  have hRK : R ≠ K := hKR.symm
  have HRK := put hRK
  clear hK hb2 hRe hKe hR
  go_loopg [6] n (fun kx s6 wr => ∃ (i : Nat), s6 = .int .i64 i ∧ 1 ≤ i ∧ i ≤ n ∧ n - i ≤ kx ∧ Kp (wr.heap[K]? = some (.cells #[.int .i64 (maxF v (l.take (i - 1))).kind, .int .i64 (maxF v (l.take (i - 1))).n, .string (maxF v (l.take (i - 1))).s] 55 (0, 0))) ∧ Kp (wr.heap[R]? = some (.cells #[.int .i64 0, .int .i64 0, .string { data := #[] }] 55 (0, 0))) ∧ Kp (Below w.heap.size w wr))
  case atStart => exact ⟨1, rfl, Nat.le_refl _, by omega, by omega, HK0, HR0, HB2⟩
  case round =>
    obtain ⟨i, rfl, hi1, hi, hkx, HK, HRR, KB⟩ := hrel
    by_cases hlt : i < n
    · have hlz : (i : Int) < (n : Int) := by omega
      have i0 : (0 : Int) ≤ (i : Int) := by omega
      have hix : i < (v :: l).length := by have := HN.out; simp; omega
      obtain ⟨ad2, e2, y0, y1, y2⟩ := vals_get (Row.move HX.out (fun k _ hk => KB.out.block k hk)) i hix
      obtain rfl : ad = ad2 := by injection e2
      obtain ⟨x, hx⟩ : ∃ x, x = (v :: l)[i] := ⟨_, rfl⟩
      rw [← hx] at y0 y1 y2
      obtain ⟨b, hbb⟩ : ∃ b, b = maxF v (l.take (i - 1)) := ⟨_, rfl⟩
      rw [← hbb] at HK
      have hxl : l[i - 1]? = some x := by
        obtain ⟨j, rfl⟩ : ∃ j, i = j + 1 := ⟨i - 1, by omega⟩
        rw [hx]
        simp only [Nat.add_sub_cancel, List.getElem_cons_succ]
        exact List.getElem?_eq_getElem _
      have HF : Kp (maxF v (l.take i) = if 0 < ord x b then x else b) := put (by
        have := take_one hxl
        rw [show i - 1 + 1 = i by omega] at this
        rw [this, hbb]
        unfold maxF
        rw [List.foldl_append]
        rfl)
      have Y0 := put y0
      have Y1 := put y1
      have Y2 := put y2
      clear e2 hx hbb hxl hix y0 y1 y2
      go_wp2_with fail
      refine wp_region_noPanic ?_
      refine wp_region_held_drew (S := (fun w' => G wr w')) (by kernel_rfl) (G.refl _).drew (fun hHeld => ?_)
      refine wpAnyH_take (i := 0) (v := ?_) rfl (by kernel_rfl) (by kernel_rfl) (by kernel_rfl) (fun _ _ _ h => h) (Or.inl ⟨by kernel_rfl, ?_⟩) (by assumption) ?_
      rotate_left
      · intro w hSw; (try dsimp only at hSw); go_simp; try with_reducible rfl
      try simp only [List.getElem_toArray, List.getElem_cons_zero, Act.put, List.setIfInBounds_toArray, List.set_cons_zero, List.set_cons_succ]
      refine wpAnyH_take (i := 1) (v := ?_) rfl (by kernel_rfl) (by kernel_rfl) (by kernel_rfl) (fun _ _ _ h => h) (Or.inl ⟨by kernel_rfl, ?_⟩) (by assumption) ?_
      rotate_left
      · intro w hSw; (try dsimp only at hSw); go_simp; try with_reducible rfl
      try simp only [List.getElem_toArray, List.getElem_cons_succ, List.getElem_cons_zero, Act.put, List.setIfInBounds_toArray, List.set_cons_zero, List.set_cons_succ]
      refine wpAnyH_take (i := 2) (v := ?_) rfl (by kernel_rfl) (by kernel_rfl) (by kernel_rfl) (fun _ _ _ h => h) (Or.inl ⟨by kernel_rfl, ?_⟩) (by assumption) ?_
      rotate_left
      · intro w hSw; (try dsimp only at hSw); go_simp; try with_reducible rfl
      try simp only [List.getElem_toArray, List.getElem_cons_succ, List.getElem_cons_zero, Act.put, List.setIfInBounds_toArray, List.set_cons_zero, List.set_cons_succ]
      refine wpAnyH_take (i := 3) (v := ?_) rfl (by kernel_rfl) (by kernel_rfl) (by kernel_rfl) (fun _ _ _ h => h) (Or.inl ⟨by kernel_rfl, ?_⟩) (by assumption) ?_
      rotate_left
      · intro w hSw; (try dsimp only at hSw); go_simp; try with_reducible rfl
      try simp only [List.getElem_toArray, List.getElem_cons_succ, List.getElem_cons_zero, Act.put, List.setIfInBounds_toArray, List.set_cons_zero, List.set_cons_succ]
      refine wpAnyH_take (i := 4) (v := ?_) rfl (by kernel_rfl) (by kernel_rfl) (by kernel_rfl) (fun _ _ _ h => h) (Or.inl ⟨by kernel_rfl, ?_⟩) (by assumption) ?_
      rotate_left
      · intro w hSw; (try dsimp only at hSw); obtain ⟨k0, k1, k2⟩ := v_cells (G.heap hSw HK.out); have z0 := G.cellOf hSw Y0.out; have z1 := G.cellOf hSw Y1.out; have z2 := G.cellOf hSw Y2.out; go_simp; try with_reducible rfl
      try simp only [List.getElem_toArray, List.getElem_cons_succ, List.getElem_cons_zero, Act.put, List.setIfInBounds_toArray, List.set_cons_zero, List.set_cons_succ]
      refine wpAnyH_take (i := 5) (v := ?_) rfl (by kernel_rfl) (by kernel_rfl) (by kernel_rfl) (fun _ _ _ h => h) (Or.inl ⟨by kernel_rfl, ?_⟩) (by assumption) ?_
      rotate_left
      · intro w hSw; (try dsimp only at hSw); obtain ⟨k0, k1, k2⟩ := v_cells (G.heap hSw HK.out); have z0 := G.cellOf hSw Y0.out; have z1 := G.cellOf hSw Y1.out; have z2 := G.cellOf hSw Y2.out; go_simp; try with_reducible rfl
      try simp only [List.getElem_toArray, List.getElem_cons_succ, List.getElem_cons_zero, Act.put, List.setIfInBounds_toArray, List.set_cons_zero, List.set_cons_succ]
      refine wpAnyH_ready (rs := [6]) (by kernel_rfl) (by simp) ?_
      refine AllReadyH.cons rfl (fun JJ hJJ => ?_) AllReadyH.nil
      go_simp
      ((try clear hb); go_at_fn 107; refine (ordCalls x b _).mono ?_; rintro e w5 ⟨rfl, hg⟩; have hb := G.trans hHeld hg; clear hg)
      refine hJJ.out _ _ ?_ (fun hHeld2 => ?_)
      · exact hb
      clear hJJ JJ hHeld
      have hHeld := hHeld2
      clear hHeld2
      try simp only [List.getElem_toArray, List.getElem_cons_succ, List.getElem_cons_zero, Act.put, List.setIfInBounds_toArray, List.set_cons_zero, List.set_cons_succ]
      refine wpAnyH_take (i := 7) (v := ?_) rfl (by kernel_rfl) (by kernel_rfl) (by kernel_rfl) (fun _ _ _ h => h) (Or.inl ⟨by kernel_rfl, ?_⟩) (by assumption) ?_
      rotate_left
      · intro w hSw; (try dsimp only at hSw); go_simp; try with_reducible rfl
      try simp only [List.getElem_toArray, List.getElem_cons_succ, List.getElem_cons_zero, Act.put, List.setIfInBounds_toArray, List.set_cons_zero, List.set_cons_succ]
      refine wpAnyH_done (by kernel_rfl) ?_ _
      refine NoPanic.normal ?_
      have HG7 := put hHeld
      clear hHeld
      have hK7 := G.heap HG7.out HK.out
      have hR7 := G.heap HG7.out HRR.out
      have hb7 := HG7.out.below
      rename World => w7
      by_cases ht : 0 < ord x b
      · have HT : Kp (maxF v (l.take i) = x) := put (by rw [HF.out, if_pos ht])
        obtain ⟨k0, k1, k2⟩ := v_cells hK7
        obtain ⟨f0, f1, f2⟩ := v_fr hK7
        have z0 := G.cellOf HG7.out Y0.out
        have z1 := G.cellOf HG7.out Y1.out
        have z2 := G.cellOf HG7.out Y2.out
        have HB7 := put (KB.out.trans (hb7.mono KB.out.size))
        have HK8 : Kp ((((w7.setCell ⟨K, 0, none⟩ (.int .i64 x.kind)).setCell ⟨K, 1, none⟩ (.int .i64 x.n)).setCell ⟨K, 2, none⟩ (.string x.s)).heap[K]? = some (.cells #[.int .i64 x.kind, .int .i64 x.n, .string x.s] 55 (0, 0))) := put (v_stored hK7 _ _ _)
        have HR8 : Kp ((((w7.setCell ⟨K, 0, none⟩ (.int .i64 x.kind)).setCell ⟨K, 1, none⟩ (.int .i64 x.n)).setCell ⟨K, 2, none⟩ (.string x.s)).heap[R]? = some (.cells #[.int .i64 0, .int .i64 0, .string { data := #[] }] 55 (0, 0))) := put ((Below.heap_setCell _ ⟨K, 2, none⟩ _ R HRK.out).trans ((Below.heap_setCell _ ⟨K, 1, none⟩ _ R HRK.out).trans ((Below.heap_setCell _ ⟨K, 0, none⟩ _ R HRK.out).trans hR7)))
        have td : decide (0 < ord x b) = true := decide_eq_true ht
        clear hK7 hb7 hR7
        go_wp2_with fail
        go_roundg (n - (i + 1))
        case measure => omega
        case rel => exact ⟨i + 1, by go_num, by omega, by omega, Nat.le_refl _, put (by rw [show i + 1 - 1 = i by omega, HT.out]; exact HK8.out), HR8, put (below_set (below_set (below_set HB7.out HKB.out) HKB.out) HKB.out)⟩
      · have HT : Kp (maxF v (l.take i) = b) := put (by rw [HF.out, if_neg ht])
        have HK7 := put hK7
        have HB7 := put (KB.out.trans (hb7.mono KB.out.size))
        have HR7 := put hR7
        have td : decide (0 < ord x b) = false := decide_eq_false ht
        clear hK7 hb7 hR7
        go_wp2_with fail
        go_roundg (n - (i + 1))
        case measure => omega
        case rel => exact ⟨i + 1, by go_num, by omega, by omega, Nat.le_refl _, put (by rw [show i + 1 - 1 = i by omega, HT.out]; exact HK7.out), HR7, HB7⟩
    · have hlz : ¬ (i : Int) < (n : Int) := by omega
      obtain rfl : n = i := by omega
      have HE : Kp (maxF v (l.take (n - 1)) = maxF v l) := put (by rw [List.take_of_length_le (by have := HN.out; omega)])
      rw [HE.out] at HK
      obtain ⟨k0, k1, k2⟩ := v_cells HK.out
      obtain ⟨r0, r1, r2⟩ := v_cells HRR.out
      obtain ⟨f0, f1, f2⟩ := v_fr HRR.out
      have hR8 := v_stored HRR.out (.int .i64 (maxF v l).kind) (.int .i64 (maxF v l).n) (.string (maxF v l).s)
      obtain ⟨s0, s1, s2⟩ := v_cells hR8
      go_wp2_with fail
      refine bodyPost_ret (v := .agg #[.int .i64 (maxF v l).kind, .int .i64 (maxF v l).n, .string (maxF v l).s]) (by simp [results, Try.results127, go_sem, s0, s1, s2]) rfl ⟨rfl, below_set (below_set (below_set KB.out HRB.out) HRB.out) HRB.out⟩
end Go.Proofs.Ytkfoknjflpklpaa.P
