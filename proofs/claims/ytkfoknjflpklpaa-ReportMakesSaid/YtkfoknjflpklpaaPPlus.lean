/- The sum of two values: value.Reckon and the document's Reckon, at "+". -/
import Derived.Test.YtkfoknjflpklpaaPOrd
namespace Go.Proofs.Ytkfoknjflpklpaa.P
open Go Go.RowKit Go.Sort Go.Proofs.Ytkfoknjflpklpaa.Mem Go.Proofs.Ytkfoknjflpklpaa.Cmp Go.Proofs.Ytkfoknjflpklpaa.D

theorem grown_below {w w' : World} (h : ∃ q os, w' = grow (w.drewN q) os) : Below w.heap.size w w' := by
  obtain ⟨q, os, rfl⟩ := h
  refine ⟨rfl, rfl, rfl, by simp, fun k hk => ?_⟩
  rw [heap_grow_old _ _ (by simpa using hk)]
  simp
theorem balloc {w w' : World} (h : Below w.heap.size w w') (o : Obj) : Below w.heap.size w (w'.alloc o) := h.alloc h.size o
theorem hag (w : World) (o : Obj) (k : Nat) : (w.alloc o).heap[k]? = if k = w.heap.size then some o else w.heap[k]? := by
  split
  · next h => rw [h]; exact heap_alloc_new _ _
  · next h =>
    by_cases hk : k < w.heap.size
    · exact Below.heap_alloc _ _ _ hk
    · rw [Array.getElem?_eq_none (by simp; omega), Array.getElem?_eq_none (by omega)]
theorem alloc_size (w : World) (o : Obj) : (w.alloc o).heap.size = w.heap.size + 1 := by simp
def InR (n : Int) : Prop := -9223372036854775808 ≤ n ∧ n ≤ 9223372036854775807
def vcs (v : Val) : Array Value := #[.int .i64 v.kind, .int .i64 v.n, .string v.s]
theorem v_cells {w : World} {X : Nat} {a0 a1 a2 : Value} {t : TypeId} (h : w.heap[X]? = some (.cells #[a0, a1, a2] t (0, 0))) : w.cell? ⟨X, 0, none⟩ = some a0 ∧ w.cell? ⟨X, 1, none⟩ = some a1 ∧ w.cell? ⟨X, 2, none⟩ = some a2 := by simp [World.cell?, h]
theorem v_fr {w : World} {X : Nat} {a0 a1 a2 : Value} {t : TypeId} (h : w.heap[X]? = some (.cells #[a0, a1, a2] t (0, 0))) : w.frozen? ⟨X, 0, none⟩ = false ∧ w.frozen? ⟨X, 1, none⟩ = false ∧ w.frozen? ⟨X, 2, none⟩ = false := by simp [World.frozen?, h]
theorem below_set {N : Nat} {w0 w : World} {X o : Nat} {v : Value} (h : Below N w0 w) (hX : N ≤ X) : Below N w0 (w.setCell ⟨X, o, none⟩ v) := h.setCell hX v

set_option maxHeartbeats 1000000 in
theorem numberV (n : Int) (w : World) : Calls Try.prog 149 #[.int .i64 n] w fun e w' => e = .returned (.agg #[.int .i64 2, .int .i64 n, .string ⟨#[]⟩]) ∧ Below w.heap.size w w' := by
  go_enter Try.func149, Try.ntmps149
  go_wp2
  exact bodyPost_ret (v := .agg #[.int .i64 2, .int .i64 n, .string ⟨#[]⟩]) (by simp [results, Try.results149, go_sem]) rfl ⟨rfl, by repeat (first | exact Below.refl _ _ | refine below_set ?_ (Nat.le_refl _) | exact balloc (Below.refl _ _) _)⟩
set_option maxHeartbeats 1000000 in
theorem numberR (n : Int) (w : World) : Calls Try.prog 124 #[.int .i64 n] w fun e w' => e = .returned (.agg #[.int .i64 2, .int .i64 n, .string ⟨#[]⟩]) ∧ Below w.heap.size w w' := by
  go_enter Try.func124, Try.ntmps124
  go_wp2
  exact bodyPost_ret (v := .agg #[.int .i64 2, .int .i64 n, .string ⟨#[]⟩]) (by simp [results, Try.results124, go_sem]) rfl ⟨rfl, by repeat (first | exact Below.refl _ _ | refine below_set ?_ (Nat.le_refl _) | exact balloc (Below.refl _ _) _)⟩

set_option maxHeartbeats 8000000 in
set_option maxRecDepth 100000 in
theorem plusCalls (a b : Val) (ha : InR a.n) (hb : InR b.n) (w : World) : Calls Try.prog 142 #[.string { data := #[43] }, .agg #[.int .i64 a.kind, .int .i64 a.n, .string a.s], .agg #[.int .i64 b.kind, .int .i64 b.n, .string b.s]] w fun e w' => e = .returned (.tuple #[.agg #[.int .i64 (plus a b).1.kind, .int .i64 (plus a b).1.n, .string (plus a b).1.s], .int .i64 (plus a b).2]) ∧ Below w.heap.size w w' := by
  have HAR := put ha
  have HBR := put hb
  clear ha hb
  go_enter Try.func142, Try.ntmps142
  go_wp2_with fail
  generalize hw4 : (((w.alloc (.cells #[.int .i64 a.kind, .int .i64 a.n, .string a.s] 55)).alloc (.cells #[.int .i64 b.kind, .int .i64 b.n, .string b.s] 55)).alloc (.cells #[.int .i64 0, .int .i64 0, .string { data := #[] }] 55)).alloc (.cells #[.int .i64 0, .int .i64 0, .string { data := #[] }] 55) = w4
  have h0 : w4.heap[w.heap.size]? = some (.cells #[.int .i64 a.kind, .int .i64 a.n, .string a.s] 55 (0, 0)) := by rw [← hw4]; simp only [hag, alloc_size]; repeat (first | rw [if_pos trivial] | rw [if_pos (by omega)] | rw [if_neg (by omega)])
  have h1 : w4.heap[w.heap.size + 1]? = some (.cells #[.int .i64 b.kind, .int .i64 b.n, .string b.s] 55 (0, 0)) := by rw [← hw4]; simp only [hag, alloc_size]; repeat (first | rw [if_pos trivial] | rw [if_pos (by omega)] | rw [if_neg (by omega)])
  have h2 : w4.heap[w.heap.size + 1 + 1]? = some (.cells #[.int .i64 0, .int .i64 0, .string { data := #[] }] 55 (0, 0)) := by rw [← hw4]; simp only [hag, alloc_size]; repeat (first | rw [if_pos trivial] | rw [if_pos (by omega)] | rw [if_neg (by omega)])
  have h3 : w4.heap[w.heap.size + 1 + 1 + 1]? = some (.cells #[.int .i64 0, .int .i64 0, .string { data := #[] }] 55 (0, 0)) := by rw [← hw4]; simp only [hag, alloc_size]; repeat (first | rw [if_pos trivial] | rw [if_pos (by omega)] | rw [if_neg (by omega)])
  have hb4 : Below w.heap.size w w4 := by rw [← hw4]; exact balloc (balloc (balloc (balloc (Below.refl _ _) _) _) _) _
  clear hw4
  obtain ⟨B, hB⟩ : ∃ B, B = w.heap.size := ⟨_, rfl⟩
  rw [← hB] at h0 h1 h2 h3 ⊢
  have HB := put hB
  have HB4 := put hb4
  have H0 := put h0
  have H1 := put h1
  have H2 := put h2
  have H3 := put h3
  clear hB hb4 h0 h1 h2 h3
  refine (rightCalls a _).mono ?_
  rintro e w5 ⟨rfl, hg⟩
  have hb5 := grown_below hg
  have HB5 : Kp (Below w.heap.size w w5) := put (HB4.out.trans (hb5.mono HB4.out.size))

  have H0' := put ((hb5.block _ (Array.getElem?_eq_some_iff.1 H0.out).1).trans H0.out)
  have H1' := put ((hb5.block _ (Array.getElem?_eq_some_iff.1 H1.out).1).trans H1.out)
  have H2' := put ((hb5.block _ (Array.getElem?_eq_some_iff.1 H2.out).1).trans H2.out)
  have H3' := put ((hb5.block _ (Array.getElem?_eq_some_iff.1 H3.out).1).trans H3.out)
  clear hg hb5 H0 H1 H2 H3
  cases hra : right a with
  | false =>
    have E : Kp (plus a b = (nullV, 15)) := put (by unfold plus; rw [hra]; rfl)
    have H0 := H0'; have H1 := H1'; have H2 := H2'; have H3 := H3'
    clear H0' H1' H2' H3' hra
    obtain ⟨a0, a1, a2⟩ := v_cells H0.out
    obtain ⟨b0, b1, b2⟩ := v_cells H1.out
    obtain ⟨z0, z1, z2⟩ := v_cells H2.out
    obtain ⟨n0, n1, n2⟩ := v_cells H3.out
    obtain ⟨f0, f1, f2⟩ := v_fr H2.out
    clear H0 H1 H2 H3
    go_wp2_with fail
    refine bodyPost_ret (v := .tuple #[.agg #[.int .i64 0, .int .i64 0, .string { data := #[] }], .int .i64 15]) (by simp [results, Try.results142, go_sem, z0, z1, z2]) rfl ⟨by rw [E.out]; rfl, ?_⟩
    exact below_set (below_set (below_set HB5.out (by have := HB.out; omega)) (by have := HB.out; omega)) (by have := HB.out; omega)

  | true =>
    have HRA := put hra
    clear hra
    obtain ⟨b0, b1, b2⟩ := v_cells H1'.out
    go_wp2_with fail
    refine (rightCalls b _).mono ?_
    rintro e w6 ⟨rfl, hg⟩
    have hb6 := grown_below hg
    have HB6 : Kp (Below w.heap.size w w6) := put (HB5.out.trans (hb6.mono HB5.out.size))
    have H0 := put ((hb6.block _ (Array.getElem?_eq_some_iff.1 H0'.out).1).trans H0'.out)
    have H1 := put ((hb6.block _ (Array.getElem?_eq_some_iff.1 H1'.out).1).trans H1'.out)
    have H2 := put ((hb6.block _ (Array.getElem?_eq_some_iff.1 H2'.out).1).trans H2'.out)
    have H3 := put ((hb6.block _ (Array.getElem?_eq_some_iff.1 H3'.out).1).trans H3'.out)
    clear hg hb6 H0' H1' H2' H3' b0 b1 b2
    have HRA' := HRA
    cases hrb : right b with
    | false =>
      have E : Kp (plus a b = (nullV, 15)) := put (by unfold plus; rw [HRA.out, hrb]; rfl)
      clear hrb
      obtain ⟨a0, a1, a2⟩ := v_cells H0.out
      obtain ⟨b0, b1, b2⟩ := v_cells H1.out
      obtain ⟨z0, z1, z2⟩ := v_cells H2.out
      obtain ⟨n0, n1, n2⟩ := v_cells H3.out
      obtain ⟨f0, f1, f2⟩ := v_fr H2.out
      clear H0 H1 H2 H3
      go_wp2_with fail
      refine bodyPost_ret (v := .tuple #[.agg #[.int .i64 0, .int .i64 0, .string { data := #[] }], .int .i64 15]) (by simp [results, Try.results142, go_sem, z0, z1, z2]) rfl ⟨by rw [E.out]; rfl, ?_⟩
      exact below_set (below_set (below_set HB6.out (by have := HB.out; omega)) (by have := HB.out; omega)) (by have := HB.out; omega)

    | true =>
      have HP : Kp (plus a b = if a.kind = 0 ∨ b.kind = 0 then (nullV, 0) else if a.kind = 3 ∧ b.kind = 3 then (if a.s.size + b.s.size > 24 then (nullV, 8) else (⟨3, 0, a.s ++ b.s⟩, 0)) else if a.kind ≠ 2 ∨ b.kind ≠ 2 then (nullV, 4) else if fits (a.n + b.n) = true then (⟨2, a.n + b.n, ⟨#[]⟩⟩, 0) else (nullV, 7)) := put (by unfold plus; rw [HRA.out, hrb]; rfl)
      have HRB := put hrb
      clear hrb
      by_cases ka : a.kind = 0
      · have E : Kp (plus a b = (nullV, 0)) := put (by rw [HP.out, if_pos (Or.inl ka)])
        have k1 : (a.kind == 0) = true := by simp [ka]
        clear ka
        obtain ⟨a0, a1, a2⟩ := v_cells H0.out
        obtain ⟨b0, b1, b2⟩ := v_cells H1.out
        obtain ⟨z0, z1, z2⟩ := v_cells H2.out
        obtain ⟨n0, n1, n2⟩ := v_cells H3.out
        obtain ⟨f0, f1, f2⟩ := v_fr H2.out
        clear H0 H1 H2 H3
        go_wp2_with fail
        refine bodyPost_ret (v := .tuple #[.agg #[.int .i64 0, .int .i64 0, .string { data := #[] }], .int .i64 0]) (by simp [results, Try.results142, go_sem, z0, z1, z2]) rfl ⟨by rw [E.out]; rfl, ?_⟩
        exact below_set (below_set (below_set HB6.out (by have := HB.out; omega)) (by have := HB.out; omega)) (by have := HB.out; omega)

      · have k1 : (a.kind == 0) = false := by simp [ka]
        by_cases kb : b.kind = 0
        · have E : Kp (plus a b = (nullV, 0)) := put (by rw [HP.out, if_pos (Or.inr kb)])
          have k2 : (b.kind == 0) = true := by simp [kb]
          clear ka kb
          obtain ⟨a0, a1, a2⟩ := v_cells H0.out
          obtain ⟨b0, b1, b2⟩ := v_cells H1.out
          obtain ⟨z0, z1, z2⟩ := v_cells H2.out
          obtain ⟨n0, n1, n2⟩ := v_cells H3.out
          obtain ⟨f0, f1, f2⟩ := v_fr H2.out
          clear H0 H1 H2 H3
          go_wp2_with fail
          refine bodyPost_ret (v := .tuple #[.agg #[.int .i64 0, .int .i64 0, .string { data := #[] }], .int .i64 0]) (by simp [results, Try.results142, go_sem, z0, z1, z2]) rfl ⟨by rw [E.out]; rfl, ?_⟩
          exact below_set (below_set (below_set HB6.out (by have := HB.out; omega)) (by have := HB.out; omega)) (by have := HB.out; omega)

        · have k2 : (b.kind == 0) = false := by simp [kb]
          have HP2 := put (HP.out.trans (if_neg (fun h => h.elim ka kb)))
          clear ka kb
          by_cases a3 : a.kind = 3
          · have k3 : (a.kind == 3) = true := by simp [a3]
            have n3 : (a.kind != 2) = true := by simp [a3]
            by_cases b3 : b.kind = 3
            · have k4 : (b.kind == 3) = true := by simp [b3]
              have hsa : a.s.size ≤ 24 := by have := HRA.out; simp [right, a3] at this; exact this.2
              have hsb : b.s.size ≤ 24 := by have := HRB.out; simp [right, b3] at this; exact this.2
              have hw : IntKind.i64.wrap ((a.s.size : Int) + (b.s.size : Int)) = (a.s.size : Int) + (b.s.size : Int) := by rw [IntKind.wrap_i64]; omega
              by_cases hsz : a.s.size + b.s.size > 24
              · have E : Kp (plus a b = (nullV, 8)) := put (by rw [HP2.out, if_pos ⟨a3, b3⟩, if_pos hsz])
                have hz : (a.s.size : Int) + (b.s.size : Int) > 24 := by omega
                clear a3 b3 hsa hsb hsz
                obtain ⟨a0, a1, a2⟩ := v_cells H0.out
                obtain ⟨b0, b1, b2⟩ := v_cells H1.out
                obtain ⟨z0, z1, z2⟩ := v_cells H2.out
                obtain ⟨n0, n1, n2⟩ := v_cells H3.out
                obtain ⟨f0, f1, f2⟩ := v_fr H2.out
                clear H0 H1 H2 H3
                go_wp2_with fail
                refine bodyPost_ret (v := .tuple #[.agg #[.int .i64 0, .int .i64 0, .string { data := #[] }], .int .i64 8]) (by simp [results, Try.results142, go_sem, z0, z1, z2]) rfl ⟨by rw [E.out]; rfl, ?_⟩
                exact below_set (below_set (below_set HB6.out (by have := HB.out; omega)) (by have := HB.out; omega)) (by have := HB.out; omega)

              · have E : Kp (plus a b = (⟨3, 0, a.s ++ b.s⟩, 0)) := put (by rw [HP2.out, if_pos ⟨a3, b3⟩, if_neg hsz])
                have hz : ¬ (a.s.size : Int) + (b.s.size : Int) > 24 := by omega
                clear a3 b3 hsa hsb hsz
                obtain ⟨a0, a1, a2⟩ := v_cells H0.out
                obtain ⟨b0, b1, b2⟩ := v_cells H1.out
                obtain ⟨z0, z1, z2⟩ := v_cells H2.out
                obtain ⟨n0, n1, n2⟩ := v_cells H3.out
                obtain ⟨f0, f1, f2⟩ := v_fr H2.out
                clear H0 H1 H2 H3
                go_wp2_with fail
                refine bodyPost_ret (v := .tuple #[.agg #[.int .i64 3, .int .i64 0, .string (a.s ++ b.s)], .int .i64 0]) (by simp [results, Try.results142, go_sem, z0, z1, z2]) rfl ⟨by rw [E.out], ?_⟩
                exact below_set (below_set (below_set HB6.out (by have := HB.out; omega)) (by have := HB.out; omega)) (by have := HB.out; omega)

            · have k4 : (b.kind == 3) = false := by simp [b3]
              have E : Kp (plus a b = (nullV, 4)) := put (by rw [HP2.out, if_neg (fun h => b3 h.2), if_pos (Or.inl (by omega))])
              clear a3 b3
              obtain ⟨a0, a1, a2⟩ := v_cells H0.out
              obtain ⟨b0, b1, b2⟩ := v_cells H1.out
              obtain ⟨z0, z1, z2⟩ := v_cells H2.out
              obtain ⟨n0, n1, n2⟩ := v_cells H3.out
              obtain ⟨f0, f1, f2⟩ := v_fr H2.out
              clear H0 H1 H2 H3
              go_wp2_with fail
              refine bodyPost_ret (v := .tuple #[.agg #[.int .i64 0, .int .i64 0, .string { data := #[] }], .int .i64 4]) (by simp [results, Try.results142, go_sem, z0, z1, z2]) rfl ⟨by rw [E.out]; rfl, ?_⟩
              exact below_set (below_set (below_set HB6.out (by have := HB.out; omega)) (by have := HB.out; omega)) (by have := HB.out; omega)

          · have k3 : (a.kind == 3) = false := by simp [a3]
            have HP3 := put (HP2.out.trans (if_neg (fun h => a3 h.1)))
            clear a3
            by_cases a2 : a.kind = 2
            · have n3 : (a.kind != 2) = false := by simp [a2]
              by_cases b2' : b.kind = 2
              · have n4 : (b.kind != 2) = false := by simp [b2']
                have HP4 := put (HP3.out.trans (if_neg (fun h => h.elim (fun h => h a2) (fun h => h b2'))))
                clear a2 b2'
                obtain ⟨N, hN⟩ : ∃ N, N = IntKind.i64.wrap (a.n + b.n) := ⟨_, rfl⟩
                have hw : IntKind.i64.wrap (a.n + b.n) = N := hN.symm
                rw [IntKind.wrap_i64] at hN
                have HN := put hN
                clear hN
                by_cases sa : a.n < 0
                · by_cases sb : b.n < 0
                  · have da : decide (a.n < 0) = true := by simp; omega
                    have db : decide (b.n < 0) = true := by simp; omega
                    by_cases sn : N < 0
                    · have sd : decide (N < 0) = true := by simp; omega
                      have se : decide (0 ≤ N) = false := by simp; omega
                      have E : Kp (plus a b = (⟨2, N, ⟨#[]⟩⟩, 0)) := put (by have := HN.out; have := HAR.out; have := HBR.out; unfold InR at *; rw [HP4.out, if_pos (by unfold fits; simp; omega), show N = a.n + b.n by omega])
                      obtain ⟨a0, a1, a2⟩ := v_cells H0.out
                      obtain ⟨b0, b1, b2⟩ := v_cells H1.out
                      obtain ⟨z0, z1, z2⟩ := v_cells H2.out
                      obtain ⟨n0, n1, n2⟩ := v_cells H3.out
                      obtain ⟨f0, f1, f2⟩ := v_fr H2.out
                      clear H0 H1 H3
                      go_wp2_with fail
                      refine (numberV _ _).mono ?_
                      rintro e w7 ⟨rfl, hb7⟩
                      have H7 := put ((hb7.block _ (Array.getElem?_eq_some_iff.1 H2.out).1).trans H2.out)
                      have HB7 := put (HB6.out.trans (hb7.mono HB6.out.size))
                      clear hb7 f0 f1 f2 z0 z1 z2
                      obtain ⟨z0, z1, z2⟩ := v_cells H7.out
                      obtain ⟨f0, f1, f2⟩ := v_fr H7.out
                      go_wp2_with fail
                      refine bodyPost_ret (v := .tuple #[.agg #[.int .i64 2, .int .i64 N, .string { data := #[] }], .int .i64 0]) (by simp [results, Try.results142, go_sem, z0, z1, z2]) rfl ⟨by rw [E.out], ?_⟩
                      exact below_set (below_set (below_set HB7.out (by have := HB.out; omega)) (by have := HB.out; omega)) (by have := HB.out; omega)
                    · have sd : decide (N < 0) = false := by simp; omega
                      have se : decide (0 ≤ N) = true := by simp; omega
                      have E : Kp (plus a b = (nullV, 7)) := put (by rw [HP4.out, if_neg (by have := HN.out; have := HAR.out; have := HBR.out; unfold InR at *; unfold fits; simp; omega)])
                      obtain ⟨a0, a1, a2⟩ := v_cells H0.out
                      obtain ⟨b0, b1, b2⟩ := v_cells H1.out
                      obtain ⟨z0, z1, z2⟩ := v_cells H2.out
                      obtain ⟨n0, n1, n2⟩ := v_cells H3.out
                      obtain ⟨f0, f1, f2⟩ := v_fr H2.out
                      clear H0 H1 H2 H3
                      go_wp2_with fail
                      refine bodyPost_ret (v := .tuple #[.agg #[.int .i64 0, .int .i64 0, .string { data := #[] }], .int .i64 7]) (by simp [results, Try.results142, go_sem, z0, z1, z2]) rfl ⟨by rw [E.out]; rfl, ?_⟩
                      exact below_set (below_set (below_set HB6.out (by have := HB.out; omega)) (by have := HB.out; omega)) (by have := HB.out; omega)
                  · have da : decide (a.n < 0) = true := by simp; omega
                    have db : decide (b.n < 0) = false := by simp; omega
                    have E : Kp (plus a b = (⟨2, N, ⟨#[]⟩⟩, 0)) := put (by have := HN.out; have := HAR.out; have := HBR.out; unfold InR at *; rw [HP4.out, if_pos (by unfold fits; simp; omega), show N = a.n + b.n by omega])
                    obtain ⟨a0, a1, a2⟩ := v_cells H0.out
                    obtain ⟨b0, b1, b2⟩ := v_cells H1.out
                    obtain ⟨z0, z1, z2⟩ := v_cells H2.out
                    obtain ⟨n0, n1, n2⟩ := v_cells H3.out
                    obtain ⟨f0, f1, f2⟩ := v_fr H2.out
                    clear H0 H1 H3
                    go_wp2_with fail
                    refine (numberV _ _).mono ?_
                    rintro e w7 ⟨rfl, hb7⟩
                    have H7 := put ((hb7.block _ (Array.getElem?_eq_some_iff.1 H2.out).1).trans H2.out)
                    have HB7 := put (HB6.out.trans (hb7.mono HB6.out.size))
                    clear hb7 f0 f1 f2 z0 z1 z2
                    obtain ⟨z0, z1, z2⟩ := v_cells H7.out
                    obtain ⟨f0, f1, f2⟩ := v_fr H7.out
                    go_wp2_with fail
                    refine bodyPost_ret (v := .tuple #[.agg #[.int .i64 2, .int .i64 N, .string { data := #[] }], .int .i64 0]) (by simp [results, Try.results142, go_sem, z0, z1, z2]) rfl ⟨by rw [E.out], ?_⟩
                    exact below_set (below_set (below_set HB7.out (by have := HB.out; omega)) (by have := HB.out; omega)) (by have := HB.out; omega)
                · by_cases sb : b.n < 0
                  · have da : decide (a.n < 0) = false := by simp; omega
                    have db : decide (b.n < 0) = true := by simp; omega
                    have E : Kp (plus a b = (⟨2, N, ⟨#[]⟩⟩, 0)) := put (by have := HN.out; have := HAR.out; have := HBR.out; unfold InR at *; rw [HP4.out, if_pos (by unfold fits; simp; omega), show N = a.n + b.n by omega])
                    obtain ⟨a0, a1, a2⟩ := v_cells H0.out
                    obtain ⟨b0, b1, b2⟩ := v_cells H1.out
                    obtain ⟨z0, z1, z2⟩ := v_cells H2.out
                    obtain ⟨n0, n1, n2⟩ := v_cells H3.out
                    obtain ⟨f0, f1, f2⟩ := v_fr H2.out
                    clear H0 H1 H3
                    go_wp2_with fail
                    refine (numberV _ _).mono ?_
                    rintro e w7 ⟨rfl, hb7⟩
                    have H7 := put ((hb7.block _ (Array.getElem?_eq_some_iff.1 H2.out).1).trans H2.out)
                    have HB7 := put (HB6.out.trans (hb7.mono HB6.out.size))
                    clear hb7 f0 f1 f2 z0 z1 z2
                    obtain ⟨z0, z1, z2⟩ := v_cells H7.out
                    obtain ⟨f0, f1, f2⟩ := v_fr H7.out
                    go_wp2_with fail
                    refine bodyPost_ret (v := .tuple #[.agg #[.int .i64 2, .int .i64 N, .string { data := #[] }], .int .i64 0]) (by simp [results, Try.results142, go_sem, z0, z1, z2]) rfl ⟨by rw [E.out], ?_⟩
                    exact below_set (below_set (below_set HB7.out (by have := HB.out; omega)) (by have := HB.out; omega)) (by have := HB.out; omega)
                  · have da : decide (a.n < 0) = false := by simp; omega
                    have db : decide (b.n < 0) = false := by simp; omega
                    by_cases sn : N < 0
                    · have sd : decide (N < 0) = true := by simp; omega
                      have se : decide (0 ≤ N) = false := by simp; omega
                      have E : Kp (plus a b = (nullV, 7)) := put (by rw [HP4.out, if_neg (by have := HN.out; have := HAR.out; have := HBR.out; unfold InR at *; unfold fits; simp; omega)])
                      obtain ⟨a0, a1, a2⟩ := v_cells H0.out
                      obtain ⟨b0, b1, b2⟩ := v_cells H1.out
                      obtain ⟨z0, z1, z2⟩ := v_cells H2.out
                      obtain ⟨n0, n1, n2⟩ := v_cells H3.out
                      obtain ⟨f0, f1, f2⟩ := v_fr H2.out
                      clear H0 H1 H2 H3
                      go_wp2_with fail
                      refine bodyPost_ret (v := .tuple #[.agg #[.int .i64 0, .int .i64 0, .string { data := #[] }], .int .i64 7]) (by simp [results, Try.results142, go_sem, z0, z1, z2]) rfl ⟨by rw [E.out]; rfl, ?_⟩
                      exact below_set (below_set (below_set HB6.out (by have := HB.out; omega)) (by have := HB.out; omega)) (by have := HB.out; omega)
                    · have sd : decide (N < 0) = false := by simp; omega
                      have se : decide (0 ≤ N) = true := by simp; omega
                      have E : Kp (plus a b = (⟨2, N, ⟨#[]⟩⟩, 0)) := put (by have := HN.out; have := HAR.out; have := HBR.out; unfold InR at *; rw [HP4.out, if_pos (by unfold fits; simp; omega), show N = a.n + b.n by omega])
                      obtain ⟨a0, a1, a2⟩ := v_cells H0.out
                      obtain ⟨b0, b1, b2⟩ := v_cells H1.out
                      obtain ⟨z0, z1, z2⟩ := v_cells H2.out
                      obtain ⟨n0, n1, n2⟩ := v_cells H3.out
                      obtain ⟨f0, f1, f2⟩ := v_fr H2.out
                      clear H0 H1 H3
                      go_wp2_with fail
                      refine (numberV _ _).mono ?_
                      rintro e w7 ⟨rfl, hb7⟩
                      have H7 := put ((hb7.block _ (Array.getElem?_eq_some_iff.1 H2.out).1).trans H2.out)
                      have HB7 := put (HB6.out.trans (hb7.mono HB6.out.size))
                      clear hb7 f0 f1 f2 z0 z1 z2
                      obtain ⟨z0, z1, z2⟩ := v_cells H7.out
                      obtain ⟨f0, f1, f2⟩ := v_fr H7.out
                      go_wp2_with fail
                      refine bodyPost_ret (v := .tuple #[.agg #[.int .i64 2, .int .i64 N, .string { data := #[] }], .int .i64 0]) (by simp [results, Try.results142, go_sem, z0, z1, z2]) rfl ⟨by rw [E.out], ?_⟩
                      exact below_set (below_set (below_set HB7.out (by have := HB.out; omega)) (by have := HB.out; omega)) (by have := HB.out; omega)

              · have n4 : (b.kind != 2) = true := by simp [b2']
                have E : Kp (plus a b = (nullV, 4)) := put (by rw [HP3.out, if_pos (Or.inr b2')])
                clear a2 b2'
                obtain ⟨a0, a1, a2⟩ := v_cells H0.out
                obtain ⟨b0, b1, b2⟩ := v_cells H1.out
                obtain ⟨z0, z1, z2⟩ := v_cells H2.out
                obtain ⟨n0, n1, n2⟩ := v_cells H3.out
                obtain ⟨f0, f1, f2⟩ := v_fr H2.out
                clear H0 H1 H2 H3
                go_wp2_with fail
                refine bodyPost_ret (v := .tuple #[.agg #[.int .i64 0, .int .i64 0, .string { data := #[] }], .int .i64 4]) (by simp [results, Try.results142, go_sem, z0, z1, z2]) rfl ⟨by rw [E.out]; rfl, ?_⟩
                exact below_set (below_set (below_set HB6.out (by have := HB.out; omega)) (by have := HB.out; omega)) (by have := HB.out; omega)

            · have n3 : (a.kind != 2) = true := by simp [a2]
              have E : Kp (plus a b = (nullV, 4)) := put (by rw [HP3.out, if_pos (Or.inl a2)])
              clear a2
              obtain ⟨a0, a1, a2⟩ := v_cells H0.out
              obtain ⟨b0, b1, b2⟩ := v_cells H1.out
              obtain ⟨z0, z1, z2⟩ := v_cells H2.out
              obtain ⟨n0, n1, n2⟩ := v_cells H3.out
              obtain ⟨f0, f1, f2⟩ := v_fr H2.out
              clear H0 H1 H2 H3
              go_wp2_with fail
              refine bodyPost_ret (v := .tuple #[.agg #[.int .i64 0, .int .i64 0, .string { data := #[] }], .int .i64 4]) (by simp [results, Try.results142, go_sem, z0, z1, z2]) rfl ⟨by rw [E.out]; rfl, ?_⟩
              exact below_set (below_set (below_set HB6.out (by have := HB.out; omega)) (by have := HB.out; omega)) (by have := HB.out; omega)

end Go.Proofs.Ytkfoknjflpklpaa.P
