/- The document's sum of two values. -/
import Derived.Test.YtkfoknjflpklpaaPPlus
namespace Go.Proofs.Ytkfoknjflpklpaa.P
open Go Go.RowKit Go.Sort Go.Proofs.Ytkfoknjflpklpaa.Mem Go.Proofs.Ytkfoknjflpklpaa.Cmp Go.Proofs.Ytkfoknjflpklpaa.D

def plusI (a b : Int) : Int := if fits (a + b) = true then a + b else 0
set_option maxHeartbeats 2000000 in
set_option maxRecDepth 100000 in
theorem refPlusInt (a b : Int) (ha : InR a) (hb : InR b) (w : World) : Calls Try.prog 129 #[.int .i64 a, .int .i64 b] w fun e w' => e = .returned (.tuple #[.int .i64 (plusI a b), .bool (fits (a + b))]) ∧ w' = w := by
  have HAR := put ha
  have HBR := put hb
  clear ha hb
  by_cases b1 : b > 0
  · have h1 : IntKind.i64.wrap (9223372036854775807 - b) = 9223372036854775807 - b := by have := HBR.out; unfold InR at *; rw [IntKind.wrap_i64]; omega
    by_cases a1 : a > 9223372036854775807 - b
    · skip
      have E : Kp (fits (a + b) = false) := put (by have := HAR.out; have := HBR.out; unfold InR at *; unfold fits; simp; omega)
      have E2 : Kp (plusI a b = 0) := put (by unfold plusI; rw [E.out]; rfl)
      go_enter Try.func129, Try.ntmps129
      go_wp2
      refine bodyPost_ret (v := .tuple #[.int .i64 (0), .bool false]) (by simp [results, Try.results129, go_sem]) rfl ⟨by rw [E.out, E2.out], rfl⟩
    · have b2 : ¬ b < 0 := by omega
      have h2 : IntKind.i64.wrap (a + b) = a + b := by have := HAR.out; have := HBR.out; unfold InR at *; rw [IntKind.wrap_i64]; omega
      have E : Kp (fits (a + b) = true) := put (by have := HAR.out; have := HBR.out; unfold InR at *; unfold fits; simp; omega)
      have E2 : Kp (plusI a b = a + b) := put (by unfold plusI; rw [E.out]; rfl)
      go_enter Try.func129, Try.ntmps129
      go_wp2
      refine bodyPost_ret (v := .tuple #[.int .i64 (a + b), .bool true]) (by simp [results, Try.results129, go_sem]) rfl ⟨by rw [E.out, E2.out], rfl⟩
  · by_cases b2 : b < 0
    · have h1 : IntKind.i64.wrap (-9223372036854775808 - b) = -9223372036854775808 - b := by have := HBR.out; unfold InR at *; rw [IntKind.wrap_i64]; omega
      by_cases a1 : a < -9223372036854775808 - b
      · skip
        have E : Kp (fits (a + b) = false) := put (by have := HAR.out; have := HBR.out; unfold InR at *; unfold fits; simp; omega)
        have E2 : Kp (plusI a b = 0) := put (by unfold plusI; rw [E.out]; rfl)
        go_enter Try.func129, Try.ntmps129
        go_wp2
        refine bodyPost_ret (v := .tuple #[.int .i64 (0), .bool false]) (by simp [results, Try.results129, go_sem]) rfl ⟨by rw [E.out, E2.out], rfl⟩
      · have h2 : IntKind.i64.wrap (a + b) = a + b := by have := HAR.out; have := HBR.out; unfold InR at *; rw [IntKind.wrap_i64]; omega
        have E : Kp (fits (a + b) = true) := put (by have := HAR.out; have := HBR.out; unfold InR at *; unfold fits; simp; omega)
        have E2 : Kp (plusI a b = a + b) := put (by unfold plusI; rw [E.out]; rfl)
        go_enter Try.func129, Try.ntmps129
        go_wp2
        refine bodyPost_ret (v := .tuple #[.int .i64 (a + b), .bool true]) (by simp [results, Try.results129, go_sem]) rfl ⟨by rw [E.out, E2.out], rfl⟩
    · have h2 : IntKind.i64.wrap (a + b) = a + b := by have := HAR.out; have := HBR.out; unfold InR at *; rw [IntKind.wrap_i64]; omega
      have E : Kp (fits (a + b) = true) := put (by have := HAR.out; have := HBR.out; unfold InR at *; unfold fits; simp; omega)
      have E2 : Kp (plusI a b = a + b) := put (by unfold plusI; rw [E.out]; rfl)
      go_enter Try.func129, Try.ntmps129
      go_wp2
      refine bodyPost_ret (v := .tuple #[.int .i64 (a + b), .bool true]) (by simp [results, Try.results129, go_sem]) rfl ⟨by rw [E.out, E2.out], rfl⟩


set_option maxHeartbeats 8000000 in
set_option maxRecDepth 100000 in
theorem refPlusCalls (a b : Val) (ha : InR a.n) (hb : InR b.n) (w : World) : Calls Try.prog 104 #[.string { data := #[43] }, .agg #[.int .i64 a.kind, .int .i64 a.n, .string a.s], .agg #[.int .i64 b.kind, .int .i64 b.n, .string b.s]] w fun e w' => e = .returned (.tuple #[.agg #[.int .i64 (plus a b).1.kind, .int .i64 (plus a b).1.n, .string (plus a b).1.s], .int .i64 (plus a b).2]) ∧ Below w.heap.size w w' := by
  have HAR := put ha
  have HBR := put hb
  clear ha hb
  go_enter Try.func104, Try.ntmps104
  go_wp2_with fail
  generalize hw4 : (((w.alloc (.cells #[.int .i64 a.kind, .int .i64 a.n, .string a.s] 55)).alloc (.cells #[.int .i64 b.kind, .int .i64 b.n, .string b.s] 55)).alloc (.cells #[.int .i64 0, .int .i64 0, .string { data := #[] }] 55)).alloc (.cells #[.int .i64 0, .int .i64 0, .string { data := #[] }] 55) = w4
  have h0 : w4.heap[w.heap.size]? = some (.cells #[.int .i64 a.kind, .int .i64 a.n, .string a.s] 55 (0, 0)) := by rw [← hw4]; simp only [hag, alloc_size]; repeat (first | rw [if_pos trivial] | rw [if_pos (by omega)] | rw [if_neg (by omega)])
  have h1 : w4.heap[w.heap.size + 1]? = some (.cells #[.int .i64 b.kind, .int .i64 b.n, .string b.s] 55 (0, 0)) := by rw [← hw4]; simp only [hag, alloc_size]; repeat (first | rw [if_pos trivial] | rw [if_pos (by omega)] | rw [if_neg (by omega)])
  have h2 : w4.heap[w.heap.size + 1 + 1]? = some (.cells #[.int .i64 0, .int .i64 0, .string { data := #[] }] 55 (0, 0)) := by rw [← hw4]; simp only [hag, alloc_size]; repeat (first | rw [if_pos trivial] | rw [if_pos (by omega)] | rw [if_neg (by omega)])
  have h3 : w4.heap[w.heap.size + 1 + 1 + 1]? = some (.cells #[.int .i64 0, .int .i64 0, .string { data := #[] }] 55 (0, 0)) := by rw [← hw4]; simp only [hag, alloc_size]; repeat (first | rw [if_pos trivial] | rw [if_pos (by omega)] | rw [if_neg (by omega)])
  have hb4 : Below w.heap.size w w4 := by rw [← hw4]; exact balloc (balloc (balloc (balloc (Below.refl _ _) _) _) _) _
  clear hw4
  obtain ⟨B, hB⟩ : ∃ B, B = w.heap.size := ⟨_, rfl⟩
  rw [← hB] at h0 h1 h2 h3 ⊢
  have HB := put hB
  have HB4 := put hb4
  have H0 := put h0
  have H1 := put h1
  have H2 := put h2
  have H3 := put h3
  clear hB hb4 h0 h1 h2 h3
  refine (refRightCalls a _).mono ?_
  rintro e w5 ⟨rfl, hg⟩
  have hb5 := grown_below hg
  have HB5 : Kp (Below w.heap.size w w5) := put (HB4.out.trans (hb5.mono HB4.out.size))

  have H0' := put ((hb5.block _ (Array.getElem?_eq_some_iff.1 H0.out).1).trans H0.out)
  have H1' := put ((hb5.block _ (Array.getElem?_eq_some_iff.1 H1.out).1).trans H1.out)
  have H2' := put ((hb5.block _ (Array.getElem?_eq_some_iff.1 H2.out).1).trans H2.out)
  have H3' := put ((hb5.block _ (Array.getElem?_eq_some_iff.1 H3.out).1).trans H3.out)
  clear hg hb5 H0 H1 H2 H3
  cases hra : right a with
  | false =>
    have E : Kp (plus a b = (nullV, 15)) := put (by unfold plus; rw [hra]; rfl)
    have H0 := H0'; have H1 := H1'; have H2 := H2'; have H3 := H3'
    clear H0' H1' H2' H3' hra
    obtain ⟨a0, a1, a2⟩ := v_cells H0.out
    obtain ⟨b0, b1, b2⟩ := v_cells H1.out
    obtain ⟨z0, z1, z2⟩ := v_cells H2.out
    obtain ⟨n0, n1, n2⟩ := v_cells H3.out
    obtain ⟨f0, f1, f2⟩ := v_fr H2.out
    clear H0 H1 H2 H3
    go_wp2_with fail
    refine bodyPost_ret (v := .tuple #[.agg #[.int .i64 0, .int .i64 0, .string { data := #[] }], .int .i64 15]) (by simp [results, Try.results104, go_sem, z0, z1, z2]) rfl ⟨by rw [E.out]; rfl, ?_⟩
    exact below_set (below_set (below_set HB5.out (by have := HB.out; omega)) (by have := HB.out; omega)) (by have := HB.out; omega)

  | true =>
    have HRA := put hra
    clear hra
    obtain ⟨b0, b1, b2⟩ := v_cells H1'.out
    go_wp2_with fail
    refine (refRightCalls b _).mono ?_
    rintro e w6 ⟨rfl, hg⟩
    have hb6 := grown_below hg
    have HB6 : Kp (Below w.heap.size w w6) := put (HB5.out.trans (hb6.mono HB5.out.size))
    have H0 := put ((hb6.block _ (Array.getElem?_eq_some_iff.1 H0'.out).1).trans H0'.out)
    have H1 := put ((hb6.block _ (Array.getElem?_eq_some_iff.1 H1'.out).1).trans H1'.out)
    have H2 := put ((hb6.block _ (Array.getElem?_eq_some_iff.1 H2'.out).1).trans H2'.out)
    have H3 := put ((hb6.block _ (Array.getElem?_eq_some_iff.1 H3'.out).1).trans H3'.out)
    clear hg hb6 H0' H1' H2' H3' b0 b1 b2
    have HRA' := HRA
    cases hrb : right b with
    | false =>
      have E : Kp (plus a b = (nullV, 15)) := put (by unfold plus; rw [HRA.out, hrb]; rfl)
      clear hrb
      obtain ⟨a0, a1, a2⟩ := v_cells H0.out
      obtain ⟨b0, b1, b2⟩ := v_cells H1.out
      obtain ⟨z0, z1, z2⟩ := v_cells H2.out
      obtain ⟨n0, n1, n2⟩ := v_cells H3.out
      obtain ⟨f0, f1, f2⟩ := v_fr H2.out
      clear H0 H1 H2 H3
      go_wp2_with fail
      refine bodyPost_ret (v := .tuple #[.agg #[.int .i64 0, .int .i64 0, .string { data := #[] }], .int .i64 15]) (by simp [results, Try.results104, go_sem, z0, z1, z2]) rfl ⟨by rw [E.out]; rfl, ?_⟩
      exact below_set (below_set (below_set HB6.out (by have := HB.out; omega)) (by have := HB.out; omega)) (by have := HB.out; omega)

    | true =>
      have HP : Kp (plus a b = if a.kind = 0 ∨ b.kind = 0 then (nullV, 0) else if a.kind = 3 ∧ b.kind = 3 then (if a.s.size + b.s.size > 24 then (nullV, 8) else (⟨3, 0, a.s ++ b.s⟩, 0)) else if a.kind ≠ 2 ∨ b.kind ≠ 2 then (nullV, 4) else if fits (a.n + b.n) = true then (⟨2, a.n + b.n, ⟨#[]⟩⟩, 0) else (nullV, 7)) := put (by unfold plus; rw [HRA.out, hrb]; rfl)
      have HRB := put hrb
      clear hrb
      by_cases ka : a.kind = 0
      · have E : Kp (plus a b = (nullV, 0)) := put (by rw [HP.out, if_pos (Or.inl ka)])
        have k1 : (a.kind == 0) = true := by simp [ka]
        clear ka
        obtain ⟨a0, a1, a2⟩ := v_cells H0.out
        obtain ⟨b0, b1, b2⟩ := v_cells H1.out
        obtain ⟨z0, z1, z2⟩ := v_cells H2.out
        obtain ⟨n0, n1, n2⟩ := v_cells H3.out
        obtain ⟨f0, f1, f2⟩ := v_fr H2.out
        clear H0 H1 H2 H3
        go_wp2_with fail
        refine bodyPost_ret (v := .tuple #[.agg #[.int .i64 0, .int .i64 0, .string { data := #[] }], .int .i64 0]) (by simp [results, Try.results104, go_sem, z0, z1, z2]) rfl ⟨by rw [E.out]; rfl, ?_⟩
        exact below_set (below_set (below_set HB6.out (by have := HB.out; omega)) (by have := HB.out; omega)) (by have := HB.out; omega)

      · have k1 : (a.kind == 0) = false := by simp [ka]
        by_cases kb : b.kind = 0
        · have E : Kp (plus a b = (nullV, 0)) := put (by rw [HP.out, if_pos (Or.inr kb)])
          have k2 : (b.kind == 0) = true := by simp [kb]
          clear ka kb
          obtain ⟨a0, a1, a2⟩ := v_cells H0.out
          obtain ⟨b0, b1, b2⟩ := v_cells H1.out
          obtain ⟨z0, z1, z2⟩ := v_cells H2.out
          obtain ⟨n0, n1, n2⟩ := v_cells H3.out
          obtain ⟨f0, f1, f2⟩ := v_fr H2.out
          clear H0 H1 H2 H3
          go_wp2_with fail
          refine bodyPost_ret (v := .tuple #[.agg #[.int .i64 0, .int .i64 0, .string { data := #[] }], .int .i64 0]) (by simp [results, Try.results104, go_sem, z0, z1, z2]) rfl ⟨by rw [E.out]; rfl, ?_⟩
          exact below_set (below_set (below_set HB6.out (by have := HB.out; omega)) (by have := HB.out; omega)) (by have := HB.out; omega)

        · have k2 : (b.kind == 0) = false := by simp [kb]
          have HP2 := put (HP.out.trans (if_neg (fun h => h.elim ka kb)))
          clear ka kb
          by_cases a3 : a.kind = 3
          · have k3 : (a.kind == 3) = true := by simp [a3]
            have n3 : (a.kind != 2) = true := by simp [a3]
            by_cases b3 : b.kind = 3
            · have k4 : (b.kind == 3) = true := by simp [b3]
              have hsa : a.s.size ≤ 24 := by have := HRA.out; simp [right, a3] at this; exact this.2
              have hsb : b.s.size ≤ 24 := by have := HRB.out; simp [right, b3] at this; exact this.2
              have hw : (a.s ++ b.s).size = a.s.size + b.s.size := ByteArray.size_append
              by_cases hsz : a.s.size + b.s.size > 24
              · have E : Kp (plus a b = (nullV, 8)) := put (by rw [HP2.out, if_pos ⟨a3, b3⟩, if_pos hsz])
                have hz : (a.s.size : Int) + (b.s.size : Int) > 24 := by omega
                have hcat : ¬ 9223372036854775807 < a.s.size + b.s.size := by omega
                clear a3 b3 hsa hsb hsz
                obtain ⟨a0, a1, a2⟩ := v_cells H0.out
                obtain ⟨b0, b1, b2⟩ := v_cells H1.out
                obtain ⟨z0, z1, z2⟩ := v_cells H2.out
                obtain ⟨n0, n1, n2⟩ := v_cells H3.out
                obtain ⟨f0, f1, f2⟩ := v_fr H2.out
                clear H0 H1 H2 H3
                go_wp2_with fail
                refine bodyPost_ret (v := .tuple #[.agg #[.int .i64 0, .int .i64 0, .string { data := #[] }], .int .i64 8]) (by simp [results, Try.results104, go_sem, z0, z1, z2]) rfl ⟨by rw [E.out]; rfl, ?_⟩
                exact below_set (below_set (below_set HB6.out (by have := HB.out; omega)) (by have := HB.out; omega)) (by have := HB.out; omega)

              · have E : Kp (plus a b = (⟨3, 0, a.s ++ b.s⟩, 0)) := put (by rw [HP2.out, if_pos ⟨a3, b3⟩, if_neg hsz])
                have hz : ¬ (a.s.size : Int) + (b.s.size : Int) > 24 := by omega
                clear a3 b3 hsa hsb hsz
                obtain ⟨a0, a1, a2⟩ := v_cells H0.out
                obtain ⟨b0, b1, b2⟩ := v_cells H1.out
                obtain ⟨z0, z1, z2⟩ := v_cells H2.out
                obtain ⟨n0, n1, n2⟩ := v_cells H3.out
                obtain ⟨f0, f1, f2⟩ := v_fr H2.out
                clear H0 H1 H2 H3
                go_wp2_with fail
                refine bodyPost_ret (v := .tuple #[.agg #[.int .i64 3, .int .i64 0, .string (a.s ++ b.s)], .int .i64 0]) (by simp [results, Try.results104, go_sem, z0, z1, z2]) rfl ⟨by rw [E.out], ?_⟩
                exact below_set (below_set (below_set HB6.out (by have := HB.out; omega)) (by have := HB.out; omega)) (by have := HB.out; omega)

            · have k4 : (b.kind == 3) = false := by simp [b3]
              have E : Kp (plus a b = (nullV, 4)) := put (by rw [HP2.out, if_neg (fun h => b3 h.2), if_pos (Or.inl (by omega))])
              clear a3 b3
              obtain ⟨a0, a1, a2⟩ := v_cells H0.out
              obtain ⟨b0, b1, b2⟩ := v_cells H1.out
              obtain ⟨z0, z1, z2⟩ := v_cells H2.out
              obtain ⟨n0, n1, n2⟩ := v_cells H3.out
              obtain ⟨f0, f1, f2⟩ := v_fr H2.out
              clear H0 H1 H2 H3
              go_wp2_with fail
              refine bodyPost_ret (v := .tuple #[.agg #[.int .i64 0, .int .i64 0, .string { data := #[] }], .int .i64 4]) (by simp [results, Try.results104, go_sem, z0, z1, z2]) rfl ⟨by rw [E.out]; rfl, ?_⟩
              exact below_set (below_set (below_set HB6.out (by have := HB.out; omega)) (by have := HB.out; omega)) (by have := HB.out; omega)

          · have k3 : (a.kind == 3) = false := by simp [a3]
            have HP3 := put (HP2.out.trans (if_neg (fun h => a3 h.1)))
            clear a3
            by_cases a2 : a.kind = 2
            · have n3 : (a.kind != 2) = false := by simp [a2]
              by_cases b2' : b.kind = 2
              · have n4 : (b.kind != 2) = false := by simp [b2']
                have HP4 := put (HP3.out.trans (if_neg (fun h => h.elim (fun h => h a2) (fun h => h b2'))))
                clear a2 b2'
                obtain ⟨a0, a1, a2⟩ := v_cells H0.out
                obtain ⟨b0, b1, b2⟩ := v_cells H1.out
                obtain ⟨z0, z1, z2⟩ := v_cells H2.out
                obtain ⟨n0, n1, n2⟩ := v_cells H3.out
                obtain ⟨f0, f1, f2⟩ := v_fr H2.out
                clear H0 H1
                go_wp2_with fail
                refine (refPlusInt _ _ HAR.out HBR.out _).mono ?_
                rintro e w7 ⟨rfl, rfl⟩
                cases hf : fits (a.n + b.n) with
                | true =>
                  have E := put (HP4.out.trans (by rw [hf]; rfl : _ = ((⟨2, a.n + b.n, ⟨#[]⟩⟩ : Val), (0 : Int))))
                  have e2 : plusI a.n b.n = a.n + b.n := by unfold plusI; rw [hf]; rfl
                  rw [e2]
                  clear hf e2
                  go_wp2_with fail
                  refine bodyPost_ret (v := .tuple #[.agg #[.int .i64 2, .int .i64 (a.n + b.n), .string { data := #[] }], .int .i64 0]) (by simp [results, Try.results104, go_sem, z0, z1, z2]) rfl ⟨by rw [E.out], ?_⟩
                  exact below_set (below_set (below_set HB6.out (by have := HB.out; omega)) (by have := HB.out; omega)) (by have := HB.out; omega)
                | false =>
                  have E := put (HP4.out.trans (by rw [hf]; rfl : _ = ((nullV, (7 : Int)))))
                  have e2 : plusI a.n b.n = 0 := by unfold plusI; rw [hf]; rfl
                  rw [e2]
                  clear hf e2
                  go_wp2_with fail
                  refine bodyPost_ret (v := .tuple #[.agg #[.int .i64 0, .int .i64 0, .string { data := #[] }], .int .i64 7]) (by simp [results, Try.results104, go_sem, z0, z1, z2]) rfl ⟨by rw [E.out]; rfl, ?_⟩
                  exact below_set (below_set (below_set HB6.out (by have := HB.out; omega)) (by have := HB.out; omega)) (by have := HB.out; omega)
              · have n4 : (b.kind != 2) = true := by simp [b2']
                have E : Kp (plus a b = (nullV, 4)) := put (by rw [HP3.out, if_pos (Or.inr b2')])
                clear a2 b2'
                obtain ⟨a0, a1, a2⟩ := v_cells H0.out
                obtain ⟨b0, b1, b2⟩ := v_cells H1.out
                obtain ⟨z0, z1, z2⟩ := v_cells H2.out
                obtain ⟨n0, n1, n2⟩ := v_cells H3.out
                obtain ⟨f0, f1, f2⟩ := v_fr H2.out
                clear H0 H1 H2 H3
                go_wp2_with fail
                refine bodyPost_ret (v := .tuple #[.agg #[.int .i64 0, .int .i64 0, .string { data := #[] }], .int .i64 4]) (by simp [results, Try.results104, go_sem, z0, z1, z2]) rfl ⟨by rw [E.out]; rfl, ?_⟩
                exact below_set (below_set (below_set HB6.out (by have := HB.out; omega)) (by have := HB.out; omega)) (by have := HB.out; omega)

            · have n3 : (a.kind != 2) = true := by simp [a2]
              have E : Kp (plus a b = (nullV, 4)) := put (by rw [HP3.out, if_pos (Or.inl a2)])
              clear a2
              obtain ⟨a0, a1, a2⟩ := v_cells H0.out
              obtain ⟨b0, b1, b2⟩ := v_cells H1.out
              obtain ⟨z0, z1, z2⟩ := v_cells H2.out
              obtain ⟨n0, n1, n2⟩ := v_cells H3.out
              obtain ⟨f0, f1, f2⟩ := v_fr H2.out
              clear H0 H1 H2 H3
              go_wp2_with fail
              refine bodyPost_ret (v := .tuple #[.agg #[.int .i64 0, .int .i64 0, .string { data := #[] }], .int .i64 4]) (by simp [results, Try.results104, go_sem, z0, z1, z2]) rfl ⟨by rw [E.out]; rfl, ?_⟩
              exact below_set (below_set (below_set HB6.out (by have := HB.out; omega)) (by have := HB.out; omega)) (by have := HB.out; omega)

end Go.Proofs.Ytkfoknjflpklpaa.P
