/- The sums of a group: report.total, (Sum).of. -/
import Derived.Test.YtkfoknjflpklpaaPSums
namespace Go.Proofs.Ytkfoknjflpklpaa.P
open Go Go.RowKit Go.Sort Go.Proofs.Ytkfoknjflpklpaa.Mem Go.Proofs.Ytkfoknjflpklpaa.Cmp Go.Proofs.Ytkfoknjflpklpaa.D

/-- How a sum ends: the value, or the error. -/
def totE (r : Val × Int) : Ending := if r.2 = 0 then .returned (.agg #[.int .i64 r.1.kind, .int .i64 r.1.n, .string r.1.s]) else stopE r.2
theorem plus_in (a b : Val) : InR (plus a b).1.n := by
  unfold plus
  split
  · exact ⟨by decide, by decide⟩
  · split
    · exact ⟨by decide, by decide⟩
    · split
      · split
        · exact ⟨by decide, by decide⟩
        · show InR 0
          exact ⟨by decide, by decide⟩
      · split
        · exact ⟨by decide, by decide⟩
        · split
          · rename_i h
            unfold fits at h
            simp only [Bool.and_eq_true, decide_eq_true_eq] at h
            exact h
          · exact ⟨by decide, by decide⟩
theorem zero_in (v : Val) : InR (zeroOf v).n := by unfold zeroOf; split <;> exact ⟨by decide, by decide⟩

set_option maxHeartbeats 8000000 in
set_option maxRecDepth 100000 in
theorem totalCalls (ok : Nat → Prop) (A : Option Addr) (c : Nat) (v : Val) (l : List Val) (w : World) (h : Row tVal ok w A (v :: l)) (hl : l.length ≤ 1000) (hin : ∀ x ∈ v :: l, InR x.n) :
    Calls Try.prog 128 #[.slice A (v :: l).length c] w fun e w' => e = totE (totalR (v :: l)) ∧ Below w.heap.size w w' := by
  have HX := put h
  have HL := put hl
  have HIN := put hin
  obtain ⟨ad, rfl, x0, _, _⟩ := vals_get h 0 (by simp)
  simp only [List.getElem_cons_zero, Nat.zero_mul, add_zero] at x0
  obtain ⟨n, hn⟩ : ∃ n, n = (v :: l).length := ⟨_, rfl⟩
  have hn1 : n = l.length + 1 := by rw [hn]; simp
  rw [← hn]
  have HN := put hn1
  have hnz : ((n : Int) == 0) = false := by simp; omega
  have hnq : (0 : Int) < (n : Int) := by omega
  have hn9 : n ≤ 1001 := by omega
  have X0 := put x0
  clear h hl hn hn1 hin x0
  go_enter Try.func128, Try.ntmps128
  go_wp2_with fail
  refine (numberR 0 _).mono ?_
  rintro e w5 ⟨rfl, hb5⟩
  have hr5 : w5.heap[w.heap.size]? = some (.cells #[.int .i64 0, .int .i64 0, .string { data := #[] }] 55 (0, 0)) := (hb5.block w.heap.size (by simp)).trans (heap_alloc_new w _)
  have hbw5 : Below w.heap.size w w5 := (balloc (Below.refl _ _) _).trans (hb5.mono (by simp))
  have HR5 := put hr5
  have HB5 := put hbw5
  clear hb5 hr5 hbw5
  obtain ⟨R, hRe⟩ : ∃ R, R = w.heap.size := ⟨_, rfl⟩
  rw [← hRe] at HR5 ⊢
  have HRB : Kp (w.heap.size ≤ R) := put (by omega)
  have hRl : R < w5.heap.size := (Array.getElem?_eq_some_iff.1 HR5.out).1
  clear hRe
  have x0 : ∀ o, (w5.alloc o).cell? ad = some (.int .i64 v.kind) := fun o => (((HB5.out.trans ((balloc (Below.refl _ w5) o).mono HB5.out.size)).cell (World.block_lt_of_cell? w ad X0.out))).trans X0.out
  by_cases hk3 : v.kind = 3
  · have k3 : (v.kind == 3) = true := by simp [hk3]
    have HZ : Kp (zeroOf v = ⟨3, 0, ⟨#[]⟩⟩) := put (by unfold zeroOf; rw [if_pos hk3])
    clear hk3
    go_wp2_with fail
    obtain ⟨w6, hw6⟩ : ∃ w6, w6 = w5.alloc (.cells #[.int .i64 3, .int .i64 0, .string { data := #[] }] 55) := ⟨_, rfl⟩
    have hK : w6.heap[w5.heap.size]? = some (.cells #[.int .i64 (zeroOf v).kind, .int .i64 (zeroOf v).n, .string (zeroOf v).s] 55 (0, 0)) := by rw [hw6, HZ.out]; exact heap_alloc_new _ _
    have hR6 : w6.heap[R]? = some (.cells #[.int .i64 0, .int .i64 0, .string { data := #[] }] 55 (0, 0)) := by rw [hw6]; exact (Below.heap_alloc _ _ _ hRl).trans HR5.out
    have hB6 : Below w.heap.size w w6 := by rw [hw6]; exact HB5.out.trans ((balloc (Below.refl _ w5) _).mono HB5.out.size)
    rw [← hw6]
    clear hw6 x0
    obtain ⟨K, hKe⟩ : ∃ K, K = w5.heap.size := ⟨_, rfl⟩
    rw [← hKe] at hK ⊢
    have HKB : Kp (w.heap.size ≤ K) := put (by have := HB5.out.size; omega)
    have hRK : R ≠ K := by omega
    have HRK := put hRK
    have hKR : K ≠ R := by omega
    have HK6 := put hK
    have HR6 := put hR6
    have HB6 := put hB6
    clear hK hR6 hB6 hKe hRl
    go_loopg [20] n (fun kx s20 wr => ∃ (i : Nat) (sm : Val), s20 = .int .i64 i ∧ i ≤ n ∧ n - i ≤ kx ∧ Kp (totalF (zeroOf v) (v :: l) = totalF sm ((v :: l).drop i)) ∧ Kp (InR sm.n) ∧ Kp (wr.heap[K]? = some (.cells #[.int .i64 sm.kind, .int .i64 sm.n, .string sm.s] 55 (0, 0))) ∧ Kp (wr.heap[R]? = some (.cells #[.int .i64 0, .int .i64 0, .string { data := #[] }] 55 (0, 0))) ∧ Kp (Below w.heap.size w wr))
    case atStart => exact ⟨0, zeroOf v, rfl, Nat.zero_le _, Nat.le_refl _, put rfl, put (zero_in v), HK6, HR6, HB6⟩
    case round =>
      rename World => wr
      obtain ⟨i, sm, rfl, hi, hkx, HT, HSI, HK, HRR, KB⟩ := hrel
      by_cases hlt : i < n
      · have hlz : (i : Int) < (n : Int) := by omega
        have i0 : (0 : Int) ≤ (i : Int) := by omega
        have hix : i < (v :: l).length := by have := HN.out; simp; omega
        obtain ⟨ad2, e2, y0, y1, y2⟩ := vals_get (Row.move HX.out (fun k _ hk => KB.out.block k hk)) i hix
        obtain rfl : ad = ad2 := by injection e2
        obtain ⟨x, hx⟩ : ∃ x, x = (v :: l)[i] := ⟨_, rfl⟩
        rw [← hx] at y0 y1 y2
        have HD : Kp ((v :: l).drop i = x :: (v :: l).drop (i + 1)) := put (by rw [hx]; exact List.drop_eq_getElem_cons hix)
        have HXI : Kp (InR x.n) := put (HIN.out x (by rw [hx]; exact List.getElem_mem _))
        have hKl : K < wr.heap.size := (Array.getElem?_eq_some_iff.1 HK.out).1
        have hKw : (wr.alloc (.cells #[.int .i64 x.kind, .int .i64 x.n, .string x.s] 55)).heap[K]? = some (.cells #[.int .i64 sm.kind, .int .i64 sm.n, .string sm.s] 55 (0, 0)) := (Below.heap_alloc _ _ _ hKl).trans HK.out
        obtain ⟨k0, k1, k2⟩ := v_cells hKw
        clear e2 hx hix hKl hKw
        go_wp2_with fail
        refine (plusCalls sm x HSI.out HXI.out _).mono ?_
        rintro e w7 ⟨rfl, hb7⟩
        have hbA : Below wr.heap.size wr w7 := (balloc (Below.refl _ wr) _).trans (hb7.mono (by simp))
        have hK7 := (hbA.block K (Array.getElem?_eq_some_iff.1 HK.out).1).trans HK.out
        have hR7 := (hbA.block R (Array.getElem?_eq_some_iff.1 HRR.out).1).trans HRR.out
        have HBW := put (KB.out.trans (hbA.mono KB.out.size))
        have HPI := put (plus_in sm x)
        obtain ⟨pv, hpv⟩ : ∃ pv, pv = plus sm x := ⟨_, rfl⟩
        rw [← hpv] at HPI ⊢
        have HPV := put hpv
        obtain ⟨f0, f1, f2⟩ := v_fr hK7
        obtain ⟨q0, q1, q2⟩ := v_cells hK7
        have HK8 := put (v_stored hK7 (.int .i64 pv.1.kind) (.int .i64 pv.1.n) (.string pv.1.s))
        have HR8 : Kp ((((w7.setCell ⟨K, 0, none⟩ (.int .i64 pv.1.kind)).setCell ⟨K, 1, none⟩ (.int .i64 pv.1.n)).setCell ⟨K, 2, none⟩ (.string pv.1.s)).heap[R]? = some (.cells #[.int .i64 0, .int .i64 0, .string { data := #[] }] 55 (0, 0))) := put ((Below.heap_setCell _ ⟨K, 2, none⟩ _ R HRK.out).trans ((Below.heap_setCell _ ⟨K, 1, none⟩ _ R HRK.out).trans ((Below.heap_setCell _ ⟨K, 0, none⟩ _ R HRK.out).trans hR7)))
        have HB8 : Kp (Below w.heap.size w (((w7.setCell ⟨K, 0, none⟩ (.int .i64 pv.1.kind)).setCell ⟨K, 1, none⟩ (.int .i64 pv.1.n)).setCell ⟨K, 2, none⟩ (.string pv.1.s))) := put (below_set (below_set (below_set HBW.out HKB.out) HKB.out) HKB.out)
        clear hb7 hbA hK7 hR7 hpv y0 y1 y2 k0 k1 k2
        go_wp2_with fail
        by_cases he : pv.2 = 0
        · have HT2 : Kp (totalF (zeroOf v) (v :: l) = totalF pv.1 ((v :: l).drop (i + 1))) := put (by rw [HT.out, HD.out, totalF, ← HPV.out, if_pos he])
          rw [he]
          clear he
          refine (checkNone _).mono ?_
          rintro e w9 ⟨rfl, rfl⟩
          go_wp2_with fail
          go_roundg (n - (i + 1))
          case measure => omega
          case rel => exact ⟨i + 1, pv.1, by go_num, by omega, Nat.le_refl _, HT2, HPI, HK8, HR8, HB8⟩
        · have HT2 : Kp (totalF (zeroOf v) (v :: l) = (nullV, pv.2)) := put (by rw [HT.out, HD.out, totalF, ← HPV.out, if_neg he])
          have HE := put he
          refine (checkSome _ _ he).mono ?_
          rintro e w9 ⟨rfl, rfl⟩
          exact ⟨rfl, by rw [show totalR (v :: l) = (nullV, pv.2) from HT2.out, totE, if_neg HE.out]; rfl, HB8.out⟩
      · have hlz : ¬ (i : Int) < (n : Int) := by omega
        have HT2 : Kp (totalF (zeroOf v) (v :: l) = (sm, 0)) := put (by rw [HT.out, List.drop_of_length_le (by have := HN.out; simp; omega)]; rfl)
        obtain ⟨k0, k1, k2⟩ := v_cells HK.out
        obtain ⟨r0, r1, r2⟩ := v_cells HRR.out
        obtain ⟨f0, f1, f2⟩ := v_fr HRR.out
        have hR8 := v_stored HRR.out (.int .i64 sm.kind) (.int .i64 sm.n) (.string sm.s)
        obtain ⟨s0, s1, s2⟩ := v_cells hR8
        go_wp2_with fail
        refine bodyPost_ret (v := .agg #[.int .i64 sm.kind, .int .i64 sm.n, .string sm.s]) (by simp [results, Try.results128, go_sem, s0, s1, s2]) rfl ⟨by rw [show totalR (v :: l) = (sm, 0) from HT2.out]; rfl, below_set (below_set (below_set KB.out HRB.out) HRB.out) HRB.out⟩
  · have k3 : (v.kind == 3) = false := by simp [hk3]
    have HZ : Kp (zeroOf v = ⟨2, 0, ⟨#[]⟩⟩) := put (by unfold zeroOf; rw [if_neg hk3])
    clear hk3
    go_wp2_with fail
    obtain ⟨w6, hw6⟩ : ∃ w6, w6 = w5.alloc (.cells #[.int .i64 2, .int .i64 0, .string { data := #[] }] 55) := ⟨_, rfl⟩
    have hK : w6.heap[w5.heap.size]? = some (.cells #[.int .i64 (zeroOf v).kind, .int .i64 (zeroOf v).n, .string (zeroOf v).s] 55 (0, 0)) := by rw [hw6, HZ.out]; exact heap_alloc_new _ _
    have hR6 : w6.heap[R]? = some (.cells #[.int .i64 0, .int .i64 0, .string { data := #[] }] 55 (0, 0)) := by rw [hw6]; exact (Below.heap_alloc _ _ _ hRl).trans HR5.out
    have hB6 : Below w.heap.size w w6 := by rw [hw6]; exact HB5.out.trans ((balloc (Below.refl _ w5) _).mono HB5.out.size)
    rw [← hw6]
    clear hw6 x0
    obtain ⟨K, hKe⟩ : ∃ K, K = w5.heap.size := ⟨_, rfl⟩
    rw [← hKe] at hK ⊢
    have HKB : Kp (w.heap.size ≤ K) := put (by have := HB5.out.size; omega)
    have hRK : R ≠ K := by omega
    have HRK := put hRK
    have hKR : K ≠ R := by omega
    have HK6 := put hK
    have HR6 := put hR6
    have HB6 := put hB6
    clear hK hR6 hB6 hKe hRl
    go_loopg [20] n (fun kx s20 wr => ∃ (i : Nat) (sm : Val), s20 = .int .i64 i ∧ i ≤ n ∧ n - i ≤ kx ∧ Kp (totalF (zeroOf v) (v :: l) = totalF sm ((v :: l).drop i)) ∧ Kp (InR sm.n) ∧ Kp (wr.heap[K]? = some (.cells #[.int .i64 sm.kind, .int .i64 sm.n, .string sm.s] 55 (0, 0))) ∧ Kp (wr.heap[R]? = some (.cells #[.int .i64 0, .int .i64 0, .string { data := #[] }] 55 (0, 0))) ∧ Kp (Below w.heap.size w wr))
    case atStart => exact ⟨0, zeroOf v, rfl, Nat.zero_le _, Nat.le_refl _, put rfl, put (zero_in v), HK6, HR6, HB6⟩
    case round =>
      rename World => wr
      obtain ⟨i, sm, rfl, hi, hkx, HT, HSI, HK, HRR, KB⟩ := hrel
      by_cases hlt : i < n
      · have hlz : (i : Int) < (n : Int) := by omega
        have i0 : (0 : Int) ≤ (i : Int) := by omega
        have hix : i < (v :: l).length := by have := HN.out; simp; omega
        obtain ⟨ad2, e2, y0, y1, y2⟩ := vals_get (Row.move HX.out (fun k _ hk => KB.out.block k hk)) i hix
        obtain rfl : ad = ad2 := by injection e2
        obtain ⟨x, hx⟩ : ∃ x, x = (v :: l)[i] := ⟨_, rfl⟩
        rw [← hx] at y0 y1 y2
        have HD : Kp ((v :: l).drop i = x :: (v :: l).drop (i + 1)) := put (by rw [hx]; exact List.drop_eq_getElem_cons hix)
        have HXI : Kp (InR x.n) := put (HIN.out x (by rw [hx]; exact List.getElem_mem _))
        have hKl : K < wr.heap.size := (Array.getElem?_eq_some_iff.1 HK.out).1
        have hKw : (wr.alloc (.cells #[.int .i64 x.kind, .int .i64 x.n, .string x.s] 55)).heap[K]? = some (.cells #[.int .i64 sm.kind, .int .i64 sm.n, .string sm.s] 55 (0, 0)) := (Below.heap_alloc _ _ _ hKl).trans HK.out
        obtain ⟨k0, k1, k2⟩ := v_cells hKw
        clear e2 hx hix hKl hKw
        go_wp2_with fail
        refine (plusCalls sm x HSI.out HXI.out _).mono ?_
        rintro e w7 ⟨rfl, hb7⟩
        have hbA : Below wr.heap.size wr w7 := (balloc (Below.refl _ wr) _).trans (hb7.mono (by simp))
        have hK7 := (hbA.block K (Array.getElem?_eq_some_iff.1 HK.out).1).trans HK.out
        have hR7 := (hbA.block R (Array.getElem?_eq_some_iff.1 HRR.out).1).trans HRR.out
        have HBW := put (KB.out.trans (hbA.mono KB.out.size))
        have HPI := put (plus_in sm x)
        obtain ⟨pv, hpv⟩ : ∃ pv, pv = plus sm x := ⟨_, rfl⟩
        rw [← hpv] at HPI ⊢
        have HPV := put hpv
        obtain ⟨f0, f1, f2⟩ := v_fr hK7
        obtain ⟨q0, q1, q2⟩ := v_cells hK7
        have HK8 := put (v_stored hK7 (.int .i64 pv.1.kind) (.int .i64 pv.1.n) (.string pv.1.s))
        have HR8 : Kp ((((w7.setCell ⟨K, 0, none⟩ (.int .i64 pv.1.kind)).setCell ⟨K, 1, none⟩ (.int .i64 pv.1.n)).setCell ⟨K, 2, none⟩ (.string pv.1.s)).heap[R]? = some (.cells #[.int .i64 0, .int .i64 0, .string { data := #[] }] 55 (0, 0))) := put ((Below.heap_setCell _ ⟨K, 2, none⟩ _ R HRK.out).trans ((Below.heap_setCell _ ⟨K, 1, none⟩ _ R HRK.out).trans ((Below.heap_setCell _ ⟨K, 0, none⟩ _ R HRK.out).trans hR7)))
        have HB8 : Kp (Below w.heap.size w (((w7.setCell ⟨K, 0, none⟩ (.int .i64 pv.1.kind)).setCell ⟨K, 1, none⟩ (.int .i64 pv.1.n)).setCell ⟨K, 2, none⟩ (.string pv.1.s))) := put (below_set (below_set (below_set HBW.out HKB.out) HKB.out) HKB.out)
        clear hb7 hbA hK7 hR7 hpv y0 y1 y2 k0 k1 k2
        go_wp2_with fail
        by_cases he : pv.2 = 0
        · have HT2 : Kp (totalF (zeroOf v) (v :: l) = totalF pv.1 ((v :: l).drop (i + 1))) := put (by rw [HT.out, HD.out, totalF, ← HPV.out, if_pos he])
          rw [he]
          clear he
          refine (checkNone _).mono ?_
          rintro e w9 ⟨rfl, rfl⟩
          go_wp2_with fail
          go_roundg (n - (i + 1))
          case measure => omega
          case rel => exact ⟨i + 1, pv.1, by go_num, by omega, Nat.le_refl _, HT2, HPI, HK8, HR8, HB8⟩
        · have HT2 : Kp (totalF (zeroOf v) (v :: l) = (nullV, pv.2)) := put (by rw [HT.out, HD.out, totalF, ← HPV.out, if_neg he])
          have HE := put he
          refine (checkSome _ _ he).mono ?_
          rintro e w9 ⟨rfl, rfl⟩
          exact ⟨rfl, by rw [show totalR (v :: l) = (nullV, pv.2) from HT2.out, totE, if_neg HE.out]; rfl, HB8.out⟩
      · have hlz : ¬ (i : Int) < (n : Int) := by omega
        have HT2 : Kp (totalF (zeroOf v) (v :: l) = (sm, 0)) := put (by rw [HT.out, List.drop_of_length_le (by have := HN.out; simp; omega)]; rfl)
        obtain ⟨k0, k1, k2⟩ := v_cells HK.out
        obtain ⟨r0, r1, r2⟩ := v_cells HRR.out
        obtain ⟨f0, f1, f2⟩ := v_fr HRR.out
        have hR8 := v_stored HRR.out (.int .i64 sm.kind) (.int .i64 sm.n) (.string sm.s)
        obtain ⟨s0, s1, s2⟩ := v_cells hR8
        go_wp2_with fail
        refine bodyPost_ret (v := .agg #[.int .i64 sm.kind, .int .i64 sm.n, .string sm.s]) (by simp [results, Try.results128, go_sem, s0, s1, s2]) rfl ⟨by rw [show totalR (v :: l) = (sm, 0) from HT2.out]; rfl, below_set (below_set (below_set KB.out HRB.out) HRB.out) HRB.out⟩

set_option maxHeartbeats 8000000 in
set_option maxRecDepth 100000 in
theorem ofCalls (ok okg : Nat → Prop) (v : Value) (A2 : Option Addr) (c2 : Nat) (rows : List (List Val)) (g : List Nat) (x : Smm) (w : World) (h : Sl tRow ok w v rows) (hg : Row (tInt .i64) okg w A2 (nats g)) (hgl : g.length ≤ 1000) (hgr : ∀ i ∈ g, i < rows.length) (hk : 1 ≤ x.kind ∧ x.kind ≤ 5) (hc : x.kind ≠ 1 → g ≠ [] → ∃ j : Nat, x.col = j ∧ ∀ r ∈ rows, j < r.length ∧ r.length ≤ 1000) (hin : ∀ r ∈ rows, ∀ y ∈ r, InR y.n) :
    Calls Try.prog 102 #[.agg #[.int .i64 x.kind, .int .i64 x.col], v, .slice A2 g.length c2] w fun e w' => e = totE (sumR rows g x) ∧ Below w.heap.size w w' := by
  have HS := put h
  have HG := put (And.intro hg (And.intro hgl hgr))
  have HC := put hc
  have HIN := put hin
  have HK := put hk
  obtain ⟨A, c, rfl, _, _, _⟩ := h.shape
  clear h hg hgr hc hin hk
  go_enter Try.func102, Try.ntmps102
  obtain ⟨w1, hw1⟩ : ∃ w1, w1 = (w.alloc (.cells #[.int .i64 x.kind, .int .i64 x.col] 102)).alloc (.cells #[.int .i64 0, .int .i64 0, .string { data := #[] }] 55) := ⟨_, rfl⟩
  have hb0 : w1.heap[w.heap.size]? = some (.cells #[.int .i64 x.kind, .int .i64 x.col] 102 (0, 0)) := by rw [hw1, hag, if_neg (by simp), hag, if_pos rfl]
  have hr0 : w1.heap[w.heap.size + 1]? = some (.cells #[.int .i64 0, .int .i64 0, .string { data := #[] }] 55 (0, 0)) := by rw [hw1, hag, if_pos (by simp)]
  have hb1 : Below w.heap.size w w1 := by rw [hw1]; exact balloc (balloc (Below.refl _ _) _) _
  by_cases h1 : x.kind = 1
  · have k1 : (x.kind == 1) = true := by simp [h1]
    have E : Kp (sumR rows g x = (numV g.length, 0)) := put (by unfold sumR; rw [if_pos h1])
    have HB1 := put hb1
    have HR0 := put hr0
    clear h1 hb0
    go_wp2_with fail
    rw [← hw1]
    clear hw1 hb1 hr0
    obtain ⟨R, hRe⟩ : ∃ R, R = w.heap.size + 1 := ⟨_, rfl⟩
    rw [← hRe] at HR0 ⊢
    have HRB : Kp (w.heap.size ≤ R) := put (by omega)
    clear hRe
    refine (numberR _ _).mono ?_
    rintro e w7 ⟨rfl, hb7⟩
    have HRW := put ((hb7.block R (Array.getElem?_eq_some_iff.1 HR0.out).1).trans HR0.out)
    have HB7 := put (HB1.out.trans (hb7.mono HB1.out.size))
    clear hb7
    have HRR := put ((Array.getElem?_eq_some_iff.1 HR0.out).1)
    clear HRR
    obtain ⟨r0, r1, r2⟩ := v_cells HRW.out
    obtain ⟨f0, f1, f2⟩ := v_fr HRW.out
    have hR8 := v_stored HRW.out (.int .i64 2) (.int .i64 (g.length : Int)) (.string { data := #[] })
    obtain ⟨s0, s1, s2⟩ := v_cells hR8
    go_wp2_with fail
    refine bodyPost_ret (v := .agg #[.int .i64 2, .int .i64 (g.length : Int), .string { data := #[] }]) (by simp [results, Try.results102, go_sem, s0, s1, s2]) rfl ⟨by rw [E.out]; rfl, below_set (below_set (below_set HB7.out HRB.out) HRB.out) HRB.out⟩
  · have k1 : (x.kind == 1) = false := by simp [h1]
    have HCC := put (HC.out h1)
    have HB1 := put hb1
    have HR0 := put hr0
    have HB0 := put hb0
    have HS1 := put (HS.out.below hb1)
    have HG1 := put (Row.move HG.out.1 (fun k _ hk => hb1.block k hk))
    have H1 := put h1
    clear h1 hr0 hb0
    go_wp2_with fail
    rw [← hw1]
    clear hw1 hb1
    obtain ⟨B, hBe⟩ : ∃ B, B = w.heap.size := ⟨_, rfl⟩
    rw [← hBe] at HB0 HR0 ⊢
    obtain ⟨R, hRe⟩ : ∃ R, R = B + 1 := ⟨_, rfl⟩
    rw [← hRe] at HR0 ⊢
    have HRB : Kp (w.heap.size ≤ R) := put (by omega)
    clear hRe hBe
    refine (knownCalls _ _ _ A2 c2 rows g x.col _ HS1.out HG1.out HG.out.2.1 HG.out.2.2 HCC.out).mono ?_
    rintro e w5 ⟨vo, rfl, ho5, hb5⟩
    have HR5 := put ((hb5.block R (Array.getElem?_eq_some_iff.1 HR0.out).1).trans HR0.out)
    have hB5 := (hb5.block B (Array.getElem?_eq_some_iff.1 HB0.out).1).trans HB0.out
    have HB5 := put (HB1.out.trans (hb5.mono HB1.out.size))
    obtain ⟨b0, b1⟩ := k_cells hB5
    have hkl : (knownR rows g x.col).length ≤ 1000 := by
      unfold knownR
      refine Nat.le_trans (List.length_filter_le _ _) ?_
      rw [List.length_map]; exact HG.out.2.1
    have HKI : Kp (∀ y ∈ knownR rows g x.col, InR y.n) := put (fun y hy => by
      obtain ⟨i, hi, rfl⟩ := List.mem_map.1 (List.mem_filter.1 hy).1
      have hir := HG.out.2.2 i hi
      have hr : rows[i]? = some rows[i] := List.getElem?_eq_getElem hir
      obtain ⟨j, ej, hC2⟩ := HCC.out (List.ne_nil_of_mem hi)
      have hjr := (hC2 _ (List.getElem_mem hir)).1
      rw [ej, cell_eq hr (List.getElem?_eq_getElem hjr)]
      exact HIN.out _ (List.getElem_mem hir) _ (List.getElem_mem hjr))
    have HSK : Kp (Sl tVal (fun _ => True) w5 vo (knownR rows g x.col)) := put (ho5.sl (fun _ _ => trivial) (fun _ _ => trivial) (by omega))
    have HSU : Kp (sumR rows g x = if x.kind = 2 then (numV (knownR rows g x.col).length, 0) else match knownR rows g x.col with
      | [] => (nullV, 0)
      | v :: l => if x.kind = 4 then (minF v l, 0) else if x.kind = 5 then (maxF v l, 0) else totalR (v :: l)) := put (by unfold sumR; rw [if_neg H1.out]; rfl)
    clear ho5 hb5 hB5
    generalize knownR rows g x.col = ks at *
    obtain ⟨Ak, ck, rfl, _, _, _⟩ := HSK.out.shape
    by_cases h2 : x.kind = 2
    · have k2 : (x.kind == 2) = true := by simp [h2]
      have E : Kp (sumR rows g x = (numV ks.length, 0)) := put (by rw [HSU.out, if_pos h2])
      clear h2
      go_wp2_with fail
      refine (numberR _ _).mono ?_
      rintro e w7 ⟨rfl, hb7⟩
      have HRW := put ((hb7.block R (Array.getElem?_eq_some_iff.1 HR5.out).1).trans HR5.out)
      have HB7 := put (HB5.out.trans (hb7.mono HB5.out.size))
      clear hb7
      have HRR := put ((Array.getElem?_eq_some_iff.1 HR0.out).1)
      clear HRR
      obtain ⟨r0, r1, r2⟩ := v_cells HRW.out
      obtain ⟨f0, f1, f2⟩ := v_fr HRW.out
      have hR8 := v_stored HRW.out (.int .i64 2) (.int .i64 (ks.length : Int)) (.string { data := #[] })
      obtain ⟨s0, s1, s2⟩ := v_cells hR8
      go_wp2_with fail
      refine bodyPost_ret (v := .agg #[.int .i64 2, .int .i64 (ks.length : Int), .string { data := #[] }]) (by simp [results, Try.results102, go_sem, s0, s1, s2]) rfl ⟨by rw [E.out]; rfl, below_set (below_set (below_set HB7.out HRB.out) HRB.out) HRB.out⟩
    · have k2 : (x.kind == 2) = false := by simp [h2]
      have HSU2 := put (HSU.out.trans (if_neg h2))
      cases ks with
      | nil =>
        have E : Kp (sumR rows g x = (nullV, 0)) := put HSU2.out
        have HRW := HR5
        have kz : (((([] : List Val).length : Nat) : Int) == 0) = true := rfl
        clear h2
        simp only [List.length_nil]
        have HRR := put ((Array.getElem?_eq_some_iff.1 HR0.out).1)
        clear HRR
        obtain ⟨r0, r1, r2⟩ := v_cells HRW.out
        obtain ⟨f0, f1, f2⟩ := v_fr HRW.out
        have hR8 := v_stored HRW.out (.int .i64 0) (.int .i64 0) (.string { data := #[] })
        obtain ⟨s0, s1, s2⟩ := v_cells hR8
        go_wp2_with fail
        refine bodyPost_ret (v := .agg #[.int .i64 0, .int .i64 0, .string { data := #[] }]) (by simp [results, Try.results102, go_sem, s0, s1, s2]) rfl ⟨by rw [E.out]; rfl, below_set (below_set (below_set HB5.out HRB.out) HRB.out) HRB.out⟩
      | cons y l =>
        have kz : ((((y :: l).length : Nat) : Int) == 0) = false := by simp; omega
        have hll : l.length ≤ 1000 := by simp at hkl; omega
        have HLL := put hll
        by_cases h4 : x.kind = 4
        · have k4 : (x.kind == 4) = true := by simp [h4]
          have E : Kp (sumR rows g x = (minF y l, 0)) := put (by rw [HSU2.out]; simp only []; rw [if_pos h4])
          clear h2 h4
          go_wp2_with fail
          refine (minCalls _ Ak ck y l _ HSK.out.row.1 HLL.out).mono ?_
          rintro e w7 ⟨rfl, hb7⟩
          have HRW := put ((hb7.block R (Array.getElem?_eq_some_iff.1 HR5.out).1).trans HR5.out)
          have HB7 := put (HB5.out.trans (hb7.mono HB5.out.size))
          clear hb7
          have HRR := put ((Array.getElem?_eq_some_iff.1 HR0.out).1)
          clear HRR
          obtain ⟨r0, r1, r2⟩ := v_cells HRW.out
          obtain ⟨f0, f1, f2⟩ := v_fr HRW.out
          have hR8 := v_stored HRW.out (.int .i64 (minF y l).kind) (.int .i64 (minF y l).n) (.string (minF y l).s)
          obtain ⟨s0, s1, s2⟩ := v_cells hR8
          go_wp2_with fail
          refine bodyPost_ret (v := .agg #[.int .i64 (minF y l).kind, .int .i64 (minF y l).n, .string (minF y l).s]) (by simp [results, Try.results102, go_sem, s0, s1, s2]) rfl ⟨by rw [E.out]; rfl, below_set (below_set (below_set HB7.out HRB.out) HRB.out) HRB.out⟩
        · have k4 : (x.kind == 4) = false := by simp [h4]
          by_cases h5 : x.kind = 5
          · have k5 : (x.kind == 5) = true := by simp [h5]
            have E : Kp (sumR rows g x = (maxF y l, 0)) := put (by rw [HSU2.out]; simp only []; rw [if_neg h4, if_pos h5])
            clear h2 h4 h5
            go_wp2_with fail
            refine (maxCalls _ Ak ck y l _ HSK.out.row.1 HLL.out).mono ?_
            rintro e w7 ⟨rfl, hb7⟩
            have HRW := put ((hb7.block R (Array.getElem?_eq_some_iff.1 HR5.out).1).trans HR5.out)
            have HB7 := put (HB5.out.trans (hb7.mono HB5.out.size))
            clear hb7
            have HRR := put ((Array.getElem?_eq_some_iff.1 HR0.out).1)
            clear HRR
            obtain ⟨r0, r1, r2⟩ := v_cells HRW.out
            obtain ⟨f0, f1, f2⟩ := v_fr HRW.out
            have hR8 := v_stored HRW.out (.int .i64 (maxF y l).kind) (.int .i64 (maxF y l).n) (.string (maxF y l).s)
            obtain ⟨s0, s1, s2⟩ := v_cells hR8
            go_wp2_with fail
            refine bodyPost_ret (v := .agg #[.int .i64 (maxF y l).kind, .int .i64 (maxF y l).n, .string (maxF y l).s]) (by simp [results, Try.results102, go_sem, s0, s1, s2]) rfl ⟨by rw [E.out]; rfl, below_set (below_set (below_set HB7.out HRB.out) HRB.out) HRB.out⟩
          · have k5 : (x.kind == 5) = false := by simp [h5]
            have E : Kp (sumR rows g x = totalR (y :: l)) := put (by rw [HSU2.out]; simp only []; rw [if_neg h4, if_neg h5])
            clear h2 h4 h5
            go_wp2_with fail
            refine (totalCalls _ Ak ck y l _ HSK.out.row.1 HLL.out HKI.out).mono ?_
            rintro e w7 ⟨rfl, hb7⟩
            have HRW := put ((hb7.block R (Array.getElem?_eq_some_iff.1 HR5.out).1).trans HR5.out)
            have HB7 := put (HB5.out.trans (hb7.mono HB5.out.size))
            clear hb7
            obtain ⟨t, ht⟩ : ∃ t, t = totalR (y :: l) := ⟨_, rfl⟩
            rw [← ht] at E ⊢
            clear ht
            by_cases he : t.2 = 0
            · have HE : Kp (totE t = .returned (.agg #[.int .i64 t.1.kind, .int .i64 t.1.n, .string t.1.s])) := put (by rw [totE, if_pos he])
              rw [HE.out]
              have HRR := put ((Array.getElem?_eq_some_iff.1 HR0.out).1)
              clear HRR
              obtain ⟨r0, r1, r2⟩ := v_cells HRW.out
              obtain ⟨f0, f1, f2⟩ := v_fr HRW.out
              have hR8 := v_stored HRW.out (.int .i64 t.1.kind) (.int .i64 t.1.n) (.string t.1.s)
              obtain ⟨s0, s1, s2⟩ := v_cells hR8
              go_wp2_with fail
              refine bodyPost_ret (v := .agg #[.int .i64 t.1.kind, .int .i64 t.1.n, .string t.1.s]) (by simp [results, Try.results102, go_sem, s0, s1, s2]) rfl ⟨by rw [E.out, HE.out], below_set (below_set (below_set HB7.out HRB.out) HRB.out) HRB.out⟩
            · have HE : Kp (totE t = stopE t.2) := put (by rw [totE, if_neg he])
              rw [HE.out]
              exact ⟨rfl, by rw [E.out, HE.out]; rfl, HB7.out⟩
end Go.Proofs.Ytkfoknjflpklpaa.P
