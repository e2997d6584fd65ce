/- The walk of the law ReportCounts. -/
import Derived.Test.YtkfoknjflpklpaaPAwakeW
import Derived.Test.YtkfoknjflpklpaaPCnt
import Derived.Test.YtkfoknjflpklpaaPGreat
namespace Go.Proofs.Ytkfoknjflpklpaa.P
open Go Go.RowKit Go.Sort Go.Proofs.Ytkfoknjflpklpaa.Mem Go.Proofs.Ytkfoknjflpklpaa.Cmp Go.Proofs.Ytkfoknjflpklpaa.D

theorem lastV_get {r : List Val} {q n : Nat} (h : r.length - n = q) (hq : q < r.length) : r[q] = lastV n r := by
  unfold lastV; rw [h, List.getD_eq_getElem?_getD, List.getElem?_eq_getElem hq]; rfl
theorem spR_lit {ok : Nat → Prop} {w : World} {s : Spc} {v0 v2 : Value} {b : Nat} {k1 c1 k2 c2 : Int} (hs : s.sums = [⟨k1, c1⟩, ⟨k2, c2⟩]) (h : w.heap[b]? = some (.cells #[.int .i64 k1, .int .i64 c1, .int .i64 k2, .int .i64 c2] 102 (0, 0))) (hb : ok b) (h0 : Sl (tInt .i64) ok w v0 s.cols) (h2 : Sl tKey ok w v2 s.order) (l0 : s.cols.length ≤ 1000) (l2 : s.order.length ≤ 1000) : SpR ok w s v0 (.slice (some ⟨b, 0, none⟩) 2 2) v2 := by
  refine ⟨h0, ?_, h2, l0, by rw [hs]; simp, l2⟩
  rw [hs]
  exact Sl.lit (d := tSmm) (xs := [⟨k1, c1⟩, ⟨k2, c2⟩]) [[.int .i64 k1, .int .i64 c1], [.int .i64 k2, .int .i64 c2]] h ⟨rfl, rfl, trivial⟩ hb (by simp)
theorem fine_cnt {rows : List (List Val)} {cols : List Int} {col : Int} (h : fine rows (cntS cols col) = true) : ∀ r ∈ rows, 0 ≤ col ∧ col < (r.length : Int) := by
  intro r hr
  have := (fine_facts h).2.2 ⟨2, col⟩ (by simp [cntS]) (by simp) r hr
  simpa [inC] using this
theorem cntKnown_snoc (rows : List (List Val)) (col : Int) (r : List Val) : cntKnown (rows ++ [r]) col = cntKnown rows col + (if (atV r col).kind = 0 then 0 else 1) := by
  unfold cntKnown
  rw [List.filter_append, List.length_append]
  by_cases h : (atV r col).kind = 0 <;> simp [h]

set_option maxHeartbeats 16000000 in
set_option maxRecDepth 100000 in
/-- The loops behind Make. -/
theorem reportCountsCalls (ok : Nat → Prop) (v vb : Value) (rows : List (List Val)) (cols : List Int) (col : Int) (w : World) (h : Sl tRow ok w v rows) (hb : Sl (tInt .i64) ok w vb cols) (hin : ∀ r ∈ rows, ∀ y ∈ r, InR y.n) :
    Calls Try.prog 11 #[v, vb, .int .i64 col] w fun e w' => e = .returned (.bool true) ∧ Below w.heap.size w w' := by
  obtain ⟨A, c, rfl, _, _, k3⟩ := h.shape
  obtain ⟨A0, c0, rfl, _, _, k03⟩ := hb.shape
  have K03 := put k03
  have HROWS := put h
  have HCOLS := put hb
  have HIN := put hin
  clear h hb hin k03
  go_enter Try.func11, Try.ntmps11
  go_wp2_with fail
  refine (awakeCalls28 _).mono ?_
  rintro e w1 ⟨rfl, hb1⟩
  have HB1 := put hb1
  clear hb1
  go_wp2_with fail
  have HB3 : Kp (∀ o o', Below w.heap.size w ((w1.alloc o).alloc o')) := put (fun o o' => balloc (balloc HB1.out o) o')
  refine (greatCalls ok _ A0 (some ⟨w1.heap.size, 0, none⟩) none c0 2 0 cols.length 2 0 _ rows _ (HROWS.out.below (HB3.out _ _)) K03.out (by decide) (by decide)).mono ?_
  rintro e w4 ⟨⟨b, rfl, hg⟩, hb4⟩
  obtain ⟨w3, hw3⟩ : ∃ w3, w3 = (w1.alloc (.cells #[.int .i64 1, .int .i64 (-1), .int .i64 2, .int .i64 col] 102)).alloc (.cells #[.slice A0 cols.length c0, .slice (some ⟨w1.heap.size, 0, none⟩) 2 2, .slice none 0 0, .int .i64 (-1)] 82) := ⟨_, rfl⟩
  have hsp3 : w3.heap[w1.heap.size + 1]? = some (.cells #[.slice A0 cols.length c0, .slice (some ⟨w1.heap.size, 0, none⟩) 2 2, .slice none 0 0, .int .i64 (-1)] 82 (0, 0)) := by rw [hw3, hag, if_pos (by simp)]
  have hsm3 : w3.heap[w1.heap.size]? = some (.cells #[.int .i64 1, .int .i64 (-1), .int .i64 2, .int .i64 col] 102 (0, 0)) := by rw [hw3, hag, if_neg (by simp), hag, if_pos rfl]
  have hB3 : Below w.heap.size w w3 := by rw [hw3]; exact HB3.out _ _
  rw [← hw3] at hb4
  clear hw3 HB3
  have hl3 := fun k o (hk : w3.heap[k]? = some o) => (hb4.block k (Array.getElem?_eq_some_iff.1 hk).1).trans hk
  have HB4 : Kp (Below w.heap.size w w4) := put (hB3.trans (hb4.mono hB3.size))
  obtain ⟨s0, s1, s2, s3⟩ := s_cells (hl3 _ _ hsp3)
  have HSM := put (hl3 _ _ hsm3)
  have HSP := put (hl3 _ _ hsp3)
  have HG := put hg
  clear hl3 hsp3 hsm3 hB3 hb4 hg
  cases b with
  | true =>
    go_wp2_with fail
    go_ret
    exact ⟨rfl, HB4.out⟩
  | false =>
    obtain ⟨g1, ⟨g2, _, _⟩, g4⟩ := HG.out rfl
    have HM := put (makeCalls ok (fun _ => True) _ _ _ _ rows (cntS cols col) w4 (HROWS.out.below HB4.out) (spR_lit (v0 := .slice A0 cols.length c0) (v2 := .slice none 0 0) (s := cntS cols col) rfl HSM.out trivial ((HCOLS.out.below HB4.out).mono (fun _ _ => trivial)) (Sl.nil _ _ _) (by show cols.length ≤ 1000; omega) (by simp [cntS])) (by omega) (fun r hr => by have := g4 r hr; omega) (by show cols.length + 2 ≤ 1000; omega) HIN.out)
    have GL := put g1
    have G4 := put g4
    clear g1 g2 g4 HG
    go_wp2_with fail
    refine HM.out.mono ?_
    rintro e w5 ⟨vo, rfl, hso, hb5⟩
    have HB5 : Kp (Below w.heap.size w w5) := put (HB4.out.trans (hb5.mono HB4.out.size))
    clear hb5 s0 s1 s2 s3 HSM HSP HM
    rw [make_cnt] at hso ⊢
    cases hf : fine rows (cntS cols col) with
    | false =>
      rw [hf, if_pos rfl] at hso
      obtain ⟨Av, cv, rfl, k1, k2, _⟩ := hso.shape
      clear hso hf
      go_wp2_with fail
      go_ret
      exact ⟨rfl, HB5.out⟩
    | true =>
      rw [hf, if_neg (by decide)] at hso
      have HF := put hf
      have hbd := cnt_bounds (rows := rows) (cols := cols) (col := col) (by have := GL.out; omega)
      have h2s := sum_two rows cols col
      have h1s := sum_one rows cols col
      have hLl : ((glOf rows (cntS cols col)).map (cntRow rows cols col)).length ≤ 61 := by rw [List.length_map]; have := glOf_len rows (cntS cols col); have := GL.out; omega
      clear hf
      dsimp only at hso ⊢
      generalize (glOf rows (cntS cols col)).map (cntRow rows cols col) = L at *
      obtain ⟨Av, cv, rfl, k1, k2, _⟩ := hso.shape
      have HSO : Kp (Sl tRow (fun _ => True) w5 (.slice Av L.length cv) L) := put ((tRowU_sl hso).mono (fun _ _ => trivial))
      have HBD := put hbd
      have H2S := put h2s
      have H1S := put h1s
      obtain ⟨m, hm⟩ : ∃ m, m = L.length := ⟨_, rfl⟩
      rw [← hm] at hLl HSO k1 ⊢
      have HML := put hm
      clear hso hbd h2s h1s hm
      go_wp2_with fail
      go_loopg [10, 11, 45] m (fun kx s10 s11 s45 wr => ∃ (i : Nat) (a b : Int), s10 = .int .i64 a ∧ s11 = .int .i64 b ∧ s45 = .int .i64 i ∧ i ≤ m ∧ m - i ≤ kx ∧ (0 ≤ a ∧ a ≤ 1000 * (i : Int)) ∧ (0 ≤ b ∧ b ≤ 1000 * (i : Int)) ∧ Kp (a = sumN 2 (L.take i)) ∧ Kp (b = sumN 1 (L.take i)) ∧ Kp (wr = w5))
      case atStart => exact ⟨0, 0, 0, rfl, rfl, rfl, Nat.zero_le _, Nat.le_refl _, by omega, by omega, put (by simp [sumN]), put (by simp [sumN]), put rfl⟩
      case round =>
        obtain ⟨i, a, b, rfl, rfl, rfl, hi, hkx, ⟨ha0, ha1⟩, ⟨hb0, hb1⟩, HA, HBB, HW⟩ := hrel
        have hw := HW.out
        subst hw
        by_cases hlt : i < m
        · have hlz : (i : Int) < (m : Int) := by omega
          have i0 : (0 : Int) ≤ (i : Int) := by omega
          obtain ⟨ad, r, A1, d1, rfl, hr, x0, hsr⟩ := rows_get HSO.out.row.1 i (by rw [← HML.out]; exact hlt)
          obtain ⟨r2, ⟨ra0, ra1⟩, ⟨rb0, rb1⟩⟩ := HBD.out r (List.mem_of_getElem? hr)
          have r3 := hsr.row.2.2.2.2.1
          obtain ⟨q, hq⟩ : ∃ q, q = r.length - 2 := ⟨_, rfl⟩
          have q2 : q < r.length := by omega
          have q1 : q + 1 < r.length := by omega
          obtain ⟨bd, rfl, y0, y1, y2⟩ := vals_get hsr.row.1 q q2
          obtain ⟨bd', e', z0, z1, z2⟩ := vals_get hsr.row.1 (q + 1) q1
          obtain rfl : bd = bd' := by simpa using e'
          have hx2 : r[q] = lastV 2 r := lastV_get (n := 2) hq.symm q2
          have hx1 : r[q + 1] = lastV 1 r := lastV_get (n := 1) (by omega) q1
          generalize r[q] = x2 at *
          generalize r[q + 1] = x1 at *
          have f2 : (r.length : Int) - 2 = (q : Int) := by omega
          have f1 : (r.length : Int) - 1 = ((q + 1 : Nat) : Int) := by omega
          have q0 : (0 : Int) ≤ (q : Int) := by omega
          have q2z : (q : Int) < (r.length : Int) := by omega
          have q10 : (0 : Int) ≤ ((q + 1 : Nat) : Int) := by omega
          have q1z : ((q + 1 : Nat) : Int) < (r.length : Int) := by omega
          have HT : Kp (L.take (i + 1) = L.take i ++ [r]) := put (take_one hr)
          rw [← hx2] at ra0 ra1
          rw [← hx1] at rb0 rb1
          have HX2 := put hx2
          have HX1 := put hx1
          have b61 : (i : Int) ≤ 61 := by omega
          clear hr hsr hq q2 q1 r2 hx2 hx1
          go_wp2_with fail
          go_roundg (m - (i + 1))
          case measure => omega
          case rel =>
            refine ⟨i + 1, a + x2.n, b + x1.n, by go_num, by go_num, by go_num, by omega, Nat.le_refl _, ?_, ?_, put ?_, put ?_, put rfl⟩
            · push_cast; omega
            · push_cast; omega
            · rw [HT.out, sumN_snoc, ← HA.out, HX2.out]
            · rw [HT.out, sumN_snoc, ← HBB.out, HX1.out]
        · have hlz : ¬ (i : Int) < (m : Int) := by omega
          obtain rfl : i = m := by omega
          have hA := HA.out
          have hBB := HBB.out
          rw [List.take_of_length_le (by rw [HML.out]; exact Nat.le_refl _)] at hA hBB
          have HA' := put (hA.trans H2S.out)
          have HB' := put (hBB.trans H1S.out)
          clear hA hBB HA HBB HBD H2S H1S HSO
          obtain ⟨M, hM⟩ : ∃ M, M = rows.length := ⟨_, rfl⟩
          rw [← hM] at HROWS HA' GL k3 ⊢
          have HMM := put hM
          have hM60 := GL.out
          clear hM
          go_wp2_with fail
          go_loopg [14, 70] M (fun kx s14 s70 wi => ∃ (i2 j : Nat), s14 = .int .i64 j ∧ s70 = .int .i64 i2 ∧ i2 ≤ M ∧ M - i2 ≤ kx ∧ j ≤ i2 ∧ Kp (j = cntKnown (rows.take i2) col) ∧ Kp (Below w.heap.size w wi))
          case atStart => exact ⟨0, 0, rfl, rfl, Nat.zero_le _, Nat.le_refl _, Nat.le_refl _, put (by simp [cntKnown]), put HB5.out⟩
          case round =>
            obtain ⟨i2, j, rfl, rfl, hi2, hkx2, hj, HJ, HWI⟩ := hrel
            by_cases hlt2 : i2 < M
            · have hlz2 : (i2 : Int) < (M : Int) := by omega
              have i20 : (0 : Int) ≤ (i2 : Int) := by omega
              obtain ⟨ad, r, A1, d1, rfl, hr, x0, hsr⟩ := rows_get (HROWS.out.below HWI.out).row.1 i2 (by rw [← HMM.out]; exact hlt2)
              obtain ⟨c0', c1'⟩ := fine_cnt HF.out r (List.mem_of_getElem? hr)
              obtain ⟨p, rfl⟩ : ∃ p : Nat, col = p := ⟨col.toNat, by omega⟩
              have p1 : p < r.length := by omega
              have p0 : (0 : Int) ≤ (p : Int) := by omega
              have p1z : (p : Int) < (r.length : Int) := by omega
              obtain ⟨bd, rfl, y0, y1, y2⟩ := vals_get hsr.row.1 p p1
              have r3 := hsr.row.2.2.2.2.1
              have EA : atV r p = r[p] := by unfold atV; rw [if_pos ⟨by omega, by omega⟩, Int.toNat_natCast, List.getD_eq_getElem?_getD, List.getElem?_eq_getElem p1]; rfl
              have HT : Kp (cntKnown (rows.take (i2 + 1)) p = cntKnown (rows.take i2) p + (if (atV r p).kind = 0 then 0 else 1)) := put (by rw [take_one hr, cntKnown_snoc])
              rw [EA] at HT
              generalize r[p] = x at *
              clear hr hsr EA c0' c1' r3
              by_cases hk : x.kind = 0
              · have hkz : (x.kind != 0) = false := by simp [hk]
                rw [if_pos hk] at HT
                clear hk
                go_wp2_with fail
                go_roundg (M - (i2 + 1))
                case measure => omega
                case rel => exact ⟨i2 + 1, j, rfl, by go_num, by omega, Nat.le_refl _, by omega, put (by have h1 := HT.out; have h2 := HJ.out; omega), HWI⟩
              · have hkz : (x.kind != 0) = true := by simp [hk]
                rw [if_neg hk] at HT
                clear hk
                go_wp2_with fail
                go_roundg (M - (i2 + 1))
                case measure => omega
                case rel => exact ⟨i2 + 1, j + 1, by go_num, by go_num, by omega, Nat.le_refl _, by omega, put (by have h1 := HT.out; have h2 := HJ.out; omega), HWI⟩
            · have hlz2 : ¬ (i2 : Int) < (M : Int) := by omega
              obtain rfl : i2 = M := by omega
              have hJ := HJ.out
              rw [List.take_of_length_le (by rw [HMM.out]; exact Nat.le_refl _)] at hJ
              have hz1 : (a == (i2 : Int)) = true := by rw [HA'.out]; simp
              have hz2 : (b == (j : Int)) = true := by rw [HB'.out, hJ]; simp
              clear hJ
              go_wp2_with fail
              go_ret
              exact ⟨rfl, HWI.out⟩
end Go.Proofs.Ytkfoknjflpklpaa.P
