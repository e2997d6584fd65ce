/- tripwireref28.wrong. -/
import Derived.Test.YtkfoknjflpklpaaPCheck
import Derived.Test.YtkfoknjflpklpaaPSums
namespace Go.Proofs.Ytkfoknjflpklpaa.P
open Go Go.RowKit Go.Sort Go.Proofs.Ytkfoknjflpklpaa.Mem Go.Proofs.Ytkfoknjflpklpaa.Cmp Go.Proofs.Ytkfoknjflpklpaa.D

set_option maxHeartbeats 16000000 in
set_option maxRecDepth 100000 in
theorem wrongCalls (ok okr : Nat → Prop) (v0 v1 v2 v : Value) (rows : List (List Val)) (s : Spc) (w : World) (hs : SpR okr w s v0 v1 v2) (h : Sl tRow ok w v rows) (hl : rows.length ≤ 1000) (hb : ∀ r ∈ rows, r.length ≤ 1000) :
    Calls Try.prog 72 #[v, .agg #[v0, v1, v2, .int .i64 s.limit]] w fun e w' => e = .returned (.bool (!fine rows s)) ∧ G w w' := by
  obtain ⟨A0, c0, rfl, p0, _, _⟩ := hs.cols.shape
  obtain ⟨A1, c1, rfl, p1, _, _⟩ := hs.sums.shape
  obtain ⟨A2, c2, rfl, p2, _, _⟩ := hs.order.shape
  obtain ⟨A, c, rfl, p3, _, _⟩ := h.shape
  have HSP := put hs
  have HS := put h
  have HL := put (And.intro hl hb)
  obtain ⟨n1, hn1⟩ : ∃ n, n = s.sums.length := ⟨_, rfl⟩
  obtain ⟨n3, hn3⟩ : ∃ n, n = s.cols.length := ⟨_, rfl⟩
  obtain ⟨n5, hn5⟩ : ∃ n, n = s.order.length := ⟨_, rfl⟩
  obtain ⟨m, hm⟩ : ∃ n, n = rows.length := ⟨_, rfl⟩
  have q1 : n1 ≤ 1000 := by rw [hn1]; exact hs.l1
  have q3 : n3 ≤ 1000 := by rw [hn3]; exact hs.l0
  have q5 : n5 ≤ 1000 := by rw [hn5]; exact hs.l2
  have q4 : m ≤ 1000 := by rw [hm]; exact hl
  have HN1 := put hn1
  have HN3 := put hn3
  have HN5 := put hn5
  have HM := put hm
  rw [← hn1, ← hn3, ← hn5, ← hm]
  rw [← hn1] at p1
  rw [← hn3] at p0
  rw [← hn5] at p2
  rw [← hm] at p3
  clear hs h hl hb hn1 hn3 hn5 hm
  go_enter Try.func72, Try.ntmps72
  go_wp2_with fail
  obtain ⟨w1, hw1⟩ : ∃ w1, w1 = w.alloc (.cells #[.slice A0 n3 c0, .slice A1 n1 c1, .slice A2 n5 c2, .int .i64 s.limit] 93) := ⟨_, rfl⟩
  have hb1 : w1.heap[w.heap.size]? = some (.cells #[.slice A0 n3 c0, .slice A1 n1 c1, .slice A2 n5 c2, .int .i64 s.limit] 93 (0, 0)) := by rw [hw1]; exact heap_alloc_new _ _
  have hg1 : G w w1 := by rw [hw1]; exact (G.refl w).alloc _
  rw [← hw1]
  have HB0 := put hb1
  have HG1 := put hg1
  have HSP := put (HSP.out.below hg1.below)
  have HS := put (HS.out.below hg1.below)
  clear hw1 hb1 hg1
  obtain ⟨B, hB⟩ : ∃ B, B = w.heap.size := ⟨_, rfl⟩
  rw [← hB] at HB0 ⊢
  clear hB
  go_loopg [5] n1 (fun kx s5 wr => ∃ (i : Nat), s5 = .int .i64 i ∧ i ≤ n1 ∧ n1 - i ≤ kx ∧ Kp (∀ y ∈ (s.sums).take i, (decide (1 ≤ y.kind) && decide (y.kind ≤ 5)) = true) ∧ Kp (G w1 wr))
  case atStart => exact ⟨0, rfl, Nat.zero_le _, Nat.le_refl _, put (fun y hy => by simp at hy), put (G.refl _)⟩
  case round =>
    obtain ⟨i, rfl, hi, hkx, HP, KG⟩ := hrel
    obtain ⟨d0, d1, d2, d3⟩ := s_cells (G.heap KG.out HB0.out)
    by_cases hlt : i < n1
    · have hlz : (i : Int) < (n1 : Int) := by omega
      have i0 : (0 : Int) ≤ (i : Int) := by omega
      obtain ⟨ad, x, rfl, hx, x0, x1⟩ := sums_get ((HSP.out.sums.below KG.out.below).row.1) i (by rw [← HN1.out]; exact hlt)
      have KX := put hx
      clear hx
      by_cases a1 : x.kind < 1
      · have E : Kp (fine rows s = false) := put (fine_false_kind (List.mem_of_getElem? KX.out) (by simp; omega))
        go_wp2_with fail
        go_ret
        exact ⟨by rw [E.out]; rfl, HG1.out.trans KG.out⟩
      · by_cases a2 : x.kind > 5
        · have E : Kp (fine rows s = false) := put (fine_false_kind (List.mem_of_getElem? KX.out) (by simp; omega))
          go_wp2_with fail
          go_ret
          exact ⟨by rw [E.out]; rfl, HG1.out.trans KG.out⟩
        · have HIN : Kp ((decide (1 ≤ x.kind) && decide (x.kind ≤ 5)) = true) := put (by simp; omega)
          go_wp2_with fail
          go_roundg (n1 - (i + 1))
          case measure => omega
          case rel => exact ⟨i + 1, by go_num, by omega, Nat.le_refl _, put (fun y hy => by
            rw [take_one KX.out] at hy
            rcases List.mem_append.1 hy with hy | hy
            · exact HP.out y hy
            · rw [List.mem_singleton.1 hy]; exact HIN.out), KG⟩
    · have hlz : ¬ (i : Int) < (n1 : Int) := by omega
      obtain rfl : n1 = i := by omega
      have hh := HP.out
      rw [List.take_of_length_le (by rw [HN1.out]; exact Nat.le_refl _)] at hh
      have H1 := put hh
      have G1 := KG
      clear hh KG HP
      by_cases hm0 : m = 0
      · have hr0 : rows = [] := List.eq_nil_of_length_eq_zero (by rw [← HM.out]; exact hm0)
        subst hr0
        subst hm0
        have E : Kp (fine [] s = true) := put (fine_nil H1.out)
        go_wp2_with fail
        go_ret
        exact ⟨by rw [E.out]; rfl, HG1.out.trans G1.out⟩
      · have hmz : ((m : Int) == 0) = false := by simp; omega
        obtain ⟨ad0, r0, B0, e0, hA, hx, x0, hsr⟩ := rows_get (HS.out.below G1.out.below).row.1 0 (by rw [← HM.out]; omega)
        subst hA
        obtain ⟨rs, HR0⟩ : ∃ rs, Kp (rows = r0 :: rs) := by
          cases rows with
          | nil => simp at hx
          | cons a rs => simp only [List.getElem?_cons_zero, Option.some.injEq] at hx; subst hx; exact ⟨rs, put rfl⟩
        obtain ⟨p, hp⟩ : ∃ p, p = r0.length := ⟨_, rfl⟩
        rw [← hp] at x0
        have HP0 := put hp
        have hp1 : p ≤ 1000 := by rw [hp]; exact HL.out.2 r0 (List.mem_of_getElem? hx)
        rw [add_zero] at x0
        have m0 : (0 : Int) < (m : Int) := by omega
        clear hsr hx hp hm0
        go_wp2_with fail
        clear hmz x0 m0 d0 d1 d2 d3
        go_loopg [7] m (fun kx s7 wr => ∃ (i : Nat), s7 = .int .i64 i ∧ i ≤ m ∧ m - i ≤ kx ∧ Kp (∀ y ∈ rows.take i, (decide (y.length = r0.length) && y.all right) = true) ∧ Kp (G w1 wr))
        case atStart => exact ⟨0, rfl, Nat.zero_le _, Nat.le_refl _, put (fun y hy => by simp at hy), G1⟩
        case round =>
          obtain ⟨i, rfl, hi, hkx, HP, KG⟩ := hrel
          by_cases hlt : i < m
          · have hlz : (i : Int) < (m : Int) := by omega
            have i0 : (0 : Int) ≤ (i : Int) := by omega
            obtain ⟨ad, r, B1, e1, hA, hx, x0, hsr⟩ := rows_get (HS.out.below KG.out.below).row.1 i (by rw [← HM.out]; exact hlt)
            obtain rfl : ad0 = ad := by simpa using hA
            clear hA
            have KX := put hx
            have X0 := put x0
            have HSR := put hsr
            obtain ⟨w5, hw5⟩ : ∃ w5, w5 = wr := ⟨_, rfl⟩
            subst hw5
            clear hx hsr
            by_cases hrl : r.length = p
            · have hz : ((r.length : Int) != (p : Int)) = false := by simp; omega
              have x0' := x0
              go_wp2_with fail
              clear hz
              go_loopg [8] p (fun kx s8 wi => ∃ (k : Nat), s8 = .int .i64 k ∧ k ≤ p ∧ p - k ≤ kx ∧ Kp (∀ y ∈ r.take k, right y = true) ∧ Kp (G w1 wi) ∧ Kp (G w5 wi))
              case atStart => exact ⟨0, rfl, Nat.zero_le _, Nat.le_refl _, put (fun y hy => by simp at hy), KG, put (G.refl _)⟩
              case round =>
                obtain ⟨k, rfl, hk, hkx2, HP2, KG2, KG5⟩ := hrel
                have y0' := G.cellOf KG5.out X0.out
                by_cases hlt2 : k < p
                · have hlz2 : (k : Int) < (p : Int) := by omega
                  have k0 : (0 : Int) ≤ (k : Int) := by omega
                  have hkr : k < r.length := by omega
                  have hkz : (k : Int) < (r.length : Int) := by omega
                  obtain ⟨bd, rfl, y0, y1, y2⟩ := vals_get (HSR.out.below KG5.out.below).row.1 k hkr
                  have HX2 : Kp (r[k]? = some r[k]) := put (List.getElem?_eq_getElem hkr)
                  generalize r[k] = y at *
                  go_wp2_with fail
                  refine (refRightCalls y _).mono ?_
                  rintro e w6 ⟨rfl, hg⟩
                  have HG6 : Kp (G w1 w6) := put (KG2.out.trans hg)
                  have HG5 : Kp (G w5 w6) := put (KG5.out.trans hg)
                  clear hg
                  cases hry : right y with
                  | true =>
                    have HRY := put hry
                    clear hry
                    go_wp2_with fail
                    go_roundg (p - (k + 1))
                    case measure => omega
                    case rel => exact ⟨k + 1, by go_num, by omega, Nat.le_refl _, put (fun z hz => by
                      rw [take_one HX2.out] at hz
                      rcases List.mem_append.1 hz with hz | hz
                      · exact HP2.out z hz
                      · rw [List.mem_singleton.1 hz]; exact HRY.out), HG6, HG5⟩
                  | false =>
                    have E : Kp (fine rows s = false) := put (fine_false_row HR0.out (List.mem_of_getElem? KX.out) (by
                      have : r.all right = false := by rw [List.all_eq_false]; exact ⟨y, List.mem_of_getElem? HX2.out, by rw [hry]; simp⟩
                      rw [this]; simp))
                    clear hry
                    go_wp2_with fail
                    go_ret
                    exact ⟨by rw [E.out]; rfl, HG1.out.trans HG6.out⟩
                · have hlz2 : ¬ (k : Int) < (p : Int) := by omega
                  obtain rfl : p = k := by omega
                  have HIN : Kp ((decide (r.length = r0.length) && r.all right) = true) := put (by
                    have h9 := HP2.out
                    rw [List.take_of_length_le (by omega)] at h9
                    rw [Bool.and_eq_true]
                    exact ⟨decide_eq_true (by rw [hrl]; exact HP0.out), List.all_eq_true.2 h9⟩)
                  go_wp2_with fail
                  go_roundg (m - (i + 1))
                  case measure => omega
                  case rel => exact ⟨i + 1, by go_num, by omega, Nat.le_refl _, put (fun y hy => by
                    rw [take_one KX.out] at hy
                    rcases List.mem_append.1 hy with hy | hy
                    · exact HP.out y hy
                    · rw [List.mem_singleton.1 hy]; exact HIN.out), KG2⟩
            · have hz : ((r.length : Int) != (p : Int)) = true := by simp; omega
              have E : Kp (fine rows s = false) := put (fine_false_row HR0.out (List.mem_of_getElem? KX.out) (by rw [decide_eq_false (by rw [← HP0.out]; exact hrl)]; simp))
              go_wp2_with fail
              go_ret
              exact ⟨by rw [E.out]; rfl, HG1.out.trans KG.out⟩
          · have hlz : ¬ (i : Int) < (m : Int) := by omega
            obtain rfl : m = i := by omega
            have hh := HP.out
            rw [List.take_of_length_le (by rw [HM.out]; exact Nat.le_refl _)] at hh
            have HV := put hh
            have G2 := KG
            obtain ⟨d0, d1, d2, d3⟩ := s_cells (G.heap KG.out HB0.out)
            clear hh KG HP
            by_cases hpl : n3 + n1 = 0
            · have hgz : ¬ (n3 : Int) + (n1 : Int) > 0 := by omega
              have HWD : Kp ((s.width p : Int) = (p : Int)) := put (by unfold Spc.width Spc.plain; rw [if_pos (by rw [← HN3.out, ← HN1.out]; simpa using hpl)])
              clear hpl
              go_wp2_with fail
              clear hgz d0 d1 d2 d3
              go_loopg [10] n3 (fun kx s10 wr => ∃ (i : Nat), s10 = .int .i64 i ∧ i ≤ n3 ∧ n3 - i ≤ kx ∧ Kp (∀ y ∈ (s.cols).take i, inC p y = true) ∧ Kp (G w1 wr))
              case atStart => exact ⟨0, rfl, Nat.zero_le _, Nat.le_refl _, put (fun y hy => by simp at hy), G2⟩
              case round =>
                obtain ⟨i, rfl, hi, hkx, HP, KG⟩ := hrel
                obtain ⟨d0, d1, d2, d3⟩ := s_cells (G.heap KG.out HB0.out)
                by_cases hlt : i < n3
                · have hlz : (i : Int) < (n3 : Int) := by omega
                  have i0 : (0 : Int) ≤ (i : Int) := by omega
                  obtain ⟨ad, x, rfl, hx, x0⟩ := ints_get ((HSP.out.cols.below KG.out.below).row.1) i (by rw [← HN3.out]; exact hlt)
                  have KX := put hx
                  clear hx
                  by_cases a1 : x < 0
                  · have E : Kp (fine rows s = false) := put (fine_false_col HR0.out (List.mem_of_getElem? KX.out) (by rw [← HP0.out]; unfold inC; simp; omega))
                    go_wp2_with fail
                    go_ret
                    exact ⟨by rw [E.out]; rfl, HG1.out.trans KG.out⟩
                  · by_cases a2 : x ≥ (p : Int)
                    · have E : Kp (fine rows s = false) := put (fine_false_col HR0.out (List.mem_of_getElem? KX.out) (by rw [← HP0.out]; unfold inC; simp; omega))
                      go_wp2_with fail
                      go_ret
                      exact ⟨by rw [E.out]; rfl, HG1.out.trans KG.out⟩
                    · have HIN : Kp (inC p x = true) := put (by unfold inC; simp; omega)
                      go_wp2_with fail
                      go_roundg (n3 - (i + 1))
                      case measure => omega
                      case rel => exact ⟨i + 1, by go_num, by omega, Nat.le_refl _, put (fun y hy => by
                        rw [take_one KX.out] at hy
                        rcases List.mem_append.1 hy with hy | hy
                        · exact HP.out y hy
                        · rw [List.mem_singleton.1 hy]; exact HIN.out), KG⟩
                · have hlz : ¬ (i : Int) < (n3 : Int) := by omega
                  obtain rfl : n3 = i := by omega
                  have hh := HP.out
                  rw [List.take_of_length_le (by rw [HN3.out]; exact Nat.le_refl _)] at hh
                  have H3 := put hh
                  have G3 := KG
                  clear hh KG HP
                  go_wp2_with fail
                  clear d0 d1 d2 d3
                  go_loopg [11] n1 (fun kx s11 wr => ∃ (i : Nat), s11 = .int .i64 i ∧ i ≤ n1 ∧ n1 - i ≤ kx ∧ Kp (∀ y ∈ (s.sums).take i, (decide (y.kind = 1) || inC p y.col) = true) ∧ Kp (G w1 wr))
                  case atStart => exact ⟨0, rfl, Nat.zero_le _, Nat.le_refl _, put (fun y hy => by simp at hy), G3⟩
                  case round =>
                    obtain ⟨i, rfl, hi, hkx, HP, KG⟩ := hrel
                    obtain ⟨d0, d1, d2, d3⟩ := s_cells (G.heap KG.out HB0.out)
                    by_cases hlt : i < n1
                    · have hlz : (i : Int) < (n1 : Int) := by omega
                      have i0 : (0 : Int) ≤ (i : Int) := by omega
                      obtain ⟨ad, x, rfl, hx, x0, x1⟩ := sums_get ((HSP.out.sums.below KG.out.below).row.1) i (by rw [← HN1.out]; exact hlt)
                      have KX := put hx
                      clear hx
                      by_cases k1 : x.kind = 1
                      · have kz : (x.kind != 1) = false := by simp [k1]
                        have HIN : Kp ((decide (x.kind = 1) || inC p x.col) = true) := put (by simp [k1])
                        clear k1
                        go_wp2_with fail
                        go_roundg (n1 - (i + 1))
                        case measure => omega
                        case rel => exact ⟨i + 1, by go_num, by omega, Nat.le_refl _, put (fun y hy => by
                          rw [take_one KX.out] at hy
                          rcases List.mem_append.1 hy with hy | hy
                          · exact HP.out y hy
                          · rw [List.mem_singleton.1 hy]; exact HIN.out), KG⟩
                      · have kz : (x.kind != 1) = true := by simp [k1]
                        by_cases a1 : x.col < 0
                        · have E : Kp (fine rows s = false) := put (fine_false_sum HR0.out (List.mem_of_getElem? KX.out) k1 (by rw [← HP0.out]; unfold inC; simp; omega))
                          go_wp2_with fail
                          go_ret
                          exact ⟨by rw [E.out]; rfl, HG1.out.trans KG.out⟩
                        · by_cases a2 : x.col ≥ (p : Int)
                          · have E : Kp (fine rows s = false) := put (fine_false_sum HR0.out (List.mem_of_getElem? KX.out) k1 (by rw [← HP0.out]; unfold inC; simp; omega))
                            go_wp2_with fail
                            go_ret
                            exact ⟨by rw [E.out]; rfl, HG1.out.trans KG.out⟩
                          · have HIN : Kp ((decide (x.kind = 1) || inC p x.col) = true) := put (by unfold inC; simp; omega)
                            go_wp2_with fail
                            go_roundg (n1 - (i + 1))
                            case measure => omega
                            case rel => exact ⟨i + 1, by go_num, by omega, Nat.le_refl _, put (fun y hy => by
                              rw [take_one KX.out] at hy
                              rcases List.mem_append.1 hy with hy | hy
                              · exact HP.out y hy
                              · rw [List.mem_singleton.1 hy]; exact HIN.out), KG⟩
                    · have hlz : ¬ (i : Int) < (n1 : Int) := by omega
                      obtain rfl : n1 = i := by omega
                      have hh := HP.out
                      rw [List.take_of_length_le (by rw [HN1.out]; exact Nat.le_refl _)] at hh
                      have H4 := put hh
                      have G4 := KG
                      clear hh KG HP
                      go_wp2_with fail
                      clear d0 d1 d2 d3
                      go_loopg [12] n5 (fun kx s12 wr => ∃ (i : Nat), s12 = .int .i64 i ∧ i ≤ n5 ∧ n5 - i ≤ kx ∧ Kp (∀ y ∈ (s.order).take i, inC (s.width p) y.col = true) ∧ Kp (G w1 wr))
                      case atStart => exact ⟨0, rfl, Nat.zero_le _, Nat.le_refl _, put (fun y hy => by simp at hy), G4⟩
                      case round =>
                        obtain ⟨i, rfl, hi, hkx, HP, KG⟩ := hrel
                        obtain ⟨d0, d1, d2, d3⟩ := s_cells (G.heap KG.out HB0.out)
                        by_cases hlt : i < n5
                        · have hlz : (i : Int) < (n5 : Int) := by omega
                          have i0 : (0 : Int) ≤ (i : Int) := by omega
                          obtain ⟨ad, x, rfl, hx, x0, x1⟩ := keys_get ((HSP.out.order.below KG.out.below).row.1) i (by rw [← HN5.out]; exact hlt)
                          have KX := put hx
                          clear hx
                          by_cases a1 : x.col < 0
                          · have E : Kp (fine rows s = false) := put (fine_false_order HR0.out (List.mem_of_getElem? KX.out) (by rw [← HP0.out]; have := HWD.out; unfold inC; simp; omega))
                            go_wp2_with fail
                            go_ret
                            exact ⟨by rw [E.out]; rfl, HG1.out.trans KG.out⟩
                          · by_cases a2 : x.col ≥ (p : Int)
                            · have E : Kp (fine rows s = false) := put (fine_false_order HR0.out (List.mem_of_getElem? KX.out) (by rw [← HP0.out]; have := HWD.out; unfold inC; simp; omega))
                              go_wp2_with fail
                              go_ret
                              exact ⟨by rw [E.out]; rfl, HG1.out.trans KG.out⟩
                            · have HIN : Kp (inC (s.width p) x.col = true) := put (by have := HWD.out; unfold inC; simp; omega)
                              go_wp2_with fail
                              go_roundg (n5 - (i + 1))
                              case measure => omega
                              case rel => exact ⟨i + 1, by go_num, by omega, Nat.le_refl _, put (fun y hy => by
                                rw [take_one KX.out] at hy
                                rcases List.mem_append.1 hy with hy | hy
                                · exact HP.out y hy
                                · rw [List.mem_singleton.1 hy]; exact HIN.out), KG⟩
                        · have hlz : ¬ (i : Int) < (n5 : Int) := by omega
                          obtain rfl : n5 = i := by omega
                          have hh := HP.out
                          rw [List.take_of_length_le (by rw [HN5.out]; exact Nat.le_refl _)] at hh
                          have H5 := put hh
                          have G5 := KG
                          clear hh KG HP
                          go_wp2_with fail
                          clear d0 d1 d2 d3
                          have E : Kp (fine rows s = true) := put (fine_true HR0.out H1.out (fun y hy => HV.out y hy) (fun y hy => by rw [← HP0.out]; exact H3.out y hy) (fun y hy => by rw [← HP0.out]; exact H4.out y hy) (fun y hy => by rw [← HP0.out]; exact H5.out y hy))
                          go_ret
                          exact ⟨by rw [E.out]; rfl, HG1.out.trans G5.out⟩
            · have hgz : (n3 : Int) + (n1 : Int) > 0 := by omega
              have HWD : Kp ((s.width p : Int) = (n3 : Int) + (n1 : Int)) := put (by unfold Spc.width Spc.plain; rw [if_neg (by rw [← HN3.out, ← HN1.out]; simpa using hpl), ← HN3.out, ← HN1.out]; push_cast; rfl)
              clear hpl
              go_wp2_with fail
              clear hgz d0 d1 d2 d3
              go_loopg [10] n3 (fun kx s10 wr => ∃ (i : Nat), s10 = .int .i64 i ∧ i ≤ n3 ∧ n3 - i ≤ kx ∧ Kp (∀ y ∈ (s.cols).take i, inC p y = true) ∧ Kp (G w1 wr))
              case atStart => exact ⟨0, rfl, Nat.zero_le _, Nat.le_refl _, put (fun y hy => by simp at hy), G2⟩
              case round =>
                obtain ⟨i, rfl, hi, hkx, HP, KG⟩ := hrel
                obtain ⟨d0, d1, d2, d3⟩ := s_cells (G.heap KG.out HB0.out)
                by_cases hlt : i < n3
                · have hlz : (i : Int) < (n3 : Int) := by omega
                  have i0 : (0 : Int) ≤ (i : Int) := by omega
                  obtain ⟨ad, x, rfl, hx, x0⟩ := ints_get ((HSP.out.cols.below KG.out.below).row.1) i (by rw [← HN3.out]; exact hlt)
                  have KX := put hx
                  clear hx
                  by_cases a1 : x < 0
                  · have E : Kp (fine rows s = false) := put (fine_false_col HR0.out (List.mem_of_getElem? KX.out) (by rw [← HP0.out]; unfold inC; simp; omega))
                    go_wp2_with fail
                    go_ret
                    exact ⟨by rw [E.out]; rfl, HG1.out.trans KG.out⟩
                  · by_cases a2 : x ≥ (p : Int)
                    · have E : Kp (fine rows s = false) := put (fine_false_col HR0.out (List.mem_of_getElem? KX.out) (by rw [← HP0.out]; unfold inC; simp; omega))
                      go_wp2_with fail
                      go_ret
                      exact ⟨by rw [E.out]; rfl, HG1.out.trans KG.out⟩
                    · have HIN : Kp (inC p x = true) := put (by unfold inC; simp; omega)
                      go_wp2_with fail
                      go_roundg (n3 - (i + 1))
                      case measure => omega
                      case rel => exact ⟨i + 1, by go_num, by omega, Nat.le_refl _, put (fun y hy => by
                        rw [take_one KX.out] at hy
                        rcases List.mem_append.1 hy with hy | hy
                        · exact HP.out y hy
                        · rw [List.mem_singleton.1 hy]; exact HIN.out), KG⟩
                · have hlz : ¬ (i : Int) < (n3 : Int) := by omega
                  obtain rfl : n3 = i := by omega
                  have hh := HP.out
                  rw [List.take_of_length_le (by rw [HN3.out]; exact Nat.le_refl _)] at hh
                  have H3 := put hh
                  have G3 := KG
                  clear hh KG HP
                  go_wp2_with fail
                  clear d0 d1 d2 d3
                  go_loopg [11] n1 (fun kx s11 wr => ∃ (i : Nat), s11 = .int .i64 i ∧ i ≤ n1 ∧ n1 - i ≤ kx ∧ Kp (∀ y ∈ (s.sums).take i, (decide (y.kind = 1) || inC p y.col) = true) ∧ Kp (G w1 wr))
                  case atStart => exact ⟨0, rfl, Nat.zero_le _, Nat.le_refl _, put (fun y hy => by simp at hy), G3⟩
                  case round =>
                    obtain ⟨i, rfl, hi, hkx, HP, KG⟩ := hrel
                    obtain ⟨d0, d1, d2, d3⟩ := s_cells (G.heap KG.out HB0.out)
                    by_cases hlt : i < n1
                    · have hlz : (i : Int) < (n1 : Int) := by omega
                      have i0 : (0 : Int) ≤ (i : Int) := by omega
                      obtain ⟨ad, x, rfl, hx, x0, x1⟩ := sums_get ((HSP.out.sums.below KG.out.below).row.1) i (by rw [← HN1.out]; exact hlt)
                      have KX := put hx
                      clear hx
                      by_cases k1 : x.kind = 1
                      · have kz : (x.kind != 1) = false := by simp [k1]
                        have HIN : Kp ((decide (x.kind = 1) || inC p x.col) = true) := put (by simp [k1])
                        clear k1
                        go_wp2_with fail
                        go_roundg (n1 - (i + 1))
                        case measure => omega
                        case rel => exact ⟨i + 1, by go_num, by omega, Nat.le_refl _, put (fun y hy => by
                          rw [take_one KX.out] at hy
                          rcases List.mem_append.1 hy with hy | hy
                          · exact HP.out y hy
                          · rw [List.mem_singleton.1 hy]; exact HIN.out), KG⟩
                      · have kz : (x.kind != 1) = true := by simp [k1]
                        by_cases a1 : x.col < 0
                        · have E : Kp (fine rows s = false) := put (fine_false_sum HR0.out (List.mem_of_getElem? KX.out) k1 (by rw [← HP0.out]; unfold inC; simp; omega))
                          go_wp2_with fail
                          go_ret
                          exact ⟨by rw [E.out]; rfl, HG1.out.trans KG.out⟩
                        · by_cases a2 : x.col ≥ (p : Int)
                          · have E : Kp (fine rows s = false) := put (fine_false_sum HR0.out (List.mem_of_getElem? KX.out) k1 (by rw [← HP0.out]; unfold inC; simp; omega))
                            go_wp2_with fail
                            go_ret
                            exact ⟨by rw [E.out]; rfl, HG1.out.trans KG.out⟩
                          · have HIN : Kp ((decide (x.kind = 1) || inC p x.col) = true) := put (by unfold inC; simp; omega)
                            go_wp2_with fail
                            go_roundg (n1 - (i + 1))
                            case measure => omega
                            case rel => exact ⟨i + 1, by go_num, by omega, Nat.le_refl _, put (fun y hy => by
                              rw [take_one KX.out] at hy
                              rcases List.mem_append.1 hy with hy | hy
                              · exact HP.out y hy
                              · rw [List.mem_singleton.1 hy]; exact HIN.out), KG⟩
                    · have hlz : ¬ (i : Int) < (n1 : Int) := by omega
                      obtain rfl : n1 = i := by omega
                      have hh := HP.out
                      rw [List.take_of_length_le (by rw [HN1.out]; exact Nat.le_refl _)] at hh
                      have H4 := put hh
                      have G4 := KG
                      clear hh KG HP
                      go_wp2_with fail
                      clear d0 d1 d2 d3
                      go_loopg [12] n5 (fun kx s12 wr => ∃ (i : Nat), s12 = .int .i64 i ∧ i ≤ n5 ∧ n5 - i ≤ kx ∧ Kp (∀ y ∈ (s.order).take i, inC (s.width p) y.col = true) ∧ Kp (G w1 wr))
                      case atStart => exact ⟨0, rfl, Nat.zero_le _, Nat.le_refl _, put (fun y hy => by simp at hy), G4⟩
                      case round =>
                        obtain ⟨i, rfl, hi, hkx, HP, KG⟩ := hrel
                        obtain ⟨d0, d1, d2, d3⟩ := s_cells (G.heap KG.out HB0.out)
                        by_cases hlt : i < n5
                        · have hlz : (i : Int) < (n5 : Int) := by omega
                          have i0 : (0 : Int) ≤ (i : Int) := by omega
                          obtain ⟨ad, x, rfl, hx, x0, x1⟩ := keys_get ((HSP.out.order.below KG.out.below).row.1) i (by rw [← HN5.out]; exact hlt)
                          have KX := put hx
                          clear hx
                          by_cases a1 : x.col < 0
                          · have E : Kp (fine rows s = false) := put (fine_false_order HR0.out (List.mem_of_getElem? KX.out) (by rw [← HP0.out]; have := HWD.out; unfold inC; simp; omega))
                            go_wp2_with fail
                            go_ret
                            exact ⟨by rw [E.out]; rfl, HG1.out.trans KG.out⟩
                          · by_cases a2 : x.col ≥ (n3 : Int) + (n1 : Int)
                            · have E : Kp (fine rows s = false) := put (fine_false_order HR0.out (List.mem_of_getElem? KX.out) (by rw [← HP0.out]; have := HWD.out; unfold inC; simp; omega))
                              go_wp2_with fail
                              go_ret
                              exact ⟨by rw [E.out]; rfl, HG1.out.trans KG.out⟩
                            · have HIN : Kp (inC (s.width p) x.col = true) := put (by have := HWD.out; unfold inC; simp; omega)
                              go_wp2_with fail
                              go_roundg (n5 - (i + 1))
                              case measure => omega
                              case rel => exact ⟨i + 1, by go_num, by omega, Nat.le_refl _, put (fun y hy => by
                                rw [take_one KX.out] at hy
                                rcases List.mem_append.1 hy with hy | hy
                                · exact HP.out y hy
                                · rw [List.mem_singleton.1 hy]; exact HIN.out), KG⟩
                        · have hlz : ¬ (i : Int) < (n5 : Int) := by omega
                          obtain rfl : n5 = i := by omega
                          have hh := HP.out
                          rw [List.take_of_length_le (by rw [HN5.out]; exact Nat.le_refl _)] at hh
                          have H5 := put hh
                          have G5 := KG
                          clear hh KG HP
                          go_wp2_with fail
                          clear d0 d1 d2 d3
                          have E : Kp (fine rows s = true) := put (fine_true HR0.out H1.out (fun y hy => HV.out y hy) (fun y hy => by rw [← HP0.out]; exact H3.out y hy) (fun y hy => by rw [← HP0.out]; exact H4.out y hy) (fun y hy => by rw [← HP0.out]; exact H5.out y hy))
                          go_ret
                          exact ⟨by rw [E.out]; rfl, HG1.out.trans G5.out⟩
end Go.Proofs.Ytkfoknjflpklpaa.P
