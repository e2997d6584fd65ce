/- (Spec).groups: the rows of the groups. -/
import Derived.Test.YtkfoknjflpklpaaPRun
namespace Go.Proofs.Ytkfoknjflpklpaa.P
open Go Go.RowKit Go.Sort Go.Proofs.Ytkfoknjflpklpaa.Mem Go.Proofs.Ytkfoknjflpklpaa.Cmp Go.Proofs.Ytkfoknjflpklpaa.D

set_option maxHeartbeats 16000000 in
set_option maxRecDepth 100000 in
theorem groupsS (ok oks : Nat → Prop) (v v0 v1 v2 : Value) (lim : Int) (rows : List (List Val)) (s : Spc) (w : World) (h : Sl tRow ok w v rows) (hs : SpR oks w s v0 v1 v2) (hl : rows.length ≤ 1000) (hw : ∀ r ∈ rows, r.length ≤ 1000) (hk : ∀ x ∈ s.sums, 1 ≤ x.kind ∧ x.kind ≤ 5) (hcols : ∀ r ∈ rows, ∀ i ∈ s.cols, inC r.length i = true) (hsums : ∀ x ∈ s.sums, x.kind ≠ 1 → ∀ r ∈ rows, inC r.length x.col = true) (hin : ∀ r ∈ rows, ∀ y ∈ r, InR y.n) :
    Calls Try.prog 71 #[.agg #[v0, v1, v2, .int .i64 lim], v] w fun e w' => rowsE w.heap.size w' (rowsR rows s (glOf rows s)) e ∧ Below w.heap.size w w' := by
  obtain ⟨A, c, rfl, l1, l2, l3⟩ := h.shape
  obtain ⟨A0, c0, rfl, p0, _, _⟩ := hs.cols.shape
  obtain ⟨A1, c1, rfl, p1, _, _⟩ := hs.sums.shape
  obtain ⟨A2, c2, rfl, p2, _, _⟩ := hs.order.shape
  obtain ⟨GL, hGL⟩ : ∃ GL, GL = glOf rows s := ⟨_, rfl⟩
  rw [← hGL]
  have HGM : Kp (∀ g ∈ GL, (s.cols ≠ [] → g ≠ []) ∧ (∀ i ∈ g, i < rows.length) ∧ g.length ≤ rows.length) := put (by rw [hGL]; exact fun g hg => glOf_mem hg)
  have HGN : Kp (GL.length ≤ rows.length + 1) := put (by rw [hGL]; exact glOf_len rows s)
  have HGD : Kp (GL = if groupsR rows s.cols = [] ∧ s.cols = [] then [[]] else groupsR rows s.cols) := put hGL
  obtain ⟨k, hkk⟩ : ∃ k, k = s.cols.length := ⟨_, rfl⟩
  obtain ⟨n, hn⟩ : ∃ n, n = s.sums.length := ⟨_, rfl⟩
  obtain ⟨m, hm⟩ : ∃ m, m = rows.length := ⟨_, rfl⟩
  have HKC := put hkk
  have HN := put hn
  have HM := put hm
  have HS := put h
  have HSP := put hs
  have HL := put (And.intro hl hw)
  have HK := put hk
  have HCO := put hcols
  have HSU := put hsums
  have HIN := put hin
  have q0 : k ≤ 1000 := by rw [hkk]; exact hs.l0
  have q1 : n ≤ 1000 := by rw [hn]; exact hs.l1
  have q2 : m ≤ 1000 := by rw [hm]; exact hl
  obtain ⟨w1, hw1⟩ : ∃ w1, w1 = w.alloc (.cells #[.slice A0 k c0, .slice A1 n c1, .slice A2 s.order.length c2, .int .i64 lim] 82) := ⟨_, rfl⟩
  have hb1 : Below w.heap.size w w1 := by rw [hw1]; exact balloc (Below.refl _ _) _
  have hy1 : w1.heap[w.heap.size]? = some (.cells #[.slice A0 k c0, .slice A1 n c1, .slice A2 s.order.length c2, .int .i64 lim] 82 (0, 0)) := by rw [hw1]; exact heap_alloc_new _ _
  have HS1 := put (h.below hb1)
  have HC1 := put (hs.cols.below hb1)
  have HB1 := put hb1
  have HY1 := put hy1
  rw [← hkk] at p0 ⊢
  rw [← hn] at p1 ⊢
  rw [← hm] at l1 l3 ⊢
  clear h hs hl hw hk hcols hsums hin hGL hkk hn hm hb1 hy1
  go_enter Try.func71, Try.ntmps71
  go_wp2_with fail
  rw [← hw1]
  clear hw1
  refine (show Calls Try.prog 101 #[.slice A m c, .slice A0 k c0] w1 _ from by
    have := groupsCalls ok oks _ _ rows s.cols w1 HS1.out HC1.out HL.out.1 HSP.out.l0 HCO.out
    rw [← HM.out, ← HKC.out] at this
    exact this).mono ?_
  rintro e w5 ⟨vo, rfl, hsl5, hb5⟩
  obtain ⟨X, hX⟩ : ∃ X, X = w.heap.size := ⟨_, rfl⟩
  have HXW := put hX
  rw [← hX] at HY1 ⊢
  have HB5 : Kp (Below X w w5) := put (by rw [hX]; exact HB1.out.trans (hb5.mono HB1.out.size))
  have hX1 : X < w1.heap.size := (Array.getElem?_eq_some_iff.1 HY1.out).1
  have hy5 := (hb5.block X hX1).trans HY1.out
  have HY5 := put hy5
  have HSL5 := put (hsl5.mono (ok' := fun k => X ≤ k) (fun k hk => Nat.le_trans (Nat.le_of_lt hX1) hk))
  have HSX : Kp (∀ w', Below X w w' → Sl tRow ok w' (.slice A m c) rows) := put (fun w' hb => by
    have := HS.out.below (hX ▸ hb)
    rw [← HM.out] at this
    exact this)
  have HCX : Kp (∀ w', Below X w w' → Row (tInt .i64) oks w' A0 s.cols) := put (fun w' hb => (HSP.out.below (hX ▸ hb)).cols.row.1)
  have HUX : Kp (∀ w', Below X w w' → Row tSmm oks w' A1 s.sums) := put (fun w' hb => (HSP.out.below (hX ▸ hb)).sums.row.1)
  clear hb5 hsl5 hX hX1
  obtain ⟨y0, y1, _, _⟩ := s_cells hy5
  obtain ⟨A5, c5, rfl, _, _, _⟩ := HSL5.out.shape
  rw [List.length_map] at *
  obtain ⟨ng, hng⟩ : ∃ ng, ng = (groupsR rows s.cols).length := ⟨_, rfl⟩
  rw [← hng] at HSL5 ⊢
  clear hy5
  by_cases hz : ng = 0 ∧ k = 0
  · obtain ⟨hz1, hz2⟩ := hz
    have HG1 : Kp (GL = [[]]) := put (by rw [HGD.out, if_pos ⟨List.eq_nil_of_length_eq_zero (by omega), List.eq_nil_of_length_eq_zero (by rw [← HKC.out]; exact hz2)⟩])
    have zg : ((ng : Int) == 0) = true := by simp [hz1]
    have zk : ((k : Int) == 0) = true := by simp [hz2]
    clear hz1 hz2 hng
    go_wp2_with fail
    obtain ⟨w6, hw6⟩ : ∃ w6, w6 = w5.alloc (.cells #[.slice none 0 0] 61) := ⟨_, rfl⟩
    have HSL : Kp (Sl (tSl (tInt .i64)) (fun k => X ≤ k) w6 (.slice (some ⟨w5.heap.size, 0, none⟩) 1 1) (GL.map nats)) := put (by rw [HG1.out, hw6]; exact one_empty (Nat.le_trans (Nat.le_of_eq HXW.out) HB5.out.size) _)
    have HBW : Kp (Below X w w6) := put (by rw [hw6]; exact HB5.out.trans ((balloc (Below.refl _ w5) _).mono (Nat.le_trans (Nat.le_of_eq HXW.out) HB5.out.size)))
    have HYW : Kp (w6.heap[X]? = some (.cells #[.slice A0 k c0, .slice A1 n c1, .slice A2 s.order.length c2, .int .i64 lim] 82 (0, 0))) := put (by rw [hw6]; exact (Below.heap_alloc _ _ _ (Array.getElem?_eq_some_iff.1 HY5.out).1).trans HY5.out)
    have HMG : Kp (1 = GL.length) := put (by rw [HG1.out]; rfl)
    rw [← hw6]
    obtain ⟨A6, hA6⟩ : ∃ A6, A6 = (some (⟨w5.heap.size, 0, none⟩ : Addr)) := ⟨_, rfl⟩
    rw [← hA6] at HSL ⊢
    clear hw6 y0 y1 hA6 zg zk
    go_loopg [6, 30] 1 (fun kx s6 s30 wr => ∃ (i : Nat) (A8 : Option Addr) (c8 : Nat), s6 = .slice A8 i c8 ∧ s30 = .int .i64 i ∧ i ≤ 1 ∧ 1 - i ≤ kx ∧ Kp ((runL (rowR rows s) (GL.take i)).2 = 0) ∧ Kp (Own tRow 30 (fun k => X ≤ k) wr w6.heap.size (.slice A8 i c8) (runL (rowR rows s) (GL.take i)).1) ∧ Kp (Below w6.heap.size w6 wr))
    case atStart => exact ⟨0, none, 0, rfl, rfl, Nat.zero_le _, Nat.le_refl _, put rfl, put (Own.nil _ _ _ _ _), put (Below.refl _ _)⟩
    case round =>
      rename World => wr
      obtain ⟨i, A8, c8, rfl, rfl, hi, hkx, KZ, KO, KW⟩ := hrel
      have hMG9 : 1 ≤ 1001 := by have := HGN.out; have := HM.out; have := HMG.out; omega
      have HXS : Kp (X ≤ w6.heap.size) := put (Nat.le_of_lt (Array.getElem?_eq_some_iff.1 HYW.out).1)
      have KB : Kp (Below X w wr) := put (HBW.out.trans (KW.out.mono HXS.out))
      have HYR := put ((KW.out.block X (Array.getElem?_eq_some_iff.1 HYW.out).1).trans HYW.out)
      by_cases hlt : i < 1
      · have hlz : (i : Int) < 1 := by omega
        have i0 : (0 : Int) ≤ (i : Int) := by omega
        obtain ⟨adg, gz, vg, rfl, hgx, hvg, hsg⟩ := introws_get (HSL.out.below KW.out).row.1 i (by rw [List.length_map, ← HMG.out]; exact hlt)
        obtain ⟨g, rfl, hg⟩ : ∃ g, gz = nats g ∧ GL[i]? = some g := by
          rw [List.getElem?_map] at hgx
          obtain ⟨g, h1, h2⟩ := Option.map_eq_some_iff.1 hgx
          exact ⟨g, h2.symm, h1⟩
        obtain ⟨AG, cg, rfl, _, _, _⟩ := hsg.shape
        have HRG : Kp (Row (tInt .i64) (fun k => X ≤ k) wr AG (nats g)) := put hsg.row.1
        have hlng : (nats g).length = g.length := by unfold nats; rw [List.length_map]
        rw [hlng] at hvg
        have HGX := put hg
        have HGI := put (HGM.out g (List.mem_of_getElem? hg))
        have HXR : Kp (X ≤ wr.heap.size) := put (Nat.le_trans (Nat.le_of_eq HXW.out) KB.out.size)
        have HGL9 : Kp (g.length ≤ 1000) := put (Nat.le_trans HGI.out.2.2 HL.out.1)
        obtain ⟨p, hp⟩ : ∃ p, p = g.length := ⟨_, rfl⟩
        rw [← hp] at hvg
        have HP := put hp
        obtain ⟨y0, y1, y2, y3⟩ := s_cells HYR.out
        clear y1 y2 y3
        clear hgx hsg hg hlng hp
        go_wp2_with fail
        clear hvg y0
        obtain ⟨B, hB⟩ : ∃ B, B = wr.heap.size := ⟨_, rfl⟩
        have HB := put hB
        clear hB
        go_loopg [9, 37] k (fun ky s9 s37 wq => ∃ (j : Nat) (A9 : Option Addr) (c9 : Nat), s9 = .slice A9 j c9 ∧ s37 = .int .i64 j ∧ j ≤ k ∧ k - j ≤ ky ∧ Kp (Own tVal 55 (fun _ => False) wq B (.slice A9 j c9) ((s.cols.take j).map (fun c => cell rows (g.headD 0) c))) ∧ Kp (Below B wr wq))
        case atStart => exact ⟨0, none, 0, rfl, rfl, Nat.zero_le _, Nat.le_refl _, put (Own.nil _ _ _ _ _), put (Below.refl _ _)⟩
        case round =>
          rename World => wq
          obtain ⟨j, A9, c9, rfl, rfl, hj, hky, QO, QB⟩ := hrel
          have HBQ : Kp (B ≤ wq.heap.size) := put (by rw [HB.out]; exact QB.out.size)
          have HBX : Kp (Below X w wq) := put (KB.out.trans (QB.out.mono (by rw [HB.out]; exact HXR.out)))
          by_cases hltj : j < k
          · have jz : (j : Int) < (k : Int) := by omega
            have j0 : (0 : Int) ≤ (j : Int) := by omega
            obtain ⟨adc, ci, rfl, hci, z0⟩ := ints_get (HCX.out wq HBX.out) j (by rw [← HKC.out]; exact hltj)
            have hgne := HGI.out.1 (List.ne_nil_of_mem (List.mem_of_getElem? hci))
            obtain ⟨q, hq, hqh⟩ : ∃ q : Nat, (nats g)[0]? = some (q : Int) ∧ g.headD 0 = q ∧ q ∈ g := by
              cases hh : g with
              | nil => exact absurd hh hgne
              | cons q g' => exact ⟨q, rfl, rfl, List.mem_cons_self⟩
            have hp0 : 0 < p := by rw [HP.out]; exact List.length_pos_iff.2 hgne
            obtain ⟨adG, gi, rfl, hgi, zg⟩ := ints_get (Row.move HRG.out (fun b _ hb => QB.out.block b (by rw [HB.out]; exact hb))) 0 (by unfold nats; rw [List.length_map, ← HP.out]; exact hp0)
            obtain rfl : gi = (q : Int) := by rw [hq] at hgi; exact (Option.some.inj hgi).symm
            simp only [add_zero] at zg
            have hqr : q < rows.length := HGI.out.2.1 q hqh.2
            have hqz : (q : Int) < (m : Int) := by have := HM.out; omega
            have q00 : (0 : Int) ≤ (q : Int) := by omega
            obtain ⟨ad, r, Ar, cr, rfl, hr, x0, hsr⟩ := rows_get (HSX.out wq HBX.out).row.1 q hqr
            have hC := HCO.out r (List.mem_of_getElem? hr) ci (List.mem_of_getElem? hci)
            unfold inC at hC
            simp only [Bool.and_eq_true, decide_eq_true_eq] at hC
            obtain ⟨col, rfl⟩ : ∃ col : Nat, ci = col := ⟨ci.toNat, by omega⟩
            have hcr : col < r.length := by omega
            obtain ⟨adv, rfl, u0, u1, u2⟩ := vals_get hsr.row.1 col hcr
            have hcz : (col : Int) < (r.length : Int) := by omega
            have cz0 : (0 : Int) ≤ (col : Int) := by omega
            obtain ⟨x, hx⟩ : ∃ x, x = r[col]'hcr := ⟨_, rfl⟩
            rw [← hx] at u0 u1 u2
            have hce : cell rows (q : Int).toNat (col : Int) = x := cell_eq hr (by rw [hx]; exact List.getElem?_eq_getElem _)
            have HE : Kp ((s.cols.take (j + 1)).map (fun c => cell rows (g.headD 0) c) = (s.cols.take j).map (fun c => cell rows (g.headD 0) c) ++ [x]) := put (by
              rw [take_one hci, List.map_append, List.map_singleton, hqh.1]; rw [show cell rows q (col : Int) = x from hce])
            have hjl : Kp (((s.cols.take j).map (fun c => cell rows (g.headD 0) c)).length = j) := put (by rw [List.length_map, List.length_take, ← HKC.out]; omega)
            clear hce hx hci hgne hq hqh hgi hqr hr hsr hC hcr
            go_wp2_with (at_builtin; refine wpList_push (W := wq) tVal B rfl _ _ 30 55 _ 32 rfl Try.underlying30 infoVal rfl (by decide) (by decide) (.slice A9 j c9) ((s.cols.take j).map (fun c => cell rows (g.headD 0) c)) x [.int .i64 x.kind, .int .i64 x.n, .string x.s] (fun _ => False) rfl rfl rfl QO.out HBQ.out (by rw [hjl.out]; omega) ?_; intro v1 w7 hown hg hat; obtain ⟨A10, c10, e9, _, _⟩ := hown.form; rw [List.length_append, hjl.out, List.length_singleton] at e9; subst e9; have hb7 : Below B wr w7 := QB.out.grown hg HBQ.out (fun b hb => (QO.out.lt b hb).1); have HB7 := put hb7; have HOWN := put hown; clear hown hg hat hb7)
            go_roundg (k - (j + 1))
            case measure => omega
            case rel => exact ⟨j + 1, A10, c10, rfl, by go_num, by omega, Nat.le_refl _, put (by rw [HE.out]; exact HOWN.out), HB7⟩
          · have jz : ¬ (j : Int) < (k : Int) := by omega
            obtain rfl : k = j := by omega
            have HYQ := put ((QB.out.block X (by rw [HB.out]; exact (Array.getElem?_eq_some_iff.1 HYR.out).1)).trans HYR.out)
            obtain ⟨y0, y1, y2, y3⟩ := s_cells HYQ.out
            clear y0 y2 y3
            have HQ0 : Kp (Own tVal 55 (fun _ => False) wq B (.slice A9 (k + 0) c9) (s.cols.map (fun c => cell rows (g.headD 0) c) ++ (runL (sumR rows g) (s.sums.take 0)).1)) := put (by
              have h := QO.out
              rw [List.take_of_length_le (by rw [HKC.out]; exact Nat.le_refl _)] at h
              rw [List.take_zero, runL, List.append_nil]
              exact h)
            clear hltj hj hky
            go_wp2_with fail
            clear y1
            go_loopg [9, 57] n (fun ky s9 s57 wt => ∃ (j : Nat) (A9 : Option Addr) (c9 : Nat), s9 = .slice A9 (k + j) c9 ∧ s57 = .int .i64 j ∧ j ≤ n ∧ n - j ≤ ky ∧ Kp ((runL (sumR rows g) (s.sums.take j)).2 = 0) ∧ Kp (Own tVal 55 (fun _ => False) wt B (.slice A9 (k + j) c9) (s.cols.map (fun c => cell rows (g.headD 0) c) ++ (runL (sumR rows g) (s.sums.take j)).1)) ∧ Kp (Below B wr wt))
            case atStart => exact ⟨0, A9, c9, rfl, rfl, Nat.zero_le _, Nat.le_refl _, put rfl, HQ0, QB⟩
            case round =>
              rename World => wt
              obtain ⟨j, A7, c7, rfl, rfl, hj, hky, TZ, TO, TB⟩ := hrel
              have HBT : Kp (B ≤ wt.heap.size) := put (by rw [HB.out]; exact TB.out.size)
              have HTX : Kp (Below X w wt) := put (KB.out.trans (TB.out.mono (by rw [HB.out]; exact HXR.out)))
              have HTL : Kp (∀ i, i ≤ n → (runL (sumR rows g) (s.sums.take i)).2 = 0 → (s.cols.map (fun c => cell rows (g.headD 0) c) ++ (runL (sumR rows g) (s.sums.take i)).1).length = k + i) := put (fun i hi hz => by rw [List.length_append, List.length_map, runL_len _ _ hz, List.length_take, ← HKC.out, ← HN.out]; omega)
              by_cases hltj : j < n
              · have jz : (j : Int) < (n : Int) := by omega
                have j0 : (0 : Int) ≤ (j : Int) := by omega
                obtain ⟨ads, x, rfl, hx, z0, z1⟩ := sums_get (HUX.out wt HTX.out) j (by rw [← HN.out]; exact hltj)
                have HX := put hx
                have HXM := put (List.mem_of_getElem? hx)
                have HCC : Kp (x.kind ≠ 1 → g ≠ [] → ∃ j : Nat, x.col = j ∧ ∀ r ∈ rows, j < r.length ∧ r.length ≤ 1000) := put (fun h1 hne => by
                  obtain ⟨q, hq⟩ := List.exists_mem_of_ne_nil g hne
                  have hr := HSU.out x HXM.out h1
                  have h0 := hr _ (List.getElem_mem (HGI.out.2.1 q hq))
                  unfold inC at h0 hr
                  simp only [Bool.and_eq_true, decide_eq_true_eq] at h0 hr
                  exact ⟨x.col.toNat, by omega, fun r hrm => ⟨by have := hr r hrm; omega, HL.out.2 r hrm⟩⟩)
                have HBA : Kp (Below wt.heap.size wt (wt.alloc (.cells #[.int .i64 x.kind, .int .i64 x.col] 102))) := put (balloc (Below.refl _ wt) _)
                have HTA := put (HTX.out.trans (HBA.out.mono (Nat.le_trans (Nat.le_of_eq HXW.out) HTX.out.size)))
                clear hx
                go_wp2_with fail
                refine (show Calls Try.prog 102 #[.agg #[.int .i64 x.kind, .int .i64 x.col], .slice A m c, .slice AG p cg] (wt.alloc (.cells #[.int .i64 x.kind, .int .i64 x.col] 102)) (fun e w' => e = totE (sumR rows g x) ∧ Below (wt.alloc (.cells #[.int .i64 x.kind, .int .i64 x.col] 102)).heap.size (wt.alloc (.cells #[.int .i64 x.kind, .int .i64 x.col] 102)) w') from by
                  rw [HP.out]
                  exact ofCalls ok _ _ AG cg rows g x _ (HSX.out _ HTA.out) (Row.move HRG.out (fun b _ hb => (TB.out.trans (HBA.out.mono HBT.out)).block b (by rw [HB.out]; exact hb))) HGL9.out HGI.out.2.1 (HK.out x HXM.out) HCC.out HIN.out).mono ?_
                rintro e w7 ⟨he, hb7⟩
                have HB7 : Kp (Below wt.heap.size wt w7) := put (HBA.out.trans (hb7.mono HBA.out.size))
                have HBW7 : Kp (Below B wr w7) := put (TB.out.trans (HB7.out.mono HBT.out))
                have HBX7 : Kp (Below X w w7) := put (HTX.out.trans (HB7.out.mono (Nat.le_trans (Nat.le_of_eq HXW.out) HTX.out.size)))
                have HO7 := put (TO.out.below HB7.out)
                obtain ⟨t, ht⟩ : ∃ t, t = sumR rows g x := ⟨_, rfl⟩
                have HT := put ht
                rw [← ht] at he
                clear hb7 ht
                by_cases hz : t.2 = 0
                · obtain rfl : e = .returned (.agg #[.int .i64 t.1.kind, .int .i64 t.1.n, .string t.1.s]) := by rw [he, totE, if_pos hz]
                  have HE : Kp (runL (sumR rows g) (s.sums.take (j + 1)) = ((runL (sumR rows g) (s.sums.take j)).1 ++ [t.1], 0)) := put (by rw [runL_one HX.out TZ.out (by rw [← HT.out]; exact hz), HT.out])
                  have HLJ := put (HTL.out j (by omega) TZ.out)
                  have HSZ : Kp (B ≤ w7.heap.size) := put (Nat.le_trans HBT.out HB7.out.size)
                  clear he hz
                  go_wp2_with (at_builtin; refine wpList_push (W := w7) tVal B rfl _ _ 30 55 _ 32 rfl Try.underlying30 infoVal rfl (by decide) (by decide) (.slice A7 (k + j) c7) (s.cols.map (fun c => cell rows (g.headD 0) c) ++ (runL (sumR rows g) (s.sums.take j)).1) t.1 [.int .i64 t.1.kind, .int .i64 t.1.n, .string t.1.s] (fun _ => False) rfl rfl rfl HO7.out HSZ.out (by rw [HLJ.out]; omega) ?_; intro v1 w8 hown hg hat; obtain ⟨A10, c10, e9, _, _⟩ := hown.form; rw [List.length_append, HLJ.out, List.length_singleton] at e9; subst e9; have hb8 : Below B wr w8 := HBW7.out.grown hg HSZ.out (fun b hb => (HO7.out.lt b hb).1); have HB8 := put hb8; have HOWN := put hown; clear hown hg hat hb8)
                  go_roundg (n - (j + 1))
                  case measure => omega
                  case rel => exact ⟨j + 1, A10, c10, rfl, by go_num, by omega, Nat.le_refl _, put (by rw [HE.out]), put (by rw [HE.out, ← List.append_assoc]; exact HOWN.out), HB8⟩
                · obtain rfl : e = stopE t.2 := by rw [he, totE, if_neg hz]
                  have HS9 : Kp (rowsE X w7 (rowsR rows s GL) (stopE t.2)) := put (by
                    have e1 : (rowR rows s g).2 = t.2 := by
                      show (sumsR rows g s.sums).2 = t.2
                      rw [sumsR_run, runL_end HX.out TZ.out (by rw [← HT.out]; exact hz), HT.out]
                    have e2 := runL_end (f := rowR rows s) HGX.out KZ.out (by rw [e1]; exact hz)
                    unfold rowsE
                    rw [rowsR_run, e2, e1, if_neg hz])
                  exact ⟨rfl, HXW.out ▸ HS9.out, HXW.out ▸ HBX7.out⟩
              · have jz : ¬ (j : Int) < (n : Int) := by omega
                obtain rfl : n = j := by omega
                have HR : Kp (rowR rows s g = (s.cols.map (fun c => cell rows (g.headD 0) c) ++ (runL (sumR rows g) (s.sums.take n)).1, 0)) := put (by
                  have e1 : runL (sumR rows g) (s.sums.take n) = sumsR rows g s.sums := by rw [List.take_of_length_le (by rw [HN.out]; exact Nat.le_refl _), sumsR_run]
                  have e2 := TZ.out
                  rw [e1] at e2
                  unfold rowR
                  rw [e1, e2])
                have HLJ := put (HTL.out n (by omega) TZ.out)
                have HRT : Kp (tRow.R (fun k => X ≤ k ∧ some k ≠ (Value.slice A8 i c8).ownBlock) wt (rowR rows s g).1 [.slice A7 (k + n) c7]) := put (by
                  rw [HR.out]
                  exact ⟨_, rfl, TO.out.sl (fun b hb => ⟨Nat.le_trans HXR.out (by rw [← HB.out]; exact (TO.out.lt b hb).1), fun e => by have h1 := (KO.out.lt b e.symm).2; have h2 := (TO.out.lt b hb).1; rw [HB.out] at h2; omega⟩) (fun _ h => h.elim) (by rw [HLJ.out]; omega)⟩)
                have HOW := put (KO.out.below (by rw [← HB.out]; have h := TB.out; rw [HB.out] at h ⊢; exact h))
                have HLI : Kp ((runL (rowR rows s) (GL.take i)).1.length = i) := put (by rw [runL_len _ _ KZ.out, List.length_take, ← HMG.out]; omega)
                have HE : Kp (runL (rowR rows s) (GL.take (i + 1)) = ((runL (rowR rows s) (GL.take i)).1 ++ [(rowR rows s g).1], 0)) := put (runL_one HGX.out KZ.out (by rw [HR.out]))
                have HXT : Kp (X ≤ wt.heap.size) := put (Nat.le_trans (Nat.le_of_eq HXW.out) HTX.out.size)
                have HIB : Kp (i ≤ 1001) := put (by have := HGN.out; have := HM.out; have := HMG.out; omega)
                have HKT : Kp (Below w6.heap.size w6 wt) := put (KW.out.trans (TB.out.mono (by rw [HB.out]; exact KW.out.size)))
                have HWT : Kp (X < w6.heap.size) := put (Array.getElem?_eq_some_iff.1 HYW.out).1
                clear hj hky hltj
                go_wp2_with (at_builtin; refine wpList_push (W := wt) tRow w6.heap.size rfl _ _ 78 30 _ 24 rfl Try.underlying78 infoRow rfl (by decide) (by decide) (.slice A8 i c8) (runL (rowR rows s) (GL.take i)).1 (rowR rows s g).1 [.slice A7 (k + n) c7] (fun k => X ≤ k) rfl rfl HRT.out HOW.out HKT.out.size (by rw [HLI.out]; have := HIB.out; omega) ?_; intro v1 w8 hown hg hat; obtain ⟨A10, c10, e9, _, _⟩ := hown.form; rw [List.length_append, HLI.out, List.length_singleton] at e9; subst e9; have HG8 := put hg; have HOWN := put hown; clear hown hg hat)
                go_roundg (1 - (i + 1))
                case measure => omega
                case rel => exact ⟨i + 1, A10, c10, rfl, by go_num, by omega, Nat.le_refl _, put (by rw [HE.out]), put (by rw [HE.out]; exact HOWN.out), put (HKT.out.grown HG8.out HKT.out.size (fun b hb => (HOW.out.lt b hb).1))⟩
      · have hlz : ¬ (i : Int) < 1 := by omega
        obtain rfl : i = 1 := by omega
        have HR : Kp (runL (rowR rows s) (GL.take 1) = rowsR rows s GL) := put (by rw [List.take_of_length_le (by rw [HMG.out]; exact Nat.le_refl _), rowsR_run])
        have HSO : Kp (Sl tRow (fun k => X ≤ k) wr (.slice A8 1 c8) (runL (rowR rows s) (GL.take 1)).1) := put (KO.out.sl (fun k hk => Nat.le_trans HXS.out (KO.out.lt k hk).1) (fun _ h => h) (by rw [runL_len _ _ KZ.out, List.length_take]; have := HGN.out; have := HM.out; omega))
        have HE : Kp (rowsE X wr (rowsR rows s GL) (.returned (.slice A8 1 c8))) := put (by
          unfold rowsE
          rw [← HR.out, if_pos KZ.out]
          exact ⟨_, rfl, HSO.out⟩)
        clear hlt hi hkx
        go_wp2_with fail
        go_ret
        exact ⟨HXW.out ▸ HE.out, HXW.out ▸ KB.out⟩
  · have HG1 : Kp (GL = groupsR rows s.cols) := put (by rw [HGD.out, if_neg (fun hh => hz ⟨by rw [hng, hh.1]; rfl, by rw [HKC.out, hh.2]; rfl⟩)])
    have HSL : Kp (Sl (tSl (tInt .i64)) (fun k => X ≤ k) w5 (.slice A5 ng c5) (GL.map nats)) := put (by rw [HG1.out]; exact HSL5.out)
    have HMG : Kp (ng = GL.length) := put (by rw [HG1.out]; exact hng)
    have HBW := HB5
    have HYW := HY5
    by_cases hz1 : ng = 0
    · have hz2 : k ≠ 0 := fun e => hz ⟨hz1, e⟩
      have zg : ((ng : Int) == 0) = true := by simp [hz1]
      have zk : ((k : Int) == 0) = false := by simp; omega
      clear hz hz1 hz2 hng
      go_wp2_with fail
      clear zg zk y0 y1
      go_loopg [6, 30] ng (fun kx s6 s30 wr => ∃ (i : Nat) (A8 : Option Addr) (c8 : Nat), s6 = .slice A8 i c8 ∧ s30 = .int .i64 i ∧ i ≤ ng ∧ ng - i ≤ kx ∧ Kp ((runL (rowR rows s) (GL.take i)).2 = 0) ∧ Kp (Own tRow 30 (fun k => X ≤ k) wr w5.heap.size (.slice A8 i c8) (runL (rowR rows s) (GL.take i)).1) ∧ Kp (Below w5.heap.size w5 wr))
      case atStart => exact ⟨0, none, 0, rfl, rfl, Nat.zero_le _, Nat.le_refl _, put rfl, put (Own.nil _ _ _ _ _), put (Below.refl _ _)⟩
      case round =>
        rename World => wr
        obtain ⟨i, A8, c8, rfl, rfl, hi, hkx, KZ, KO, KW⟩ := hrel
        have hng9 : ng ≤ 1001 := by have := HGN.out; have := HM.out; have := HMG.out; omega
        have HXS : Kp (X ≤ w5.heap.size) := put (Nat.le_of_lt (Array.getElem?_eq_some_iff.1 HYW.out).1)
        have KB : Kp (Below X w wr) := put (HBW.out.trans (KW.out.mono HXS.out))
        have HYR := put ((KW.out.block X (Array.getElem?_eq_some_iff.1 HYW.out).1).trans HYW.out)
        by_cases hlt : i < ng
        · have hlz : (i : Int) < (ng : Int) := by omega
          have i0 : (0 : Int) ≤ (i : Int) := by omega
          obtain ⟨adg, gz, vg, rfl, hgx, hvg, hsg⟩ := introws_get (HSL.out.below KW.out).row.1 i (by rw [List.length_map, ← HMG.out]; exact hlt)
          obtain ⟨g, rfl, hg⟩ : ∃ g, gz = nats g ∧ GL[i]? = some g := by
            rw [List.getElem?_map] at hgx
            obtain ⟨g, h1, h2⟩ := Option.map_eq_some_iff.1 hgx
            exact ⟨g, h2.symm, h1⟩
          obtain ⟨AG, cg, rfl, _, _, _⟩ := hsg.shape
          have HRG : Kp (Row (tInt .i64) (fun k => X ≤ k) wr AG (nats g)) := put hsg.row.1
          have hlng : (nats g).length = g.length := by unfold nats; rw [List.length_map]
          rw [hlng] at hvg
          have HGX := put hg
          have HGI := put (HGM.out g (List.mem_of_getElem? hg))
          have HXR : Kp (X ≤ wr.heap.size) := put (Nat.le_trans (Nat.le_of_eq HXW.out) KB.out.size)
          have HGL9 : Kp (g.length ≤ 1000) := put (Nat.le_trans HGI.out.2.2 HL.out.1)
          obtain ⟨p, hp⟩ : ∃ p, p = g.length := ⟨_, rfl⟩
          rw [← hp] at hvg
          have HP := put hp
          obtain ⟨y0, y1, y2, y3⟩ := s_cells HYR.out
          clear y1 y2 y3
          clear hgx hsg hg hlng hp
          go_wp2_with fail
          clear hvg y0
          obtain ⟨B, hB⟩ : ∃ B, B = wr.heap.size := ⟨_, rfl⟩
          have HB := put hB
          clear hB
          go_loopg [9, 37] k (fun ky s9 s37 wq => ∃ (j : Nat) (A9 : Option Addr) (c9 : Nat), s9 = .slice A9 j c9 ∧ s37 = .int .i64 j ∧ j ≤ k ∧ k - j ≤ ky ∧ Kp (Own tVal 55 (fun _ => False) wq B (.slice A9 j c9) ((s.cols.take j).map (fun c => cell rows (g.headD 0) c))) ∧ Kp (Below B wr wq))
          case atStart => exact ⟨0, none, 0, rfl, rfl, Nat.zero_le _, Nat.le_refl _, put (Own.nil _ _ _ _ _), put (Below.refl _ _)⟩
          case round =>
            rename World => wq
            obtain ⟨j, A9, c9, rfl, rfl, hj, hky, QO, QB⟩ := hrel
            have HBQ : Kp (B ≤ wq.heap.size) := put (by rw [HB.out]; exact QB.out.size)
            have HBX : Kp (Below X w wq) := put (KB.out.trans (QB.out.mono (by rw [HB.out]; exact HXR.out)))
            by_cases hltj : j < k
            · have jz : (j : Int) < (k : Int) := by omega
              have j0 : (0 : Int) ≤ (j : Int) := by omega
              obtain ⟨adc, ci, rfl, hci, z0⟩ := ints_get (HCX.out wq HBX.out) j (by rw [← HKC.out]; exact hltj)
              have hgne := HGI.out.1 (List.ne_nil_of_mem (List.mem_of_getElem? hci))
              obtain ⟨q, hq, hqh⟩ : ∃ q : Nat, (nats g)[0]? = some (q : Int) ∧ g.headD 0 = q ∧ q ∈ g := by
                cases hh : g with
                | nil => exact absurd hh hgne
                | cons q g' => exact ⟨q, rfl, rfl, List.mem_cons_self⟩
              have hp0 : 0 < p := by rw [HP.out]; exact List.length_pos_iff.2 hgne
              obtain ⟨adG, gi, rfl, hgi, zg⟩ := ints_get (Row.move HRG.out (fun b _ hb => QB.out.block b (by rw [HB.out]; exact hb))) 0 (by unfold nats; rw [List.length_map, ← HP.out]; exact hp0)
              obtain rfl : gi = (q : Int) := by rw [hq] at hgi; exact (Option.some.inj hgi).symm
              simp only [add_zero] at zg
              have hqr : q < rows.length := HGI.out.2.1 q hqh.2
              have hqz : (q : Int) < (m : Int) := by have := HM.out; omega
              have q00 : (0 : Int) ≤ (q : Int) := by omega
              obtain ⟨ad, r, Ar, cr, rfl, hr, x0, hsr⟩ := rows_get (HSX.out wq HBX.out).row.1 q hqr
              have hC := HCO.out r (List.mem_of_getElem? hr) ci (List.mem_of_getElem? hci)
              unfold inC at hC
              simp only [Bool.and_eq_true, decide_eq_true_eq] at hC
              obtain ⟨col, rfl⟩ : ∃ col : Nat, ci = col := ⟨ci.toNat, by omega⟩
              have hcr : col < r.length := by omega
              obtain ⟨adv, rfl, u0, u1, u2⟩ := vals_get hsr.row.1 col hcr
              have hcz : (col : Int) < (r.length : Int) := by omega
              have cz0 : (0 : Int) ≤ (col : Int) := by omega
              obtain ⟨x, hx⟩ : ∃ x, x = r[col]'hcr := ⟨_, rfl⟩
              rw [← hx] at u0 u1 u2
              have hce : cell rows (q : Int).toNat (col : Int) = x := cell_eq hr (by rw [hx]; exact List.getElem?_eq_getElem _)
              have HE : Kp ((s.cols.take (j + 1)).map (fun c => cell rows (g.headD 0) c) = (s.cols.take j).map (fun c => cell rows (g.headD 0) c) ++ [x]) := put (by
                rw [take_one hci, List.map_append, List.map_singleton, hqh.1]; rw [show cell rows q (col : Int) = x from hce])
              have hjl : Kp (((s.cols.take j).map (fun c => cell rows (g.headD 0) c)).length = j) := put (by rw [List.length_map, List.length_take, ← HKC.out]; omega)
              clear hce hx hci hgne hq hqh hgi hqr hr hsr hC hcr
              go_wp2_with (at_builtin; refine wpList_push (W := wq) tVal B rfl _ _ 30 55 _ 32 rfl Try.underlying30 infoVal rfl (by decide) (by decide) (.slice A9 j c9) ((s.cols.take j).map (fun c => cell rows (g.headD 0) c)) x [.int .i64 x.kind, .int .i64 x.n, .string x.s] (fun _ => False) rfl rfl rfl QO.out HBQ.out (by rw [hjl.out]; omega) ?_; intro v1 w7 hown hg hat; obtain ⟨A10, c10, e9, _, _⟩ := hown.form; rw [List.length_append, hjl.out, List.length_singleton] at e9; subst e9; have hb7 : Below B wr w7 := QB.out.grown hg HBQ.out (fun b hb => (QO.out.lt b hb).1); have HB7 := put hb7; have HOWN := put hown; clear hown hg hat hb7)
              go_roundg (k - (j + 1))
              case measure => omega
              case rel => exact ⟨j + 1, A10, c10, rfl, by go_num, by omega, Nat.le_refl _, put (by rw [HE.out]; exact HOWN.out), HB7⟩
            · have jz : ¬ (j : Int) < (k : Int) := by omega
              obtain rfl : k = j := by omega
              have HYQ := put ((QB.out.block X (by rw [HB.out]; exact (Array.getElem?_eq_some_iff.1 HYR.out).1)).trans HYR.out)
              obtain ⟨y0, y1, y2, y3⟩ := s_cells HYQ.out
              clear y0 y2 y3
              have HQ0 : Kp (Own tVal 55 (fun _ => False) wq B (.slice A9 (k + 0) c9) (s.cols.map (fun c => cell rows (g.headD 0) c) ++ (runL (sumR rows g) (s.sums.take 0)).1)) := put (by
                have h := QO.out
                rw [List.take_of_length_le (by rw [HKC.out]; exact Nat.le_refl _)] at h
                rw [List.take_zero, runL, List.append_nil]
                exact h)
              clear hltj hj hky
              go_wp2_with fail
              clear y1
              go_loopg [9, 57] n (fun ky s9 s57 wt => ∃ (j : Nat) (A9 : Option Addr) (c9 : Nat), s9 = .slice A9 (k + j) c9 ∧ s57 = .int .i64 j ∧ j ≤ n ∧ n - j ≤ ky ∧ Kp ((runL (sumR rows g) (s.sums.take j)).2 = 0) ∧ Kp (Own tVal 55 (fun _ => False) wt B (.slice A9 (k + j) c9) (s.cols.map (fun c => cell rows (g.headD 0) c) ++ (runL (sumR rows g) (s.sums.take j)).1)) ∧ Kp (Below B wr wt))
              case atStart => exact ⟨0, A9, c9, rfl, rfl, Nat.zero_le _, Nat.le_refl _, put rfl, HQ0, QB⟩
              case round =>
                rename World => wt
                obtain ⟨j, A7, c7, rfl, rfl, hj, hky, TZ, TO, TB⟩ := hrel
                have HBT : Kp (B ≤ wt.heap.size) := put (by rw [HB.out]; exact TB.out.size)
                have HTX : Kp (Below X w wt) := put (KB.out.trans (TB.out.mono (by rw [HB.out]; exact HXR.out)))
                have HTL : Kp (∀ i, i ≤ n → (runL (sumR rows g) (s.sums.take i)).2 = 0 → (s.cols.map (fun c => cell rows (g.headD 0) c) ++ (runL (sumR rows g) (s.sums.take i)).1).length = k + i) := put (fun i hi hz => by rw [List.length_append, List.length_map, runL_len _ _ hz, List.length_take, ← HKC.out, ← HN.out]; omega)
                by_cases hltj : j < n
                · have jz : (j : Int) < (n : Int) := by omega
                  have j0 : (0 : Int) ≤ (j : Int) := by omega
                  obtain ⟨ads, x, rfl, hx, z0, z1⟩ := sums_get (HUX.out wt HTX.out) j (by rw [← HN.out]; exact hltj)
                  have HX := put hx
                  have HXM := put (List.mem_of_getElem? hx)
                  have HCC : Kp (x.kind ≠ 1 → g ≠ [] → ∃ j : Nat, x.col = j ∧ ∀ r ∈ rows, j < r.length ∧ r.length ≤ 1000) := put (fun h1 hne => by
                    obtain ⟨q, hq⟩ := List.exists_mem_of_ne_nil g hne
                    have hr := HSU.out x HXM.out h1
                    have h0 := hr _ (List.getElem_mem (HGI.out.2.1 q hq))
                    unfold inC at h0 hr
                    simp only [Bool.and_eq_true, decide_eq_true_eq] at h0 hr
                    exact ⟨x.col.toNat, by omega, fun r hrm => ⟨by have := hr r hrm; omega, HL.out.2 r hrm⟩⟩)
                  have HBA : Kp (Below wt.heap.size wt (wt.alloc (.cells #[.int .i64 x.kind, .int .i64 x.col] 102))) := put (balloc (Below.refl _ wt) _)
                  have HTA := put (HTX.out.trans (HBA.out.mono (Nat.le_trans (Nat.le_of_eq HXW.out) HTX.out.size)))
                  clear hx
                  go_wp2_with fail
                  refine (show Calls Try.prog 102 #[.agg #[.int .i64 x.kind, .int .i64 x.col], .slice A m c, .slice AG p cg] (wt.alloc (.cells #[.int .i64 x.kind, .int .i64 x.col] 102)) (fun e w' => e = totE (sumR rows g x) ∧ Below (wt.alloc (.cells #[.int .i64 x.kind, .int .i64 x.col] 102)).heap.size (wt.alloc (.cells #[.int .i64 x.kind, .int .i64 x.col] 102)) w') from by
                    rw [HP.out]
                    exact ofCalls ok _ _ AG cg rows g x _ (HSX.out _ HTA.out) (Row.move HRG.out (fun b _ hb => (TB.out.trans (HBA.out.mono HBT.out)).block b (by rw [HB.out]; exact hb))) HGL9.out HGI.out.2.1 (HK.out x HXM.out) HCC.out HIN.out).mono ?_
                  rintro e w7 ⟨he, hb7⟩
                  have HB7 : Kp (Below wt.heap.size wt w7) := put (HBA.out.trans (hb7.mono HBA.out.size))
                  have HBW7 : Kp (Below B wr w7) := put (TB.out.trans (HB7.out.mono HBT.out))
                  have HBX7 : Kp (Below X w w7) := put (HTX.out.trans (HB7.out.mono (Nat.le_trans (Nat.le_of_eq HXW.out) HTX.out.size)))
                  have HO7 := put (TO.out.below HB7.out)
                  obtain ⟨t, ht⟩ : ∃ t, t = sumR rows g x := ⟨_, rfl⟩
                  have HT := put ht
                  rw [← ht] at he
                  clear hb7 ht
                  by_cases hz : t.2 = 0
                  · obtain rfl : e = .returned (.agg #[.int .i64 t.1.kind, .int .i64 t.1.n, .string t.1.s]) := by rw [he, totE, if_pos hz]
                    have HE : Kp (runL (sumR rows g) (s.sums.take (j + 1)) = ((runL (sumR rows g) (s.sums.take j)).1 ++ [t.1], 0)) := put (by rw [runL_one HX.out TZ.out (by rw [← HT.out]; exact hz), HT.out])
                    have HLJ := put (HTL.out j (by omega) TZ.out)
                    have HSZ : Kp (B ≤ w7.heap.size) := put (Nat.le_trans HBT.out HB7.out.size)
                    clear he hz
                    go_wp2_with (at_builtin; refine wpList_push (W := w7) tVal B rfl _ _ 30 55 _ 32 rfl Try.underlying30 infoVal rfl (by decide) (by decide) (.slice A7 (k + j) c7) (s.cols.map (fun c => cell rows (g.headD 0) c) ++ (runL (sumR rows g) (s.sums.take j)).1) t.1 [.int .i64 t.1.kind, .int .i64 t.1.n, .string t.1.s] (fun _ => False) rfl rfl rfl HO7.out HSZ.out (by rw [HLJ.out]; omega) ?_; intro v1 w8 hown hg hat; obtain ⟨A10, c10, e9, _, _⟩ := hown.form; rw [List.length_append, HLJ.out, List.length_singleton] at e9; subst e9; have hb8 : Below B wr w8 := HBW7.out.grown hg HSZ.out (fun b hb => (HO7.out.lt b hb).1); have HB8 := put hb8; have HOWN := put hown; clear hown hg hat hb8)
                    go_roundg (n - (j + 1))
                    case measure => omega
                    case rel => exact ⟨j + 1, A10, c10, rfl, by go_num, by omega, Nat.le_refl _, put (by rw [HE.out]), put (by rw [HE.out, ← List.append_assoc]; exact HOWN.out), HB8⟩
                  · obtain rfl : e = stopE t.2 := by rw [he, totE, if_neg hz]
                    have HS9 : Kp (rowsE X w7 (rowsR rows s GL) (stopE t.2)) := put (by
                      have e1 : (rowR rows s g).2 = t.2 := by
                        show (sumsR rows g s.sums).2 = t.2
                        rw [sumsR_run, runL_end HX.out TZ.out (by rw [← HT.out]; exact hz), HT.out]
                      have e2 := runL_end (f := rowR rows s) HGX.out KZ.out (by rw [e1]; exact hz)
                      unfold rowsE
                      rw [rowsR_run, e2, e1, if_neg hz])
                    exact ⟨rfl, HXW.out ▸ HS9.out, HXW.out ▸ HBX7.out⟩
                · have jz : ¬ (j : Int) < (n : Int) := by omega
                  obtain rfl : n = j := by omega
                  have HR : Kp (rowR rows s g = (s.cols.map (fun c => cell rows (g.headD 0) c) ++ (runL (sumR rows g) (s.sums.take n)).1, 0)) := put (by
                    have e1 : runL (sumR rows g) (s.sums.take n) = sumsR rows g s.sums := by rw [List.take_of_length_le (by rw [HN.out]; exact Nat.le_refl _), sumsR_run]
                    have e2 := TZ.out
                    rw [e1] at e2
                    unfold rowR
                    rw [e1, e2])
                  have HLJ := put (HTL.out n (by omega) TZ.out)
                  have HRT : Kp (tRow.R (fun k => X ≤ k ∧ some k ≠ (Value.slice A8 i c8).ownBlock) wt (rowR rows s g).1 [.slice A7 (k + n) c7]) := put (by
                    rw [HR.out]
                    exact ⟨_, rfl, TO.out.sl (fun b hb => ⟨Nat.le_trans HXR.out (by rw [← HB.out]; exact (TO.out.lt b hb).1), fun e => by have h1 := (KO.out.lt b e.symm).2; have h2 := (TO.out.lt b hb).1; rw [HB.out] at h2; omega⟩) (fun _ h => h.elim) (by rw [HLJ.out]; omega)⟩)
                  have HOW := put (KO.out.below (by rw [← HB.out]; have h := TB.out; rw [HB.out] at h ⊢; exact h))
                  have HLI : Kp ((runL (rowR rows s) (GL.take i)).1.length = i) := put (by rw [runL_len _ _ KZ.out, List.length_take, ← HMG.out]; omega)
                  have HE : Kp (runL (rowR rows s) (GL.take (i + 1)) = ((runL (rowR rows s) (GL.take i)).1 ++ [(rowR rows s g).1], 0)) := put (runL_one HGX.out KZ.out (by rw [HR.out]))
                  have HXT : Kp (X ≤ wt.heap.size) := put (Nat.le_trans (Nat.le_of_eq HXW.out) HTX.out.size)
                  have HIB : Kp (i ≤ 1001) := put (by have := HGN.out; have := HM.out; have := HMG.out; omega)
                  have HKT : Kp (Below w5.heap.size w5 wt) := put (KW.out.trans (TB.out.mono (by rw [HB.out]; exact KW.out.size)))
                  have HWT : Kp (X < w5.heap.size) := put (Array.getElem?_eq_some_iff.1 HYW.out).1
                  clear hj hky hltj
                  go_wp2_with (at_builtin; refine wpList_push (W := wt) tRow w5.heap.size rfl _ _ 78 30 _ 24 rfl Try.underlying78 infoRow rfl (by decide) (by decide) (.slice A8 i c8) (runL (rowR rows s) (GL.take i)).1 (rowR rows s g).1 [.slice A7 (k + n) c7] (fun k => X ≤ k) rfl rfl HRT.out HOW.out HKT.out.size (by rw [HLI.out]; have := HIB.out; omega) ?_; intro v1 w8 hown hg hat; obtain ⟨A10, c10, e9, _, _⟩ := hown.form; rw [List.length_append, HLI.out, List.length_singleton] at e9; subst e9; have HG8 := put hg; have HOWN := put hown; clear hown hg hat)
                  go_roundg (ng - (i + 1))
                  case measure => omega
                  case rel => exact ⟨i + 1, A10, c10, rfl, by go_num, by omega, Nat.le_refl _, put (by rw [HE.out]), put (by rw [HE.out]; exact HOWN.out), put (HKT.out.grown HG8.out HKT.out.size (fun b hb => (HOW.out.lt b hb).1))⟩
        · have hlz : ¬ (i : Int) < (ng : Int) := by omega
          obtain rfl : ng = i := by omega
          have HR : Kp (runL (rowR rows s) (GL.take ng) = rowsR rows s GL) := put (by rw [List.take_of_length_le (by rw [HMG.out]; exact Nat.le_refl _), rowsR_run])
          have HSO : Kp (Sl tRow (fun k => X ≤ k) wr (.slice A8 ng c8) (runL (rowR rows s) (GL.take ng)).1) := put (KO.out.sl (fun k hk => Nat.le_trans HXS.out (KO.out.lt k hk).1) (fun _ h => h) (by rw [runL_len _ _ KZ.out, List.length_take]; have := HGN.out; have := HM.out; omega))
          have HE : Kp (rowsE X wr (rowsR rows s GL) (.returned (.slice A8 ng c8))) := put (by
            unfold rowsE
            rw [← HR.out, if_pos KZ.out]
            exact ⟨_, rfl, HSO.out⟩)
          clear hlt hi hkx
          go_wp2_with fail
          go_ret
          exact ⟨HXW.out ▸ HE.out, HXW.out ▸ KB.out⟩
    · have zg : ((ng : Int) == 0) = false := by simp [hz1]
      clear hz hz1 hng
      go_wp2_with fail
      clear zg y0 y1
      go_loopg [6, 30] ng (fun kx s6 s30 wr => ∃ (i : Nat) (A8 : Option Addr) (c8 : Nat), s6 = .slice A8 i c8 ∧ s30 = .int .i64 i ∧ i ≤ ng ∧ ng - i ≤ kx ∧ Kp ((runL (rowR rows s) (GL.take i)).2 = 0) ∧ Kp (Own tRow 30 (fun k => X ≤ k) wr w5.heap.size (.slice A8 i c8) (runL (rowR rows s) (GL.take i)).1) ∧ Kp (Below w5.heap.size w5 wr))
      case atStart => exact ⟨0, none, 0, rfl, rfl, Nat.zero_le _, Nat.le_refl _, put rfl, put (Own.nil _ _ _ _ _), put (Below.refl _ _)⟩
      case round =>
        rename World => wr
        obtain ⟨i, A8, c8, rfl, rfl, hi, hkx, KZ, KO, KW⟩ := hrel
        have hng9 : ng ≤ 1001 := by have := HGN.out; have := HM.out; have := HMG.out; omega
        have HXS : Kp (X ≤ w5.heap.size) := put (Nat.le_of_lt (Array.getElem?_eq_some_iff.1 HYW.out).1)
        have KB : Kp (Below X w wr) := put (HBW.out.trans (KW.out.mono HXS.out))
        have HYR := put ((KW.out.block X (Array.getElem?_eq_some_iff.1 HYW.out).1).trans HYW.out)
        by_cases hlt : i < ng
        · have hlz : (i : Int) < (ng : Int) := by omega
          have i0 : (0 : Int) ≤ (i : Int) := by omega
          obtain ⟨adg, gz, vg, rfl, hgx, hvg, hsg⟩ := introws_get (HSL.out.below KW.out).row.1 i (by rw [List.length_map, ← HMG.out]; exact hlt)
          obtain ⟨g, rfl, hg⟩ : ∃ g, gz = nats g ∧ GL[i]? = some g := by
            rw [List.getElem?_map] at hgx
            obtain ⟨g, h1, h2⟩ := Option.map_eq_some_iff.1 hgx
            exact ⟨g, h2.symm, h1⟩
          obtain ⟨AG, cg, rfl, _, _, _⟩ := hsg.shape
          have HRG : Kp (Row (tInt .i64) (fun k => X ≤ k) wr AG (nats g)) := put hsg.row.1
          have hlng : (nats g).length = g.length := by unfold nats; rw [List.length_map]
          rw [hlng] at hvg
          have HGX := put hg
          have HGI := put (HGM.out g (List.mem_of_getElem? hg))
          have HXR : Kp (X ≤ wr.heap.size) := put (Nat.le_trans (Nat.le_of_eq HXW.out) KB.out.size)
          have HGL9 : Kp (g.length ≤ 1000) := put (Nat.le_trans HGI.out.2.2 HL.out.1)
          obtain ⟨p, hp⟩ : ∃ p, p = g.length := ⟨_, rfl⟩
          rw [← hp] at hvg
          have HP := put hp
          obtain ⟨y0, y1, y2, y3⟩ := s_cells HYR.out
          clear y1 y2 y3
          clear hgx hsg hg hlng hp
          go_wp2_with fail
          clear hvg y0
          obtain ⟨B, hB⟩ : ∃ B, B = wr.heap.size := ⟨_, rfl⟩
          have HB := put hB
          clear hB
          go_loopg [9, 37] k (fun ky s9 s37 wq => ∃ (j : Nat) (A9 : Option Addr) (c9 : Nat), s9 = .slice A9 j c9 ∧ s37 = .int .i64 j ∧ j ≤ k ∧ k - j ≤ ky ∧ Kp (Own tVal 55 (fun _ => False) wq B (.slice A9 j c9) ((s.cols.take j).map (fun c => cell rows (g.headD 0) c))) ∧ Kp (Below B wr wq))
          case atStart => exact ⟨0, none, 0, rfl, rfl, Nat.zero_le _, Nat.le_refl _, put (Own.nil _ _ _ _ _), put (Below.refl _ _)⟩
          case round =>
            rename World => wq
            obtain ⟨j, A9, c9, rfl, rfl, hj, hky, QO, QB⟩ := hrel
            have HBQ : Kp (B ≤ wq.heap.size) := put (by rw [HB.out]; exact QB.out.size)
            have HBX : Kp (Below X w wq) := put (KB.out.trans (QB.out.mono (by rw [HB.out]; exact HXR.out)))
            by_cases hltj : j < k
            · have jz : (j : Int) < (k : Int) := by omega
              have j0 : (0 : Int) ≤ (j : Int) := by omega
              obtain ⟨adc, ci, rfl, hci, z0⟩ := ints_get (HCX.out wq HBX.out) j (by rw [← HKC.out]; exact hltj)
              have hgne := HGI.out.1 (List.ne_nil_of_mem (List.mem_of_getElem? hci))
              obtain ⟨q, hq, hqh⟩ : ∃ q : Nat, (nats g)[0]? = some (q : Int) ∧ g.headD 0 = q ∧ q ∈ g := by
                cases hh : g with
                | nil => exact absurd hh hgne
                | cons q g' => exact ⟨q, rfl, rfl, List.mem_cons_self⟩
              have hp0 : 0 < p := by rw [HP.out]; exact List.length_pos_iff.2 hgne
              obtain ⟨adG, gi, rfl, hgi, zg⟩ := ints_get (Row.move HRG.out (fun b _ hb => QB.out.block b (by rw [HB.out]; exact hb))) 0 (by unfold nats; rw [List.length_map, ← HP.out]; exact hp0)
              obtain rfl : gi = (q : Int) := by rw [hq] at hgi; exact (Option.some.inj hgi).symm
              simp only [add_zero] at zg
              have hqr : q < rows.length := HGI.out.2.1 q hqh.2
              have hqz : (q : Int) < (m : Int) := by have := HM.out; omega
              have q00 : (0 : Int) ≤ (q : Int) := by omega
              obtain ⟨ad, r, Ar, cr, rfl, hr, x0, hsr⟩ := rows_get (HSX.out wq HBX.out).row.1 q hqr
              have hC := HCO.out r (List.mem_of_getElem? hr) ci (List.mem_of_getElem? hci)
              unfold inC at hC
              simp only [Bool.and_eq_true, decide_eq_true_eq] at hC
              obtain ⟨col, rfl⟩ : ∃ col : Nat, ci = col := ⟨ci.toNat, by omega⟩
              have hcr : col < r.length := by omega
              obtain ⟨adv, rfl, u0, u1, u2⟩ := vals_get hsr.row.1 col hcr
              have hcz : (col : Int) < (r.length : Int) := by omega
              have cz0 : (0 : Int) ≤ (col : Int) := by omega
              obtain ⟨x, hx⟩ : ∃ x, x = r[col]'hcr := ⟨_, rfl⟩
              rw [← hx] at u0 u1 u2
              have hce : cell rows (q : Int).toNat (col : Int) = x := cell_eq hr (by rw [hx]; exact List.getElem?_eq_getElem _)
              have HE : Kp ((s.cols.take (j + 1)).map (fun c => cell rows (g.headD 0) c) = (s.cols.take j).map (fun c => cell rows (g.headD 0) c) ++ [x]) := put (by
                rw [take_one hci, List.map_append, List.map_singleton, hqh.1]; rw [show cell rows q (col : Int) = x from hce])
              have hjl : Kp (((s.cols.take j).map (fun c => cell rows (g.headD 0) c)).length = j) := put (by rw [List.length_map, List.length_take, ← HKC.out]; omega)
              clear hce hx hci hgne hq hqh hgi hqr hr hsr hC hcr
              go_wp2_with (at_builtin; refine wpList_push (W := wq) tVal B rfl _ _ 30 55 _ 32 rfl Try.underlying30 infoVal rfl (by decide) (by decide) (.slice A9 j c9) ((s.cols.take j).map (fun c => cell rows (g.headD 0) c)) x [.int .i64 x.kind, .int .i64 x.n, .string x.s] (fun _ => False) rfl rfl rfl QO.out HBQ.out (by rw [hjl.out]; omega) ?_; intro v1 w7 hown hg hat; obtain ⟨A10, c10, e9, _, _⟩ := hown.form; rw [List.length_append, hjl.out, List.length_singleton] at e9; subst e9; have hb7 : Below B wr w7 := QB.out.grown hg HBQ.out (fun b hb => (QO.out.lt b hb).1); have HB7 := put hb7; have HOWN := put hown; clear hown hg hat hb7)
              go_roundg (k - (j + 1))
              case measure => omega
              case rel => exact ⟨j + 1, A10, c10, rfl, by go_num, by omega, Nat.le_refl _, put (by rw [HE.out]; exact HOWN.out), HB7⟩
            · have jz : ¬ (j : Int) < (k : Int) := by omega
              obtain rfl : k = j := by omega
              have HYQ := put ((QB.out.block X (by rw [HB.out]; exact (Array.getElem?_eq_some_iff.1 HYR.out).1)).trans HYR.out)
              obtain ⟨y0, y1, y2, y3⟩ := s_cells HYQ.out
              clear y0 y2 y3
              have HQ0 : Kp (Own tVal 55 (fun _ => False) wq B (.slice A9 (k + 0) c9) (s.cols.map (fun c => cell rows (g.headD 0) c) ++ (runL (sumR rows g) (s.sums.take 0)).1)) := put (by
                have h := QO.out
                rw [List.take_of_length_le (by rw [HKC.out]; exact Nat.le_refl _)] at h
                rw [List.take_zero, runL, List.append_nil]
                exact h)
              clear hltj hj hky
              go_wp2_with fail
              clear y1
              go_loopg [9, 57] n (fun ky s9 s57 wt => ∃ (j : Nat) (A9 : Option Addr) (c9 : Nat), s9 = .slice A9 (k + j) c9 ∧ s57 = .int .i64 j ∧ j ≤ n ∧ n - j ≤ ky ∧ Kp ((runL (sumR rows g) (s.sums.take j)).2 = 0) ∧ Kp (Own tVal 55 (fun _ => False) wt B (.slice A9 (k + j) c9) (s.cols.map (fun c => cell rows (g.headD 0) c) ++ (runL (sumR rows g) (s.sums.take j)).1)) ∧ Kp (Below B wr wt))
              case atStart => exact ⟨0, A9, c9, rfl, rfl, Nat.zero_le _, Nat.le_refl _, put rfl, HQ0, QB⟩
              case round =>
                rename World => wt
                obtain ⟨j, A7, c7, rfl, rfl, hj, hky, TZ, TO, TB⟩ := hrel
                have HBT : Kp (B ≤ wt.heap.size) := put (by rw [HB.out]; exact TB.out.size)
                have HTX : Kp (Below X w wt) := put (KB.out.trans (TB.out.mono (by rw [HB.out]; exact HXR.out)))
                have HTL : Kp (∀ i, i ≤ n → (runL (sumR rows g) (s.sums.take i)).2 = 0 → (s.cols.map (fun c => cell rows (g.headD 0) c) ++ (runL (sumR rows g) (s.sums.take i)).1).length = k + i) := put (fun i hi hz => by rw [List.length_append, List.length_map, runL_len _ _ hz, List.length_take, ← HKC.out, ← HN.out]; omega)
                by_cases hltj : j < n
                · have jz : (j : Int) < (n : Int) := by omega
                  have j0 : (0 : Int) ≤ (j : Int) := by omega
                  obtain ⟨ads, x, rfl, hx, z0, z1⟩ := sums_get (HUX.out wt HTX.out) j (by rw [← HN.out]; exact hltj)
                  have HX := put hx
                  have HXM := put (List.mem_of_getElem? hx)
                  have HCC : Kp (x.kind ≠ 1 → g ≠ [] → ∃ j : Nat, x.col = j ∧ ∀ r ∈ rows, j < r.length ∧ r.length ≤ 1000) := put (fun h1 hne => by
                    obtain ⟨q, hq⟩ := List.exists_mem_of_ne_nil g hne
                    have hr := HSU.out x HXM.out h1
                    have h0 := hr _ (List.getElem_mem (HGI.out.2.1 q hq))
                    unfold inC at h0 hr
                    simp only [Bool.and_eq_true, decide_eq_true_eq] at h0 hr
                    exact ⟨x.col.toNat, by omega, fun r hrm => ⟨by have := hr r hrm; omega, HL.out.2 r hrm⟩⟩)
                  have HBA : Kp (Below wt.heap.size wt (wt.alloc (.cells #[.int .i64 x.kind, .int .i64 x.col] 102))) := put (balloc (Below.refl _ wt) _)
                  have HTA := put (HTX.out.trans (HBA.out.mono (Nat.le_trans (Nat.le_of_eq HXW.out) HTX.out.size)))
                  clear hx
                  go_wp2_with fail
                  refine (show Calls Try.prog 102 #[.agg #[.int .i64 x.kind, .int .i64 x.col], .slice A m c, .slice AG p cg] (wt.alloc (.cells #[.int .i64 x.kind, .int .i64 x.col] 102)) (fun e w' => e = totE (sumR rows g x) ∧ Below (wt.alloc (.cells #[.int .i64 x.kind, .int .i64 x.col] 102)).heap.size (wt.alloc (.cells #[.int .i64 x.kind, .int .i64 x.col] 102)) w') from by
                    rw [HP.out]
                    exact ofCalls ok _ _ AG cg rows g x _ (HSX.out _ HTA.out) (Row.move HRG.out (fun b _ hb => (TB.out.trans (HBA.out.mono HBT.out)).block b (by rw [HB.out]; exact hb))) HGL9.out HGI.out.2.1 (HK.out x HXM.out) HCC.out HIN.out).mono ?_
                  rintro e w7 ⟨he, hb7⟩
                  have HB7 : Kp (Below wt.heap.size wt w7) := put (HBA.out.trans (hb7.mono HBA.out.size))
                  have HBW7 : Kp (Below B wr w7) := put (TB.out.trans (HB7.out.mono HBT.out))
                  have HBX7 : Kp (Below X w w7) := put (HTX.out.trans (HB7.out.mono (Nat.le_trans (Nat.le_of_eq HXW.out) HTX.out.size)))
                  have HO7 := put (TO.out.below HB7.out)
                  obtain ⟨t, ht⟩ : ∃ t, t = sumR rows g x := ⟨_, rfl⟩
                  have HT := put ht
                  rw [← ht] at he
                  clear hb7 ht
                  by_cases hz : t.2 = 0
                  · obtain rfl : e = .returned (.agg #[.int .i64 t.1.kind, .int .i64 t.1.n, .string t.1.s]) := by rw [he, totE, if_pos hz]
                    have HE : Kp (runL (sumR rows g) (s.sums.take (j + 1)) = ((runL (sumR rows g) (s.sums.take j)).1 ++ [t.1], 0)) := put (by rw [runL_one HX.out TZ.out (by rw [← HT.out]; exact hz), HT.out])
                    have HLJ := put (HTL.out j (by omega) TZ.out)
                    have HSZ : Kp (B ≤ w7.heap.size) := put (Nat.le_trans HBT.out HB7.out.size)
                    clear he hz
                    go_wp2_with (at_builtin; refine wpList_push (W := w7) tVal B rfl _ _ 30 55 _ 32 rfl Try.underlying30 infoVal rfl (by decide) (by decide) (.slice A7 (k + j) c7) (s.cols.map (fun c => cell rows (g.headD 0) c) ++ (runL (sumR rows g) (s.sums.take j)).1) t.1 [.int .i64 t.1.kind, .int .i64 t.1.n, .string t.1.s] (fun _ => False) rfl rfl rfl HO7.out HSZ.out (by rw [HLJ.out]; omega) ?_; intro v1 w8 hown hg hat; obtain ⟨A10, c10, e9, _, _⟩ := hown.form; rw [List.length_append, HLJ.out, List.length_singleton] at e9; subst e9; have hb8 : Below B wr w8 := HBW7.out.grown hg HSZ.out (fun b hb => (HO7.out.lt b hb).1); have HB8 := put hb8; have HOWN := put hown; clear hown hg hat hb8)
                    go_roundg (n - (j + 1))
                    case measure => omega
                    case rel => exact ⟨j + 1, A10, c10, rfl, by go_num, by omega, Nat.le_refl _, put (by rw [HE.out]), put (by rw [HE.out, ← List.append_assoc]; exact HOWN.out), HB8⟩
                  · obtain rfl : e = stopE t.2 := by rw [he, totE, if_neg hz]
                    have HS9 : Kp (rowsE X w7 (rowsR rows s GL) (stopE t.2)) := put (by
                      have e1 : (rowR rows s g).2 = t.2 := by
                        show (sumsR rows g s.sums).2 = t.2
                        rw [sumsR_run, runL_end HX.out TZ.out (by rw [← HT.out]; exact hz), HT.out]
                      have e2 := runL_end (f := rowR rows s) HGX.out KZ.out (by rw [e1]; exact hz)
                      unfold rowsE
                      rw [rowsR_run, e2, e1, if_neg hz])
                    exact ⟨rfl, HXW.out ▸ HS9.out, HXW.out ▸ HBX7.out⟩
                · have jz : ¬ (j : Int) < (n : Int) := by omega
                  obtain rfl : n = j := by omega
                  have HR : Kp (rowR rows s g = (s.cols.map (fun c => cell rows (g.headD 0) c) ++ (runL (sumR rows g) (s.sums.take n)).1, 0)) := put (by
                    have e1 : runL (sumR rows g) (s.sums.take n) = sumsR rows g s.sums := by rw [List.take_of_length_le (by rw [HN.out]; exact Nat.le_refl _), sumsR_run]
                    have e2 := TZ.out
                    rw [e1] at e2
                    unfold rowR
                    rw [e1, e2])
                  have HLJ := put (HTL.out n (by omega) TZ.out)
                  have HRT : Kp (tRow.R (fun k => X ≤ k ∧ some k ≠ (Value.slice A8 i c8).ownBlock) wt (rowR rows s g).1 [.slice A7 (k + n) c7]) := put (by
                    rw [HR.out]
                    exact ⟨_, rfl, TO.out.sl (fun b hb => ⟨Nat.le_trans HXR.out (by rw [← HB.out]; exact (TO.out.lt b hb).1), fun e => by have h1 := (KO.out.lt b e.symm).2; have h2 := (TO.out.lt b hb).1; rw [HB.out] at h2; omega⟩) (fun _ h => h.elim) (by rw [HLJ.out]; omega)⟩)
                  have HOW := put (KO.out.below (by rw [← HB.out]; have h := TB.out; rw [HB.out] at h ⊢; exact h))
                  have HLI : Kp ((runL (rowR rows s) (GL.take i)).1.length = i) := put (by rw [runL_len _ _ KZ.out, List.length_take, ← HMG.out]; omega)
                  have HE : Kp (runL (rowR rows s) (GL.take (i + 1)) = ((runL (rowR rows s) (GL.take i)).1 ++ [(rowR rows s g).1], 0)) := put (runL_one HGX.out KZ.out (by rw [HR.out]))
                  have HXT : Kp (X ≤ wt.heap.size) := put (Nat.le_trans (Nat.le_of_eq HXW.out) HTX.out.size)
                  have HIB : Kp (i ≤ 1001) := put (by have := HGN.out; have := HM.out; have := HMG.out; omega)
                  have HKT : Kp (Below w5.heap.size w5 wt) := put (KW.out.trans (TB.out.mono (by rw [HB.out]; exact KW.out.size)))
                  have HWT : Kp (X < w5.heap.size) := put (Array.getElem?_eq_some_iff.1 HYW.out).1
                  clear hj hky hltj
                  go_wp2_with (at_builtin; refine wpList_push (W := wt) tRow w5.heap.size rfl _ _ 78 30 _ 24 rfl Try.underlying78 infoRow rfl (by decide) (by decide) (.slice A8 i c8) (runL (rowR rows s) (GL.take i)).1 (rowR rows s g).1 [.slice A7 (k + n) c7] (fun k => X ≤ k) rfl rfl HRT.out HOW.out HKT.out.size (by rw [HLI.out]; have := HIB.out; omega) ?_; intro v1 w8 hown hg hat; obtain ⟨A10, c10, e9, _, _⟩ := hown.form; rw [List.length_append, HLI.out, List.length_singleton] at e9; subst e9; have HG8 := put hg; have HOWN := put hown; clear hown hg hat)
                  go_roundg (ng - (i + 1))
                  case measure => omega
                  case rel => exact ⟨i + 1, A10, c10, rfl, by go_num, by omega, Nat.le_refl _, put (by rw [HE.out]), put (by rw [HE.out]; exact HOWN.out), put (HKT.out.grown HG8.out HKT.out.size (fun b hb => (HOW.out.lt b hb).1))⟩
        · have hlz : ¬ (i : Int) < (ng : Int) := by omega
          obtain rfl : ng = i := by omega
          have HR : Kp (runL (rowR rows s) (GL.take ng) = rowsR rows s GL) := put (by rw [List.take_of_length_le (by rw [HMG.out]; exact Nat.le_refl _), rowsR_run])
          have HSO : Kp (Sl tRow (fun k => X ≤ k) wr (.slice A8 ng c8) (runL (rowR rows s) (GL.take ng)).1) := put (KO.out.sl (fun k hk => Nat.le_trans HXS.out (KO.out.lt k hk).1) (fun _ h => h) (by rw [runL_len _ _ KZ.out, List.length_take]; have := HGN.out; have := HM.out; omega))
          have HE : Kp (rowsE X wr (rowsR rows s GL) (.returned (.slice A8 ng c8))) := put (by
            unfold rowsE
            rw [← HR.out, if_pos KZ.out]
            exact ⟨_, rfl, HSO.out⟩)
          clear hlt hi hkx
          go_wp2_with fail
          go_ret
          exact ⟨HXW.out ▸ HE.out, HXW.out ▸ KB.out⟩
end Go.Proofs.Ytkfoknjflpklpaa.P
