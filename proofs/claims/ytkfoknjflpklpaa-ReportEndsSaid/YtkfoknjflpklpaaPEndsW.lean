/- The walk of the law ReportEnds. -/
import Derived.Test.YtkfoknjflpklpaaPCountsW
import Derived.Test.YtkfoknjflpklpaaPSums
namespace Go.Proofs.Ytkfoknjflpklpaa.P
open Go Go.RowKit Go.Sort Go.Proofs.Ytkfoknjflpklpaa.Mem Go.Proofs.Ytkfoknjflpklpaa.Cmp Go.Proofs.Ytkfoknjflpklpaa.D
attribute [local go_sem high] eqVal

theorem knownC_snoc (col : Int) (S : List (List Val)) (r : List Val) : knownC col (S ++ [r]) = knownC col S ++ if (atV r col).kind = 0 then [] else [atV r col] := by
  unfold knownC
  rw [List.map_append, List.filter_append]
  by_cases h : (atV r col).kind = 0 <;> simp [h]
theorem knownC_kind (col : Int) (S : List (List Val)) : ∀ v ∈ knownC col S, v.kind ≠ 0 := fun v hv => by simpa using (List.mem_filter.1 hv).2
theorem firstV_snoc {l : List Val} (h : ∀ v ∈ l, v.kind ≠ 0) (x : Val) : firstV (l ++ [x]) = if (firstV l).kind = 0 then x else firstV l := by
  cases l with
  | nil => rfl
  | cons v l =>
    have := h v List.mem_cons_self
    show v = if v.kind = 0 then x else v
    rw [if_neg this]
theorem finalV_snoc (l : List Val) (x : Val) : finalV (l ++ [x]) = x := by simp [finalV]
theorem fine_end {rows : List (List Val)} {col : Int} (h : fine rows (endS col) = true) : ∀ r ∈ rows, 0 ≤ col ∧ col < (r.length : Int) := by
  intro r hr
  have := (fine_facts h).2.2 ⟨4, col⟩ (by simp [endS]) (by simp) r hr
  simpa [inC] using this
def VC (w : World) (X : Nat) (x : Val) : Prop := w.heap[X]? = some (.cells #[.int .i64 x.kind, .int .i64 x.n, .string x.s] 55 (0, 0))
theorem VC.set {w : World} {X : Nat} {x : Val} (h : VC w X x) (y : Val) : VC (((w.setCell ⟨X, 0, none⟩ (.int .i64 y.kind)).setCell ⟨X, 1, none⟩ (.int .i64 y.n)).setCell ⟨X, 2, none⟩ (.string y.s)) X y := v_stored h _ _ _
theorem set3_heap (w : World) (X k : Nat) (u0 u1 u2 : Value) (h : k ≠ X) : (((w.setCell ⟨X, 0, none⟩ u0).setCell ⟨X, 1, none⟩ u1).setCell ⟨X, 2, none⟩ u2).heap[k]? = w.heap[k]? := (Below.heap_setCell _ ⟨X, 2, none⟩ _ k h).trans ((Below.heap_setCell _ ⟨X, 1, none⟩ _ k h).trans (Below.heap_setCell _ ⟨X, 0, none⟩ _ k h))
theorem cell_keep {w w' : World} {a : Addr} {v : Value} (h : w.cell? a = some v) (hk : w'.heap[a.block]? = w.heap[a.block]?) : w'.cell? a = some v := (World.cell?_of_block hk).trans h
/-- The answer of Make at two sums. -/
theorem two_at {ok : Nat → Prop} {w : World} {A : Option Addr} {c n : Nat} {x y : Val} (h : Sl tRow ok w (.slice A n c) [[x, y]]) : ∃ ad bd c1, A = some ad ∧ w.cell? ad = some (.slice (some bd) 2 c1) ∧ (w.cell? bd = some (.int .i64 x.kind) ∧ w.cell? ⟨bd.block, bd.off + 1, none⟩ = some (.int .i64 x.n) ∧ w.cell? ⟨bd.block, bd.off + 2, none⟩ = some (.string x.s)) ∧ (w.cell? ⟨bd.block, bd.off + 3, none⟩ = some (.int .i64 y.kind) ∧ w.cell? ⟨bd.block, bd.off + 4, none⟩ = some (.int .i64 y.n) ∧ w.cell? ⟨bd.block, bd.off + 5, none⟩ = some (.string y.s)) := by
  obtain ⟨ad, r, A1, c1, rfl, hr, x0, hs⟩ := rows_get h.row.1 0 (by simp)
  simp only [List.getElem?_cons_zero, Option.some.injEq] at hr
  subst hr
  obtain ⟨bd, rfl, y0, y1, y2⟩ := vals_get hs.row.1 0 (by simp)
  obtain ⟨bd', e, z0, z1, z2⟩ := vals_get hs.row.1 1 (by simp)
  obtain rfl : bd = bd' := by simpa using e
  rw [add_zero] at x0
  rw [Nat.zero_mul, add_zero] at y0 y1 y2
  rw [add_pos bd (1 * 3) (by decide)] at z0 z1 z2
  exact ⟨ad, bd, c1, rfl, x0, ⟨y0, y1, y2⟩, z0, z1, z2⟩

set_option maxHeartbeats 16000000 in
set_option maxRecDepth 100000 in
theorem reportEndsCalls (ok : Nat → Prop) (v : Value) (rows : List (List Val)) (col : Int) (w : World) (h : Sl tRow ok w v rows) (hin : ∀ r ∈ rows, ∀ y ∈ r, InR y.n) :
    Calls Try.prog 12 #[v, .int .i64 col] w fun e w' => e = .returned (.bool true) ∧ Below w.heap.size w w' := by
  obtain ⟨A, c, rfl, _, _, k3⟩ := h.shape
  have HROWS := put h
  have HIN := put hin
  clear h hin
  go_enter Try.func12, Try.ntmps12
  go_wp2_with fail
  refine (awakeCalls28 _).mono ?_
  rintro e w1 ⟨rfl, hb1⟩
  have HB1 := put hb1
  clear hb1
  go_wp2_with fail
  have HB3 : Kp (∀ o o', Below w.heap.size w ((w1.alloc o).alloc o')) := put (fun o o' => balloc (balloc HB1.out o) o')
  refine (greatCalls ok _ none (some ⟨w1.heap.size, 0, none⟩) none 0 2 0 0 2 0 _ rows _ (HROWS.out.below (HB3.out _ _)) (by decide) (by decide) (by decide)).mono ?_
  rintro e w4 ⟨⟨b, rfl, hg⟩, hb4⟩
  obtain ⟨w3, hw3⟩ : ∃ w3, w3 = (w1.alloc (.cells #[.int .i64 4, .int .i64 col, .int .i64 5, .int .i64 col] 102)).alloc (.cells #[.slice none 0 0, .slice (some ⟨w1.heap.size, 0, none⟩) 2 2, .slice none 0 0, .int .i64 (-1)] 82) := ⟨_, rfl⟩
  have hsp3 : w3.heap[w1.heap.size + 1]? = some (.cells #[.slice none 0 0, .slice (some ⟨w1.heap.size, 0, none⟩) 2 2, .slice none 0 0, .int .i64 (-1)] 82 (0, 0)) := by rw [hw3, hag, if_pos (by simp)]
  have hsm3 : w3.heap[w1.heap.size]? = some (.cells #[.int .i64 4, .int .i64 col, .int .i64 5, .int .i64 col] 102 (0, 0)) := by rw [hw3, hag, if_neg (by simp), hag, if_pos rfl]
  have hB3 : Below w.heap.size w w3 := by rw [hw3]; exact HB3.out _ _
  rw [← hw3] at hb4
  clear hw3 HB3
  have hl3 := fun k o (hk : w3.heap[k]? = some o) => (hb4.block k (Array.getElem?_eq_some_iff.1 hk).1).trans hk
  have HB4 : Kp (Below w.heap.size w w4) := put (hB3.trans (hb4.mono hB3.size))
  have HSM := put (hl3 _ _ hsm3)
  have HSP := put (hl3 _ _ hsp3)
  have HG := put hg
  clear hl3 hsp3 hsm3 hB3 hb4 hg
  cases b with
  | true =>
    go_wp2_with fail
    go_ret
    exact ⟨rfl, HB4.out⟩
  | false =>
    obtain ⟨g1, _, g4⟩ := HG.out rfl
    have GL := put g1
    have G4 := put g4
    go_wp2_with fail
    refine (rightRows ok _ rows w4 (HROWS.out.below HB4.out) (by omega) (fun r hr => by have := g4 r hr; omega)).mono ?_
    rintro e w5 ⟨⟨b, rfl, _⟩, hb5⟩
    clear g1 g4 HG
    cases b with
    | false =>
      go_wp2_with fail
      go_ret
      exact ⟨rfl, HB4.out.trans (hb5.mono HB4.out.size)⟩
    | true =>
      have hl5 := fun k o (hk : w4.heap[k]? = some o) => (hb5.block k (Array.getElem?_eq_some_iff.1 hk).1).trans hk
      have HSM5 := put (hl5 _ _ HSM.out)
      obtain ⟨s0, s1, s2, s3⟩ := s_cells (hl5 _ _ HSP.out)
      have HB5 : Kp (Below w.heap.size w w5) := put (HB4.out.trans (hb5.mono HB4.out.size))
      have HM := put (makeCalls ok (fun _ => True) _ _ _ _ rows (endS col) w5 (HROWS.out.below HB5.out) (spR_lit (v0 := .slice none 0 0) (v2 := .slice none 0 0) (s := endS col) rfl HSM5.out trivial (Sl.nil _ _ _) (Sl.nil _ _ _) (by simp [endS]) (by simp [endS])) (by have := GL.out; omega) (fun r hr => by have := G4.out r hr; omega) (by simp [endS]) HIN.out)
      clear hl5 HSM HSP hb5 HB4
      go_wp2_with fail
      refine HM.out.mono ?_
      rintro e w6 ⟨vo, rfl, hso, hb6⟩
      have HB6 : Kp (Below w.heap.size w w6) := put (HB5.out.trans (hb6.mono HB5.out.size))
      clear hb6 s0 s1 s2 s3 HSM5 HM
      rw [make_end] at hso ⊢
      cases hf : fine rows (endS col) with
      | false =>
        rw [hf, if_pos rfl] at hso
        obtain ⟨Av, cv, rfl, k1, k2, _⟩ := hso.shape
        clear hso hf
        go_wp2_with fail
        go_ret
        exact ⟨rfl, HB6.out⟩
      | true =>
        rw [hf, if_neg (by decide)] at hso
        have HF := put hf
        obtain ⟨Av, cv, rfl, k1, k2, _⟩ := hso.shape
        have HSO := put (tRowU_sl hso)
        have HL := put (ends_law col rows)
        clear hf hso
        dsimp only
        obtain ⟨M, hM⟩ : ∃ M, M = rows.length := ⟨_, rfl⟩
        rw [← hM] at HROWS GL k3 ⊢
        have HMM := put hM
        clear hM
        by_cases hM0 : M = 0
        · have hr0 : rows = [] := List.eq_nil_of_length_eq_zero (by rw [← HMM.out]; exact hM0)
          subst hr0
          subst hM0
          obtain ⟨ad, bd, c1, rfl, x0, ⟨y0, y1, y2⟩, z0, z1, z2⟩ := two_at HSO.out
          have e1 : minV (knownC col []) = ⟨0, 0, ⟨#[]⟩⟩ := rfl
          have e2 : maxV (knownC col []) = ⟨0, 0, ⟨#[]⟩⟩ := rfl
          rw [e1] at y0 y1 y2
          rw [e2] at z0 z1 z2
          clear e1 e2
          dsimp only at y0 y1 y2 z0 z1 z2
          go_wp2_with fail
          go_ret
          exact ⟨rfl, HB6.out⟩
        · have hMz : ((M : Int) == 0) = false := by simp; omega
          obtain ⟨F, hF⟩ : ∃ F, F = w6.heap.size := ⟨_, rfl⟩
          obtain ⟨w8, hw8⟩ : ∃ w8, w8 = ((w6.alloc (.cells #[.int .i64 0, .int .i64 0, .string ⟨#[]⟩] 55)).alloc (.cells #[.int .i64 0, .int .i64 0, .string ⟨#[]⟩] 55)).alloc (.cells #[.int .i64 col, .bool false] 105) := ⟨_, rfl⟩
          have q0 : w8.heap[F]? = some (.cells #[.int .i64 0, .int .i64 0, .string ⟨#[]⟩] 55 (0, 0)) := by rw [hw8, hF]; simp only [hag, alloc_size, Nat.add_assoc, Nat.reduceAdd]; repeat (first | rfl | rw [if_pos (by omega)] | rw [if_neg (by omega)])
          have q1 : w8.heap[F + 1]? = some (.cells #[.int .i64 0, .int .i64 0, .string ⟨#[]⟩] 55 (0, 0)) := by rw [hw8, hF]; simp only [hag, alloc_size, Nat.add_assoc, Nat.reduceAdd]; repeat (first | rfl | rw [if_pos (by omega)] | rw [if_neg (by omega)])
          have q2 : w8.heap[F + 2]? = some (.cells #[.int .i64 col, .bool false] 105 (0, 0)) := by rw [hw8, hF]; simp only [hag, alloc_size, Nat.add_assoc, Nat.reduceAdd]; repeat (first | rfl | rw [if_pos (by omega)] | rw [if_neg (by omega)])
          have hz8 : w8.heap.size = F + 3 := by rw [hw8, hF]; simp
          have hb8 : Below F w6 w8 := by rw [hw8, hF]; exact balloc (balloc (balloc (Below.refl _ _) _) _) _
          have HSRT := put (sortCalls ok (fun _ => True) _ (.slice (some ⟨F + 2, 0, none⟩) 1 1) rows [⟨col, false⟩] w8 (HROWS.out.below (HB6.out.trans (hb8.mono (by rw [hF]; exact HB6.out.size)))) (Sl.lit (d := tKey) (xs := [⟨col, false⟩]) [[.int .i64 col, .bool false]] q2 ⟨rfl, trivial⟩ trivial (by simp)) (by rw [← HMM.out]; have := GL.out; omega) (fun r hr => by have := G4.out r hr; omega) (by simp))
          have Q0 := put q0
          have Q1 := put q1
          have HZ8 := put hz8
          have HB8 := put hb8
          have HFE := put hF
          clear q0 q1 q2 hz8 hb8 hM0
          go_wp2_with fail
          rw [← hw8, ← hF]
          clear hw8 hF
          refine HSRT.out.mono ?_
          rintro e w9 ⟨vs, rfl, ho, hb9⟩
          have hSp : (sortR [⟨col, false⟩] rows).Perm rows := Stab.isort_perm rows
          have hSl := hSp.length_eq
          rw [← HMM.out] at hSl
          have HSM := put (fun (r : List Val) (hr : r ∈ sortR [⟨col, false⟩] rows) => hSp.subset hr)
          generalize sortR [⟨col, false⟩] rows = S at *
          obtain ⟨As, cs, e9, j1, j2⟩ := ho.form
          subst e9
          have HS9 := put (tRowU_sl (ho.sl (ok' := fun k => w8.heap.size ≤ k) (fun k hk => (ho.lt k hk).1) (fun k hk => hk) (by rw [hSl]; have := GL.out; omega)))
          rw [hSl] at HS9 j1 ⊢
          have HSL := put hSl
          have HB9 : Kp (Below w.heap.size w w9) := put ((HB6.out.trans (HB8.out.mono (by rw [HFE.out]; exact HB6.out.size))).trans (hb9.mono (by have := HB6.out.size; have := HZ8.out; have := HFE.out; omega)))
          have HZ9 : Kp (F + 3 ≤ w9.heap.size) := put (by have := hb9.size; have := HZ8.out; omega)
          have V0 : Kp (VC w9 F nullV) := put ((hb9.block F (by have := HZ8.out; omega)).trans Q0.out)
          have V1 : Kp (VC w9 (F + 1) nullV) := put ((hb9.block (F + 1) (by have := HZ8.out; omega)).trans Q1.out)
          have HSO9 : Kp (Sl tRow (fun k => k < F) w9 (.slice Av 1 cv) [[minV (knownC col rows), maxV (knownC col rows)]]) := put (((HSO.out.bnd.mono (ok' := fun k => k < F) (fun k hk => by rw [HFE.out]; exact hk.2)).below (HB8.out.mono (by rw [HFE.out]; exact Nat.le_refl _))).below' hb9 (fun k hk => by have := HZ8.out; omega))
          have HFW : Kp (w.heap.size ≤ F) := put (by rw [HFE.out]; exact HB6.out.size)
          have hM60 : M ≤ 60 := GL.out
          clear ho hb9 hSp hSl HSRT Q0 Q1 HB8 HSO HB6 HFE
          go_wp2_with fail
          go_loopg [81] M (fun kx s81 wi => ∃ (i : Nat) (f g : Val), s81 = .int .i64 i ∧ i ≤ M ∧ M - i ≤ kx ∧ Kp (f = firstV (knownC col (S.take i))) ∧ Kp (g = finalV (knownC col (S.take i))) ∧ Kp (VC wi F f) ∧ Kp (VC wi (F + 1) g) ∧ Kp (∀ k, k ≠ F → k ≠ F + 1 → k < w9.heap.size → wi.heap[k]? = w9.heap[k]?) ∧ Kp (Below w.heap.size w wi))
          case atStart => exact ⟨0, nullV, nullV, rfl, Nat.zero_le _, Nat.le_refl _, put rfl, put rfl, V0, V1, put (fun _ _ _ _ => rfl), HB9⟩
          case round =>
            obtain ⟨i, f, g, rfl, hi, hkx, HFV, HGV, VF, VG, HK, HBI⟩ := hrel
            by_cases hlt : i < M
            · have hlz : (i : Int) < (M : Int) := by omega
              have i0 : (0 : Int) ≤ (i : Int) := by omega
              have hsw := HS9.out.bnd.move (w' := wr) (fun k hk hlt => HK.out k (by have := hk.1; have := HZ8.out; omega) (by have := hk.1; have := HZ8.out; omega) hlt)
              obtain ⟨ad, r, A1, d1, rfl, hr, x0, hsr⟩ := rows_get hsw.row.1 i (by rw [HSL.out]; exact hlt)
              obtain ⟨c0', c1'⟩ := fine_end HF.out r (HSM.out r (List.mem_of_getElem? hr))
              obtain ⟨p, rfl⟩ : ∃ p : Nat, col = p := ⟨col.toNat, by omega⟩
              have p1 : p < r.length := by omega
              have p0 : (0 : Int) ≤ (p : Int) := by omega
              have p1z : (p : Int) < (r.length : Int) := by omega
              obtain ⟨bd, rfl, y0, y1, y2⟩ := vals_get hsr.row.1 p p1
              have hbk : w8.heap.size ≤ bd.block := by
                obtain ⟨ad', e, hk, _⟩ := hsr.row.1 (by intro e; rw [e] at p1; simp at p1)
                obtain rfl : bd = ad' := by simpa using e
                exact hk.1
              have hne : (bd.add (p * 3)).block ≠ F ∧ (bd.add (p * 3)).block ≠ F + 1 := by rw [add_block]; have := HZ8.out; omega
              have r3 := hsr.row.2.2.2.2.1
              have EA : atV r p = r[p] := by unfold atV; rw [if_pos ⟨by omega, by omega⟩, Int.toNat_natCast, List.getD_eq_getElem?_getD, List.getElem?_eq_getElem p1]; rfl
              have HT : Kp (knownC p (S.take (i + 1)) = knownC p (S.take i) ++ if (atV r p).kind = 0 then [] else [atV r p]) := put (by rw [take_one hr, knownC_snoc])
              rw [EA] at HT
              generalize r[p] = x at *
              clear hr hsr hsw EA c0' c1' r3 hbk
              by_cases hk : x.kind = 0
              · have hkz : (x.kind == 0) = true := by simp [hk]
                rw [if_pos hk, List.append_nil] at HT
                clear hk hne
                go_wp2_with fail
                go_roundg (M - (i + 1))
                case measure => omega
                case rel => exact ⟨i + 1, f, g, by go_num, by omega, Nat.le_refl _, put (by rw [HT.out]; exact HFV.out), put (by rw [HT.out]; exact HGV.out), VF, VG, HK, HBI⟩
              · have hkz : (x.kind == 0) = false := by simp [hk]
                rw [if_neg hk] at HT
                have hF1 : F + 1 ≠ F := by omega
                have hF2 : F ≠ F + 1 := by omega
                have HNE := put hne
                clear hk hne
                by_cases hf0 : f.kind = 0
                · have hfz : (f.kind == 0) = true := by simp [hf0]
                  have HFN : Kp (firstV (knownC p (S.take (i + 1))) = x) := put (by rw [HT.out, firstV_snoc (knownC_kind _ _), ← HFV.out, if_pos hf0])
                  have HGN : Kp (finalV (knownC p (S.take (i + 1))) = x) := put (by rw [HT.out, finalV_snoc])
                  obtain ⟨k0, k1', k2'⟩ := v_cells VF.out
                  obtain ⟨l0, l1, l2⟩ := v_cells VG.out
                  obtain ⟨f0, f1, f2⟩ := v_fr VF.out
                  obtain ⟨g0, g1, g2⟩ := v_fr VG.out
                  obtain ⟨wm, hwm⟩ : ∃ wm, wm = ((wr.setCell ⟨F, 0, none⟩ (.int .i64 x.kind)).setCell ⟨F, 1, none⟩ (.int .i64 x.n)).setCell ⟨F, 2, none⟩ (.string x.s) := ⟨_, rfl⟩
                  have hm : ∀ k, k ≠ F → wm.heap[k]? = wr.heap[k]? := fun k hk => by rw [hwm]; exact set3_heap _ _ _ _ _ _ hk
                  have VFm : Kp (VC wm F x) := put (by rw [hwm]; exact VC.set VF.out x)
                  have VGm : Kp (VC wm (F + 1) g) := put ((hm _ hF1).trans VG.out)
                  have y0' := cell_keep y0 (hm _ HNE.out.1)
                  have y1' := cell_keep y1 (hm _ HNE.out.1)
                  have y2' := cell_keep y2 (hm _ HNE.out.1)
                  obtain ⟨m0, m1, m2⟩ := v_cells VGm.out
                  obtain ⟨n0, n1, n2⟩ := v_fr VGm.out
                  have HBm : Kp (Below w.heap.size w wm) := put (by rw [hwm]; exact below_set (below_set (below_set HBI.out HFW.out) HFW.out) HFW.out)
                  have HKm : Kp (∀ k, k ≠ F → k ≠ F + 1 → k < w9.heap.size → wm.heap[k]? = w9.heap[k]?) := put (fun k h1 h2 h3 => (hm k h1).trans (HK.out k h1 h2 h3))
                  have VFf : Kp (VC (((wm.setCell ⟨F + 1, 0, none⟩ (.int .i64 x.kind)).setCell ⟨F + 1, 1, none⟩ (.int .i64 x.n)).setCell ⟨F + 1, 2, none⟩ (.string x.s)) F x) := put ((set3_heap _ _ _ _ _ _ hF2).trans VFm.out)
                  have VGf : Kp (VC (((wm.setCell ⟨F + 1, 0, none⟩ (.int .i64 x.kind)).setCell ⟨F + 1, 1, none⟩ (.int .i64 x.n)).setCell ⟨F + 1, 2, none⟩ (.string x.s)) (F + 1) x) := put (VC.set VGm.out x)
                  have HKf : Kp (∀ k, k ≠ F → k ≠ F + 1 → k < w9.heap.size → (((wm.setCell ⟨F + 1, 0, none⟩ (.int .i64 x.kind)).setCell ⟨F + 1, 1, none⟩ (.int .i64 x.n)).setCell ⟨F + 1, 2, none⟩ (.string x.s)).heap[k]? = w9.heap[k]?) := put (fun k h1 h2 h3 => (set3_heap _ _ _ _ _ _ h2).trans (HKm.out k h1 h2 h3))
                  have HBf := put (below_set (o := 2) (v := .string x.s) (below_set (o := 1) (v := .int .i64 x.n) (below_set (X := F + 1) (o := 0) (v := .int .i64 x.kind) HBm.out (Nat.le_succ_of_le HFW.out)) (Nat.le_succ_of_le HFW.out)) (Nat.le_succ_of_le HFW.out))
                  rw [hwm] at VFf VGf HKf HBf y0' y1' y2' m0 m1 m2 n0 n1 n2
                  clear hm hwm hF1 hF2 VFm VGm HBm HKm
                  go_wp2_with fail
                  go_roundg (M - (i + 1))
                  case measure => omega
                  case rel => exact ⟨i + 1, x, x, by go_num, by omega, Nat.le_refl _, put HFN.out.symm, put HGN.out.symm, VFf, VGf, HKf, HBf⟩
                · have hfz : (f.kind == 0) = false := by simp [hf0]
                  have HFN : Kp (firstV (knownC p (S.take (i + 1))) = f) := put (by rw [HT.out, firstV_snoc (knownC_kind _ _), ← HFV.out, if_neg hf0])
                  have HGN : Kp (finalV (knownC p (S.take (i + 1))) = x) := put (by rw [HT.out, finalV_snoc])
                  obtain ⟨k0, k1', k2'⟩ := v_cells VF.out
                  obtain ⟨l0, l1, l2⟩ := v_cells VG.out
                  obtain ⟨g0, g1, g2⟩ := v_fr VG.out
                  have VFf : Kp (VC (((wr.setCell ⟨F + 1, 0, none⟩ (.int .i64 x.kind)).setCell ⟨F + 1, 1, none⟩ (.int .i64 x.n)).setCell ⟨F + 1, 2, none⟩ (.string x.s)) F f) := put ((set3_heap _ _ _ _ _ _ hF2).trans VF.out)
                  have VGf : Kp (VC (((wr.setCell ⟨F + 1, 0, none⟩ (.int .i64 x.kind)).setCell ⟨F + 1, 1, none⟩ (.int .i64 x.n)).setCell ⟨F + 1, 2, none⟩ (.string x.s)) (F + 1) x) := put (VC.set VG.out x)
                  have HKf : Kp (∀ k, k ≠ F → k ≠ F + 1 → k < w9.heap.size → (((wr.setCell ⟨F + 1, 0, none⟩ (.int .i64 x.kind)).setCell ⟨F + 1, 1, none⟩ (.int .i64 x.n)).setCell ⟨F + 1, 2, none⟩ (.string x.s)).heap[k]? = w9.heap[k]?) := put (fun k h1 h2 h3 => (set3_heap _ _ _ _ _ _ h2).trans (HK.out k h1 h2 h3))
                  have HBf := put (below_set (o := 2) (v := .string x.s) (below_set (o := 1) (v := .int .i64 x.n) (below_set (X := F + 1) (o := 0) (v := .int .i64 x.kind) HBI.out (Nat.le_succ_of_le HFW.out)) (Nat.le_succ_of_le HFW.out)) (Nat.le_succ_of_le HFW.out))
                  clear hF1 hF2
                  go_wp2_with fail
                  go_roundg (M - (i + 1))
                  case measure => omega
                  case rel => exact ⟨i + 1, f, x, by go_num, by omega, Nat.le_refl _, put HFN.out.symm, put HGN.out.symm, VFf, VGf, HKf, HBf⟩
            · have hlz : ¬ (i : Int) < (M : Int) := by omega
              obtain rfl : i = M := by omega
              have hf := HFV.out
              have hg := HGV.out
              rw [List.take_of_length_le (by rw [HSL.out]; exact Nat.le_refl _)] at hf hg
              rw [← HL.out.1] at hf
              rw [← HL.out.2] at hg
              have hs := HSO9.out.move (w' := wr) (fun k hk hlt => HK.out k (by omega) (by omega) hlt)
              rw [← hf, ← hg] at hs
              obtain ⟨ad, bd, c1, rfl, x0, ⟨y0, y1, y2⟩, z0, z1, z2⟩ := two_at hs
              obtain ⟨f0, f1, f2⟩ := v_cells VF.out
              obtain ⟨g0, g1, g2⟩ := v_cells VG.out
              clear hf hg hs
              go_wp2_with fail
              go_quiet (fail)
              go_wp2_with fail
              go_ret
              exact ⟨by simp, HBI.out.trans ⟨rfl, rfl, rfl, Nat.le_refl _, fun _ _ => rfl⟩⟩
end Go.Proofs.Ytkfoknjflpklpaa.P
