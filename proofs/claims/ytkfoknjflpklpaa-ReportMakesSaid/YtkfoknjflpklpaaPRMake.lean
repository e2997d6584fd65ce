/- tripwireref28.Make. -/
import Derived.Test.YtkfoknjflpklpaaPRMake1
import Derived.Test.YtkfoknjflpklpaaPWrong
import Derived.Test.YtkfoknjflpklpaaPMk
namespace Go.Proofs.Ytkfoknjflpklpaa.P
open Go Go.RowKit Go.Sort Go.Proofs.Ytkfoknjflpklpaa.Mem Go.Proofs.Ytkfoknjflpklpaa.Cmp Go.Proofs.Ytkfoknjflpklpaa.D

theorem own_vals {E base : Nat} {ok : Nat → Prop} {w : World} {v : Value} {xs : List Val} (h : Own tVal E ok w base v xs) : Own tVal E (fun _ => False) w base v xs := by
  obtain ⟨cells, hl, ho, hr⟩ := h
  exact ⟨cells, hl, ho, fun i x c hx hc => hr i x c hx hc⟩
theorem rowlen_ok {rows : List (List Val)} {s : Spc} {gs : List (List Nat)} (h : (runL (rowR rows s) gs).2 = 0) : (runL (rowR rows s) gs).1.length = gs.length := runL_len _ _ h
theorem gl_plain {rows : List (List Val)} {s : Spc} (h : ¬ (s.cols = [] ∧ rows = [])) : glOf rows s = groupsR rows s.cols := by
  unfold glOf
  rw [if_neg]
  rintro ⟨h1, h2⟩
  refine h ⟨h2, ?_⟩
  have h3 := groupsN_flat (p := fun i j => alikeV s.cols (rows.getD i []) (rows.getD j [])) rows.length
  have h4 : groupsN (fun i j => alikeV s.cols (rows.getD i []) (rows.getD j [])) rows.length = [] := h1
  rw [h4] at h3
  have h5 := h3.length_eq
  simp at h5
  exact List.eq_nil_of_length_eq_zero h5.symm
theorem gl_empty {s : Spc} (h : s.cols = []) : glOf [] s = [[]] := by unfold glOf; rw [if_pos ⟨rfl, h⟩]

set_option maxHeartbeats 32000000 in
set_option maxRecDepth 100000 in
theorem refMakeCalls (ok oks : Nat → Prop) (v v0 v1 v2 : Value) (rows : List (List Val)) (s : Spc) (w : World) (h : Sl tRow ok w v rows) (hs : SpR oks w s v0 v1 v2) (hl : rows.length ≤ 1000) (hw : ∀ r ∈ rows, r.length ≤ 1000) (hws : s.cols.length + s.sums.length ≤ 1000) (hin : ∀ r ∈ rows, ∀ y ∈ r, InR y.n) :
    Calls Try.prog 44 #[v, .agg #[v0, v1, v2, .int .i64 s.limit]] w fun e w' => ∃ vo, e = .returned (.tuple #[vo, .int .i64 (makeR rows s).2]) ∧ Sl tRow (fun _ => True) w' vo (makeR rows s).1 ∧ Below w.heap.size w w' := by
  obtain ⟨A, c, rfl, l1, l2, l3⟩ := h.shape
  obtain ⟨A0, c0, rfl, _, _, _⟩ := hs.cols.shape
  obtain ⟨A1, c1, rfl, _, _, _⟩ := hs.sums.shape
  obtain ⟨A2, c2, rfl, _, _, _⟩ := hs.order.shape
  have HS := put h
  have HSP := put hs
  have HW := put hw
  have HIN := put hin
  obtain ⟨m, hm⟩ : ∃ m, m = rows.length := ⟨_, rfl⟩
  obtain ⟨n3, hn3⟩ : ∃ n, n = s.cols.length := ⟨_, rfl⟩
  obtain ⟨n1, hn1⟩ : ∃ n, n = s.sums.length := ⟨_, rfl⟩
  obtain ⟨n5, hn5⟩ : ∃ n, n = s.order.length := ⟨_, rfl⟩
  obtain ⟨w1, hw1⟩ : ∃ w1, w1 = w.alloc (.cells #[.slice A0 n3 c0, .slice A1 n1 c1, .slice A2 n5 c2, .int .i64 s.limit] 93) := ⟨_, rfl⟩
  have hb1 : Below w.heap.size w w1 := by rw [hw1]; exact balloc (Below.refl _ _) _
  have WR := put (wrongCalls ok oks _ _ _ _ rows s w1 (hs.below hb1) (h.below hb1) hl hw)
  rw [← hm] at l1 l3 hl ⊢
  rw [← hm, ← hn3, ← hn1, ← hn5] at WR
  rw [← hn3, ← hn1] at hws
  rw [← hn3, ← hn1, ← hn5]
  rw [← hm] at HS
  rw [← hn3, ← hn1, ← hn5] at HSP
  have HM := put hm
  have HN3 := put hn3
  have HN1 := put hn1
  have HN5 := put hn5
  have hx1 : w1.heap[w.heap.size]? = some (.cells #[.slice A0 n3 c0, .slice A1 n1 c1, .slice A2 n5 c2, .int .i64 s.limit] 93 (0, 0)) := by rw [hw1]; exact heap_alloc_new _ _
  obtain ⟨X, hX⟩ : ∃ X, X = w.heap.size := ⟨_, rfl⟩
  rw [← hX] at hx1
  have HX1 := put hx1
  have KB1 := put hb1
  clear h hs hw hin hm hn3 hn1 hn5 hx1 hb1
  go_enter Try.func44, Try.ntmps44
  go_wp2_with fail
  rw [← hw1, ← hX]
  clear hw1 hX
  refine WR.out.mono ?_
  rintro e w2 ⟨rfl, hg2⟩
  have HX2 := put (G.heap hg2 HX1.out)
  have KB2 := put (KB1.out.trans (hg2.below.mono KB1.out.size))
  clear hg2 WR
  cases hf : fine rows s with
  | false =>
    have HE : Kp (makeR rows s = ([], 15)) := put (by unfold makeR; rw [if_pos hf])
    clear hf
    go_wp2_with fail
    go_ret2
    exact ⟨.slice none 0 0, by rw [HE.out]; rfl, by rw [HE.out]; exact Sl.nil _ _ _, KB2.out⟩
  | true =>
    have HF := put hf
    clear hf
    obtain ⟨x0, x1, x2, x3⟩ := s_cells HX2.out
    by_cases hpl : n3 + n1 = 0
    · have hgz : ¬ (n3 : Int) + (n1 : Int) > 0 := by omega
      have HPL : Kp (s.plain = true) := put (by unfold Spc.plain; rw [← HN3.out, ← HN1.out]; simpa using hpl)
      have HMG : Kp (makeR rows s = (cut s.limit (sortR s.order rows), 0)) := put (by
        unfold makeR grouped
        rw [HF.out, if_neg (by decide), HPL.out, if_pos rfl, if_pos rfl])
      have HR2 := put (HS.out.below KB2.out)
      have HLR : Kp (rows.length = m) := put HM.out.symm
      clear hpl
      go_wp2_with fail
      clear hgz x0 x1 x2 x3
      refine (refSortCalls ok oks _ _ (rows) s.order w2 HR2.out (HSP.out.order.below KB2.out) (by rw [HLR.out]; omega) HSP.out.l2).mono ?_
      rintro e wz ⟨vz, rfl, hoz, hbz⟩
      obtain ⟨Az, cz, ez, jz1, jz2⟩ := hoz.form
      subst ez
      have hsl : (sortR s.order (rows)).length = (rows).length := (Stab.isort_perm _).length_eq
      rw [HLR.out] at hsl
      have HXZ := put ((hbz.block X (Array.getElem?_eq_some_iff.1 HX2.out).1).trans HX2.out)
      have KBZ := put (KB2.out.trans (hbz.mono KB2.out.size))
      have HZS : Kp (Sl tRow (fun _ => True) wz (.slice Az (sortR s.order (rows)).length cz) (sortR s.order (rows))) := put (hoz.sl (fun _ _ => trivial) (fun _ _ => trivial) (by rw [hsl]; omega))
      rw [hsl] at HZS jz1 ⊢
      have HSLZ := put hsl
      clear hoz hbz hsl
      (try clear x0 x1 x2 x3)
      obtain ⟨x0, x1, x2, x3⟩ := s_cells HXZ.out
      by_cases h0 : 0 ≤ s.limit
      · by_cases h1 : s.limit < (m : Int)
        · obtain ⟨q, hq⟩ : ∃ q : Nat, s.limit = q := ⟨s.limit.toNat, by omega⟩
          have HQ := put hq
          simp only [hq] at x3 h0 h1
          clear hq
          have hqc : q ≤ cz := by omega
          have HC : Kp (cut s.limit (sortR s.order (rows)) = (sortR s.order (rows)).take q) := put (by
            unfold cut
            rw [if_pos ⟨by rw [HQ.out]; exact h0, by rw [HQ.out, HSLZ.out]; exact h1⟩, HQ.out]
            rfl)
          have hql : q ≤ m := by omega
          have HQL := put hql
          clear hql
          go_wp2_with fail
          go_ret2
          exact ⟨.slice Az q cz, by rw [HMG.out]; rfl, by rw [HMG.out, HC.out]; exact HZS.out.take HQL.out, KBZ.out⟩
        · have HC : Kp (cut s.limit (sortR s.order (rows)) = sortR s.order (rows)) := put (by unfold cut; rw [if_neg (by rw [HSLZ.out]; exact fun hh => h1 hh.2)])
          go_wp2_with fail
          go_ret2
          exact ⟨.slice Az m cz, by rw [HMG.out]; rfl, by rw [HMG.out, HC.out]; exact HZS.out, KBZ.out⟩
      · have HC : Kp (cut s.limit (sortR s.order (rows)) = sortR s.order (rows)) := put (by unfold cut; rw [if_neg (fun hh => h0 hh.1)])
        go_wp2_with fail
        go_ret2
        exact ⟨.slice Az m cz, by rw [HMG.out]; rfl, by rw [HMG.out, HC.out]; exact HZS.out, KBZ.out⟩
    · have hgz : (n3 : Int) + (n1 : Int) > 0 := by omega
      have HPL : Kp (s.plain = false) := put (by unfold Spc.plain; rw [← HN3.out, ← HN1.out]; simpa using hpl)
      have y0 : ∀ o, (w2.alloc o).cell? ⟨X, 0, none⟩ = some (.slice A0 n3 c0) := fun o => (World.cell?_alloc_some _ _ _ (by rw [x0]; rfl)).trans x0
      obtain ⟨w3, hw3⟩ : ∃ w3, w3 = w2.alloc (.cells #[] 30) := ⟨_, rfl⟩
      obtain ⟨bo, hbo⟩ : ∃ bo, bo = w2.heap.size := ⟨_, rfl⟩
      have hb3 : Below w2.heap.size w2 w3 := by rw [hw3]; exact balloc (Below.refl _ _) _
      have KB3 := put (KB2.out.trans (hb3.mono KB2.out.size))
      have HX3 := put ((hb3.block X (Array.getElem?_eq_some_iff.1 HX2.out).1).trans HX2.out)
      have HBO3 : Kp (w3.heap[bo]? = some (.cells #[] 30 (0, 0))) := put (by rw [hw3, hbo]; exact heap_alloc_new _ _)
      have HXB : Kp (X < bo ∧ bo < w3.heap.size ∧ w.heap.size ≤ bo) := put ⟨by rw [hbo]; exact (Array.getElem?_eq_some_iff.1 HX2.out).1, by rw [hw3, hbo]; simp, by rw [hbo]; exact KB2.out.size⟩
      have GRC := put (refGroupsCalls ok oks _ (.slice A0 n3 c0) rows s.cols w3 (HS.out.below KB3.out) (HSP.out.cols.below KB3.out) (by rw [← HM.out]; exact hl) HSP.out.l0 (fine_facts HF.out).2.1)
      clear hpl hb3
      go_wp2_with fail
      rw [← hw3, ← hbo]
      clear hw3 hbo hgz x0 x1 x2 x3 y0
      refine GRC.out.mono ?_
      rintro e w4 ⟨vg, rfl, hog, hb4⟩
      obtain ⟨A7, c7, eg, _, _⟩ := hog.form
      subst eg
      have KB4 := put (KB3.out.trans (hb4.mono KB3.out.size))
      have HX4 := put ((hb4.block X (Array.getElem?_eq_some_iff.1 HX3.out).1).trans HX3.out)
      have HBO4 := put ((hb4.block bo HXB.out.2.1).trans HBO3.out)
      have HZ34 := put hb4.size
      have HOG := put hog
      obtain ⟨x0, x1, x2, x3⟩ := s_cells HX4.out
      clear hog hb4 GRC
      by_cases hcr : s.cols = [] ∧ rows = []
      · obtain ⟨hc0, hr0⟩ := hcr
        have h30 : n3 = 0 := by rw [HN3.out, hc0]; rfl
        have hm0 : m = 0 := by rw [HM.out, hr0]; rfl
        have e1 : ((n3 : Int) == 0) = true := by simp [h30]
        have e2 : ((m : Int) == 0) = true := by simp [hm0]
        have hgl0 : (groupsR rows s.cols).map nats = [] := by rw [hr0]; rfl
        have hgle : glOf rows s = [[]] := by rw [hr0]; exact gl_empty hc0
        rw [hgl0] at HOG ⊢
        have HGLE := put hgle
        have hb4x : Below w4.heap.size w4 (w4.alloc (.cells #[] 3)) := balloc (Below.refl _ _) _
        have HOX := put (HOG.out.below hb4x)
        have HPX : Kp ((tSl (tInt .i64)).R (fun k => w3.heap.size ≤ k ∧ some k ≠ (Value.slice A7 ([] : List (List Int)).length c7).ownBlock) (w4.alloc (.cells #[] 3)) (nats []) [.slice (some ⟨w4.heap.size, 0, none⟩) 0 0]) := put ⟨_, rfl, ⟨_, 0, rfl, Nat.le_refl _, by omega, by simp [nats], (fun e => by cases e), fun h => absurd rfl h⟩⟩
        have HB4X := put hb4x
        obtain ⟨l7, HL7E⟩ : ∃ l7, Kp (l7 = 1) := ⟨_, put rfl⟩
        clear hgl0 hgle h30 hm0 hc0 hr0 hb4x
        go_wp2_with (at_builtin; refine wpList_push (W := w4.alloc (.cells #[] 3)) (tSl (tInt .i64)) w3.heap.size rfl _ _ 141 61 _ 24 rfl Try.underlying141 infoInts rfl (by decide) (by decide) (.slice A7 ([] : List (List Int)).length c7) [] (nats []) [.slice (some ⟨w4.heap.size, 0, none⟩) 0 0] (fun k => w3.heap.size ≤ k) rfl (by simp; rfl) HPX.out HOX.out (Nat.le_trans HZ34.out HB4X.out.size) (by decide) ?_; intro v1 w9 hown hg hat; obtain ⟨A9z, c9z, e9, _, _⟩ := hown.form; rw [show ([] ++ [nats []] : List (List Int)).length = l7 from HL7E.out.symm] at e9; subst e9; have hb9 : Below w3.heap.size w4 w9 := (HB4X.out.mono HZ34.out).grown hg (Nat.le_trans HZ34.out HB4X.out.size) (fun k hk => (HOX.out.lt k hk).1); have HB9 := put hb9; have HOWN := put hown; clear hown hg hat hb9)
        have hb9 := HB9.out
        have HX9 := put ((hb9.block X (by have := HXB.out; omega)).trans HX4.out)
        have HBO9 := put ((hb9.block bo HXB.out.2.1).trans HBO4.out)
        have KB9 := put (KB4.out.trans (hb9.mono KB3.out.size))
        have HZ39 := put (Nat.le_trans HZ34.out hb9.size)
        clear HX4 HBO4 KB4 HZ34 hb9 HB9 HOX HPX HB4X HOG e1 e2 x0 x1 x2 x3
        have HX4 := HX9
        have KB4 := KB9
        have HZ34 := HZ39
        have HL7 : Kp (l7 = (glOf rows s).length) := put (by rw [HGLE.out, HL7E.out]; rfl)
        have HL4 : Kp (Sl (tSl (tInt .i64)) (fun k => w3.heap.size ≤ k) w9 (.slice A9z l7 c9z) ((glOf rows s).map nats)) := put (by rw [HGLE.out]; exact HOWN.out.sl (fun k hk => (HOWN.out.lt k hk).1) (fun k hk => hk) (by decide))
        have hl79 : l7 ≤ 1000 := by have := HL7E.out; omega
        have HO4 : Kp (Own tRow 30 (fun _ => True) w9 w.heap.size (.slice (some ⟨bo, 0, none⟩) 0 0) (runL (rowR rows s) ((glOf rows s).take 0)).1) := put (lit_own _ HBO9.out HXB.out.2.2)
        clear HL7E
        have HS5' := HS
        go_loopg [6, 8] l7 (fun kx s6 s8 wr => ∃ (i : Nat) (A6 : Option Addr) (c6 : Nat), s6 = .slice A6 i c6 ∧ s8 = .int .i64 i ∧ i ≤ l7 ∧ l7 - i ≤ kx ∧ Kp ((runL (rowR rows s) ((glOf rows s).take i)).2 = 0) ∧ Kp (Own tRow 30 (fun _ => True) wr w.heap.size (.slice A6 i c6) (runL (rowR rows s) ((glOf rows s).take i)).1) ∧ Kp (∀ k, (Value.slice A6 i c6).ownBlock = some k → k = bo ∨ w9.heap.size ≤ k) ∧ Kp (∀ k, k < w9.heap.size → k ≠ bo → wr.heap[k]? = w9.heap[k]?) ∧ Kp (w9.heap.size ≤ wr.heap.size) ∧ Kp (Below w.heap.size w wr))
        case atStart => exact ⟨0, some ⟨bo, 0, none⟩, 0, rfl, rfl, Nat.zero_le _, Nat.le_refl _, put rfl, HO4, put (fun k hk => Or.inl (by simpa [Value.ownBlock] using hk.symm)), put (fun _ _ _ => rfl), put (Nat.le_refl _), KB4⟩
        case round =>
          obtain ⟨i, A6, c6, rfl, rfl, hi, hkx, HRZ, HO, HOB, HFR, HSZW, KB⟩ := hrel
          have HXF := put ((HFR.out X (by have := HXB.out; have := HZ34.out; omega) (by have := HXB.out; omega)).trans HX4.out)
          by_cases hlt : i < l7
          · have hlz : (i : Int) < (l7 : Int) := by omega
            have i0 : (0 : Int) ≤ (i : Int) := by omega
            have HLW := put (HL4.out.bnd.move (w' := wr) (fun k hk hlt => HFR.out k hk.2 (by have h1 := hk.1; have h2 := HXB.out.2.1; omega)))
            obtain ⟨ld', gz, gv, hld, hgz, hAg, hsg⟩ := introws_get HLW.out.row.1 i (by rw [List.length_map, ← HL7.out]; exact hlt)
            obtain ⟨g, hgi, rfl⟩ : ∃ g, (glOf rows s)[i]? = some g ∧ nats g = gz := by
              rw [List.getElem?_map] at hgz
              exact Option.map_eq_some_iff.1 hgz
            obtain ⟨Ag, cg, rfl, _, _, _⟩ := hsg.shape
            rw [show (nats g).length = g.length by unfold nats; rw [List.length_map]] at hsg hAg
            obtain ⟨ld, hlde⟩ : ∃ ld, ld = ld' := ⟨_, rfl⟩
            subst hlde
            subst hld
            have HGI := put hgi
            have HLEN := put (rowlen_ok HRZ.out)
            obtain ⟨w5, hw5⟩ : ∃ w5, w5 = wr := ⟨_, rfl⟩
            subst hw5
            have HGR : Kp (Row (tInt .i64) _ w5 Ag (nats g)) := put hsg.row.1
            have HX5 := HXF
            have KB5 := KB
            have x0 := (s_cells HX5.out).1
            clear hgz hgi hsg HLW
            go_wp2_with fail
            clear x0
            go_loopg [9, 10] n3 (fun kx s9 s10 wi => ∃ (k : Nat) (A9 : Option Addr) (c9 : Nat), s9 = .slice A9 k c9 ∧ s10 = .int .i64 k ∧ k ≤ n3 ∧ n3 - k ≤ kx ∧ Kp (Own tVal 55 (fun _ => True) wi w5.heap.size (.slice A9 k c9) ((s.cols.take k).map fun c => cell rows (g.headD 0) c)) ∧ Kp (Below w5.heap.size w5 wi))
            case atStart => exact ⟨0, _, 0, rfl, rfl, Nat.zero_le _, Nat.le_refl _, put (lit_own _ (heap_alloc_new _ _) (Nat.le_refl _)), put (balloc (Below.refl _ _) _)⟩
            case round =>
              obtain ⟨k, A9, c9, rfl, rfl, hk, hkx2, HO9, KBI⟩ := hrel
              have HX6 := put ((KBI.out.block X (Array.getElem?_eq_some_iff.1 HX5.out).1).trans HX5.out)
              have x0 := (s_cells HX6.out).1
              by_cases hlt2 : k < n3
              · have hlz2 : (k : Int) < (n3 : Int) := by omega
                have k0 : (0 : Int) ≤ (k : Int) := by omega
                have hk3 : k < s.cols.length := by rw [← HN3.out]; exact hlt2
                obtain ⟨cd, cx, hcd, hcx, z4⟩ := ints_get (HSP.out.cols.below KB5.out).row.1 k hk3
                obtain ⟨j, hj⟩ : ∃ j, g[0]? = some j := by
                  have hgn : g ≠ [] := (glOf_mem (List.mem_of_getElem? HGI.out)).1 (by intro e; rw [e] at hk3; simp at hk3)
                  cases g with
                  | nil => exact absurd rfl hgn
                  | cons j g => exact ⟨j, rfl⟩
                have hgl : 0 < g.length := (List.getElem?_eq_some_iff.1 hj).1
                obtain ⟨gd, gx, hgd, hgx, z1⟩ := ints_get HGR.out 0 (by unfold nats; rw [List.length_map]; exact hgl)
                obtain rfl : gx = (j : Int) := by
                  unfold nats at hgx
                  rw [List.getElem?_map, hj] at hgx
                  simpa using hgx.symm
                have hjr : j < rows.length := (glOf_mem (List.mem_of_getElem? HGI.out)).2.1 j (List.mem_of_getElem? hj)
                obtain ⟨ad, r, rA, cr, rfl, hr, z2, hsr⟩ := rows_get (HS.out.below KB5.out).row.1 j hjr
                have hin1 := (fine_facts HF.out).2.1 r (List.mem_of_getElem? hr) cx (List.mem_of_getElem? hcx)
                unfold inC at hin1
                simp only [Bool.and_eq_true, decide_eq_true_eq] at hin1
                obtain ⟨col, rfl⟩ : ∃ col : Nat, cx = col := ⟨cx.toNat, by omega⟩
                have hcr : col < r.length := by omega
                obtain ⟨rd, hrdd, y0, y1, y2⟩ := vals_get hsr.row.1 col hcr
                obtain ⟨y, hy⟩ : ∃ y, y = r[col]'hcr := ⟨_, rfl⟩
                rw [← hy] at y0 y1 y2
                have hce : cell rows j (col : Int) = y := cell_eq hr (show r[col]? = some y by rw [hy]; exact List.getElem?_eq_getElem _)
                have HCE : Kp ((s.cols.take (k + 1)).map (fun c => cell rows (g.headD 0) c) = (s.cols.take k).map (fun c => cell rows (g.headD 0) c) ++ [y]) := put (by
                  rw [take_one hcx, List.map_append, List.map_singleton, ← hce]
                  congr 2
                  cases g with
                  | nil => simp at hj
                  | cons a g => simp only [List.getElem?_cons_zero, Option.some.injEq] at hj; subst hj; rfl)
                have hx3 := (s_cells HX5.out).1
                rw [hcd] at hx3
                rw [hgd] at hAg
                rw [hrdd] at z2
                clear hcd hgd hrdd
                have X3' := put ((s_cells HX6.out).1)
                have x0' := X3'.out
                have hgpos : 0 < g.length := hgl
                go_wp2_with fail
                clear x0'
                refine makePut _ _ _ _ _ _ _ _ _ _ _ _ _ _ _ _ _ _ _ _ _ _ _ _ _ _ _ _ _ _ _ _ _ _ _ _ _ _ _ _ _ _ _ _ _ _ _ _ _ _ _ _ _ _ _ _ _ _ _ _ _ _ _ _ _ _ _ _ _ _ _ _ _ _ _ _ _ _ _ _ _ _ _ _ _ _ _ _ _ _ _ _ _ _ _ _ _ _ _ _ _ _ _ _ _ _ _ _ _ _ _ _ _ _ _ _ _ _ _ _ _ _ ad ld gd rd cd A9 m c l7 c9z g.length cg r.length cr n3 c0 X i j k k c9 col _ y w5 wr _ KBI.out (by omega) hgl (by rw [HM.out]; exact hjr) hlt2 hcr hAg (by rw [add_zero] at z1; exact z1) z2 hx3 z4 y0 y1 y2 HO9.out (by rw [List.length_map, List.length_take, ← HN3.out]; omega) (by omega) ?_ _ rfl
                intro r58 r59 r60 r61 r62 r63 r64 r65 r66 r67 r68 r69 r70 r71 r72 r73 r74 r75 r76 V1 d9 w9 ho9 hb9
                have HO9' := put ho9
                have HB9' := put hb9
                clear ho9 hb9
                go_wp2_with fail
                go_roundg (n3 - (k + 1))
                case measure => omega
                case rel => exact ⟨k + 1, V1, d9, rfl, by go_num, by omega, Nat.le_refl _, put (by rw [HCE.out]; exact HO9'.out), HB9'⟩
              · have hlz2 : ¬ (k : Int) < (n3 : Int) := by omega
                obtain rfl : n3 = k := by omega
                have HO10 : Kp (Own tVal 55 (fun _ => True) wr w5.heap.size (.slice A9 n3 c9) (s.cols.map fun c => cell rows (g.headD 0) c)) := put (by
                  have h9 := HO9.out
                  rwa [List.take_of_length_le (by rw [HN3.out]; exact Nat.le_refl _)] at h9)
                have KB10 := KBI
                obtain ⟨w10, hw10⟩ : ∃ w10, w10 = wr := ⟨_, rfl⟩
                subst hw10
                clear HO9 KBI
                go_wp2_with fail
                clear x0
                go_loopg [9, 11] n1 (fun kx s9 s11 wi => ∃ (k : Nat) (A9 : Option Addr) (l9 c9 : Nat), s9 = .slice A9 l9 c9 ∧ s11 = .int .i64 k ∧ k ≤ n1 ∧ n1 - k ≤ kx ∧ Kp (l9 = n3 + k) ∧ Kp ((runL (sumR rows g) (s.sums.take k)).2 = 0) ∧ Kp (Own tVal 55 (fun _ => True) wi w5.heap.size (.slice A9 l9 c9) ((s.cols.map fun c => cell rows (g.headD 0) c) ++ (runL (sumR rows g) (s.sums.take k)).1)) ∧ Kp (Below w5.heap.size w5 wi))
                case atStart => exact ⟨0, A9, n3, c9, rfl, rfl, Nat.zero_le _, Nat.le_refl _, put rfl, put rfl, put (by simpa [runL] using HO10.out), KB10⟩
                case round =>
                  obtain ⟨k, A9, l9, c9, rfl, rfl, hk, hkx2, HL9E, HSZ, HO9, KBI⟩ := hrel
                  have hl9b : l9 ≤ 1000 := by have := HL9E.out; omega
                  have HX7 := put ((KBI.out.block X (Array.getElem?_eq_some_iff.1 HX5.out).1).trans HX5.out)
                  have x1 := (s_cells HX7.out).2.1
                  by_cases hlt2 : k < n1
                  · have hlz2 : (k : Int) < (n1 : Int) := by omega
                    have k0 : (0 : Int) ≤ (k : Int) := by omega
                    have hk1 : k < s.sums.length := by rw [← HN1.out]; exact hlt2
                    have KBW : Kp (Below w.heap.size w wr) := put (KB5.out.trans (KBI.out.mono KB5.out.size))
                    obtain ⟨sd, x, hsd, hx, y0, y1⟩ := sums_get (HSP.out.sums.below KBW.out).row.1 k hk1
                    have HXI := put ((KBI.out.block X (Array.getElem?_eq_some_iff.1 HX5.out).1).trans HX5.out)
                    have hx1 := (s_cells HXI.out).2.1
                    have z0 := cell_lt' hAg KBI.out
                    rw [hsd] at hx1
                    clear hsd
                    have hxk := (fine_facts HF.out).1 x (List.mem_of_getElem? hx)
                    have RK : Kp (∀ W, Below wr.heap.size wr W → Calls Try.prog 74 #[.slice A m c, .slice Ag g.length cg, .agg #[.int .i64 x.kind, .int .i64 x.col]] W fun e w' => e = .returned (.tuple #[.agg #[.int .i64 (sumR rows g x).1.kind, .int .i64 (sumR rows g x).1.n, .string (sumR rows g x).1.s], .int .i64 (sumR rows g x).2]) ∧ Below W.heap.size W w') := put (fun W hb => by
                      have hrow := HS.out.below (KBW.out.trans (hb.mono KBW.out.size))
                      exact reckonCalls ok _ _ Ag cg rows g x W hrow (HGR.out.move (fun k _ hk => (KBI.out.trans (hb.mono KBI.out.size)).block k hk)) (by have h9 := (glOf_mem (List.mem_of_getElem? HGI.out)).2.2; have := HM.out; omega) (glOf_mem (List.mem_of_getElem? HGI.out)).2.1 (fun h1 hg => by
                        have hf := (fine_facts HF.out).2.2 x (List.mem_of_getElem? hx) h1
                        obtain ⟨a, ha⟩ := List.exists_mem_of_ne_nil g hg
                        have har := (glOf_mem (List.mem_of_getElem? HGI.out)).2.1 a ha
                        have h2 := hf rows[a] (List.getElem_mem _)
                        unfold inC at h2
                        simp only [Bool.and_eq_true, decide_eq_true_eq] at h2
                        refine ⟨x.col.toNat, by omega, fun r hr => ?_⟩
                        have h3 := hf r hr
                        unfold inC at h3
                        simp only [Bool.and_eq_true, decide_eq_true_eq] at h3
                        have := HW.out r hr
                        omega) HIN.out hxk.1 hxk.2)
                    have HXX := put hx
                    obtain ⟨v9, hv9⟩ : ∃ v9, v9 = sumR rows g x := ⟨_, rfl⟩
                    rw [← hv9] at RK
                    have HV9 := put hv9
                    have x1' := (s_cells HXI.out).2.1
                    have Y0 := put y0
                    have Y1 := put y1
                    clear hx hv9 hxk y0 y1
                    go_wp2_with fail
                    clear x1'
                    refine makeSum _ _ _ _ _ _ _ _ _ _ _ _ _ _ _ _ _ _ _ _ _ _ _ _ _ _ _ _ _ _ _ _ _ _ _ _ _ _ _ _ _ _ _ _ _ _ _ _ _ _ _ _ _ _ _ _ _ _ _ _ _ _ _ _ _ _ _ _ _ _ _ _ _ _ _ _ _ _ _ _ _ _ _ _ _ _ _ _ _ _ _ _ _ _ _ _ _ _ _ _ _ _ _ _ _ _ _ _ _ _ _ _ _ _ _ _ _ _ _ _ _ _ _ ld sd A Ag m c l7 c9z g.length cg n1 c1 X i k x v9.1 v9.2 wr _ (by omega) hlt2 z0 hx1 Y0.out Y1.out RK ?_ _ rfl
                    intro r84 r85 r86 r87 r88 r89 r90 r91 r92 r93 r94 r95 r96 r97 b12 w9 hb9 hv12
                    have HB9 := put (KBI.out.trans (hb9.mono KBI.out.size))
                    have HO9' := put (HO9.out.below hb9)
                    obtain ⟨u0, u1, u2⟩ := v_cells hv12
                    clear hb9
                    by_cases he : v9.2 = 0
                    · have ez : (v9.2 != 0) = false := by simp [he]
                      have HSR := put (runL_one (f := sumR rows g) HXX.out HSZ.out (by rw [← HV9.out]; exact he))
                      rw [← HV9.out] at HSR
                      have HLL : Kp (((s.cols.map fun c => cell rows (g.headD 0) c) ++ (runL (sumR rows g) (s.sums.take k)).1).length = l9) := put (by rw [List.length_append, runL_len _ _ HSZ.out, List.length_map, List.length_take, ← HN3.out, ← HN1.out, HL9E.out]; omega)
                      have HW9 : Kp (Below w5.heap.size w5 w9) := HB9
                      clear he
                      rename World => w9
                      go_wp2_with (at_builtin; refine wpList_push (W := w9) tVal w5.heap.size rfl _ _ 30 55 _ 32 rfl Try.underlying30 infoVal rfl (by decide) (by decide) (.slice A9 l9 c9) _ v9.1 [.int .i64 v9.1.kind, .int .i64 v9.1.n, .string v9.1.s] (fun _ => True) rfl rfl rfl HO9'.out HW9.out.size (by rw [HLL.out]; omega) ?_; intro v1 wq hown hg hat; obtain ⟨Aq, cq, eq, _, _⟩ := hown.form; rw [List.length_append, HLL.out, List.length_singleton] at eq; subst eq; have hbq : Below w5.heap.size w5 wq := HW9.out.grown hg HW9.out.size (fun k hk => (HO9'.out.lt k hk).1); have HBQ := put hbq; have HOWN := put hown; clear hown hg hat hbq)
                      go_roundg (n1 - (k + 1))
                      case measure => omega
                      case rel => exact ⟨k + 1, Aq, l9 + 1, cq, rfl, by go_num, by omega, Nat.le_refl _, put (by have := HL9E.out; omega), put (by rw [HSR.out]), put (by rw [HSR.out, ← List.append_assoc]; exact HOWN.out), HBQ⟩
                    · have ez : (v9.2 != 0) = true := by simp [he]
                      have HE2 : Kp (makeR rows s = ([], v9.2)) := put (by
                        have h1 : runL (sumR rows g) s.sums = ([], v9.2) := by rw [HV9.out] at he ⊢; exact runL_end HXX.out HSZ.out he
                        have h2 : (rowR rows s g).2 = v9.2 := by unfold rowR; rw [sumsR_run, h1]
                        have h3 : rowsR rows s (glOf rows s) = ([], v9.2) := by rw [rowsR_run, ← h2]; exact runL_end HGI.out HRZ.out (by rw [h2]; exact he)
                        unfold makeR
                        rw [HF.out, if_neg (by decide), grouped_gl HPL.out, h3, if_neg he])
                      clear he
                      go_wp2_with fail
                      go_ret2
                      exact ⟨.slice none 0 0, by rw [HE2.out]; rfl, by rw [HE2.out]; exact Sl.nil _ _ _, KB5.out.trans (HB9.out.mono KB5.out.size)⟩
                  · have hlz2 : ¬ (k : Int) < (n1 : Int) := by omega
                    obtain rfl : n1 = k := by omega
                    have hsz := HSZ.out
                    have ho9 := HO9.out
                    rw [List.take_of_length_le (by rw [HN1.out]; exact Nat.le_refl _), ← sumsR_run] at hsz ho9
                    have HRR : Kp (runL (rowR rows s) ((glOf rows s).take (i + 1)) = ((runL (rowR rows s) ((glOf rows s).take i)).1 ++ [(rowR rows s g).1], 0)) := put (runL_one HGI.out HRZ.out hsz)
                    have HRL : Kp ((rowR rows s g).1.length = l9) := put (by
                      have h8 : (rowR rows s g).1 = (s.cols.map fun c => cell rows (g.headD 0) c) ++ (sumsR rows g s.sums).1 := rfl
                      rw [sumsR_run] at hsz
                      rw [h8, List.length_append, List.length_map, sumsR_run, runL_len _ _ hsz, ← HN3.out, ← HN1.out, HL9E.out])
                    have HRO : Kp (Own tVal 55 (fun _ => True) wr w5.heap.size (.slice A9 l9 c9) (rowR rows s g).1) := put ho9
                    have HPR : Kp (tRow.R (fun k => True ∧ some k ≠ (Value.slice A6 i c6).ownBlock) wr (rowR rows s g).1 [.slice A9 l9 c9]) := put ⟨_, rfl, (own_vals HRO.out).sl (fun k hk => ⟨trivial, fun e => by have h1 := (HRO.out.lt k hk).1; have h2 := (HO.out.lt k e.symm).2; omega⟩) (fun k hk => hk.elim) (by rw [HRL.out]; omega)⟩
                    have HO11 := put (HO.out.below KBI.out)
                    have HLE : Kp ((runL (rowR rows s) ((glOf rows s).take i)).1.length = i) := put (by rw [runL_len _ _ HRZ.out, List.length_take, ← HL7.out]; omega)
                    have KBW : Kp (Below w.heap.size w wr) := put (KB5.out.trans (KBI.out.mono KB5.out.size))
                    clear hsz ho9
                    go_wp2_with (at_builtin; refine wpList_push (W := wr) tRow w.heap.size rfl _ _ 78 30 _ 24 rfl Try.underlying78 infoRow rfl (by decide) (by decide) (.slice A6 i c6) _ (rowR rows s g).1 [.slice A9 l9 c9] (fun _ => True) rfl rfl HPR.out HO11.out KBW.out.size (by rw [HLE.out]; omega) ?_; intro v1 wq hown hg hat; obtain ⟨Aq, cq, eq, _, _⟩ := hown.form; rw [List.length_append, HLE.out, List.length_singleton] at eq; subst eq; have hbq : Below w.heap.size w wq := KBW.out.grown hg KBW.out.size (fun k hk => (HO11.out.lt k hk).1); have HBQ := put hbq; have HOWN := put hown; have HGQ := put hg; have HAQ := put hat; clear hown hg hat hbq)
                    clear x1
                    go_roundg (l7 - (i + 1))
                    case measure => omega
                    case rel => exact ⟨i + 1, Aq, cq, rfl, by go_num, by omega, Nat.le_refl _, put (by rw [HRR.out]), put (by rw [HRR.out]; exact HOWN.out), put (fun k hk => by
                      rcases HAQ.out with h | ⟨b, h, hb⟩
                      · exact HOB.out k (h ▸ hk)
                      · rw [h] at hk; obtain rfl := Option.some.inj hk; exact Or.inr (Nat.le_trans HSZW.out (Nat.le_trans KBI.out.size hb))), put (fun k hk hb => (HGQ.out.block k (by have h1 := KBI.out.size; have h2 := HSZW.out; omega) (fun e => by rcases HOB.out k e.symm with h | h; exact hb h; omega)).trans ((KBI.out.block k (by have h2 := HSZW.out; omega)).trans (HFR.out k hk hb))), put (Nat.le_trans HSZW.out (Nat.le_trans KBI.out.size HGQ.out.size)), HBQ⟩
          · have hlz : ¬ (i : Int) < (l7 : Int) := by omega
            obtain rfl : l7 = i := by omega
            have hz := HRZ.out
            have ho := HO.out
            rw [List.take_of_length_le (by rw [HL7.out]; exact Nat.le_refl _), ← rowsR_run] at hz ho
            have HLO : Kp ((rowsR rows s (glOf rows s)).1.length = l7) := put (by
              rw [rowsR_run] at hz ⊢
              rw [runL_len _ _ hz, HL7.out])
            have HMG : Kp (makeR rows s = (cut s.limit (sortR s.order (rowsR rows s (glOf rows s)).1), 0)) := put (by
              unfold makeR
              rw [HF.out, if_neg (by decide), grouped_gl HPL.out, if_pos hz])
            have HOS : Kp (Sl tRow (fun _ => True) wr (.slice A6 l7 c6) (rowsR rows s (glOf rows s)).1) := put (ho.sl (fun _ _ => trivial) (fun _ _ => trivial) (by rw [HLO.out]; omega))
            clear hz ho
            obtain ⟨x0, x1, x2, x3⟩ := s_cells HXF.out
            go_wp2_with fail
            refine (refSortCalls (fun _ => True) oks _ _ ((rowsR rows s (glOf rows s)).1) s.order wr HOS.out (HSP.out.order.below KB.out) (by rw [HLO.out]; omega) HSP.out.l2).mono ?_
            rintro e wz ⟨vz, rfl, hoz, hbz⟩
            obtain ⟨Az, cz, ez, jz1, jz2⟩ := hoz.form
            subst ez
            have hsl : (sortR s.order ((rowsR rows s (glOf rows s)).1)).length = ((rowsR rows s (glOf rows s)).1).length := (Stab.isort_perm _).length_eq
            rw [HLO.out] at hsl
            have HXZ := put ((hbz.block X (Array.getElem?_eq_some_iff.1 HXF.out).1).trans HXF.out)
            have KBZ := put (KB.out.trans (hbz.mono KB.out.size))
            have HZS : Kp (Sl tRow (fun _ => True) wz (.slice Az (sortR s.order ((rowsR rows s (glOf rows s)).1)).length cz) (sortR s.order ((rowsR rows s (glOf rows s)).1))) := put (hoz.sl (fun _ _ => trivial) (fun _ _ => trivial) (by rw [hsl]; omega))
            rw [hsl] at HZS jz1 ⊢
            have HSLZ := put hsl
            clear hoz hbz hsl
            (try clear x0 x1 x2 x3)
            obtain ⟨x0, x1, x2, x3⟩ := s_cells HXZ.out
            by_cases h0 : 0 ≤ s.limit
            · by_cases h1 : s.limit < (l7 : Int)
              · obtain ⟨q, hq⟩ : ∃ q : Nat, s.limit = q := ⟨s.limit.toNat, by omega⟩
                have HQ := put hq
                simp only [hq] at x3 h0 h1
                clear hq
                have hqc : q ≤ cz := by omega
                have HC : Kp (cut s.limit (sortR s.order ((rowsR rows s (glOf rows s)).1)) = (sortR s.order ((rowsR rows s (glOf rows s)).1)).take q) := put (by
                  unfold cut
                  rw [if_pos ⟨by rw [HQ.out]; exact h0, by rw [HQ.out, HSLZ.out]; exact h1⟩, HQ.out]
                  rfl)
                have hql : q ≤ l7 := by omega
                have HQL := put hql
                clear hql
                go_wp2_with fail
                go_ret2
                exact ⟨.slice Az q cz, by rw [HMG.out]; rfl, by rw [HMG.out, HC.out]; exact HZS.out.take HQL.out, KBZ.out⟩
              · have HC : Kp (cut s.limit (sortR s.order ((rowsR rows s (glOf rows s)).1)) = sortR s.order ((rowsR rows s (glOf rows s)).1)) := put (by unfold cut; rw [if_neg (by rw [HSLZ.out]; exact fun hh => h1 hh.2)])
                go_wp2_with fail
                go_ret2
                exact ⟨.slice Az l7 cz, by rw [HMG.out]; rfl, by rw [HMG.out, HC.out]; exact HZS.out, KBZ.out⟩
            · have HC : Kp (cut s.limit (sortR s.order ((rowsR rows s (glOf rows s)).1)) = sortR s.order ((rowsR rows s (glOf rows s)).1)) := put (by unfold cut; rw [if_neg (fun hh => h0 hh.1)])
              go_wp2_with fail
              go_ret2
              exact ⟨.slice Az l7 cz, by rw [HMG.out]; rfl, by rw [HMG.out, HC.out]; exact HZS.out, KBZ.out⟩
      · have hz : (n3 = 0 → m ≠ 0) := fun h3 hm0 => hcr ⟨List.eq_nil_of_length_eq_zero (by rw [← HN3.out]; exact h3), List.eq_nil_of_length_eq_zero (by rw [← HM.out]; exact hm0)⟩
        have hgl := gl_plain hcr
        have hlen : (glOf rows s).length ≤ rows.length := by rw [hgl]; exact groupsN_len _
        rw [← HM.out] at hlen
        have HL7 : Kp (((groupsR rows s.cols).map nats).length = (glOf rows s).length) := put (by rw [List.length_map, hgl])
        obtain ⟨l7, hl7⟩ : ∃ l7, l7 = ((groupsR rows s.cols).map nats).length := ⟨_, rfl⟩
        have HLX : Kp (Sl (tSl (tInt .i64)) (fun k => w3.heap.size ≤ k) w4 (.slice A7 ((groupsR rows s.cols).map nats).length c7) ((groupsR rows s.cols).map nats)) := put (HOG.out.sl (fun k hk => (HOG.out.lt k hk).1) (fun k hk => hk) (by rw [HL7.out]; omega))
        rw [← hl7] at HL7 HLX ⊢
        have HL4 : Kp (Sl (tSl (tInt .i64)) (fun k => w3.heap.size ≤ k) w4 (.slice A7 l7 c7) ((glOf rows s).map nats)) := put (by rw [hgl]; exact HLX.out)
        have hl79 : l7 ≤ 1000 := by rw [HL7.out]; omega
        have HO4 : Kp (Own tRow 30 (fun _ => True) w4 w.heap.size (.slice (some ⟨bo, 0, none⟩) 0 0) (runL (rowR rows s) ((glOf rows s).take 0)).1) := put (lit_own _ HBO4.out HXB.out.2.2)
        clear hgl hlen hl7 HLX HOG hcr
        by_cases h30 : n3 = 0
        · have hm0 := hz h30
          have e1 : ((n3 : Int) == 0) = true := by simp [h30]
          have e2 : ((m : Int) == 0) = false := by simp; omega
          clear hz hm0 h30
          go_wp2_with fail
          clear e1 e2 x0 x1 x2 x3
          have HS5' := HS
          go_loopg [6, 8] l7 (fun kx s6 s8 wr => ∃ (i : Nat) (A6 : Option Addr) (c6 : Nat), s6 = .slice A6 i c6 ∧ s8 = .int .i64 i ∧ i ≤ l7 ∧ l7 - i ≤ kx ∧ Kp ((runL (rowR rows s) ((glOf rows s).take i)).2 = 0) ∧ Kp (Own tRow 30 (fun _ => True) wr w.heap.size (.slice A6 i c6) (runL (rowR rows s) ((glOf rows s).take i)).1) ∧ Kp (∀ k, (Value.slice A6 i c6).ownBlock = some k → k = bo ∨ w4.heap.size ≤ k) ∧ Kp (∀ k, k < w4.heap.size → k ≠ bo → wr.heap[k]? = w4.heap[k]?) ∧ Kp (w4.heap.size ≤ wr.heap.size) ∧ Kp (Below w.heap.size w wr))
          case atStart => exact ⟨0, some ⟨bo, 0, none⟩, 0, rfl, rfl, Nat.zero_le _, Nat.le_refl _, put rfl, HO4, put (fun k hk => Or.inl (by simpa [Value.ownBlock] using hk.symm)), put (fun _ _ _ => rfl), put (Nat.le_refl _), KB4⟩
          case round =>
            obtain ⟨i, A6, c6, rfl, rfl, hi, hkx, HRZ, HO, HOB, HFR, HSZW, KB⟩ := hrel
            have HXF := put ((HFR.out X (by have := HXB.out; have := HZ34.out; omega) (by have := HXB.out; omega)).trans HX4.out)
            by_cases hlt : i < l7
            · have hlz : (i : Int) < (l7 : Int) := by omega
              have i0 : (0 : Int) ≤ (i : Int) := by omega
              have HLW := put (HL4.out.bnd.move (w' := wr) (fun k hk hlt => HFR.out k hk.2 (by have h1 := hk.1; have h2 := HXB.out.2.1; omega)))
              obtain ⟨ld', gz, gv, hld, hgz, hAg, hsg⟩ := introws_get HLW.out.row.1 i (by rw [List.length_map, ← HL7.out]; exact hlt)
              obtain ⟨g, hgi, rfl⟩ : ∃ g, (glOf rows s)[i]? = some g ∧ nats g = gz := by
                rw [List.getElem?_map] at hgz
                exact Option.map_eq_some_iff.1 hgz
              obtain ⟨Ag, cg, rfl, _, _, _⟩ := hsg.shape
              rw [show (nats g).length = g.length by unfold nats; rw [List.length_map]] at hsg hAg
              obtain ⟨ld, hlde⟩ : ∃ ld, ld = ld' := ⟨_, rfl⟩
              subst hlde
              subst hld
              have HGI := put hgi
              have HLEN := put (rowlen_ok HRZ.out)
              obtain ⟨w5, hw5⟩ : ∃ w5, w5 = wr := ⟨_, rfl⟩
              subst hw5
              have HGR : Kp (Row (tInt .i64) _ w5 Ag (nats g)) := put hsg.row.1
              have HX5 := HXF
              have KB5 := KB
              have x0 := (s_cells HX5.out).1
              clear hgz hgi hsg HLW
              go_wp2_with fail
              clear x0
              go_loopg [9, 10] n3 (fun kx s9 s10 wi => ∃ (k : Nat) (A9 : Option Addr) (c9 : Nat), s9 = .slice A9 k c9 ∧ s10 = .int .i64 k ∧ k ≤ n3 ∧ n3 - k ≤ kx ∧ Kp (Own tVal 55 (fun _ => True) wi w5.heap.size (.slice A9 k c9) ((s.cols.take k).map fun c => cell rows (g.headD 0) c)) ∧ Kp (Below w5.heap.size w5 wi))
              case atStart => exact ⟨0, _, 0, rfl, rfl, Nat.zero_le _, Nat.le_refl _, put (lit_own _ (heap_alloc_new _ _) (Nat.le_refl _)), put (balloc (Below.refl _ _) _)⟩
              case round =>
                obtain ⟨k, A9, c9, rfl, rfl, hk, hkx2, HO9, KBI⟩ := hrel
                have HX6 := put ((KBI.out.block X (Array.getElem?_eq_some_iff.1 HX5.out).1).trans HX5.out)
                have x0 := (s_cells HX6.out).1
                by_cases hlt2 : k < n3
                · have hlz2 : (k : Int) < (n3 : Int) := by omega
                  have k0 : (0 : Int) ≤ (k : Int) := by omega
                  have hk3 : k < s.cols.length := by rw [← HN3.out]; exact hlt2
                  obtain ⟨cd, cx, hcd, hcx, z4⟩ := ints_get (HSP.out.cols.below KB5.out).row.1 k hk3
                  obtain ⟨j, hj⟩ : ∃ j, g[0]? = some j := by
                    have hgn : g ≠ [] := (glOf_mem (List.mem_of_getElem? HGI.out)).1 (by intro e; rw [e] at hk3; simp at hk3)
                    cases g with
                    | nil => exact absurd rfl hgn
                    | cons j g => exact ⟨j, rfl⟩
                  have hgl : 0 < g.length := (List.getElem?_eq_some_iff.1 hj).1
                  obtain ⟨gd, gx, hgd, hgx, z1⟩ := ints_get HGR.out 0 (by unfold nats; rw [List.length_map]; exact hgl)
                  obtain rfl : gx = (j : Int) := by
                    unfold nats at hgx
                    rw [List.getElem?_map, hj] at hgx
                    simpa using hgx.symm
                  have hjr : j < rows.length := (glOf_mem (List.mem_of_getElem? HGI.out)).2.1 j (List.mem_of_getElem? hj)
                  obtain ⟨ad, r, rA, cr, rfl, hr, z2, hsr⟩ := rows_get (HS.out.below KB5.out).row.1 j hjr
                  have hin1 := (fine_facts HF.out).2.1 r (List.mem_of_getElem? hr) cx (List.mem_of_getElem? hcx)
                  unfold inC at hin1
                  simp only [Bool.and_eq_true, decide_eq_true_eq] at hin1
                  obtain ⟨col, rfl⟩ : ∃ col : Nat, cx = col := ⟨cx.toNat, by omega⟩
                  have hcr : col < r.length := by omega
                  obtain ⟨rd, hrdd, y0, y1, y2⟩ := vals_get hsr.row.1 col hcr
                  obtain ⟨y, hy⟩ : ∃ y, y = r[col]'hcr := ⟨_, rfl⟩
                  rw [← hy] at y0 y1 y2
                  have hce : cell rows j (col : Int) = y := cell_eq hr (show r[col]? = some y by rw [hy]; exact List.getElem?_eq_getElem _)
                  have HCE : Kp ((s.cols.take (k + 1)).map (fun c => cell rows (g.headD 0) c) = (s.cols.take k).map (fun c => cell rows (g.headD 0) c) ++ [y]) := put (by
                    rw [take_one hcx, List.map_append, List.map_singleton, ← hce]
                    congr 2
                    cases g with
                    | nil => simp at hj
                    | cons a g => simp only [List.getElem?_cons_zero, Option.some.injEq] at hj; subst hj; rfl)
                  have hx3 := (s_cells HX5.out).1
                  rw [hcd] at hx3
                  rw [hgd] at hAg
                  rw [hrdd] at z2
                  clear hcd hgd hrdd
                  have X3' := put ((s_cells HX6.out).1)
                  have x0' := X3'.out
                  have hgpos : 0 < g.length := hgl
                  go_wp2_with fail
                  clear x0'
                  refine makePut _ _ _ _ _ _ _ _ _ _ _ _ _ _ _ _ _ _ _ _ _ _ _ _ _ _ _ _ _ _ _ _ _ _ _ _ _ _ _ _ _ _ _ _ _ _ _ _ _ _ _ _ _ _ _ _ _ _ _ _ _ _ _ _ _ _ _ _ _ _ _ _ _ _ _ _ _ _ _ _ _ _ _ _ _ _ _ _ _ _ _ _ _ _ _ _ _ _ _ _ _ _ _ _ _ _ _ _ _ _ _ _ _ _ _ _ _ _ _ _ _ _ ad ld gd rd cd A9 m c l7 c7 g.length cg r.length cr n3 c0 X i j k k c9 col _ y w5 wr _ KBI.out (by omega) hgl (by rw [HM.out]; exact hjr) hlt2 hcr hAg (by rw [add_zero] at z1; exact z1) z2 hx3 z4 y0 y1 y2 HO9.out (by rw [List.length_map, List.length_take, ← HN3.out]; omega) (by omega) ?_ _ rfl
                  intro r58 r59 r60 r61 r62 r63 r64 r65 r66 r67 r68 r69 r70 r71 r72 r73 r74 r75 r76 V1 d9 w9 ho9 hb9
                  have HO9' := put ho9
                  have HB9' := put hb9
                  clear ho9 hb9
                  go_wp2_with fail
                  go_roundg (n3 - (k + 1))
                  case measure => omega
                  case rel => exact ⟨k + 1, V1, d9, rfl, by go_num, by omega, Nat.le_refl _, put (by rw [HCE.out]; exact HO9'.out), HB9'⟩
                · have hlz2 : ¬ (k : Int) < (n3 : Int) := by omega
                  obtain rfl : n3 = k := by omega
                  have HO10 : Kp (Own tVal 55 (fun _ => True) wr w5.heap.size (.slice A9 n3 c9) (s.cols.map fun c => cell rows (g.headD 0) c)) := put (by
                    have h9 := HO9.out
                    rwa [List.take_of_length_le (by rw [HN3.out]; exact Nat.le_refl _)] at h9)
                  have KB10 := KBI
                  obtain ⟨w10, hw10⟩ : ∃ w10, w10 = wr := ⟨_, rfl⟩
                  subst hw10
                  clear HO9 KBI
                  go_wp2_with fail
                  clear x0
                  go_loopg [9, 11] n1 (fun kx s9 s11 wi => ∃ (k : Nat) (A9 : Option Addr) (l9 c9 : Nat), s9 = .slice A9 l9 c9 ∧ s11 = .int .i64 k ∧ k ≤ n1 ∧ n1 - k ≤ kx ∧ Kp (l9 = n3 + k) ∧ Kp ((runL (sumR rows g) (s.sums.take k)).2 = 0) ∧ Kp (Own tVal 55 (fun _ => True) wi w5.heap.size (.slice A9 l9 c9) ((s.cols.map fun c => cell rows (g.headD 0) c) ++ (runL (sumR rows g) (s.sums.take k)).1)) ∧ Kp (Below w5.heap.size w5 wi))
                  case atStart => exact ⟨0, A9, n3, c9, rfl, rfl, Nat.zero_le _, Nat.le_refl _, put rfl, put rfl, put (by simpa [runL] using HO10.out), KB10⟩
                  case round =>
                    obtain ⟨k, A9, l9, c9, rfl, rfl, hk, hkx2, HL9E, HSZ, HO9, KBI⟩ := hrel
                    have hl9b : l9 ≤ 1000 := by have := HL9E.out; omega
                    have HX7 := put ((KBI.out.block X (Array.getElem?_eq_some_iff.1 HX5.out).1).trans HX5.out)
                    have x1 := (s_cells HX7.out).2.1
                    by_cases hlt2 : k < n1
                    · have hlz2 : (k : Int) < (n1 : Int) := by omega
                      have k0 : (0 : Int) ≤ (k : Int) := by omega
                      have hk1 : k < s.sums.length := by rw [← HN1.out]; exact hlt2
                      have KBW : Kp (Below w.heap.size w wr) := put (KB5.out.trans (KBI.out.mono KB5.out.size))
                      obtain ⟨sd, x, hsd, hx, y0, y1⟩ := sums_get (HSP.out.sums.below KBW.out).row.1 k hk1
                      have HXI := put ((KBI.out.block X (Array.getElem?_eq_some_iff.1 HX5.out).1).trans HX5.out)
                      have hx1 := (s_cells HXI.out).2.1
                      have z0 := cell_lt' hAg KBI.out
                      rw [hsd] at hx1
                      clear hsd
                      have hxk := (fine_facts HF.out).1 x (List.mem_of_getElem? hx)
                      have RK : Kp (∀ W, Below wr.heap.size wr W → Calls Try.prog 74 #[.slice A m c, .slice Ag g.length cg, .agg #[.int .i64 x.kind, .int .i64 x.col]] W fun e w' => e = .returned (.tuple #[.agg #[.int .i64 (sumR rows g x).1.kind, .int .i64 (sumR rows g x).1.n, .string (sumR rows g x).1.s], .int .i64 (sumR rows g x).2]) ∧ Below W.heap.size W w') := put (fun W hb => by
                        have hrow := HS.out.below (KBW.out.trans (hb.mono KBW.out.size))
                        exact reckonCalls ok _ _ Ag cg rows g x W hrow (HGR.out.move (fun k _ hk => (KBI.out.trans (hb.mono KBI.out.size)).block k hk)) (by have h9 := (glOf_mem (List.mem_of_getElem? HGI.out)).2.2; have := HM.out; omega) (glOf_mem (List.mem_of_getElem? HGI.out)).2.1 (fun h1 hg => by
                          have hf := (fine_facts HF.out).2.2 x (List.mem_of_getElem? hx) h1
                          obtain ⟨a, ha⟩ := List.exists_mem_of_ne_nil g hg
                          have har := (glOf_mem (List.mem_of_getElem? HGI.out)).2.1 a ha
                          have h2 := hf rows[a] (List.getElem_mem _)
                          unfold inC at h2
                          simp only [Bool.and_eq_true, decide_eq_true_eq] at h2
                          refine ⟨x.col.toNat, by omega, fun r hr => ?_⟩
                          have h3 := hf r hr
                          unfold inC at h3
                          simp only [Bool.and_eq_true, decide_eq_true_eq] at h3
                          have := HW.out r hr
                          omega) HIN.out hxk.1 hxk.2)
                      have HXX := put hx
                      obtain ⟨v9, hv9⟩ : ∃ v9, v9 = sumR rows g x := ⟨_, rfl⟩
                      rw [← hv9] at RK
                      have HV9 := put hv9
                      have x1' := (s_cells HXI.out).2.1
                      have Y0 := put y0
                      have Y1 := put y1
                      clear hx hv9 hxk y0 y1
                      go_wp2_with fail
                      clear x1'
                      refine makeSum _ _ _ _ _ _ _ _ _ _ _ _ _ _ _ _ _ _ _ _ _ _ _ _ _ _ _ _ _ _ _ _ _ _ _ _ _ _ _ _ _ _ _ _ _ _ _ _ _ _ _ _ _ _ _ _ _ _ _ _ _ _ _ _ _ _ _ _ _ _ _ _ _ _ _ _ _ _ _ _ _ _ _ _ _ _ _ _ _ _ _ _ _ _ _ _ _ _ _ _ _ _ _ _ _ _ _ _ _ _ _ _ _ _ _ _ _ _ _ _ _ _ _ ld sd A Ag m c l7 c7 g.length cg n1 c1 X i k x v9.1 v9.2 wr _ (by omega) hlt2 z0 hx1 Y0.out Y1.out RK ?_ _ rfl
                      intro r84 r85 r86 r87 r88 r89 r90 r91 r92 r93 r94 r95 r96 r97 b12 w9 hb9 hv12
                      have HB9 := put (KBI.out.trans (hb9.mono KBI.out.size))
                      have HO9' := put (HO9.out.below hb9)
                      obtain ⟨u0, u1, u2⟩ := v_cells hv12
                      clear hb9
                      by_cases he : v9.2 = 0
                      · have ez : (v9.2 != 0) = false := by simp [he]
                        have HSR := put (runL_one (f := sumR rows g) HXX.out HSZ.out (by rw [← HV9.out]; exact he))
                        rw [← HV9.out] at HSR
                        have HLL : Kp (((s.cols.map fun c => cell rows (g.headD 0) c) ++ (runL (sumR rows g) (s.sums.take k)).1).length = l9) := put (by rw [List.length_append, runL_len _ _ HSZ.out, List.length_map, List.length_take, ← HN3.out, ← HN1.out, HL9E.out]; omega)
                        have HW9 : Kp (Below w5.heap.size w5 w9) := HB9
                        clear he
                        rename World => w9
                        go_wp2_with (at_builtin; refine wpList_push (W := w9) tVal w5.heap.size rfl _ _ 30 55 _ 32 rfl Try.underlying30 infoVal rfl (by decide) (by decide) (.slice A9 l9 c9) _ v9.1 [.int .i64 v9.1.kind, .int .i64 v9.1.n, .string v9.1.s] (fun _ => True) rfl rfl rfl HO9'.out HW9.out.size (by rw [HLL.out]; omega) ?_; intro v1 wq hown hg hat; obtain ⟨Aq, cq, eq, _, _⟩ := hown.form; rw [List.length_append, HLL.out, List.length_singleton] at eq; subst eq; have hbq : Below w5.heap.size w5 wq := HW9.out.grown hg HW9.out.size (fun k hk => (HO9'.out.lt k hk).1); have HBQ := put hbq; have HOWN := put hown; clear hown hg hat hbq)
                        go_roundg (n1 - (k + 1))
                        case measure => omega
                        case rel => exact ⟨k + 1, Aq, l9 + 1, cq, rfl, by go_num, by omega, Nat.le_refl _, put (by have := HL9E.out; omega), put (by rw [HSR.out]), put (by rw [HSR.out, ← List.append_assoc]; exact HOWN.out), HBQ⟩
                      · have ez : (v9.2 != 0) = true := by simp [he]
                        have HE2 : Kp (makeR rows s = ([], v9.2)) := put (by
                          have h1 : runL (sumR rows g) s.sums = ([], v9.2) := by rw [HV9.out] at he ⊢; exact runL_end HXX.out HSZ.out he
                          have h2 : (rowR rows s g).2 = v9.2 := by unfold rowR; rw [sumsR_run, h1]
                          have h3 : rowsR rows s (glOf rows s) = ([], v9.2) := by rw [rowsR_run, ← h2]; exact runL_end HGI.out HRZ.out (by rw [h2]; exact he)
                          unfold makeR
                          rw [HF.out, if_neg (by decide), grouped_gl HPL.out, h3, if_neg he])
                        clear he
                        go_wp2_with fail
                        go_ret2
                        exact ⟨.slice none 0 0, by rw [HE2.out]; rfl, by rw [HE2.out]; exact Sl.nil _ _ _, KB5.out.trans (HB9.out.mono KB5.out.size)⟩
                    · have hlz2 : ¬ (k : Int) < (n1 : Int) := by omega
                      obtain rfl : n1 = k := by omega
                      have hsz := HSZ.out
                      have ho9 := HO9.out
                      rw [List.take_of_length_le (by rw [HN1.out]; exact Nat.le_refl _), ← sumsR_run] at hsz ho9
                      have HRR : Kp (runL (rowR rows s) ((glOf rows s).take (i + 1)) = ((runL (rowR rows s) ((glOf rows s).take i)).1 ++ [(rowR rows s g).1], 0)) := put (runL_one HGI.out HRZ.out hsz)
                      have HRL : Kp ((rowR rows s g).1.length = l9) := put (by
                        have h8 : (rowR rows s g).1 = (s.cols.map fun c => cell rows (g.headD 0) c) ++ (sumsR rows g s.sums).1 := rfl
                        rw [sumsR_run] at hsz
                        rw [h8, List.length_append, List.length_map, sumsR_run, runL_len _ _ hsz, ← HN3.out, ← HN1.out, HL9E.out])
                      have HRO : Kp (Own tVal 55 (fun _ => True) wr w5.heap.size (.slice A9 l9 c9) (rowR rows s g).1) := put ho9
                      have HPR : Kp (tRow.R (fun k => True ∧ some k ≠ (Value.slice A6 i c6).ownBlock) wr (rowR rows s g).1 [.slice A9 l9 c9]) := put ⟨_, rfl, (own_vals HRO.out).sl (fun k hk => ⟨trivial, fun e => by have h1 := (HRO.out.lt k hk).1; have h2 := (HO.out.lt k e.symm).2; omega⟩) (fun k hk => hk.elim) (by rw [HRL.out]; omega)⟩
                      have HO11 := put (HO.out.below KBI.out)
                      have HLE : Kp ((runL (rowR rows s) ((glOf rows s).take i)).1.length = i) := put (by rw [runL_len _ _ HRZ.out, List.length_take, ← HL7.out]; omega)
                      have KBW : Kp (Below w.heap.size w wr) := put (KB5.out.trans (KBI.out.mono KB5.out.size))
                      clear hsz ho9
                      go_wp2_with (at_builtin; refine wpList_push (W := wr) tRow w.heap.size rfl _ _ 78 30 _ 24 rfl Try.underlying78 infoRow rfl (by decide) (by decide) (.slice A6 i c6) _ (rowR rows s g).1 [.slice A9 l9 c9] (fun _ => True) rfl rfl HPR.out HO11.out KBW.out.size (by rw [HLE.out]; omega) ?_; intro v1 wq hown hg hat; obtain ⟨Aq, cq, eq, _, _⟩ := hown.form; rw [List.length_append, HLE.out, List.length_singleton] at eq; subst eq; have hbq : Below w.heap.size w wq := KBW.out.grown hg KBW.out.size (fun k hk => (HO11.out.lt k hk).1); have HBQ := put hbq; have HOWN := put hown; have HGQ := put hg; have HAQ := put hat; clear hown hg hat hbq)
                      clear x1
                      go_roundg (l7 - (i + 1))
                      case measure => omega
                      case rel => exact ⟨i + 1, Aq, cq, rfl, by go_num, by omega, Nat.le_refl _, put (by rw [HRR.out]), put (by rw [HRR.out]; exact HOWN.out), put (fun k hk => by
                        rcases HAQ.out with h | ⟨b, h, hb⟩
                        · exact HOB.out k (h ▸ hk)
                        · rw [h] at hk; obtain rfl := Option.some.inj hk; exact Or.inr (Nat.le_trans HSZW.out (Nat.le_trans KBI.out.size hb))), put (fun k hk hb => (HGQ.out.block k (by have h1 := KBI.out.size; have h2 := HSZW.out; omega) (fun e => by rcases HOB.out k e.symm with h | h; exact hb h; omega)).trans ((KBI.out.block k (by have h2 := HSZW.out; omega)).trans (HFR.out k hk hb))), put (Nat.le_trans HSZW.out (Nat.le_trans KBI.out.size HGQ.out.size)), HBQ⟩
            · have hlz : ¬ (i : Int) < (l7 : Int) := by omega
              obtain rfl : l7 = i := by omega
              have hz := HRZ.out
              have ho := HO.out
              rw [List.take_of_length_le (by rw [HL7.out]; exact Nat.le_refl _), ← rowsR_run] at hz ho
              have HLO : Kp ((rowsR rows s (glOf rows s)).1.length = l7) := put (by
                rw [rowsR_run] at hz ⊢
                rw [runL_len _ _ hz, HL7.out])
              have HMG : Kp (makeR rows s = (cut s.limit (sortR s.order (rowsR rows s (glOf rows s)).1), 0)) := put (by
                unfold makeR
                rw [HF.out, if_neg (by decide), grouped_gl HPL.out, if_pos hz])
              have HOS : Kp (Sl tRow (fun _ => True) wr (.slice A6 l7 c6) (rowsR rows s (glOf rows s)).1) := put (ho.sl (fun _ _ => trivial) (fun _ _ => trivial) (by rw [HLO.out]; omega))
              clear hz ho
              obtain ⟨x0, x1, x2, x3⟩ := s_cells HXF.out
              go_wp2_with fail
              refine (refSortCalls (fun _ => True) oks _ _ ((rowsR rows s (glOf rows s)).1) s.order wr HOS.out (HSP.out.order.below KB.out) (by rw [HLO.out]; omega) HSP.out.l2).mono ?_
              rintro e wz ⟨vz, rfl, hoz, hbz⟩
              obtain ⟨Az, cz, ez, jz1, jz2⟩ := hoz.form
              subst ez
              have hsl : (sortR s.order ((rowsR rows s (glOf rows s)).1)).length = ((rowsR rows s (glOf rows s)).1).length := (Stab.isort_perm _).length_eq
              rw [HLO.out] at hsl
              have HXZ := put ((hbz.block X (Array.getElem?_eq_some_iff.1 HXF.out).1).trans HXF.out)
              have KBZ := put (KB.out.trans (hbz.mono KB.out.size))
              have HZS : Kp (Sl tRow (fun _ => True) wz (.slice Az (sortR s.order ((rowsR rows s (glOf rows s)).1)).length cz) (sortR s.order ((rowsR rows s (glOf rows s)).1))) := put (hoz.sl (fun _ _ => trivial) (fun _ _ => trivial) (by rw [hsl]; omega))
              rw [hsl] at HZS jz1 ⊢
              have HSLZ := put hsl
              clear hoz hbz hsl
              (try clear x0 x1 x2 x3)
              obtain ⟨x0, x1, x2, x3⟩ := s_cells HXZ.out
              by_cases h0 : 0 ≤ s.limit
              · by_cases h1 : s.limit < (l7 : Int)
                · obtain ⟨q, hq⟩ : ∃ q : Nat, s.limit = q := ⟨s.limit.toNat, by omega⟩
                  have HQ := put hq
                  simp only [hq] at x3 h0 h1
                  clear hq
                  have hqc : q ≤ cz := by omega
                  have HC : Kp (cut s.limit (sortR s.order ((rowsR rows s (glOf rows s)).1)) = (sortR s.order ((rowsR rows s (glOf rows s)).1)).take q) := put (by
                    unfold cut
                    rw [if_pos ⟨by rw [HQ.out]; exact h0, by rw [HQ.out, HSLZ.out]; exact h1⟩, HQ.out]
                    rfl)
                  have hql : q ≤ l7 := by omega
                  have HQL := put hql
                  clear hql
                  go_wp2_with fail
                  go_ret2
                  exact ⟨.slice Az q cz, by rw [HMG.out]; rfl, by rw [HMG.out, HC.out]; exact HZS.out.take HQL.out, KBZ.out⟩
                · have HC : Kp (cut s.limit (sortR s.order ((rowsR rows s (glOf rows s)).1)) = sortR s.order ((rowsR rows s (glOf rows s)).1)) := put (by unfold cut; rw [if_neg (by rw [HSLZ.out]; exact fun hh => h1 hh.2)])
                  go_wp2_with fail
                  go_ret2
                  exact ⟨.slice Az l7 cz, by rw [HMG.out]; rfl, by rw [HMG.out, HC.out]; exact HZS.out, KBZ.out⟩
              · have HC : Kp (cut s.limit (sortR s.order ((rowsR rows s (glOf rows s)).1)) = sortR s.order ((rowsR rows s (glOf rows s)).1)) := put (by unfold cut; rw [if_neg (fun hh => h0 hh.1)])
                go_wp2_with fail
                go_ret2
                exact ⟨.slice Az l7 cz, by rw [HMG.out]; rfl, by rw [HMG.out, HC.out]; exact HZS.out, KBZ.out⟩
        · have e1 : ((n3 : Int) == 0) = false := by simp; omega
          clear hz
          go_wp2_with fail
          clear e1 x0 x1 x2 x3
          have HS5' := HS
          go_loopg [6, 8] l7 (fun kx s6 s8 wr => ∃ (i : Nat) (A6 : Option Addr) (c6 : Nat), s6 = .slice A6 i c6 ∧ s8 = .int .i64 i ∧ i ≤ l7 ∧ l7 - i ≤ kx ∧ Kp ((runL (rowR rows s) ((glOf rows s).take i)).2 = 0) ∧ Kp (Own tRow 30 (fun _ => True) wr w.heap.size (.slice A6 i c6) (runL (rowR rows s) ((glOf rows s).take i)).1) ∧ Kp (∀ k, (Value.slice A6 i c6).ownBlock = some k → k = bo ∨ w4.heap.size ≤ k) ∧ Kp (∀ k, k < w4.heap.size → k ≠ bo → wr.heap[k]? = w4.heap[k]?) ∧ Kp (w4.heap.size ≤ wr.heap.size) ∧ Kp (Below w.heap.size w wr))
          case atStart => exact ⟨0, some ⟨bo, 0, none⟩, 0, rfl, rfl, Nat.zero_le _, Nat.le_refl _, put rfl, HO4, put (fun k hk => Or.inl (by simpa [Value.ownBlock] using hk.symm)), put (fun _ _ _ => rfl), put (Nat.le_refl _), KB4⟩
          case round =>
            obtain ⟨i, A6, c6, rfl, rfl, hi, hkx, HRZ, HO, HOB, HFR, HSZW, KB⟩ := hrel
            have HXF := put ((HFR.out X (by have := HXB.out; have := HZ34.out; omega) (by have := HXB.out; omega)).trans HX4.out)
            by_cases hlt : i < l7
            · have hlz : (i : Int) < (l7 : Int) := by omega
              have i0 : (0 : Int) ≤ (i : Int) := by omega
              have HLW := put (HL4.out.bnd.move (w' := wr) (fun k hk hlt => HFR.out k hk.2 (by have h1 := hk.1; have h2 := HXB.out.2.1; omega)))
              obtain ⟨ld', gz, gv, hld, hgz, hAg, hsg⟩ := introws_get HLW.out.row.1 i (by rw [List.length_map, ← HL7.out]; exact hlt)
              obtain ⟨g, hgi, rfl⟩ : ∃ g, (glOf rows s)[i]? = some g ∧ nats g = gz := by
                rw [List.getElem?_map] at hgz
                exact Option.map_eq_some_iff.1 hgz
              obtain ⟨Ag, cg, rfl, _, _, _⟩ := hsg.shape
              rw [show (nats g).length = g.length by unfold nats; rw [List.length_map]] at hsg hAg
              obtain ⟨ld, hlde⟩ : ∃ ld, ld = ld' := ⟨_, rfl⟩
              subst hlde
              subst hld
              have HGI := put hgi
              have HLEN := put (rowlen_ok HRZ.out)
              obtain ⟨w5, hw5⟩ : ∃ w5, w5 = wr := ⟨_, rfl⟩
              subst hw5
              have HGR : Kp (Row (tInt .i64) _ w5 Ag (nats g)) := put hsg.row.1
              have HX5 := HXF
              have KB5 := KB
              have x0 := (s_cells HX5.out).1
              clear hgz hgi hsg HLW
              go_wp2_with fail
              clear x0
              go_loopg [9, 10] n3 (fun kx s9 s10 wi => ∃ (k : Nat) (A9 : Option Addr) (c9 : Nat), s9 = .slice A9 k c9 ∧ s10 = .int .i64 k ∧ k ≤ n3 ∧ n3 - k ≤ kx ∧ Kp (Own tVal 55 (fun _ => True) wi w5.heap.size (.slice A9 k c9) ((s.cols.take k).map fun c => cell rows (g.headD 0) c)) ∧ Kp (Below w5.heap.size w5 wi))
              case atStart => exact ⟨0, _, 0, rfl, rfl, Nat.zero_le _, Nat.le_refl _, put (lit_own _ (heap_alloc_new _ _) (Nat.le_refl _)), put (balloc (Below.refl _ _) _)⟩
              case round =>
                obtain ⟨k, A9, c9, rfl, rfl, hk, hkx2, HO9, KBI⟩ := hrel
                have HX6 := put ((KBI.out.block X (Array.getElem?_eq_some_iff.1 HX5.out).1).trans HX5.out)
                have x0 := (s_cells HX6.out).1
                by_cases hlt2 : k < n3
                · have hlz2 : (k : Int) < (n3 : Int) := by omega
                  have k0 : (0 : Int) ≤ (k : Int) := by omega
                  have hk3 : k < s.cols.length := by rw [← HN3.out]; exact hlt2
                  obtain ⟨cd, cx, hcd, hcx, z4⟩ := ints_get (HSP.out.cols.below KB5.out).row.1 k hk3
                  obtain ⟨j, hj⟩ : ∃ j, g[0]? = some j := by
                    have hgn : g ≠ [] := (glOf_mem (List.mem_of_getElem? HGI.out)).1 (by intro e; rw [e] at hk3; simp at hk3)
                    cases g with
                    | nil => exact absurd rfl hgn
                    | cons j g => exact ⟨j, rfl⟩
                  have hgl : 0 < g.length := (List.getElem?_eq_some_iff.1 hj).1
                  obtain ⟨gd, gx, hgd, hgx, z1⟩ := ints_get HGR.out 0 (by unfold nats; rw [List.length_map]; exact hgl)
                  obtain rfl : gx = (j : Int) := by
                    unfold nats at hgx
                    rw [List.getElem?_map, hj] at hgx
                    simpa using hgx.symm
                  have hjr : j < rows.length := (glOf_mem (List.mem_of_getElem? HGI.out)).2.1 j (List.mem_of_getElem? hj)
                  obtain ⟨ad, r, rA, cr, rfl, hr, z2, hsr⟩ := rows_get (HS.out.below KB5.out).row.1 j hjr
                  have hin1 := (fine_facts HF.out).2.1 r (List.mem_of_getElem? hr) cx (List.mem_of_getElem? hcx)
                  unfold inC at hin1
                  simp only [Bool.and_eq_true, decide_eq_true_eq] at hin1
                  obtain ⟨col, rfl⟩ : ∃ col : Nat, cx = col := ⟨cx.toNat, by omega⟩
                  have hcr : col < r.length := by omega
                  obtain ⟨rd, hrdd, y0, y1, y2⟩ := vals_get hsr.row.1 col hcr
                  obtain ⟨y, hy⟩ : ∃ y, y = r[col]'hcr := ⟨_, rfl⟩
                  rw [← hy] at y0 y1 y2
                  have hce : cell rows j (col : Int) = y := cell_eq hr (show r[col]? = some y by rw [hy]; exact List.getElem?_eq_getElem _)
                  have HCE : Kp ((s.cols.take (k + 1)).map (fun c => cell rows (g.headD 0) c) = (s.cols.take k).map (fun c => cell rows (g.headD 0) c) ++ [y]) := put (by
                    rw [take_one hcx, List.map_append, List.map_singleton, ← hce]
                    congr 2
                    cases g with
                    | nil => simp at hj
                    | cons a g => simp only [List.getElem?_cons_zero, Option.some.injEq] at hj; subst hj; rfl)
                  have hx3 := (s_cells HX5.out).1
                  rw [hcd] at hx3
                  rw [hgd] at hAg
                  rw [hrdd] at z2
                  clear hcd hgd hrdd
                  have X3' := put ((s_cells HX6.out).1)
                  have x0' := X3'.out
                  have hgpos : 0 < g.length := hgl
                  go_wp2_with fail
                  clear x0'
                  refine makePut _ _ _ _ _ _ _ _ _ _ _ _ _ _ _ _ _ _ _ _ _ _ _ _ _ _ _ _ _ _ _ _ _ _ _ _ _ _ _ _ _ _ _ _ _ _ _ _ _ _ _ _ _ _ _ _ _ _ _ _ _ _ _ _ _ _ _ _ _ _ _ _ _ _ _ _ _ _ _ _ _ _ _ _ _ _ _ _ _ _ _ _ _ _ _ _ _ _ _ _ _ _ _ _ _ _ _ _ _ _ _ _ _ _ _ _ _ _ _ _ _ _ ad ld gd rd cd A9 m c l7 c7 g.length cg r.length cr n3 c0 X i j k k c9 col _ y w5 wr _ KBI.out (by omega) hgl (by rw [HM.out]; exact hjr) hlt2 hcr hAg (by rw [add_zero] at z1; exact z1) z2 hx3 z4 y0 y1 y2 HO9.out (by rw [List.length_map, List.length_take, ← HN3.out]; omega) (by omega) ?_ _ rfl
                  intro r58 r59 r60 r61 r62 r63 r64 r65 r66 r67 r68 r69 r70 r71 r72 r73 r74 r75 r76 V1 d9 w9 ho9 hb9
                  have HO9' := put ho9
                  have HB9' := put hb9
                  clear ho9 hb9
                  go_wp2_with fail
                  go_roundg (n3 - (k + 1))
                  case measure => omega
                  case rel => exact ⟨k + 1, V1, d9, rfl, by go_num, by omega, Nat.le_refl _, put (by rw [HCE.out]; exact HO9'.out), HB9'⟩
                · have hlz2 : ¬ (k : Int) < (n3 : Int) := by omega
                  obtain rfl : n3 = k := by omega
                  have HO10 : Kp (Own tVal 55 (fun _ => True) wr w5.heap.size (.slice A9 n3 c9) (s.cols.map fun c => cell rows (g.headD 0) c)) := put (by
                    have h9 := HO9.out
                    rwa [List.take_of_length_le (by rw [HN3.out]; exact Nat.le_refl _)] at h9)
                  have KB10 := KBI
                  obtain ⟨w10, hw10⟩ : ∃ w10, w10 = wr := ⟨_, rfl⟩
                  subst hw10
                  clear HO9 KBI
                  go_wp2_with fail
                  clear x0
                  go_loopg [9, 11] n1 (fun kx s9 s11 wi => ∃ (k : Nat) (A9 : Option Addr) (l9 c9 : Nat), s9 = .slice A9 l9 c9 ∧ s11 = .int .i64 k ∧ k ≤ n1 ∧ n1 - k ≤ kx ∧ Kp (l9 = n3 + k) ∧ Kp ((runL (sumR rows g) (s.sums.take k)).2 = 0) ∧ Kp (Own tVal 55 (fun _ => True) wi w5.heap.size (.slice A9 l9 c9) ((s.cols.map fun c => cell rows (g.headD 0) c) ++ (runL (sumR rows g) (s.sums.take k)).1)) ∧ Kp (Below w5.heap.size w5 wi))
                  case atStart => exact ⟨0, A9, n3, c9, rfl, rfl, Nat.zero_le _, Nat.le_refl _, put rfl, put rfl, put (by simpa [runL] using HO10.out), KB10⟩
                  case round =>
                    obtain ⟨k, A9, l9, c9, rfl, rfl, hk, hkx2, HL9E, HSZ, HO9, KBI⟩ := hrel
                    have hl9b : l9 ≤ 1000 := by have := HL9E.out; omega
                    have HX7 := put ((KBI.out.block X (Array.getElem?_eq_some_iff.1 HX5.out).1).trans HX5.out)
                    have x1 := (s_cells HX7.out).2.1
                    by_cases hlt2 : k < n1
                    · have hlz2 : (k : Int) < (n1 : Int) := by omega
                      have k0 : (0 : Int) ≤ (k : Int) := by omega
                      have hk1 : k < s.sums.length := by rw [← HN1.out]; exact hlt2
                      have KBW : Kp (Below w.heap.size w wr) := put (KB5.out.trans (KBI.out.mono KB5.out.size))
                      obtain ⟨sd, x, hsd, hx, y0, y1⟩ := sums_get (HSP.out.sums.below KBW.out).row.1 k hk1
                      have HXI := put ((KBI.out.block X (Array.getElem?_eq_some_iff.1 HX5.out).1).trans HX5.out)
                      have hx1 := (s_cells HXI.out).2.1
                      have z0 := cell_lt' hAg KBI.out
                      rw [hsd] at hx1
                      clear hsd
                      have hxk := (fine_facts HF.out).1 x (List.mem_of_getElem? hx)
                      have RK : Kp (∀ W, Below wr.heap.size wr W → Calls Try.prog 74 #[.slice A m c, .slice Ag g.length cg, .agg #[.int .i64 x.kind, .int .i64 x.col]] W fun e w' => e = .returned (.tuple #[.agg #[.int .i64 (sumR rows g x).1.kind, .int .i64 (sumR rows g x).1.n, .string (sumR rows g x).1.s], .int .i64 (sumR rows g x).2]) ∧ Below W.heap.size W w') := put (fun W hb => by
                        have hrow := HS.out.below (KBW.out.trans (hb.mono KBW.out.size))
                        exact reckonCalls ok _ _ Ag cg rows g x W hrow (HGR.out.move (fun k _ hk => (KBI.out.trans (hb.mono KBI.out.size)).block k hk)) (by have h9 := (glOf_mem (List.mem_of_getElem? HGI.out)).2.2; have := HM.out; omega) (glOf_mem (List.mem_of_getElem? HGI.out)).2.1 (fun h1 hg => by
                          have hf := (fine_facts HF.out).2.2 x (List.mem_of_getElem? hx) h1
                          obtain ⟨a, ha⟩ := List.exists_mem_of_ne_nil g hg
                          have har := (glOf_mem (List.mem_of_getElem? HGI.out)).2.1 a ha
                          have h2 := hf rows[a] (List.getElem_mem _)
                          unfold inC at h2
                          simp only [Bool.and_eq_true, decide_eq_true_eq] at h2
                          refine ⟨x.col.toNat, by omega, fun r hr => ?_⟩
                          have h3 := hf r hr
                          unfold inC at h3
                          simp only [Bool.and_eq_true, decide_eq_true_eq] at h3
                          have := HW.out r hr
                          omega) HIN.out hxk.1 hxk.2)
                      have HXX := put hx
                      obtain ⟨v9, hv9⟩ : ∃ v9, v9 = sumR rows g x := ⟨_, rfl⟩
                      rw [← hv9] at RK
                      have HV9 := put hv9
                      have x1' := (s_cells HXI.out).2.1
                      have Y0 := put y0
                      have Y1 := put y1
                      clear hx hv9 hxk y0 y1
                      go_wp2_with fail
                      clear x1'
                      refine makeSum _ _ _ _ _ _ _ _ _ _ _ _ _ _ _ _ _ _ _ _ _ _ _ _ _ _ _ _ _ _ _ _ _ _ _ _ _ _ _ _ _ _ _ _ _ _ _ _ _ _ _ _ _ _ _ _ _ _ _ _ _ _ _ _ _ _ _ _ _ _ _ _ _ _ _ _ _ _ _ _ _ _ _ _ _ _ _ _ _ _ _ _ _ _ _ _ _ _ _ _ _ _ _ _ _ _ _ _ _ _ _ _ _ _ _ _ _ _ _ _ _ _ _ ld sd A Ag m c l7 c7 g.length cg n1 c1 X i k x v9.1 v9.2 wr _ (by omega) hlt2 z0 hx1 Y0.out Y1.out RK ?_ _ rfl
                      intro r84 r85 r86 r87 r88 r89 r90 r91 r92 r93 r94 r95 r96 r97 b12 w9 hb9 hv12
                      have HB9 := put (KBI.out.trans (hb9.mono KBI.out.size))
                      have HO9' := put (HO9.out.below hb9)
                      obtain ⟨u0, u1, u2⟩ := v_cells hv12
                      clear hb9
                      by_cases he : v9.2 = 0
                      · have ez : (v9.2 != 0) = false := by simp [he]
                        have HSR := put (runL_one (f := sumR rows g) HXX.out HSZ.out (by rw [← HV9.out]; exact he))
                        rw [← HV9.out] at HSR
                        have HLL : Kp (((s.cols.map fun c => cell rows (g.headD 0) c) ++ (runL (sumR rows g) (s.sums.take k)).1).length = l9) := put (by rw [List.length_append, runL_len _ _ HSZ.out, List.length_map, List.length_take, ← HN3.out, ← HN1.out, HL9E.out]; omega)
                        have HW9 : Kp (Below w5.heap.size w5 w9) := HB9
                        clear he
                        rename World => w9
                        go_wp2_with (at_builtin; refine wpList_push (W := w9) tVal w5.heap.size rfl _ _ 30 55 _ 32 rfl Try.underlying30 infoVal rfl (by decide) (by decide) (.slice A9 l9 c9) _ v9.1 [.int .i64 v9.1.kind, .int .i64 v9.1.n, .string v9.1.s] (fun _ => True) rfl rfl rfl HO9'.out HW9.out.size (by rw [HLL.out]; omega) ?_; intro v1 wq hown hg hat; obtain ⟨Aq, cq, eq, _, _⟩ := hown.form; rw [List.length_append, HLL.out, List.length_singleton] at eq; subst eq; have hbq : Below w5.heap.size w5 wq := HW9.out.grown hg HW9.out.size (fun k hk => (HO9'.out.lt k hk).1); have HBQ := put hbq; have HOWN := put hown; clear hown hg hat hbq)
                        go_roundg (n1 - (k + 1))
                        case measure => omega
                        case rel => exact ⟨k + 1, Aq, l9 + 1, cq, rfl, by go_num, by omega, Nat.le_refl _, put (by have := HL9E.out; omega), put (by rw [HSR.out]), put (by rw [HSR.out, ← List.append_assoc]; exact HOWN.out), HBQ⟩
                      · have ez : (v9.2 != 0) = true := by simp [he]
                        have HE2 : Kp (makeR rows s = ([], v9.2)) := put (by
                          have h1 : runL (sumR rows g) s.sums = ([], v9.2) := by rw [HV9.out] at he ⊢; exact runL_end HXX.out HSZ.out he
                          have h2 : (rowR rows s g).2 = v9.2 := by unfold rowR; rw [sumsR_run, h1]
                          have h3 : rowsR rows s (glOf rows s) = ([], v9.2) := by rw [rowsR_run, ← h2]; exact runL_end HGI.out HRZ.out (by rw [h2]; exact he)
                          unfold makeR
                          rw [HF.out, if_neg (by decide), grouped_gl HPL.out, h3, if_neg he])
                        clear he
                        go_wp2_with fail
                        go_ret2
                        exact ⟨.slice none 0 0, by rw [HE2.out]; rfl, by rw [HE2.out]; exact Sl.nil _ _ _, KB5.out.trans (HB9.out.mono KB5.out.size)⟩
                    · have hlz2 : ¬ (k : Int) < (n1 : Int) := by omega
                      obtain rfl : n1 = k := by omega
                      have hsz := HSZ.out
                      have ho9 := HO9.out
                      rw [List.take_of_length_le (by rw [HN1.out]; exact Nat.le_refl _), ← sumsR_run] at hsz ho9
                      have HRR : Kp (runL (rowR rows s) ((glOf rows s).take (i + 1)) = ((runL (rowR rows s) ((glOf rows s).take i)).1 ++ [(rowR rows s g).1], 0)) := put (runL_one HGI.out HRZ.out hsz)
                      have HRL : Kp ((rowR rows s g).1.length = l9) := put (by
                        have h8 : (rowR rows s g).1 = (s.cols.map fun c => cell rows (g.headD 0) c) ++ (sumsR rows g s.sums).1 := rfl
                        rw [sumsR_run] at hsz
                        rw [h8, List.length_append, List.length_map, sumsR_run, runL_len _ _ hsz, ← HN3.out, ← HN1.out, HL9E.out])
                      have HRO : Kp (Own tVal 55 (fun _ => True) wr w5.heap.size (.slice A9 l9 c9) (rowR rows s g).1) := put ho9
                      have HPR : Kp (tRow.R (fun k => True ∧ some k ≠ (Value.slice A6 i c6).ownBlock) wr (rowR rows s g).1 [.slice A9 l9 c9]) := put ⟨_, rfl, (own_vals HRO.out).sl (fun k hk => ⟨trivial, fun e => by have h1 := (HRO.out.lt k hk).1; have h2 := (HO.out.lt k e.symm).2; omega⟩) (fun k hk => hk.elim) (by rw [HRL.out]; omega)⟩
                      have HO11 := put (HO.out.below KBI.out)
                      have HLE : Kp ((runL (rowR rows s) ((glOf rows s).take i)).1.length = i) := put (by rw [runL_len _ _ HRZ.out, List.length_take, ← HL7.out]; omega)
                      have KBW : Kp (Below w.heap.size w wr) := put (KB5.out.trans (KBI.out.mono KB5.out.size))
                      clear hsz ho9
                      go_wp2_with (at_builtin; refine wpList_push (W := wr) tRow w.heap.size rfl _ _ 78 30 _ 24 rfl Try.underlying78 infoRow rfl (by decide) (by decide) (.slice A6 i c6) _ (rowR rows s g).1 [.slice A9 l9 c9] (fun _ => True) rfl rfl HPR.out HO11.out KBW.out.size (by rw [HLE.out]; omega) ?_; intro v1 wq hown hg hat; obtain ⟨Aq, cq, eq, _, _⟩ := hown.form; rw [List.length_append, HLE.out, List.length_singleton] at eq; subst eq; have hbq : Below w.heap.size w wq := KBW.out.grown hg KBW.out.size (fun k hk => (HO11.out.lt k hk).1); have HBQ := put hbq; have HOWN := put hown; have HGQ := put hg; have HAQ := put hat; clear hown hg hat hbq)
                      clear x1
                      go_roundg (l7 - (i + 1))
                      case measure => omega
                      case rel => exact ⟨i + 1, Aq, cq, rfl, by go_num, by omega, Nat.le_refl _, put (by rw [HRR.out]), put (by rw [HRR.out]; exact HOWN.out), put (fun k hk => by
                        rcases HAQ.out with h | ⟨b, h, hb⟩
                        · exact HOB.out k (h ▸ hk)
                        · rw [h] at hk; obtain rfl := Option.some.inj hk; exact Or.inr (Nat.le_trans HSZW.out (Nat.le_trans KBI.out.size hb))), put (fun k hk hb => (HGQ.out.block k (by have h1 := KBI.out.size; have h2 := HSZW.out; omega) (fun e => by rcases HOB.out k e.symm with h | h; exact hb h; omega)).trans ((KBI.out.block k (by have h2 := HSZW.out; omega)).trans (HFR.out k hk hb))), put (Nat.le_trans HSZW.out (Nat.le_trans KBI.out.size HGQ.out.size)), HBQ⟩
            · have hlz : ¬ (i : Int) < (l7 : Int) := by omega
              obtain rfl : l7 = i := by omega
              have hz := HRZ.out
              have ho := HO.out
              rw [List.take_of_length_le (by rw [HL7.out]; exact Nat.le_refl _), ← rowsR_run] at hz ho
              have HLO : Kp ((rowsR rows s (glOf rows s)).1.length = l7) := put (by
                rw [rowsR_run] at hz ⊢
                rw [runL_len _ _ hz, HL7.out])
              have HMG : Kp (makeR rows s = (cut s.limit (sortR s.order (rowsR rows s (glOf rows s)).1), 0)) := put (by
                unfold makeR
                rw [HF.out, if_neg (by decide), grouped_gl HPL.out, if_pos hz])
              have HOS : Kp (Sl tRow (fun _ => True) wr (.slice A6 l7 c6) (rowsR rows s (glOf rows s)).1) := put (ho.sl (fun _ _ => trivial) (fun _ _ => trivial) (by rw [HLO.out]; omega))
              clear hz ho
              obtain ⟨x0, x1, x2, x3⟩ := s_cells HXF.out
              go_wp2_with fail
              refine (refSortCalls (fun _ => True) oks _ _ ((rowsR rows s (glOf rows s)).1) s.order wr HOS.out (HSP.out.order.below KB.out) (by rw [HLO.out]; omega) HSP.out.l2).mono ?_
              rintro e wz ⟨vz, rfl, hoz, hbz⟩
              obtain ⟨Az, cz, ez, jz1, jz2⟩ := hoz.form
              subst ez
              have hsl : (sortR s.order ((rowsR rows s (glOf rows s)).1)).length = ((rowsR rows s (glOf rows s)).1).length := (Stab.isort_perm _).length_eq
              rw [HLO.out] at hsl
              have HXZ := put ((hbz.block X (Array.getElem?_eq_some_iff.1 HXF.out).1).trans HXF.out)
              have KBZ := put (KB.out.trans (hbz.mono KB.out.size))
              have HZS : Kp (Sl tRow (fun _ => True) wz (.slice Az (sortR s.order ((rowsR rows s (glOf rows s)).1)).length cz) (sortR s.order ((rowsR rows s (glOf rows s)).1))) := put (hoz.sl (fun _ _ => trivial) (fun _ _ => trivial) (by rw [hsl]; omega))
              rw [hsl] at HZS jz1 ⊢
              have HSLZ := put hsl
              clear hoz hbz hsl
              (try clear x0 x1 x2 x3)
              obtain ⟨x0, x1, x2, x3⟩ := s_cells HXZ.out
              by_cases h0 : 0 ≤ s.limit
              · by_cases h1 : s.limit < (l7 : Int)
                · obtain ⟨q, hq⟩ : ∃ q : Nat, s.limit = q := ⟨s.limit.toNat, by omega⟩
                  have HQ := put hq
                  simp only [hq] at x3 h0 h1
                  clear hq
                  have hqc : q ≤ cz := by omega
                  have HC : Kp (cut s.limit (sortR s.order ((rowsR rows s (glOf rows s)).1)) = (sortR s.order ((rowsR rows s (glOf rows s)).1)).take q) := put (by
                    unfold cut
                    rw [if_pos ⟨by rw [HQ.out]; exact h0, by rw [HQ.out, HSLZ.out]; exact h1⟩, HQ.out]
                    rfl)
                  have hql : q ≤ l7 := by omega
                  have HQL := put hql
                  clear hql
                  go_wp2_with fail
                  go_ret2
                  exact ⟨.slice Az q cz, by rw [HMG.out]; rfl, by rw [HMG.out, HC.out]; exact HZS.out.take HQL.out, KBZ.out⟩
                · have HC : Kp (cut s.limit (sortR s.order ((rowsR rows s (glOf rows s)).1)) = sortR s.order ((rowsR rows s (glOf rows s)).1)) := put (by unfold cut; rw [if_neg (by rw [HSLZ.out]; exact fun hh => h1 hh.2)])
                  go_wp2_with fail
                  go_ret2
                  exact ⟨.slice Az l7 cz, by rw [HMG.out]; rfl, by rw [HMG.out, HC.out]; exact HZS.out, KBZ.out⟩
              · have HC : Kp (cut s.limit (sortR s.order ((rowsR rows s (glOf rows s)).1)) = sortR s.order ((rowsR rows s (glOf rows s)).1)) := put (by unfold cut; rw [if_neg (fun hh => h0 hh.1)])
                go_wp2_with fail
                go_ret2
                exact ⟨.slice Az l7 cz, by rw [HMG.out]; rfl, by rw [HMG.out, HC.out]; exact HZS.out, KBZ.out⟩
end Go.Proofs.Ytkfoknjflpklpaa.P
