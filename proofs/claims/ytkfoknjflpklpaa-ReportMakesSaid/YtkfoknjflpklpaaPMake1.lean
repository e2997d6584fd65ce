/- report.Make's closure. -/
import Derived.Test.YtkfoknjflpklpaaPMk
import Derived.Test.YtkfoknjflpklpaaPRows
import Derived.Test.YtkfoknjflpklpaaPCatch
import Derived.Test.YtkfoknjflpklpaaPCheck
namespace Go.Proofs.Ytkfoknjflpklpaa.P
open Go Go.RowKit Go.Sort Go.Proofs.Ytkfoknjflpklpaa.Mem Go.Proofs.Ytkfoknjflpklpaa.Cmp Go.Proofs.Ytkfoknjflpklpaa.D

theorem sortR_len (ks : List Key) (rows : List (List Val)) : (sortR ks rows).length = rows.length := (Stab.isort_perm rows).length_eq
/-- What the closure leaves in the answer's cell. -/
def outP (rows : List (List Val)) (s : Spc) (O B : Nat) (c : Int) (w' : World) : Prop :=
  c = (mkR rows s).2 ∧ (c = 0 → ∃ vo, w'.heap[O]? = some (.cells #[vo] 78 (0, 0)) ∧ Sl tRowU (fun k => B ≤ k) w' vo (mkR rows s).1)
/-- Nothing turns but one cell, and what is new. -/
structure One (N O : Nat) (w0 w w' : World) : Prop where
  below : Below N w0 w'
  size : w.heap.size ≤ w'.heap.size
  keep : ∀ k, k < w.heap.size → k ≠ O → w'.heap[k]? = w.heap[k]?
theorem One.step {N O : Nat} {w0 w w1 w2 : World} (h : One N O w0 w w1) (hN : N ≤ w.heap.size) (hb : Below w1.heap.size w1 w2) : One N O w0 w w2 :=
  ⟨h.below.trans (hb.mono (Nat.le_trans hN h.size)), Nat.le_trans h.size hb.size, fun k hk hO => (hb.block k (Nat.lt_of_lt_of_le hk h.size)).trans (h.keep k hk hO)⟩
theorem One.set {N O : Nat} {w0 w w1 : World} (h : One N O w0 w w1) (hN : N ≤ O) (u : Value) : One N O w0 w (w1.setCell ⟨O, 0, none⟩ u) :=
  ⟨h.below.setCell hN u, by simpa [World.setCell] using h.size, fun k hk hO => (Below.heap_setCell _ ⟨O, 0, none⟩ _ _ hO).trans (h.keep k hk hO)⟩
theorem o_set {w : World} {O : Nat} {u : Value} {t : TypeId} (h : w.heap[O]? = some (.cells #[u] t (0, 0))) (x : Value) : (w.setCell ⟨O, 0, none⟩ x).heap[O]? = some (.cells #[x] t (0, 0)) := by
  simp [World.setCell, Array.getElem?_modify, h]
theorem o_cell {w : World} {O : Nat} {u : Value} {t : TypeId} (h : w.heap[O]? = some (.cells #[u] t (0, 0))) : w.cell? ⟨O, 0, none⟩ = some u ∧ w.frozen? ⟨O, 0, none⟩ = false := by
  simp [World.cell?, World.frozen?, h]

set_option maxHeartbeats 8000000 in
set_option maxRecDepth 100000 in
theorem make1 (ok oks : Nat → Prop) (N R S O : Nat) (v v0 v1 v2 : Value) (rows : List (List Val)) (s : Spc) (w0 w : World) (hb : Below N w0 w) (hNO : N ≤ O) (hOw : O < w.heap.size)
    (hSb : w.heap[S]? = some (.cells #[v0, v1, v2, .int .i64 s.limit] 82 (0, 0))) (hRb : w.heap[R]? = some (.cells #[v] 78 (0, 0))) (hOb : w.heap[O]? = some (.cells #[v] 78 (0, 0))) (hSO : S ≠ O) (hRO : R ≠ O)
    (hrd : ∀ w', Below N w0 w' → Sl tRow ok w' v rows) (hsd : ∀ w', Below N w0 w' → SpR oks w' s v0 v1 v2) (hl : rows.length ≤ 1000) (hw : ∀ r ∈ rows, r.length ≤ 1000) (hws : s.cols.length + s.sums.length ≤ 1000) (hin : ∀ r ∈ rows, ∀ y ∈ r, InR y.n) :
    Calls Try.prog 68 #[.pointer (some ⟨S, 0, none⟩), .pointer (some ⟨R, 0, none⟩), .pointer (some ⟨O, 0, none⟩)] w fun e w' => ∃ c, e = endC c ∧ outP rows s O w.heap.size c w' ∧ One N O w0 w w' := by
  have HO0 : Kp (One N O w0 w w) := put ⟨hb, Nat.le_refl _, fun _ _ _ => rfl⟩
  have HRD := put hrd
  have HSD := put hsd
  have HL := put (And.intro hl (And.intro hw (And.intro hws hin)))
  have HNO := put hNO
  have HOW := put hOw
  have HNW : Kp (N ≤ w.heap.size) := put (Nat.le_trans hNO (Nat.le_of_lt hOw))
  have HNE := put (And.intro hSO hRO)
  have HSB := put hSb
  have HRB := put hRb
  have HOB := put hOb
  obtain ⟨A0, c0, e0, _, _, _⟩ := (hsd w hb).cols.shape
  obtain ⟨A1, c1, e1, _, _, _⟩ := (hsd w hb).sums.shape
  have HE01 := put (And.intro e0 e1)
  have HLL := put (And.intro (hsd w hb).l0 (And.intro (hsd w hb).l1 (hsd w hb).l2))
  have hSl : S < w.heap.size := (Array.getElem?_eq_some_iff.1 hSb).1
  have hRl : R < w.heap.size := (Array.getElem?_eq_some_iff.1 hRb).1
  have HSL := put (And.intro hSl hRl)
  have HSX : Kp (∀ w', One N O w0 w w' → w'.heap[S]? = some (.cells #[v0, v1, v2, .int .i64 s.limit] 82 (0, 0))) := put (fun w' h => (h.keep S hSl hSO).trans hSb)
  have HRX : Kp (∀ w', One N O w0 w w' → w'.heap[R]? = some (.cells #[v] 78 (0, 0))) := put (fun w' h => (h.keep R hRl hRO).trans hRb)
  clear hrd hsd hl hw hws hin hNO hb e0 e1 hSO hRO
  go_enter Try.func68, Try.ntmps68
  obtain ⟨x0, x1, x2, x3⟩ := s_cells hSb
  obtain ⟨r0, rf⟩ := o_cell hRb
  clear hSb hRb hOb hOw hSl hRl rf
  go_wp2_with fail
  refine (checkS ok oks v0 v1 v2 v rows s w (HSD.out w HO0.out.below) (HRD.out w HO0.out.below) HL.out.1 HL.out.2.1).mono ?_
  rintro e w5 ⟨rfl, hg⟩
  have H5 := put (HO0.out.step HNW.out hg.below)
  have HOB5 : Kp (w5.heap[O]? = some (.cells #[v] 78 (0, 0))) := put ((hg.below.block O HOW.out).trans HOB.out)
  clear hg x0 x1 x2 x3 r0
  by_cases hf : fine rows s = true
  · obtain ⟨F1, F2, F3⟩ := fine_facts hf
    have HF := put (And.intro F1 (And.intro F2 F3))
    have HFT := put hf
    rw [hf]
    have hce : checkE true = .returned (.tuple #[]) := rfl
    rw [hce]
    obtain ⟨x0, x1, x2, x3⟩ := s_cells (HSX.out _ H5.out)
    clear hf F1 F2 F3 hce
    go_wp2_with fail
    clear x0 x1 x2 x3
    have hpl := plainS A0 A1 c0 c1 v2 (.int .i64 s.limit) s w5 HLL.out.1 HLL.out.2.1
    rw [← HE01.out.1, ← HE01.out.2] at hpl
    refine hpl.mono ?_
    clear hpl
    rintro e w6 ⟨rfl, hg⟩
    have H6 := put (H5.out.step HNW.out hg.below)
    have HOB6 : Kp (w6.heap[O]? = some (.cells #[v] 78 (0, 0))) := put ((hg.below.block O (Array.getElem?_eq_some_iff.1 HOB5.out).1).trans HOB5.out)
    clear hg
    obtain ⟨x0, x1, x2, x3⟩ := s_cells (HSX.out _ H6.out)
    obtain ⟨r0, rf⟩ := o_cell (HRX.out _ H6.out)
    obtain ⟨o0, of⟩ := o_cell HOB6.out
    cases hp : s.plain with
    | true =>
      have HMK : Kp (mkR rows s = (sortR s.order rows, 0)) := put (by unfold mkR grouped; rw [if_neg (by rw [HFT.out]; simp), hp]; rfl)
      clear hp
      go_wp2_with fail
      clear x0 x1 x2 x3 r0 rf o0 of
      refine (sortCalls ok oks v v2 rows s.order w6 (HRD.out _ H6.out.below) (HSD.out _ H6.out.below).order HL.out.1 HL.out.2.1 HLL.out.2.2).mono ?_
      rintro e w9 ⟨vs, rfl, ho, hb9⟩
      obtain ⟨As, cs, rfl, _, _⟩ := ho.form
      have H9 := put (H6.out.step HNW.out hb9)
      have HOB9 : Kp (∃ u, w9.heap[O]? = some (.cells #[u] 78 (0, 0))) := put ⟨_, (hb9.block O (Array.getElem?_eq_some_iff.1 HOB6.out).1).trans HOB6.out⟩
      have HSR : Kp (Sl tRowU (fun k => w.heap.size ≤ k) w9 (.slice As (sortR s.order rows).length cs) (sortR s.order rows)) := put (ho.sl (fun k hk => Nat.le_trans H6.out.size (ho.lt k hk).1) (fun k hk => Nat.le_trans H6.out.size hk) (by rw [sortR_len]; have := HL.out.1; omega))
      obtain ⟨u, hu⟩ := HOB9.out
      obtain ⟨o0, of⟩ := o_cell hu
      have HEND : Kp (outP rows s O w.heap.size 0 (w9.setCell ⟨O, 0, none⟩ (.slice As (sortR s.order rows).length cs))) := put ⟨by rw [HMK.out], fun _ => ⟨(.slice As (sortR s.order rows).length cs), o_set hu (.slice As (sortR s.order rows).length cs), by rw [HMK.out]; exact HSR.out.move (fun k hk _ => Below.heap_setCell _ ⟨O, 0, none⟩ _ _ (by have := HOW.out; show k ≠ O; omega))⟩⟩
      have HON := put (H9.out.set HNO.out (.slice As (sortR s.order rows).length cs))
      clear ho hb9 hu
      go_wp2_with fail
      exact bodyPost_end (results_none rfl _ _ _) rfl ⟨0, rfl, HEND.out, HON.out⟩
    | false =>
      have HPF := put hp
      have HGE := put (grouped_gl (rows := rows) hp)
      clear hp
      go_wp2_with fail
      clear x0 x1 x2 x3 r0 rf o0 of
      refine (groupsS ok oks v v0 v1 v2 s.limit rows s w6 (HRD.out _ H6.out.below) (HSD.out _ H6.out.below) HL.out.1 HL.out.2.1 HF.out.1 HF.out.2.1 HF.out.2.2 HL.out.2.2.2).mono ?_
      rintro e w7 ⟨hE, hb7⟩
      have H7 := put (H6.out.step HNW.out hb7)
      have hob7 := (hb7.block O (Array.getElem?_eq_some_iff.1 HOB6.out).1).trans HOB6.out
      have HOB7 := put hob7
      by_cases hz : (rowsR rows s (glOf rows s)).2 = 0
      · obtain ⟨vo, rfl, hsl⟩ : ∃ vo, e = .returned vo ∧ Sl tRow (fun k => w6.heap.size ≤ k) w7 vo (rowsR rows s (glOf rows s)).1 := by unfold rowsE at hE; rw [if_pos hz] at hE; exact hE
        obtain ⟨Av, cv, rfl, _, _, _⟩ := hsl.shape
        obtain ⟨Z1, Z2⟩ := rowsR_sizes HL.out.1 HL.out.2.2.1 hz
        have HMK : Kp (mkR rows s = (sortR s.order (rowsR rows s (glOf rows s)).1, 0)) := put (by unfold mkR; rw [if_neg (by rw [HFT.out]; simp), HGE.out, if_pos hz])
        obtain ⟨w8, hw8⟩ : ∃ w8, w8 = w7.setCell ⟨O, 0, none⟩ (.slice Av (rowsR rows s (glOf rows s)).1.length cv) := ⟨_, rfl⟩
        have H8 : Kp (One N O w0 w w8) := put (by rw [hw8]; exact H7.out.set HNO.out (.slice Av (rowsR rows s (glOf rows s)).1.length cv))
        have HOB8 : Kp (w8.heap[O]? = some (.cells #[(.slice Av (rowsR rows s (glOf rows s)).1.length cv)] 78 (0, 0))) := put (by rw [hw8]; exact o_set hob7 (.slice Av (rowsR rows s (glOf rows s)).1.length cv))
        have HSR8 : Kp (Sl tRow (fun k => w6.heap.size ≤ k) w8 (.slice Av (rowsR rows s (glOf rows s)).1.length cv) (rowsR rows s (glOf rows s)).1) := put (by
          rw [hw8]
          exact hsl.move (fun k hk _ => Below.heap_setCell _ ⟨O, 0, none⟩ _ _ (by have := HOW.out; have := H6.out.size; show k ≠ O; omega)))
        have HZZ := put (And.intro Z1 Z2)
        obtain ⟨x0, x1, x2, x3⟩ := s_cells (HSX.out _ H8.out)
        obtain ⟨p0, pf⟩ := o_cell HOB8.out
        rw [hw8] at x2 p0
        obtain ⟨o0, of⟩ := o_cell hob7
        clear hE hb7 hob7 hz hsl Z1 Z2 x0 x1 x3 pf
        go_wp2_with fail
        rw [← hw8]
        clear hw8 x2 p0 o0 of
        refine (sortCalls _ oks (.slice Av (rowsR rows s (glOf rows s)).1.length cv) v2 (rowsR rows s (glOf rows s)).1 s.order w8 HSR8.out (HSD.out _ H8.out.below).order HZZ.out.1 HZZ.out.2 HLL.out.2.2).mono ?_
        rintro e w9 ⟨vs, rfl, ho, hb9⟩
        obtain ⟨As, cs, rfl, _, _⟩ := ho.form
        have H9 := put (H8.out.step HNW.out hb9)
        have HOB9 : Kp (∃ u, w9.heap[O]? = some (.cells #[u] 78 (0, 0))) := put ⟨_, (hb9.block O (Array.getElem?_eq_some_iff.1 HOB8.out).1).trans HOB8.out⟩
        have HSR : Kp (Sl tRowU (fun k => w.heap.size ≤ k) w9 (.slice As (sortR s.order (rowsR rows s (glOf rows s)).1).length cs) (sortR s.order (rowsR rows s (glOf rows s)).1)) := put (ho.sl (fun k hk => Nat.le_trans H8.out.size (ho.lt k hk).1) (fun k hk => Nat.le_trans H8.out.size hk) (by rw [sortR_len]; have := HZZ.out.1; omega))
        obtain ⟨u, hu⟩ := HOB9.out
        obtain ⟨o0, of⟩ := o_cell hu
        have HEND : Kp (outP rows s O w.heap.size 0 (w9.setCell ⟨O, 0, none⟩ (.slice As (sortR s.order (rowsR rows s (glOf rows s)).1).length cs))) := put ⟨by rw [HMK.out], fun _ => ⟨(.slice As (sortR s.order (rowsR rows s (glOf rows s)).1).length cs), o_set hu (.slice As (sortR s.order (rowsR rows s (glOf rows s)).1).length cs), by rw [HMK.out]; exact HSR.out.move (fun k hk _ => Below.heap_setCell _ ⟨O, 0, none⟩ _ _ (by have := HOW.out; show k ≠ O; omega))⟩⟩
        have HON := put (H9.out.set HNO.out (.slice As (sortR s.order (rowsR rows s (glOf rows s)).1).length cs))
        clear ho hb9 hu
        go_wp2_with fail
        exact bodyPost_end (results_none rfl _ _ _) rfl ⟨0, rfl, HEND.out, HON.out⟩
      · obtain rfl : e = stopE (rowsR rows s (glOf rows s)).2 := by unfold rowsE at hE; rw [if_neg hz] at hE; exact hE
        have HMK : Kp (mkR rows s = ([], (rowsR rows s (glOf rows s)).2)) := put (by unfold mkR; rw [if_neg (by rw [HFT.out]; simp), HGE.out, if_neg hz])
        exact ⟨rfl, (rowsR rows s (glOf rows s)).2, by rw [endC, if_neg hz]; rfl, ⟨by rw [HMK.out], fun h => absurd h hz⟩, H7.out⟩
  · have hf0 : fine rows s = false := by simpa using hf
    rw [hf0]
    have hce : checkE false = stopE 15 := rfl
    rw [hce]
    have HMK : Kp (mkR rows s = ([], 15)) := put (by unfold mkR; rw [if_pos hf0])
    exact ⟨rfl, 15, rfl, ⟨by rw [HMK.out], fun h => absurd h (by decide)⟩, H5.out⟩
end Go.Proofs.Ytkfoknjflpklpaa.P
