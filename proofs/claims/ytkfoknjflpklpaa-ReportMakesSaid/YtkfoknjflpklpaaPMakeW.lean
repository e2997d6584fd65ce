/- report.Make. -/
import Derived.Test.YtkfoknjflpklpaaPMake1
namespace Go.Proofs.Ytkfoknjflpklpaa.P
open Go Go.RowKit Go.Sort Go.Proofs.Ytkfoknjflpklpaa.Mem Go.Proofs.Ytkfoknjflpklpaa.Cmp Go.Proofs.Ytkfoknjflpklpaa.D

/-- What is known behind Catch. -/
structure MkS (rows : List (List Val)) (s : Spc) (w w3 : World) (O B : Nat) (c : Int) (w' : World) : Prop where
  out : outP rows s O B c w'
  below : Below w.heap.size w w'
  size : B ≤ w'.heap.size
  keep : ∀ k, k < w3.heap.size → k ≠ O → w'.heap[k]? = w3.heap[k]?
theorem MkS.alloc {rows : List (List Val)} {s : Spc} {w w3 : World} {O B : Nat} {c : Int} {w' : World} (h : MkS rows s w w3 O B c w') (hB : w3.heap.size ≤ B) (o : Obj) : MkS rows s w w3 O B c (w'.alloc o) where
  out := ⟨h.out.1, fun hc => by
    obtain ⟨vo, h1, h2⟩ := h.out.2 hc
    exact ⟨vo, (Below.heap_alloc _ _ _ (Array.getElem?_eq_some_iff.1 h1).1).trans h1, h2.move (fun k _ hk => Below.heap_alloc _ _ _ hk)⟩⟩
  below := balloc h.below o
  size := by have := h.size; simp; omega
  keep := fun k hk hO => (Below.heap_alloc _ _ _ (by have := h.size; omega)).trans (h.keep k hk hO)
theorem MkS.set {rows : List (List Val)} {s : Spc} {w w3 : World} {O B : Nat} {c : Int} {w' : World} (h : MkS rows s w w3 O B c w') {X : Nat} (hX : w3.heap.size ≤ X) (hXB : X < B) (hw : w.heap.size ≤ w3.heap.size) (hO3 : O < w3.heap.size) (j : Nat) (u : Value) : MkS rows s w w3 O B c (w'.setCell ⟨X, j, none⟩ u) where
  out := ⟨h.out.1, fun hc => by
    obtain ⟨vo, h1, h2⟩ := h.out.2 hc
    exact ⟨vo, (Below.heap_setCell _ ⟨X, j, none⟩ _ _ (by show O ≠ X; omega)).trans h1, h2.move (fun k hk _ => Below.heap_setCell _ ⟨X, j, none⟩ _ _ (by show k ≠ X; omega))⟩⟩
  below := below_set h.below (by omega)
  size := by simpa [World.setCell] using h.size
  keep := fun k hk hO => (Below.heap_setCell _ ⟨X, j, none⟩ _ _ (by show k ≠ X; omega)).trans (h.keep k hk hO)

theorem Sl_take {α : Type} {d : Ty α} {ok : Nat → Prop} {w : World} {A : Option Addr} {c : Nat} {xs : List α} (h : Sl d ok w (.slice A xs.length c) xs) (q : Nat) (hq : q ≤ xs.length) : Sl d ok w (.slice A q c) (xs.take q) := by
  obtain ⟨A', c', e, h1, h2, h3, hn, hr⟩ := h
  injection e with e1 _ e3
  subst e1
  subst e3
  refine ⟨A, c, by rw [List.length_take, Nat.min_eq_left hq], by rw [List.length_take]; omega, h2, by rw [List.length_take]; omega, hn, fun hne => ?_⟩
  obtain ⟨ad, rfl, hb, hlt, hx⟩ := hr (fun e => hne (by rw [e]; simp))
  exact ⟨ad, rfl, hb, hlt, fun i x hi => hx i x (by
    rw [List.getElem?_take] at hi
    split at hi
    · exact hi
    · cases hi)⟩

set_option maxHeartbeats 8000000 in
set_option maxRecDepth 100000 in
theorem makeCalls (ok oks : Nat → Prop) (v v0 v1 v2 : Value) (rows : List (List Val)) (s : Spc) (w : World) (h : Sl tRow ok w v rows) (hs : SpR oks w s v0 v1 v2) (hl : rows.length ≤ 1000) (hw : ∀ r ∈ rows, r.length ≤ 1000) (hws : s.cols.length + s.sums.length ≤ 1000) (hin : ∀ r ∈ rows, ∀ y ∈ r, InR y.n) :
    Calls Try.prog 43 #[v, .agg #[v0, v1, v2, .int .i64 s.limit]] w fun e w' => ∃ vo, e = .returned (.tuple #[vo, .int .i64 (makeR rows s).2]) ∧ Sl tRowU (fun k => w.heap.size ≤ k) w' vo (makeR rows s).1 ∧ Below w.heap.size w w' := by
  obtain ⟨A, c, rfl, _, _, _⟩ := h.shape
  obtain ⟨A0, c0, rfl, _, _, _⟩ := hs.cols.shape
  obtain ⟨A1, c1, rfl, _, _, _⟩ := hs.sums.shape
  obtain ⟨A2, c2, rfl, _, _, _⟩ := hs.order.shape
  obtain ⟨w3, hw3⟩ : ∃ w3, w3 = ((w.alloc (.cells #[.slice A rows.length c] 78)).alloc (.cells #[.slice A0 s.cols.length c0, .slice A1 s.sums.length c1, .slice A2 s.order.length c2, .int .i64 s.limit] 82)).alloc (.cells #[.slice A rows.length c] 78) := ⟨_, rfl⟩
  have hz : w3.heap.size = w.heap.size + 3 := by rw [hw3]; simp
  have hR : w3.heap[w.heap.size]? = some (.cells #[.slice A rows.length c] 78 (0, 0)) := by rw [hw3, hag, if_neg (by simp; omega), hag, if_neg (by simp), hag, if_pos rfl]
  have hS : w3.heap[w.heap.size + 1]? = some (.cells #[.slice A0 s.cols.length c0, .slice A1 s.sums.length c1, .slice A2 s.order.length c2, .int .i64 s.limit] 82 (0, 0)) := by rw [hw3, hag, if_neg (by simp), hag, if_pos (by simp)]
  have hO : w3.heap[w.heap.size + 2]? = some (.cells #[.slice A rows.length c] 78 (0, 0)) := by rw [hw3, hag, if_pos (by simp)]
  have hb3 : Below w.heap.size w w3 := by rw [hw3]; exact balloc (balloc (balloc (Below.refl _ _) _) _) _
  obtain ⟨wa, hwa⟩ : ∃ wa, wa = w3.alloc (.cells #[.int .i64 0, .int .i64 0] 137) := ⟨_, rfl⟩
  have hza : wa.heap.size = w3.heap.size + 1 := by rw [hwa]; simp
  have hlt : ∀ k, k < w3.heap.size → wa.heap[k]? = w3.heap[k]? := fun k hk => by rw [hwa]; exact Below.heap_alloc _ _ _ hk
  have m1 := make1 ok oks w.heap.size w.heap.size (w.heap.size + 1) (w.heap.size + 2) _ _ _ _ rows s w wa (by rw [hwa]; exact balloc hb3 _) (by omega) (by omega) ((hlt _ (by omega)).trans hS) ((hlt _ (by omega)).trans hR) ((hlt _ (by omega)).trans hO) (by omega) (by omega) (fun w' hb => h.below hb) (fun w' hb => hs.below hb) hl hw hws hin
  have hxa : wa.heap[w3.heap.size]? = some (.cells #[.int .i64 0, .int .i64 0] 137 (0, 0)) := by rw [hwa]; exact heap_alloc_new _ _
  have mf : Calls Try.prog 68 #[.pointer (some ⟨w.heap.size + 1, 0, none⟩), .pointer (some ⟨w.heap.size, 0, none⟩), .pointer (some ⟨w.heap.size + 2, 0, none⟩)] (w3.alloc (.cells #[.int .i64 0, .int .i64 0] 137)) fun e w' => ∃ c, e = endC c ∧ MkS rows s w w3 (w.heap.size + 2) wa.heap.size c w' ∧ w'.heap[w3.heap.size]? = some (.cells #[.int .i64 0, .int .i64 0] 137 (0, 0)) := by
    rw [← hwa]
    refine m1.mono ?_
    rintro e w' ⟨c, he, ho, hone⟩
    refine ⟨c, he, ⟨ho, hone.below, hone.size, fun k hk hk2 => (hone.keep k (by omega) hk2).trans (hlt k hk)⟩, (hone.keep _ (by omega) (by omega)).trans hxa⟩
  have CC := put (catchCalls 68 _ (fun w => by rfl) w3 (MkS rows s w w3 (w.heap.size + 2) wa.heap.size) mf (fun c w' o hk => hk.alloc (by omega) o) (fun c w' j u hk => hk.set (Nat.le_refl _) (by omega) (by omega) (by omega) j u))
  have HZ := put hz
  have HZA := put hza
  have HSX := put hS
  have HW := put hw3
  have hmf : ∀ (fn : Fn) (first cap : Array Value) (w : World), (Instr.makeFunc fn first cap).run Try.prog w = .ok (.func fn first cap) w := fun _ _ _ _ => rfl
  clear hS hR hO hb3 hwa hza hlt m1 hxa mf h hs hl hw hws hin hz
  go_enter Try.func43, Try.ntmps43
  go_wp2_with fail
  rw [← hw3]
  clear hw3
  refine CC.out.mono ?_
  rintro e w6 ⟨c9, rfl, hS⟩
  have HS := put hS
  obtain ⟨O, hOe⟩ : ∃ O, O = w.heap.size + 2 := ⟨_, rfl⟩
  have HOE := put hOe
  by_cases hc : c9 = 0
  · have hcz : (c9 != 0) = false := by simp [hc]
    obtain ⟨vo, ho, hsl⟩ := hS.out.2 hc
    obtain ⟨Av, cv, rfl, k1, k2, k3⟩ := hsl.shape
    have HO6 := put ho
    have HSL := put hsl
    have hs6 := (hS.keep (w.heap.size + 1) (by have := HZ.out; omega) (by omega)).trans HSX.out
    have x3 : ∀ o, (w6.alloc o).cell? ⟨w.heap.size + 1, 3, none⟩ = some (.int .i64 s.limit) := fun o => (s_cells ((Below.heap_alloc _ o _ (Array.getElem?_eq_some_iff.1 hs6).1).trans hs6)).2.2.2
    have o0 : ∀ o, (w6.alloc o).cell? ⟨w.heap.size + 1 + 1, 0, none⟩ = some (.slice Av (mkR rows s).1.length cv) := fun o => (o_cell ((Below.heap_alloc _ o _ (Array.getElem?_eq_some_iff.1 ho).1).trans ho)).1
    have of : ∀ o, (w6.alloc o).frozen? ⟨w.heap.size + 1 + 1, 0, none⟩ = false := fun o => (o_cell ((Below.heap_alloc _ o _ (Array.getElem?_eq_some_iff.1 ho).1).trans ho)).2
    have o1 : w6.cell? ⟨w.heap.size + 1 + 1, 0, none⟩ = some (.slice Av (mkR rows s).1.length cv) := (o_cell ho).1
    obtain ⟨L, hL⟩ : ∃ L, L = (mkR rows s).1.length := ⟨_, rfl⟩
    rw [← hL] at k1 k3 o1
    simp only [← hL] at o0
    have HLE := put hL
    have HMK : Kp (makeR rows s = (cut s.limit (mkR rows s).1, 0)) := put (by rw [makeR_mk, if_pos (by rw [← hS.out.1]; exact hc)])
    have HBX := put hS.below
    have HSI := put hS.size
    clear hS ho hsl hs6 hL hOe hc
    by_cases h0 : 0 ≤ s.limit
    · by_cases h1 : s.limit < (L : Int)
      · obtain ⟨q, hq⟩ : ∃ q : Nat, s.limit = q := ⟨s.limit.toNat, by omega⟩
        have HQ := put hq
        simp only [hq] at x3 h0 h1
        clear hq
        have hqc : q ≤ cv := by omega
        go_wp2_with fail
        have HC : Kp (cut s.limit (mkR rows s).1 = (mkR rows s).1.take q) := put (by
          unfold cut
          rw [if_pos ⟨by rw [HQ.out]; exact h0, by rw [HQ.out, ← HLE.out]; exact h1⟩, HQ.out]
          rfl)
        have HOL : Kp (w.heap.size + 3 ≤ wa.heap.size) := put (by have := HZA.out; have := HZ.out; omega)
        go_ret2
        refine ⟨.slice Av q cv, by rw [HMK.out]; rfl, ?_, below_set (balloc HBX.out _) (by omega)⟩
        rw [HMK.out, HC.out]
        have hh := HSL.out
        rw [← HLE.out] at hh
        have hh2 := hh.below (balloc (Below.refl _ w6) (.cells #[.int .i64 c9, .int .i64 0] 137))
        have hh3 := hh2.move (w' := (w6.alloc (.cells #[.int .i64 c9, .int .i64 0] 137)).setCell ⟨w.heap.size + 1 + 1, 0, none⟩ (.slice Av q cv)) (fun k hk _ => Below.heap_setCell _ ⟨w.heap.size + 1 + 1, 0, none⟩ _ _ (by have := HOL.out; show k ≠ w.heap.size + 1 + 1; omega))
        rw [HLE.out] at hh3
        exact (Sl_take hh3 q (by rw [← HLE.out]; omega)).mono (fun k hk => by have := HOL.out; omega)
      · have HC : Kp (cut s.limit (mkR rows s).1 = (mkR rows s).1) := put (by unfold cut; rw [if_neg (by rw [← HLE.out]; exact fun hh => h1 hh.2)])
        go_wp2_with fail
        go_ret2
        refine ⟨.slice Av L cv, by rw [HMK.out]; rfl, ?_, ?_⟩
        · rw [HMK.out, HC.out]
          have hh := HSL.out
          rw [← HLE.out] at hh
          exact (hh.below (balloc (Below.refl _ _) _)).mono (fun k hk => by have := HZA.out; have := HZ.out; omega)
        · exact balloc HBX.out _
    · have HC : Kp (cut s.limit (mkR rows s).1 = (mkR rows s).1) := put (by unfold cut; rw [if_neg (fun hh => h0 hh.1)])
      go_wp2_with fail
      go_ret2
      refine ⟨.slice Av L cv, by rw [HMK.out]; rfl, ?_, ?_⟩
      · rw [HMK.out, HC.out]
        have hh := HSL.out
        rw [← HLE.out] at hh
        exact (hh.below (balloc (Below.refl _ _) _)).mono (fun k hk => by have := HZA.out; have := HZ.out; omega)
      · exact balloc HBX.out _
  · have hcz : (c9 != 0) = true := by simp [hc]
    have HMK : Kp (makeR rows s = ([], c9)) := put (by rw [makeR_mk, if_neg (by rw [← hS.out.1]; exact hc), ← hS.out.1])
    have HSA := put (hS.alloc (by have := HZA.out; omega) (.cells #[.int .i64 c9, .int .i64 0] 137))
    clear hS hc hOe
    go_wp2_with fail
    go_quiet (fail)
    go_wp2_with fail
    go_ret2
    exact ⟨.slice none 0 0, by rw [HMK.out]; rfl, by rw [HMK.out]; exact Sl.nil _ _ _, HSA.out.below.trans ⟨rfl, rfl, rfl, Nat.le_refl _, fun _ _ => rfl⟩⟩
end Go.Proofs.Ytkfoknjflpklpaa.P
