/- Pages: Split. The library's slices.Grow, laid at this program. Pages: slices.Grow and Concat at ints. Pages: Join. Trees: load, store, alloc. Trees over an arena's pages, in plain Lean: order, and where an entry stands. Trees over an arena's pages, in plain Lean: what lies below a page. Trees over an arena's pages, in plain Lean: a kid turned, a kid put in, halves. Trees over an arena's pages, in plain Lean: halves, and that they are right. Trees over an arena's pages, in plain Lean: the halves of an overfull node are right. Trees over an arena's pages, in plain Lean: what a page's change does to the arena. Trees over an arena's pages, in plain Lean: what a node holds, before it is laid; what an insertion leaves. Trees over an arena's pages, in plain Lean: what an insertion leaves. Trees over an arena's pages, in plain Lean: an insertion into a leaf, and below a kid. -/
import Derived.Test.YtcpahknlabnnbaaTG2
import Derived.Test.YtcpahknlabnnbaaTG1
import Derived.Shelf.SlGeneric
import Derived.Shelf.Spec.SlicesGrow
import Derived.Shelf.Lay
import Derived.Ground.Names8Prog

namespace Go.Proofs.Ytcpahknlabnnbaa.T
open Go Go.RowKit Go.Sort Go.Proofs.Ytcpahknlabnnbaa.Mem

def Nd.sk (n : Nd) : Nat := if n.leaf = true then 0 else 1
def Nd.ea (n : Nd) : Nat := if n.leaf = true then 0 else 4
/-- How heavy the heavier side is. -/
def Nd.side (n : Nd) (i : Nat) : Nat := max (wt (n.recs.take i) + i * n.ea) (wt (n.recs.drop (i + n.sk)) + (n.recs.length - i - n.sk) * n.ea)
/-- The best cut of the first i, and how heavy its heavier side is. -/
def Nd.cutN (n : Nd) : Nat → Nat × Nat
  | 0 => (0, 0)
  | i + 1 => if (n.cutN i).1 = 0 ∨ n.side (i + 1) < (n.cutN i).2 then (i + 1, n.side (i + 1)) else n.cutN i
theorem cutN_le (n : Nd) : ∀ i, (n.cutN i).1 ≤ i
  | 0 => Nat.le_refl _
  | i + 1 => by
    rw [Nd.cutN]
    split
    · exact Nat.le_refl _
    · exact Nat.le_succ_of_le (cutN_le n i)
theorem cutN_pos (n : Nd) : ∀ i, 1 ≤ (n.cutN (i + 1)).1
  | 0 => by rw [Nd.cutN, if_pos (.inl rfl)]; exact Nat.le_refl _
  | i + 1 => by
    rw [Nd.cutN]
    split
    · exact Nat.succ_le_succ (Nat.zero_le _)
    · exact cutN_pos n i
theorem cutN_side (n : Nd) : ∀ i, (n.cutN (i + 1)).2 = n.side (n.cutN (i + 1)).1
  | 0 => by rw [Nd.cutN, if_pos (.inl rfl)]
  | i + 1 => by
    rw [Nd.cutN]
    split
    · rfl
    · exact cutN_side n i
theorem cutN_best (n : Nd) : ∀ i j, 1 ≤ j → j ≤ i → n.side (n.cutN i).1 ≤ n.side j
  | 0, j, h1, h2 => by omega
  | i + 1, j, h1, h2 => by
    by_cases hj : j = i + 1
    · subst hj
      rw [Nd.cutN]
      split
      · exact Nat.le_refl _
      · next h =>
        cases i with
        | zero => exact absurd (.inl rfl) h
        | succ i =>
          rw [← cutN_side n i]
          have : ¬ n.side (i + 1 + 1) < (n.cutN (i + 1)).2 := fun e => h (.inr e)
          omega
    · have ih := cutN_best n i j h1 (by omega)
      rw [Nd.cutN]
      split
      · next h =>
        rcases h with h | h
        · cases i with
          | zero => omega
          | succ i => have := cutN_pos n i; omega
        · cases i with
          | zero => omega
          | succ i => rw [cutN_side n i] at h; exact Nat.le_of_lt (Nat.lt_of_lt_of_le h ih)
      · exact ih
/-- Where it is split. -/
def Nd.cut (n : Nd) : Nat := (n.cutN (n.recs.length - n.sk - 1)).1
theorem wt_drop_le {l : List ByteArray} (i : Nat) : wt (l.drop i) ≤ wt l := by
  induction l generalizing i with
  | nil => simp
  | cons s l ih =>
    cases i with
    | zero => exact Nat.le_refl _
    | succ i => rw [List.drop_succ_cons, wt]; have := ih i; omega
theorem far3 {w : World} {a : Addr} {u v0 v1 v2 : Value} {X : Nat} (hX : X ≠ a.block) (h : w.cell? a = some u) : (((w.setCell ⟨X, 0, none⟩ v0).setCell ⟨X, 1, none⟩ v1).setCell ⟨X, 2, none⟩ v2).cell? a = some u := by
  rw [World.cell?_setCell_far _ _ _ _ (by exact hX), World.cell?_setCell_far _ _ _ _ (by exact hX), World.cell?_setCell_far _ _ _ _ (by exact hX), h]
theorem far6 {w : World} {a : Addr} {u v0 v1 v2 v3 v4 v5 : Value} {X Y : Nat} (hX : X ≠ a.block) (hY : Y ≠ a.block) (h : w.cell? a = some u) : ((((((w.setCell ⟨X, 0, none⟩ v0).setCell ⟨X, 1, none⟩ v1).setCell ⟨X, 2, none⟩ v2).setCell ⟨Y, 0, none⟩ v3).setCell ⟨Y, 1, none⟩ v4).setCell ⟨Y, 2, none⟩ v5).cell? a = some u := far3 hY (far3 hX h)
theorem heap6a {w : World} {v0 v1 v2 v3 v4 v5 a0 a1 a2 : Value} {X Y : Nat} {t : TypeId} (hX : X ≠ Y) (h : w.heap[X]? = some (.cells #[a0, a1, a2] t (0, 0))) : ((((((w.setCell ⟨X, 0, none⟩ v0).setCell ⟨X, 1, none⟩ v1).setCell ⟨X, 2, none⟩ v2).setCell ⟨Y, 0, none⟩ v3).setCell ⟨Y, 1, none⟩ v4).setCell ⟨Y, 2, none⟩ v5).heap[X]? = some (.cells #[v0, v1, v2] t (0, 0)) :=
  (Below.heap_setCell _ ⟨Y, 2, none⟩ _ X hX).trans ((Below.heap_setCell _ ⟨Y, 1, none⟩ _ X hX).trans ((Below.heap_setCell _ ⟨Y, 0, none⟩ _ X hX).trans ((setCell_heap (setCell_heap (setCell_heap h 0 _) 1 _) 2 _).trans rfl)))
theorem heap6b {w : World} {v0 v1 v2 v3 v4 v5 a0 a1 a2 : Value} {X Y : Nat} {t : TypeId} (hX : X ≠ Y) (h : w.heap[Y]? = some (.cells #[a0, a1, a2] t (0, 0))) : ((((((w.setCell ⟨X, 0, none⟩ v0).setCell ⟨X, 1, none⟩ v1).setCell ⟨X, 2, none⟩ v2).setCell ⟨Y, 0, none⟩ v3).setCell ⟨Y, 1, none⟩ v4).setCell ⟨Y, 2, none⟩ v5).heap[Y]? = some (.cells #[v3, v4, v5] t (0, 0)) :=
  (setCell_heap (setCell_heap (setCell_heap ((Below.heap_setCell _ ⟨X, 2, none⟩ _ Y (Ne.symm hX)).trans ((Below.heap_setCell _ ⟨X, 1, none⟩ _ Y (Ne.symm hX)).trans ((Below.heap_setCell _ ⟨X, 0, none⟩ _ Y (Ne.symm hX)).trans h))) 0 _) 1 _) 2 _).trans rfl
theorem NdO.far6 {base : Nat} {w : World} {vr vk : Value} {n : Nd} (h : NdO base w vr vk n) {v0 v1 v2 v3 v4 v5 : Value} {X Y : Nat} (hX : X < base) (hY : Y < base) : NdO base ((((((w.setCell ⟨X, 0, none⟩ v0).setCell ⟨X, 1, none⟩ v1).setCell ⟨X, 2, none⟩ v2).setCell ⟨Y, 0, none⟩ v3).setCell ⟨Y, 1, none⟩ v4).setCell ⟨Y, 2, none⟩ v5) vr vk n := (((((h.far hX _ _).far hX _ _).far hX _ _).far hY _ _).far hY _ _).far hY _ _
theorem results_ctc {fn : Func} {p u q : Tmp} {ty ty2 : TypeId} (h : fn.results = #[.cell p ty, .tmp u, .cell q ty2]) (tmps : Array Value) (w : World) (g g2 : Nat) (v v2 : Value)
    (hp : tmps.getD p undef = .pointer (some ⟨g, 0, none⟩)) (hl : (loadVar ty ⟨g, 0, none⟩).run Try.prog w = .ok v w) (hq : tmps.getD q undef = .pointer (some ⟨g2, 0, none⟩)) (hl2 : (loadVar ty2 ⟨g2, 0, none⟩).run Try.prog w = .ok v2 w) :
    (results fn tmps).run Try.prog w = .ok (.tuple #[v, tmps.getD u undef, v2]) w := by
  have hp' : tmps[p]?.getD undef = .pointer (some ⟨g, 0, none⟩) := by simpa using hp
  have hq' : tmps[q]?.getD undef = .pointer (some ⟨g2, 0, none⟩) := by simpa using hq
  simp [results, h, hp', hq', asAddr, Result.andThen, hl, hl2]

set_option maxHeartbeats 8000000 in
set_option maxRecDepth 100000 in
theorem splitCalls (ok : Nat → Prop) (vr vk : Value) (n : Nd) (w : World) (h : NdV ok w vr vk n) (hf : n.Fair) (hm : n.sk + 2 ≤ n.recs.length) (hk : n.leaf = false → n.kids.length = n.recs.length + 1) :
    Calls Try.prog 54 #[.agg #[.bool n.leaf, vr, vk]] w fun e w' => ∃ r1 k1 r2 k2 s, e = .returned (.tuple #[.agg #[.bool n.leaf, r1, k1], .string s, .agg #[.bool n.leaf, r2, k2]]) ∧ n.recs[n.cut]? = some s ∧ NdO w.heap.size w' r1 k1 (n.some 0 n.cut) ∧ NdO w.heap.size w' r2 k2 (n.some (n.cut + n.sk) n.recs.length) ∧ Below w.heap.size w w' := by
  obtain ⟨gr, or, cr, rfl, r1, r2⟩ := h.recs.row (by omega)
  have H := put h
  have HF := put hf
  have HK := put hk
  obtain ⟨m, hmm⟩ : ∃ m, m = n.recs.length := ⟨_, rfl⟩
  have hm2 := hf.recs
  have hwt := hf.wt
  rw [← hmm] at hm r1 hm2 H ⊢
  have HM := put hmm
  have HR : Kp (RdE Value.string ok w (.slice (some ⟨gr, or, none⟩) m cr) n.recs) := put (by have := H.out.recs; exact this)
  obtain ⟨w2, hw2⟩ : ∃ w2, w2 = ((w.alloc (.cells #[.bool n.leaf, .slice (some ⟨gr, or, none⟩) m cr, vk] 69)).alloc (.cells #[.bool false, .slice none 0 0, .slice none 0 0] 69)).alloc (.cells #[.bool false, .slice none 0 0, .slice none 0 0] 69) := ⟨_, rfl⟩
  have S2 : Kp (w2.heap.size = w.heap.size + 1 + 1 + 1) := put (by rw [hw2, alloc_size, alloc_size, alloc_size])
  have B2 : Kp (Below w.heap.size w w2) := put (by rw [hw2]; exact balloc (balloc (balloc (Below.refl _ _) _) _) _)
  have hb2 : w2.heap[w.heap.size]? = some (.cells #[.bool n.leaf, .slice (some ⟨gr, or, none⟩) m cr, vk] 69 (0, 0)) := by rw [hw2, hag, if_neg (by rw [alloc_size, alloc_size]; omega), hag, if_neg (by rw [alloc_size]; omega), hag, if_pos rfl]
  have hn2 : w2.heap[w.heap.size + 1]? = some (.cells #[.bool false, .slice none 0 0, .slice none 0 0] 69 (0, 0)) := by rw [hw2, hag, if_neg (by rw [alloc_size, alloc_size]; omega), hag, if_pos (by rw [alloc_size])]
  have hn3 : w2.heap[w.heap.size + 1 + 1]? = some (.cells #[.bool false, .slice none 0 0, .slice none 0 0] 69 (0, 0)) := by rw [hw2, hag, if_pos (by rw [alloc_size, alloc_size])]
  have HB2 := put hb2
  have HN2 := put hn2
  have HN3 := put hn3
  have HW := put hw2
  obtain ⟨x0, x1, x2⟩ := c3 hb2
  clear hmm hf h hw2 hb2 hn2 hn3 hk
  have hLs : (n.leaf = true ∧ n.sk = 0 ∧ n.ea = 0) ∨ (n.leaf = false ∧ n.sk = 1 ∧ n.ea = 4) := by
    unfold Nd.sk Nd.ea
    cases n.leaf with
    | true => exact .inl ⟨rfl, rfl, rfl⟩
    | false => exact .inr ⟨rfl, rfl, rfl⟩
  obtain ⟨L, hL⟩ : ∃ L, L = n.leaf := ⟨_, rfl⟩
  obtain ⟨sk, hsk⟩ : ∃ sk, sk = n.sk := ⟨_, rfl⟩
  obtain ⟨ea, hea⟩ : ∃ ea, ea = n.ea := ⟨_, rfl⟩
  rw [← hL, ← hsk, ← hea] at hLs
  rw [← hL] at HB2 HW x0 HK ⊢
  rw [← hsk] at hm ⊢
  have HLE := put hL
  have HSC := put hsk
  have HEC := put hea
  clear hL hsk hea
  have CW1 : Kp (∀ j W, 1 ≤ j → j ≤ m → Below w.heap.size w W → Calls Try.prog 71 #[.slice (some ⟨gr, or, none⟩) j cr] W fun e w' => e = .returned (.int .i64 (wt (n.recs.take j))) ∧ w' = W) := put fun j W h1 h2 hb => by
    have h3 := (HR.out.below hb).sub (a := 0) (b := j) (by omega) (by rw [← HM.out]; exact h2)
    have h4 := wt_le (l := n.recs) j
    exact weighCalls ok _ _ W h3 (by have := HM.out; rw [List.length_take]; omega) (by omega)
  have CW2 : Kp (∀ j W, j < m → Below w.heap.size w W → Calls Try.prog 71 #[.slice (some ⟨gr, or + j, none⟩) (m - j) (cr - j)] W fun e w' => e = .returned (.int .i64 (wt (n.recs.drop j))) ∧ w' = W) := put fun j W h1 hb => by
    have h3 := (HR.out.below hb).sub (a := j) (b := m) h1 (by rw [← HM.out]; exact Nat.le_refl _)
    have h4 := wt_drop_le (l := n.recs) j
    rw [List.take_of_length_le (by rw [List.length_drop, ← HM.out]; exact Nat.le_refl _)] at h3
    exact weighCalls ok _ _ W h3 (by have := HM.out; rw [List.length_drop]; omega) (by omega)
  go_enter Try.func54, Try.ntmps54
  rcases hLs with ⟨rfl, rfl, rfl⟩ | ⟨rfl, rfl, rfl⟩
  · go_wp2_with fail
    rw [← HW.out]
    have X0 := put x0
    have X1 := put x1
    have X2 := put x2
    clear x0 x1 x2
    go_loopg [7, 8, 9, 10] (m - 0 - 1) (fun kx s7 s8 s9 s10 wr => ∃ (i k l : Nat), s7 = .int .i64 k ∧ s8 = .int .i64 l ∧ s9 = .int .i64 ((i : Int) + 1) ∧ Kp ((k, l) = n.cutN i) ∧ i ≤ m - 0 - 1 ∧ m - 0 - 1 - i ≤ kx ∧ Kp (∃ q, wr = w2.drewN q))
    case atStart => exact ⟨0, 0, 0, rfl, rfl, rfl, put rfl, Nat.zero_le _, Nat.le_refl _, put ⟨0, rfl⟩⟩
    case round =>
      obtain ⟨i, k, l, rfl, rfl, rfl, HC, hi, hkx, HQ⟩ := hrel
      have y0 : ∀ q, (wr.drewN q).cell? ⟨w.heap.size, 0, none⟩ = some (.bool true) := fun _ => by obtain ⟨q, rfl⟩ := HQ.out; exact X0.out
      have y1 : ∀ q, (wr.drewN q).cell? ⟨w.heap.size, 1, none⟩ = some (.slice (some ⟨gr, or, none⟩) m cr) := fun _ => by obtain ⟨q, rfl⟩ := HQ.out; exact X1.out
      have y1' : wr.cell? ⟨w.heap.size, 1, none⟩ = some (.slice (some ⟨gr, or, none⟩) m cr) := y1 0
      have BQ : Kp (∀ q, Below w.heap.size w (wr.drewN q)) := put fun q => by obtain ⟨q', rfl⟩ := HQ.out; exact bdr' (bdr' B2.out q') q
      by_cases hlt : i < m - 0 - 1
      · have hlz : (i : Int) + 1 < (m : Int) := by omega
        have E1 := put fun q => (CW1.out (i + 1) (wr.drewN q) (by omega) (by omega) (BQ.out q))
        have E2 := put fun q => (CW2.out (i + 1) (wr.drewN q) (by omega) (BQ.out q))
        have b1 := wt_le (l := n.recs) (i + 1)
        have b2 := wt_drop_le (l := n.recs) (i + 1)
        have HSD : Kp (n.side (i + 1) = max (wt (n.recs.take (i + 1)) + (i + 1) * 0) (wt (n.recs.drop (i + 1)) + (m - (i + 1) - 0) * 0)) := put (by unfold Nd.side; rw [← HSC.out, ← HEC.out, ← HM.out])
        generalize wt (n.recs.take (i + 1)) = t1 at *
        generalize wt (n.recs.drop (i + 1)) = t2 at *
        have f1 : (0 : Int) ≤ (i : Int) + 1 := by omega
        have f2 : (i : Int) + 1 ≤ (cr : Int) := by omega
        have f3 : ((i : Int) + 1).toNat = i + 1 := by omega
        have f4 : (i : Int) + 1 ≤ (m : Int) := by omega
        have f5 : ¬ cr = i + 1 := by omega
        have f6 : i + 1 ≤ m := by omega
        go_wp2_with fail
        go_quiet (first | (go_at_call_of 71 (Addr.mk gr or none); exact Calls.quiet_of_same (E1.out _)) | (go_at_call 71; exact Calls.quiet_of_same (E2.out _)))
        obtain ⟨sd, hsd⟩ : ∃ sd : Nat, sd = n.side (i + 1) := ⟨_, rfl⟩
        have hx : max (t1 : Int) (t2 : Int) = (sd : Int) := by rw [hsd, HSD.out]; omega
        rw [hx]
        have HSS := put hsd
        clear hsd hx E1 E2
        by_cases hk0 : k = 0
        · subst hk0
          go_wp2_with fail
          go_roundg (m - 0 - 1 - (i + 1))
          case measure => omega
          case rel => exact ⟨i + 1, i + 1, sd, by go_num, rfl, by go_num, put (by rw [Nd.cutN, ← HC.out, if_pos (.inl rfl), HSS.out]), by omega, Nat.le_refl _, put (by obtain ⟨q, rfl⟩ := HQ.out; exact ⟨_, by rw [World.drewN_drewN]⟩)⟩
        · have hk1 : ¬ (k : Int) = 0 := by omega
          by_cases hsl : sd < l
          · have hs1 : (sd : Int) < (l : Int) := by omega
            go_wp2_with fail
            go_roundg (m - 0 - 1 - (i + 1))
            case measure => omega
            case rel => exact ⟨i + 1, i + 1, sd, by go_num, rfl, by go_num, put (by rw [Nd.cutN, ← HC.out, if_pos (.inr (by rw [← HSS.out]; exact hsl)), HSS.out]), by omega, Nat.le_refl _, put (by obtain ⟨q, rfl⟩ := HQ.out; exact ⟨_, by rw [World.drewN_drewN]⟩)⟩
          · have hs1 : ¬ (sd : Int) < (l : Int) := by omega
            go_wp2_with fail
            go_roundg (m - 0 - 1 - (i + 1))
            case measure => omega
            case rel => exact ⟨i + 1, k, l, rfl, rfl, by go_num, put (by rw [Nd.cutN, ← HC.out, if_neg (fun h => h.elim hk0 (fun h => hsl (by rw [HSS.out]; exact h)))]), by omega, Nat.le_refl _, put (by obtain ⟨q, rfl⟩ := HQ.out; exact ⟨_, by rw [World.drewN_drewN]⟩)⟩
      · have hlz : ¬ (i : Int) + 1 < (m : Int) := by omega
        obtain rfl : i = m - 0 - 1 := by omega
        have hc1 : k = n.cut := by unfold Nd.cut; rw [← HM.out, ← HSC.out, ← HC.out]
        have hc2 : 1 ≤ k := by
          have := cutN_pos n (m - 0 - 2)
          rw [show m - 0 - 2 + 1 = m - 0 - 1 by omega, ← HC.out] at this
          exact this
        have hc3 : k ≤ m - 0 - 1 := by
          have := cutN_le n (m - 0 - 1)
          rw [← HC.out] at this
          exact this
        have HCC := put hc1
        obtain ⟨x, hx⟩ : ∃ x, n.recs[k]? = some x := ⟨_, List.getElem?_eq_getElem (by rw [← HM.out]; omega)⟩
        obtain ⟨g', o', hgo, hgl, xe⟩ := HR.out.get hx
        injection hgo with hgo
        injection hgo with hg1 hg2 _
        subst hg1 hg2
        have HX := put hx
        have xe' : wr.cell? ⟨gr, or + k, none⟩ = some (.string x) := cell_at xe (BQ.out 0)
        have hn1 : w.heap.size + 1 ≠ w.heap.size := by omega
        have hn2 : w.heap.size + 1 + 1 ≠ w.heap.size := by omega
        have hg1 : gr ≠ w.heap.size + 1 := by omega
        have hg2 : gr ≠ w.heap.size + 1 + 1 := by omega
        have hg3 : w.heap.size + 1 ≠ gr := by omega
        have hg4 : w.heap.size + 1 + 1 ≠ gr := by omega
        have hwr : wr.heap.size = w.heap.size + 1 + 1 + 1 := by obtain ⟨q, rfl⟩ := HQ.out; exact S2.out
        have C1 : Kp (∀ W, Below wr.heap.size wr W → Calls Try.prog 72 #[.agg #[.bool true, .slice (some ⟨gr, or, none⟩) m cr, vk], .int .i64 0, .int .i64 k] W fun e w' => ∃ vr' vk', e = .returned (.agg #[.bool true, vr', vk']) ∧ NdO (w.heap.size + 1 + 1 + 1) w' vr' vk' (n.some 0 k) ∧ Below wr.heap.size wr w') := put fun W hb => by
          have := someCalls ok _ vk n 0 k W (H.out.below (bt (BQ.out 0) hb)) HF.out (by omega) (by rw [← HM.out]; omega) (fun hl => by have := HK.out (by first | exact HLE.out.trans hl | trivial); rw [← HM.out] at this; omega)
          rw [← HLE.out] at this
          exact this.mono (by
            rintro e w' ⟨vr', vk', h1, h2, h3⟩
            exact ⟨vr', vk', h1, h2.lower (by rw [← hwr]; exact hb.size), bt hb h3⟩)
        have C2 : Kp (∀ W, Below wr.heap.size wr W → Calls Try.prog 72 #[.agg #[.bool true, .slice (some ⟨gr, or, none⟩) m cr, vk], .int .i64 k, .int .i64 m] W fun e w' => ∃ vr' vk', e = .returned (.agg #[.bool true, vr', vk']) ∧ NdO (w.heap.size + 1 + 1 + 1) w' vr' vk' (n.some (k + 0) m) ∧ Below wr.heap.size wr w' ∧ Below W.heap.size W w') := put fun W hb => by
          have := someCalls ok _ vk n (k + 0) m W (H.out.below (bt (BQ.out 0) hb)) HF.out (by omega) (by rw [← HM.out]; exact Nat.le_refl _) (fun hl => by have := HK.out (by first | exact HLE.out.trans hl | trivial); rw [← HM.out] at this; omega)
          rw [← HLE.out] at this
          exact this.mono (by
            rintro e w' ⟨vr', vk', h1, h2, h3⟩
            exact ⟨vr', vk', h1, h2.lower (by rw [← hwr]; exact hb.size), bt hb h3, h3⟩)
        have x0 := y0 0
        have x1 := y1 0
        have x2 : (wr.drewN 0).cell? ⟨w.heap.size, 2, none⟩ = some vk := by obtain ⟨q, rfl⟩ := HQ.out; exact X2.out
        have x0' : wr.cell? ⟨w.heap.size, 0, none⟩ = some (.bool true) := x0
        have x2' : wr.cell? ⟨w.heap.size, 2, none⟩ = some vk := x2
        have HNR : Kp (wr.heap[w.heap.size + 1]? = some (.cells #[.bool false, .slice none 0 0, .slice none 0 0] 69 (0, 0)) ∧ wr.heap[w.heap.size + 1 + 1]? = some (.cells #[.bool false, .slice none 0 0, .slice none 0 0] 69 (0, 0))) := put (by obtain ⟨q, rfl⟩ := HQ.out; exact ⟨HN2.out, HN3.out⟩)
        have HWR := put hwr
        clear hc1 hx y0 y1 x0 x1 x2 xe hwr
        have k1 : (k : Int) < (m : Int) := by omega
        have k2 : (0 : Int) ≤ (k : Int) := by omega
        have k3 : IntKind.i64.wrap (k : Int) = k := IntWalk.i64_in _ (by omega)
        go_wp2_with fail
        go_region_held3 (fun w' => w'.cell? ⟨w.heap.size, 0, none⟩ = some (.bool true) ∧ w'.cell? ⟨w.heap.size, 1, none⟩ = some (.slice (some ⟨gr, or, none⟩) m cr) ∧ w'.cell? ⟨w.heap.size, 2, none⟩ = some vk ∧ w'.cell? ⟨gr, or + k, none⟩ = some (.string x)) (first | go_keep | exact ⟨x0', y1', x2', xe'⟩ | exact ⟨y0, y1, y2, y3⟩ | exact ⟨z0, z1, z2, z3⟩ | exact ⟨far3 hn1 z0, far3 hn1 z1, far3 hn1 z2, far3 hg3 z3⟩ | exact ⟨far6 hn1 hn2 z0, far6 hn1 hn2 z1, far6 hn1 hn2 z2, far6 hg3 hg4 z3⟩) (first | (have qq := O5.out; go_at_call 72; refine (C2.out _ (bt B5.out (by (repeat (first | with_reducible exact (Below.refl _ _) | with_reducible apply Below.drew | with_reducible refine balloc ?_ _))))).mono ?_; rintro e w6 ⟨v6, u6, rfl, ho6, hb6, hb7⟩; have O56 := put (qq.below (bt (by (repeat (first | with_reducible exact (Below.refl _ _) | with_reducible apply Below.drew | with_reducible refine balloc ?_ _))) hb7)); clear hb7; have z0 := cell_at x0' hb6; have z1 := cell_at y1' hb6; have z2 := cell_at x2' hb6; have z3 := cell_at xe' hb6; obtain ⟨⟨A6, c6, e6⟩, ⟨A7, c7, e7⟩⟩ := ho6.form; subst e6 e7; have hn6 := (hb6.block _ (by have := HWR.out; omega)).trans HNR.out.1; have hn7 := (hb6.block _ (by have := HWR.out; omega)).trans HNR.out.2; obtain ⟨p0, p1, p2⟩ := c3 hn6; obtain ⟨p3, p4, p5⟩ := f3 hn6; obtain ⟨q0, q1, q2⟩ := c3 hn7; obtain ⟨q3, q4, q5⟩ := f3 hn7; have N6 := put hn6; have N7 := put hn7; have B6 := put hb6; have O6 := put ho6; clear qq ho6 hb6 hn6 hn7) | (go_at_call 72; refine (C1.out _ (by (repeat (first | with_reducible exact (Below.refl _ _) | with_reducible apply Below.drew | with_reducible refine balloc ?_ _)))).mono ?_; rintro e w5 ⟨v5, u5, rfl, ho5, hb5⟩; have y0 := cell_at x0' hb5; have y1 := cell_at y1' hb5; have y2 := cell_at x2' hb5; have y3 := cell_at xe' hb5; obtain ⟨⟨A4, c4, e4⟩, ⟨A5, c5, e5⟩⟩ := ho5.form; subst e4 e5; have B5 := put hb5; have O5 := put ho5; clear ho5 hb5))
        all_goals
          go_wp2_with fail
          have hXY : w.heap.size + 1 ≠ w.heap.size + 1 + 1 := by omega
          have hB1 : w.heap.size ≤ w.heap.size + 1 := by omega
          have hB2 : w.heap.size ≤ w.heap.size + 1 + 1 := by omega
          refine bodyPost_ret (results_ctc rfl _ _ _ _ _ _ rfl (run_loadVar_row _ _ _ _ _ _ _ (heap6a hXY N6.out) Try.underlying69 rfl (infoNd.trans rfl)) rfl (run_loadVar_row _ _ _ _ _ _ _ (heap6b hXY N7.out) Try.underlying69 rfl (infoNd.trans rfl))) rfl ⟨_, _, _, _, x, rfl, ?_, ?_, ?_, ?_⟩
          · rw [← HCC.out]; exact HX.out
          · rw [← HCC.out]; exact (O56.out.far6 (by omega) (by omega)).lower (by omega)
          · rw [← HCC.out]; exact (O6.out.far6 (by omega) (by omega)).lower (by omega)
          · exact ((((((bt (BQ.out 0) B6.out).setCell hB1 _).setCell hB1 _).setCell hB1 _).setCell hB2 _).setCell hB2 _).setCell hB2 _
  · go_wp2_with fail
    rw [← HW.out]
    have X0 := put x0
    have X1 := put x1
    have X2 := put x2
    clear x0 x1 x2
    go_loopg [7, 8, 9, 10] (m - 1 - 1) (fun kx s7 s8 s9 s10 wr => ∃ (i k l : Nat), s7 = .int .i64 k ∧ s8 = .int .i64 l ∧ s9 = .int .i64 ((i : Int) + 1) ∧ Kp ((k, l) = n.cutN i) ∧ i ≤ m - 1 - 1 ∧ m - 1 - 1 - i ≤ kx ∧ Kp (∃ q, wr = w2.drewN q))
    case atStart => exact ⟨0, 0, 0, rfl, rfl, rfl, put rfl, Nat.zero_le _, Nat.le_refl _, put ⟨0, rfl⟩⟩
    case round =>
      obtain ⟨i, k, l, rfl, rfl, rfl, HC, hi, hkx, HQ⟩ := hrel
      have y0 : ∀ q, (wr.drewN q).cell? ⟨w.heap.size, 0, none⟩ = some (.bool false) := fun _ => by obtain ⟨q, rfl⟩ := HQ.out; exact X0.out
      have y1 : ∀ q, (wr.drewN q).cell? ⟨w.heap.size, 1, none⟩ = some (.slice (some ⟨gr, or, none⟩) m cr) := fun _ => by obtain ⟨q, rfl⟩ := HQ.out; exact X1.out
      have y1' : wr.cell? ⟨w.heap.size, 1, none⟩ = some (.slice (some ⟨gr, or, none⟩) m cr) := y1 0
      have BQ : Kp (∀ q, Below w.heap.size w (wr.drewN q)) := put fun q => by obtain ⟨q', rfl⟩ := HQ.out; exact bdr' (bdr' B2.out q') q
      by_cases hlt : i < m - 1 - 1
      · have hlz : (i : Int) + 1 + 1 < (m : Int) := by omega
        have E1 := put fun q => (CW1.out (i + 1) (wr.drewN q) (by omega) (by omega) (BQ.out q))
        have E2 := put fun q => (CW2.out (i + 1 + 1) (wr.drewN q) (by omega) (BQ.out q))
        have b1 := wt_le (l := n.recs) (i + 1)
        have b2 := wt_drop_le (l := n.recs) (i + 1 + 1)
        have HSD : Kp (n.side (i + 1) = max (wt (n.recs.take (i + 1)) + (i + 1) * 4) (wt (n.recs.drop (i + 1 + 1)) + (m - (i + 1) - 1) * 4)) := put (by unfold Nd.side; rw [← HSC.out, ← HEC.out, ← HM.out])
        generalize wt (n.recs.take (i + 1)) = t1 at *
        generalize wt (n.recs.drop (i + 1 + 1)) = t2 at *
        have f1 : (0 : Int) ≤ (i : Int) + 1 := by omega
        have f2 : (i : Int) + 1 ≤ (cr : Int) := by omega
        have f3 : ((i : Int) + 1).toNat = i + 1 := by omega
        have f4 : (i : Int) + 1 ≤ (m : Int) := by omega
        have f5 : ¬ cr = i + 1 := by omega
        have f6 : i + 1 ≤ m := by omega
        have f7 : (0 : Int) ≤ (i : Int) + 1 + 1 := by omega
        have f8 : ((i : Int) + 1 + 1).toNat = i + 1 + 1 := by omega
        have f9 : (i : Int) + 1 + 1 ≤ (m : Int) := by omega
        have f10 : ¬ cr = i + 1 + 1 := by omega
        have f11 : i + 1 + 1 ≤ m := by omega
        have f12 : IntKind.i64.wrap ((i : Int) + 1 + 1) = (i : Int) + 1 + 1 := IntWalk.i64_in _ (by omega)
        go_wp2_with fail
        go_quiet (first | (go_at_call_of 71 (Addr.mk gr or none); exact Calls.quiet_of_same (E1.out _)) | (go_at_call 71; exact Calls.quiet_of_same (E2.out _)))
        obtain ⟨sd, hsd⟩ : ∃ sd : Nat, sd = n.side (i + 1) := ⟨_, rfl⟩
        have hx : max ((t1 : Int) + ((i : Int) + 1) * 4) ((t2 : Int) + ((m : Int) - ((i : Int) + 1) - 1) * 4) = (sd : Int) := by rw [hsd, HSD.out]; omega
        rw [hx]
        have HSS := put hsd
        clear hsd hx E1 E2
        by_cases hk0 : k = 0
        · subst hk0
          go_wp2_with fail
          go_roundg (m - 1 - 1 - (i + 1))
          case measure => omega
          case rel => exact ⟨i + 1, i + 1, sd, by go_num, rfl, by go_num, put (by rw [Nd.cutN, ← HC.out, if_pos (.inl rfl), HSS.out]), by omega, Nat.le_refl _, put (by obtain ⟨q, rfl⟩ := HQ.out; exact ⟨_, by rw [World.drewN_drewN]⟩)⟩
        · have hk1 : ¬ (k : Int) = 0 := by omega
          by_cases hsl : sd < l
          · have hs1 : (sd : Int) < (l : Int) := by omega
            go_wp2_with fail
            go_roundg (m - 1 - 1 - (i + 1))
            case measure => omega
            case rel => exact ⟨i + 1, i + 1, sd, by go_num, rfl, by go_num, put (by rw [Nd.cutN, ← HC.out, if_pos (.inr (by rw [← HSS.out]; exact hsl)), HSS.out]), by omega, Nat.le_refl _, put (by obtain ⟨q, rfl⟩ := HQ.out; exact ⟨_, by rw [World.drewN_drewN]⟩)⟩
          · have hs1 : ¬ (sd : Int) < (l : Int) := by omega
            go_wp2_with fail
            go_roundg (m - 1 - 1 - (i + 1))
            case measure => omega
            case rel => exact ⟨i + 1, k, l, rfl, rfl, by go_num, put (by rw [Nd.cutN, ← HC.out, if_neg (fun h => h.elim hk0 (fun h => hsl (by rw [HSS.out]; exact h)))]), by omega, Nat.le_refl _, put (by obtain ⟨q, rfl⟩ := HQ.out; exact ⟨_, by rw [World.drewN_drewN]⟩)⟩
      · have hlz : ¬ (i : Int) + 1 + 1 < (m : Int) := by omega
        obtain rfl : i = m - 1 - 1 := by omega
        have hc1 : k = n.cut := by unfold Nd.cut; rw [← HM.out, ← HSC.out, ← HC.out]
        have hc2 : 1 ≤ k := by
          have := cutN_pos n (m - 1 - 2)
          rw [show m - 1 - 2 + 1 = m - 1 - 1 by omega, ← HC.out] at this
          exact this
        have hc3 : k ≤ m - 1 - 1 := by
          have := cutN_le n (m - 1 - 1)
          rw [← HC.out] at this
          exact this
        have HCC := put hc1
        obtain ⟨x, hx⟩ : ∃ x, n.recs[k]? = some x := ⟨_, List.getElem?_eq_getElem (by rw [← HM.out]; omega)⟩
        obtain ⟨g', o', hgo, hgl, xe⟩ := HR.out.get hx
        injection hgo with hgo
        injection hgo with hg1 hg2 _
        subst hg1 hg2
        have HX := put hx
        have xe' : wr.cell? ⟨gr, or + k, none⟩ = some (.string x) := cell_at xe (BQ.out 0)
        have hn1 : w.heap.size + 1 ≠ w.heap.size := by omega
        have hn2 : w.heap.size + 1 + 1 ≠ w.heap.size := by omega
        have hg1 : gr ≠ w.heap.size + 1 := by omega
        have hg2 : gr ≠ w.heap.size + 1 + 1 := by omega
        have hg3 : w.heap.size + 1 ≠ gr := by omega
        have hg4 : w.heap.size + 1 + 1 ≠ gr := by omega
        have hwr : wr.heap.size = w.heap.size + 1 + 1 + 1 := by obtain ⟨q, rfl⟩ := HQ.out; exact S2.out
        have C1 : Kp (∀ W, Below wr.heap.size wr W → Calls Try.prog 72 #[.agg #[.bool false, .slice (some ⟨gr, or, none⟩) m cr, vk], .int .i64 0, .int .i64 k] W fun e w' => ∃ vr' vk', e = .returned (.agg #[.bool false, vr', vk']) ∧ NdO (w.heap.size + 1 + 1 + 1) w' vr' vk' (n.some 0 k) ∧ Below wr.heap.size wr w') := put fun W hb => by
          have := someCalls ok _ vk n 0 k W (H.out.below (bt (BQ.out 0) hb)) HF.out (by omega) (by rw [← HM.out]; omega) (fun hl => by have := HK.out (by first | exact HLE.out.trans hl | trivial); rw [← HM.out] at this; omega)
          rw [← HLE.out] at this
          exact this.mono (by
            rintro e w' ⟨vr', vk', h1, h2, h3⟩
            exact ⟨vr', vk', h1, h2.lower (by rw [← hwr]; exact hb.size), bt hb h3⟩)
        have C2 : Kp (∀ W, Below wr.heap.size wr W → Calls Try.prog 72 #[.agg #[.bool false, .slice (some ⟨gr, or, none⟩) m cr, vk], .int .i64 ((k : Int) + 1), .int .i64 m] W fun e w' => ∃ vr' vk', e = .returned (.agg #[.bool false, vr', vk']) ∧ NdO (w.heap.size + 1 + 1 + 1) w' vr' vk' (n.some (k + 1) m) ∧ Below wr.heap.size wr w' ∧ Below W.heap.size W w') := put fun W hb => by
          have := someCalls ok _ vk n (k + 1) m W (H.out.below (bt (BQ.out 0) hb)) HF.out (by omega) (by rw [← HM.out]; exact Nat.le_refl _) (fun hl => by have := HK.out (by first | exact HLE.out.trans hl | trivial); rw [← HM.out] at this; omega)
          rw [← HLE.out] at this
          exact this.mono (by
            rintro e w' ⟨vr', vk', h1, h2, h3⟩
            exact ⟨vr', vk', h1, h2.lower (by rw [← hwr]; exact hb.size), bt hb h3, h3⟩)
        have x0 := y0 0
        have x1 := y1 0
        have x2 : (wr.drewN 0).cell? ⟨w.heap.size, 2, none⟩ = some vk := by obtain ⟨q, rfl⟩ := HQ.out; exact X2.out
        have x0' : wr.cell? ⟨w.heap.size, 0, none⟩ = some (.bool false) := x0
        have x2' : wr.cell? ⟨w.heap.size, 2, none⟩ = some vk := x2
        have HNR : Kp (wr.heap[w.heap.size + 1]? = some (.cells #[.bool false, .slice none 0 0, .slice none 0 0] 69 (0, 0)) ∧ wr.heap[w.heap.size + 1 + 1]? = some (.cells #[.bool false, .slice none 0 0, .slice none 0 0] 69 (0, 0))) := put (by obtain ⟨q, rfl⟩ := HQ.out; exact ⟨HN2.out, HN3.out⟩)
        have HWR := put hwr
        clear hc1 hx y0 y1 x0 x1 x2 xe hwr
        have k1 : (k : Int) < (m : Int) := by omega
        have k2 : (0 : Int) ≤ (k : Int) := by omega
        have k3 : IntKind.i64.wrap (((k : Int) + 1) : Int) = ((k : Int) + 1) := IntWalk.i64_in _ (by omega)
        go_wp2_with fail
        go_region_held3 (fun w' => w'.cell? ⟨w.heap.size, 0, none⟩ = some (.bool false) ∧ w'.cell? ⟨w.heap.size, 1, none⟩ = some (.slice (some ⟨gr, or, none⟩) m cr) ∧ w'.cell? ⟨w.heap.size, 2, none⟩ = some vk ∧ w'.cell? ⟨gr, or + k, none⟩ = some (.string x)) (first | go_keep | exact ⟨x0', y1', x2', xe'⟩ | exact ⟨y0, y1, y2, y3⟩ | exact ⟨z0, z1, z2, z3⟩ | exact ⟨far3 hn1 z0, far3 hn1 z1, far3 hn1 z2, far3 hg3 z3⟩ | exact ⟨far6 hn1 hn2 z0, far6 hn1 hn2 z1, far6 hn1 hn2 z2, far6 hg3 hg4 z3⟩) (first | (have qq := O5.out; go_at_call 72; refine (C2.out _ (bt B5.out (by (repeat (first | with_reducible exact (Below.refl _ _) | with_reducible apply Below.drew | with_reducible refine balloc ?_ _))))).mono ?_; rintro e w6 ⟨v6, u6, rfl, ho6, hb6, hb7⟩; have O56 := put (qq.below (bt (by (repeat (first | with_reducible exact (Below.refl _ _) | with_reducible apply Below.drew | with_reducible refine balloc ?_ _))) hb7)); clear hb7; have z0 := cell_at x0' hb6; have z1 := cell_at y1' hb6; have z2 := cell_at x2' hb6; have z3 := cell_at xe' hb6; obtain ⟨⟨A6, c6, e6⟩, ⟨A7, c7, e7⟩⟩ := ho6.form; subst e6 e7; have hn6 := (hb6.block _ (by have := HWR.out; omega)).trans HNR.out.1; have hn7 := (hb6.block _ (by have := HWR.out; omega)).trans HNR.out.2; obtain ⟨p0, p1, p2⟩ := c3 hn6; obtain ⟨p3, p4, p5⟩ := f3 hn6; obtain ⟨q0, q1, q2⟩ := c3 hn7; obtain ⟨q3, q4, q5⟩ := f3 hn7; have N6 := put hn6; have N7 := put hn7; have B6 := put hb6; have O6 := put ho6; clear qq ho6 hb6 hn6 hn7) | (go_at_call 72; refine (C1.out _ (by (repeat (first | with_reducible exact (Below.refl _ _) | with_reducible apply Below.drew | with_reducible refine balloc ?_ _)))).mono ?_; rintro e w5 ⟨v5, u5, rfl, ho5, hb5⟩; have y0 := cell_at x0' hb5; have y1 := cell_at y1' hb5; have y2 := cell_at x2' hb5; have y3 := cell_at xe' hb5; obtain ⟨⟨A4, c4, e4⟩, ⟨A5, c5, e5⟩⟩ := ho5.form; subst e4 e5; have B5 := put hb5; have O5 := put ho5; clear ho5 hb5))
        all_goals
          go_wp2_with fail
          have hXY : w.heap.size + 1 ≠ w.heap.size + 1 + 1 := by omega
          have hB1 : w.heap.size ≤ w.heap.size + 1 := by omega
          have hB2 : w.heap.size ≤ w.heap.size + 1 + 1 := by omega
          refine bodyPost_ret (results_ctc rfl _ _ _ _ _ _ rfl (run_loadVar_row _ _ _ _ _ _ _ (heap6a hXY N6.out) Try.underlying69 rfl (infoNd.trans rfl)) rfl (run_loadVar_row _ _ _ _ _ _ _ (heap6b hXY N7.out) Try.underlying69 rfl (infoNd.trans rfl))) rfl ⟨_, _, _, _, x, rfl, ?_, ?_, ?_, ?_⟩
          · rw [← HCC.out]; exact HX.out
          · rw [← HCC.out]; exact (O56.out.far6 (by omega) (by omega)).lower (by omega)
          · rw [← HCC.out]; exact (O6.out.far6 (by omega) (by omega)).lower (by omega)
          · exact ((((((bt (BQ.out 0) B6.out).setCell hB1 _).setCell hB1 _).setCell hB1 _).setCell hB2 _).setCell hB2 _).setCell hB2 _
end Go.Proofs.Ytcpahknlabnnbaa.T

namespace Go.Proofs
open Go.Shelf
shelf_lay_g Lays8.n4 Nm8 4 at Try 93 as Try.lGroI
end Go.Proofs

namespace Go.Proofs.Ytcpahknlabnnbaa.T
open Go Go.RowKit Go.Sort Go.Proofs.Ytcpahknlabnnbaa.Mem

theorem rd_sl {α : Type} {enc : α → Value} {d : Ty α} {ok : Nat → Prop} {w : World} {v : Value} {xs : List α} (hd : ∀ ok w x cs, d.R ok w x cs ↔ cs = [enc x]) (hs : d.sz = 1) (h : RdE enc ok w v xs) (hl : xs.length ≤ 140737488355328) : Sl d ok w v xs := by
  rcases h with ⟨rfl, rfl⟩ | ⟨g, o, c, rfl, h1, h2, h3, h4, h5⟩
  · exact Sl.nil _ _ _
  · refine ⟨_, c, rfl, h3, h4, hl, fun e => by simp at e, fun _ => ⟨⟨g, o, none⟩, rfl, h1, h2, fun i x hx => ⟨[enc x], (hd _ _ _ _).2 rfl, fun j u hj => ?_⟩⟩⟩
    rcases j with _ | j
    · simp only [List.getElem?_cons_zero, Option.some.injEq] at hj
      subst hj
      have := h5 i x hx
      rw [hs]
      by_cases h0 : i = 0
      · subst h0; simpa [Addr.add] using this
      · simpa [Addr.add, h0] using this
    · simp at hj

theorem growI (n : Nat) (w : World) (hn : n ≤ 1000000) :
    Calls Try.prog 93 #[.slice none 0 0, .int .i64 n] w fun e w' => ∃ v, e = .returned v ∧ Own (tInt .i64) 3 no w' w.heap.size v [] ∧ Below w.heap.size w w' := by
  rcases Nat.eq_zero_or_pos n with h0 | h0
  · subst h0
    refine (Any8.slices_Grow_room Try.lGroI none 0 0 0 w (Nat.le_refl _) (by omega) (by omega) (by omega)).mono ?_
    rintro e w' ⟨rfl, rfl⟩
    exact ⟨_, rfl, Own.nil _ _ _ _ _, Below.refl _ _⟩
  · obtain ⟨i0, hi, hzz⟩ := Option.map_eq_some_iff.1 infoInt
    simp only [Prod.mk.injEq] at hzz
    obtain ⟨hz0, hz1, hz2⟩ := hzz
    refine (Any8.slices_Grow_grow Try.lGroI i0 (.int .i64 0) hi hz0 (by rw [hz1]; decide) none 0 0 n [] w (Nat.le_refl _) (by omega) (by rw [hz2]; omega) (by omega) (by simp) (fun _ => rfl) (fun a ha => by simp at ha)).mono ?_
    rintro e w' ⟨rfl, rfl⟩
    refine ⟨_, rfl, ?_, (Below.refl _ _).drew.alloc (by simp) _⟩
    rw [own_enc (Value.int .i64) intD rfl]
    have hge := grownCap_ge w (0 + n) 0 (Try.lGroI_ren.t 25)
    have hle := grownCap_le_maxLen w (0 + n) 0 (Try.lGroI_ren.t 25) (by rw [mxl]; omega)
    exact World.ownsRow_made (base := w.heap.size) w.drew _ _ (Nat.le_refl _) hle (by
      have hz : (Value.int .i64 0).cells.size = 1 := rfl
      simp only [Array.size_append, Builtin.zeroCells, Array.size_map, Array.size_range, hz, List.size_toArray, List.length_nil]
      omega)

set_option maxHeartbeats 4000000 in
set_option maxRecDepth 100000 in
theorem concatI (ok : Nat → Prop) (v1 v2 : Value) (xs ys : List Int) (b : Nat) (w : World) (hb : w.heap[b]? = some (.cells #[v1, v2] 53 (0, 0))) (h1 : RdE (.int .i64) ok w v1 xs) (h2 : RdE (.int .i64) ok w v2 ys) (hl1 : xs.length ≤ 100000) (hl2 : ys.length ≤ 100000) :
    Calls Try.prog 87 #[.slice (some ⟨b, 0, none⟩) 2 2] w fun e w' => ∃ v, e = .returned v ∧ Own (tInt .i64) 3 no w' w.heap.size v (xs ++ ys) ∧ Below w.heap.size w w' := by
  obtain ⟨A1, c1, rfl, a1, a2, a3⟩ := h1.shape
  obtain ⟨A2, c2', rfl, b1, b2, b3⟩ := h2.shape
  have G := put (growI (xs.length + ys.length) w (by omega))
  have H1 := put h1
  have H2 := put h2
  have HB := put hb
  obtain ⟨m1, hm1⟩ : ∃ m, m = xs.length := ⟨_, rfl⟩
  obtain ⟨m2, hm2⟩ : ∃ m, m = ys.length := ⟨_, rfl⟩
  rw [← hm1, ← hm2] at G
  rw [← hm1] at hb HB H1 hl1 a1
  rw [← hm2] at hb HB H2 hl2 b1
  have HM1 := put hm1
  have HM2 := put hm2
  obtain ⟨x0, x1⟩ := c2 hb
  have x1' : w.cell? ⟨b, 0 + 1, none⟩ = some (.slice A2 m2 c2') := x1
  clear a3 b3 h1 h2 hb hm1 hm2
  go_enter Try.func87, Try.ntmps87
  go_wp2_with fail
  go_loopg [3, 5, 11] 2 (fun kx s3 s5 s11 wr => ∃ (i : Nat), s11 = .int .i64 i ∧ i ≤ 2 ∧ 2 - i ≤ kx ∧ wr = w ∧ Kp (s3 = .int .i64 (if i = 0 then 0 else if i = 1 then (m1 : Int) else (m1 : Int) + (m2 : Int))))
  case atStart => exact ⟨0, rfl, by omega, by omega, rfl, put rfl⟩
  case round =>
    obtain ⟨i, rfl, hi, hkx, hw, HS⟩ := hrel
    obtain rfl : w = wr := hw.symm
    rcases (by omega : i = 0 ∨ i = 1 ∨ i = 2) with rfl | rfl | rfl
    · obtain rfl := HS.out
      go_wp2_with fail
      go_roundg 1
      case measure => omega
      case rel => exact ⟨1, rfl, by omega, by omega, rfl, put rfl⟩
    · obtain rfl := HS.out
      go_wp2_with fail
      go_roundg 0
      case measure => omega
      case rel => exact ⟨2, rfl, by omega, by omega, rfl, put rfl⟩
    · obtain rfl := HS.out
      go_wp2_with fail
      have G' : Kp (Calls Try.prog 93 #[.slice none 0 0, .int .i64 ((m1 : Int) + (m2 : Int))] w fun e w' => ∃ v, e = .returned v ∧ Own (tInt .i64) 3 no w' w.heap.size v [] ∧ Below w.heap.size w w') := put (by have := G.out; rwa [show ((m1 + m2 : Nat) : Int) = (m1 : Int) + (m2 : Int) by simp] at this)
      refine G'.out.mono ?_
      rintro e w2 ⟨v2, rfl, ho2, hb2⟩
      have O2 := put ho2
      have B2 := put hb2
      clear ho2 hb2
      go_wp2_with fail
      clear x0 x1 x1'
      go_loopg [6, 8, 27] 2 (fun kx s6 s8 s27 wr => ∃ (i : Nat), s27 = .int .i64 i ∧ i ≤ 2 ∧ 2 - i ≤ kx ∧ Kp (Own (tInt .i64) 3 no wr w.heap.size s6 (if i = 0 then [] else if i = 1 then xs else xs ++ ys)) ∧ Kp (Below w.heap.size w wr))
      case atStart => exact ⟨0, rfl, by omega, by omega, O2, B2⟩
      case round =>
        obtain ⟨i, rfl, hi, hkx, HO, HBW⟩ := hrel
        obtain ⟨x0, x1⟩ := c2 ((HBW.out.block b (Array.getElem?_eq_some_iff.1 HB.out).1).trans HB.out)
        have x1' : wr.cell? ⟨b, 0 + 1, none⟩ = some (.slice A2 m2 c2') := x1
        have hsz := HBW.out.size
        rcases (by omega : i = 0 ∨ i = 1 ∨ i = 2) with rfl | rfl | rfl
        · have ho := HO.out
          rw [if_pos rfl] at ho
          obtain ⟨A6, c6, e6, q1, q2⟩ := ho.form
          subst e6
          have O6 := put (own_ints ho (fun k => k < w.heap.size))
          have HRR := put (rd_sl intD rfl ((H1.out.bnd.mono (ok' := fun k => k < w.heap.size) (fun k hk => hk.2)).below HBW.out) (by have := HM1.out; omega))
          clear HO ho q1 q2
          go_wp2_with (first | (at_builtin; refine wpList_pushes (tInt .i64) w.heap.size rfl _ _ 53 3 _ 8 rfl Try.underlying53 infoInt rfl (by decide) (by decide) _ (.slice A1 m1 c1) ([]) xs (fun k => k < w.heap.size) (fun k => k < w.heap.size) rfl rfl HRR.out (fun k hk => ⟨hk, fun e => by have := (O6.out.lt k e.symm).1; omega⟩) O6.out hsz (by have := HM1.out; have := HM1.out; (try simp only [List.length_nil]); omega) ?_; intro v1 w7 ho hg hat; obtain ⟨A7, c7, e7, q1, q2⟩ := ho.form; subst e7; have HB7 : Kp (Below w.heap.size w w7) := put (HBW.out.grown hg hsz (fun k hk => (O6.out.lt k hk).1)); have O7 := put (own_ints ho no); clear ho hg hat q1 q2))
          go_roundg 1
          case measure => omega
          case rel => exact ⟨1, rfl, by omega, by omega, put (by rw [if_neg (by omega), if_pos rfl]; exact O7.out), HB7⟩
        · have ho := HO.out
          rw [if_neg (by omega), if_pos rfl] at ho
          obtain ⟨A6, c6, e6, q1, q2⟩ := ho.form
          subst e6
          have O6 := put (own_ints ho (fun k => k < w.heap.size))
          have HRR := put (rd_sl intD rfl ((H2.out.bnd.mono (ok' := fun k => k < w.heap.size) (fun k hk => hk.2)).below HBW.out) (by have := HM2.out; omega))
          clear HO ho q1 q2
          go_wp2_with (first | (at_builtin; refine wpList_pushes (tInt .i64) w.heap.size rfl _ _ 53 3 _ 8 rfl Try.underlying53 infoInt rfl (by decide) (by decide) _ (.slice A2 m2 c2') (xs) ys (fun k => k < w.heap.size) (fun k => k < w.heap.size) rfl rfl HRR.out (fun k hk => ⟨hk, fun e => by have := (O6.out.lt k e.symm).1; omega⟩) O6.out hsz (by have := HM2.out; have := HM1.out; (try simp only [List.length_nil]); omega) ?_; intro v1 w7 ho hg hat; obtain ⟨A7, c7, e7, q1, q2⟩ := ho.form; subst e7; have HB7 : Kp (Below w.heap.size w w7) := put (HBW.out.grown hg hsz (fun k hk => (O6.out.lt k hk).1)); have O7 := put (own_ints ho no); clear ho hg hat q1 q2))
          go_roundg 0
          case measure => omega
          case rel => exact ⟨2, rfl, by omega, by omega, put (by rw [if_neg (by omega), if_neg (by omega)]; have o7 := O7.out; rwa [List.length_append] at o7), HB7⟩
        · go_wp2_with fail
          go_ret
          have ho := HO.out
          rw [if_neg (by omega), if_neg (by omega)] at ho
          exact ⟨_, rfl, ho, HBW.out⟩

/-- A node at N under way, in the memory of the call's own. -/
structure NSt (base N : Nat) (w W : World) (leaf : Bool) (vr vk : Value) (rs : List ByteArray) (ks : List Int) : Prop where
  n : W.heap[N]? = some (.cells #[.bool leaf, vr, vk] 69 (0, 0))
  r : Own tStr 9 no W base vr rs
  k : Own (tInt .i64) 3 no W base vk ks
  nb : base ≤ N
  b : Below base w W
  bw : base ≤ w.heap.size
section
variable {base N : Nat} {w W W' : World} {leaf : Bool} {vr vk : Value} {rs : List ByteArray} {ks : List Int}
theorem NSt.lt (h : NSt base N w W leaf vr vk rs ks) : N < W.heap.size := (Array.getElem?_eq_some_iff.1 h.n).1
theorem NSt.below (h : NSt base N w W leaf vr vk rs ks) (hb : Below W.heap.size W W') : NSt base N w W' leaf vr vk rs ks :=
  ⟨(hb.block N h.lt).trans h.n, h.r.below hb, h.k.below hb, h.nb, h.b.trans (hb.mono (Nat.le_trans h.bw h.b.size)), h.bw⟩
theorem NSt.pushR {vr1 : Value} {rs1 : List ByteArray} (h : NSt base N w W leaf vr vk rs ks) (hg : W.grownBy W' vr.ownBlock) (ho : Own tStr 9 no W' base vr1 rs1) : NSt base N w (W'.setCell ⟨N, 1, none⟩ vr1) leaf vr1 vk rs1 ks := by
  have hN : some N ≠ vr.ownBlock := h.r.ne_block h.n (by decide)
  have hn := (hg.block N h.lt hN).trans h.n
  have hk : Own (tInt .i64) 3 no W' base vk ks := h.k.move (fun k hk => hg.block k (h.k.lt k hk).2 (fun e => by
    obtain ⟨cs, hc⟩ := own_heap h.k hk
    exact h.r.ne_block hc (by decide) e)) (fun _ hk => hk.elim)
  have hN1 := ho.ne_block hn (by decide)
  have hN2 := hk.ne_block hn (by decide)
  have hb : Below base W W' := ⟨hg.os, hg.tape, hg.output, hg.size, fun k hk => hg.block k (Nat.lt_of_lt_of_le hk (Nat.le_trans h.bw h.b.size)) (fun e => by have := (h.r.lt k e.symm).1; omega)⟩
  exact ⟨(setCell_heap hn 1 vr1).trans rfl, ho.far (fun k hk e => hN1 (by rw [hk, show k = N from e])) (fun _ hk => hk.elim) _, hk.far (fun k hk e => hN2 (by rw [hk, show k = N from e])) (fun _ hk => hk.elim) _, h.nb, (h.b.trans hb).setCell h.nb _, h.bw⟩
theorem NSt.cellR (h : NSt base N w W leaf vr vk rs ks) (hg : W.grownBy W' vr.ownBlock) : W'.cell? ⟨N, 0, none⟩ = some (.bool leaf) ∧ W'.cell? ⟨N, 1, none⟩ = some vr ∧ W'.cell? ⟨N, 2, none⟩ = some vk ∧ W'.frozen? ⟨N, 1, none⟩ = false ∧ W'.frozen? ⟨N, 2, none⟩ = false := by
  have hn := (hg.block N h.lt (h.r.ne_block h.n (by decide))).trans h.n
  obtain ⟨a0, a1, a2⟩ := c3 hn
  exact ⟨a0, a1, a2, by simp [World.frozen?, hn], by simp [World.frozen?, hn]⟩
theorem NSt.setK {vk1 : Value} {ks1 : List Int} (h : NSt base N w W leaf vr vk rs ks) (hb : Below W.heap.size W W') (ho : Own (tInt .i64) 3 no W' base vk1 ks1) : NSt base N w (W'.setCell ⟨N, 2, none⟩ vk1) leaf vr vk1 rs ks1 := by
  have h' := h.below hb
  have hN1 := ho.ne_block h'.n (by decide)
  have hN2 := h'.r.ne_block h'.n (by decide)
  exact ⟨(setCell_heap h'.n 2 vk1).trans rfl, h'.r.far (fun k hk e => hN2 (by rw [hk, show k = N from e])) (fun _ hk => hk.elim) _, ho.far (fun k hk e => hN1 (by rw [hk, show k = N from e])) (fun _ hk => hk.elim) _, h.nb, h'.b.setCell h.nb _, h.bw⟩
end
theorem nst1 {w2 w5 W : World} {N : Nat} {L : Bool} {v : Value} {l : List ByteArray} {b' : Nat} (hN : N = w5.heap.size) (hW : W = w5.alloc (.cells #[.bool L, v, .slice none 0 0] 69)) (hb' : w2.heap.size ≤ b') (ho : Own tStr 9 no w5 b' v l) (h5 : Below w2.heap.size w2 w5) : NSt w2.heap.size N w2 W L v (.slice none 0 0) l [] := by
  have hs := h5.size
  subst hN hW
  exact ⟨heap_alloc_new _ _, (ho.lower hb').alloc _, Own.nil _ _ _ _ _, hs, h5.alloc hs _, Nat.le_refl _⟩
theorem nst2 {w2 w5 W : World} {N : Nat} {L : Bool} {v : Value} {l : List ByteArray} {b' : Nat} (hN : N = w2.heap.size) (hW : W = ((w5.setCell ⟨N, 0, none⟩ (.bool L)).setCell ⟨N, 1, none⟩ v).setCell ⟨N, 2, none⟩ (.slice none 0 0)) (hb' : w2.heap.size < b') (ho : Own tStr 9 no w5 b' v l) (h5 : Below w2.heap.size w2 w5) (hz : w5.heap[w2.heap.size]? = some (.cells #[.bool false, .slice none 0 0, .slice none 0 0] 69 (0, 0))) : NSt w2.heap.size N w2 W L v (.slice none 0 0) l [] := by
  subst hN hW
  have hf : ∀ {w' : World} (j : Nat) (x : Value), Own tStr 9 no w' b' v l → Own tStr 9 no (w'.setCell ⟨w2.heap.size, j, none⟩ x) b' v l := fun j x h => h.far (fun k hk e => by have h1 := (h.lt k hk).1; have h2 : k = w2.heap.size := e; omega) (fun _ hk => hk.elim) _
  exact ⟨(setCell_heap (setCell_heap (setCell_heap hz 0 _) 1 _) 2 _).trans rfl, (hf _ _ (hf _ _ (hf _ _ ho))).lower (by omega), Own.nil _ _ _ _ _, Nat.le_refl _, ((h5.setCell (Nat.le_refl _) _).setCell (Nat.le_refl _) _).setCell (Nat.le_refl _) _, Nat.le_refl _⟩
end Go.Proofs.Ytcpahknlabnnbaa.T

namespace Go.Proofs.Ytcpahknlabnnbaa.T
open Go Go.RowKit Go.Sort Go.Proofs.Ytcpahknlabnnbaa.Mem

theorem own_strs {E base : Nat} {ok : Nat → Prop} {w : World} {v : Value} {xs : List ByteArray} (h : Own tStr E ok w base v xs) (ok' : Nat → Prop) : Own tStr E ok' w base v xs := by
  obtain ⟨cells, hl, ho, hr⟩ := h
  exact ⟨cells, hl, ho, fun i x c hx hc => hr i x c hx hc⟩
theorem bw2 {w2 W : World} (h : Below w2.heap.size w2 W) : Below w2.heap.size w2 W := h
/-- One node of two. -/
def Nd.join (a : Nd) (sep : ByteArray) (b : Nd) : Nd := ⟨a.leaf, if a.leaf = true then a.recs ++ b.recs else a.recs ++ sep :: b.recs, if a.leaf = true then [] else a.kids ++ b.kids⟩
theorem kints_app (a b : List Nat) : kints (a ++ b) = kints a ++ kints b := List.map_append

set_option maxHeartbeats 4000000 in
set_option maxRecDepth 100000 in
theorem joinCalls (ok : Nat → Prop) (ra ka rb kb : Value) (a b : Nd) (sep : ByteArray) (w : World) (ha : NdV ok w ra ka a) (hb : NdV ok w rb kb b) (fa : a.Fair) (fb : b.Fair) :
    Calls Try.prog 73 #[.agg #[.bool a.leaf, ra, ka], .string sep, .agg #[.bool b.leaf, rb, kb]] w fun e w' => ∃ vr vk, e = .returned (.agg #[.bool a.leaf, vr, vk]) ∧ NdO w.heap.size w' vr vk (a.join sep b) ∧ Below w.heap.size w w' := by
  obtain ⟨A1, c1, rfl, p1, p2, p3⟩ := ha.recs.shape
  obtain ⟨A2, c2', rfl, p4, p5, p6⟩ := ha.kids.shape
  obtain ⟨A3, c3', rfl, p7, p8, p9⟩ := hb.recs.shape
  obtain ⟨A4, c4', rfl, p10, p11, p12⟩ := hb.kids.shape
  clear p3 p6 p9 p12
  rw [kints_len] at p4 p10
  have HRA : Kp (RdE Value.string (fun k => k < w.heap.size) w (.slice A1 a.recs.length c1) a.recs) := put (ha.recs.bnd.mono fun k hk => hk.2)
  have HKA : Kp (RdE (.int .i64) (fun k => k < w.heap.size) w (.slice A2 a.kids.length c2') (kints a.kids)) := put (by have := ha.kids.bnd.mono (ok' := fun k => k < w.heap.size) fun k hk => hk.2; rwa [kints_len] at this)
  have HRB : Kp (RdE Value.string (fun k => k < w.heap.size) w (.slice A3 b.recs.length c3') b.recs) := put (hb.recs.bnd.mono fun k hk => hk.2)
  have HKB : Kp (RdE (.int .i64) (fun k => k < w.heap.size) w (.slice A4 b.kids.length c4') (kints b.kids)) := put (by have := hb.kids.bnd.mono (ok' := fun k => k < w.heap.size) fun k hk => hk.2; rwa [kints_len] at this)
  rw [kints_len, kints_len]
  have hl1 := fa.recs
  have hl2 := fa.kids
  have hl3 := fb.recs
  have hl4 := fb.kids
  have HAB : Kp (Nd.mk a.leaf a.recs a.kids = a ∧ True) := put ⟨rfl, trivial⟩
  generalize hna : a.recs.length = na at *
  generalize hma : a.kids.length = ma at *
  generalize hnb : b.recs.length = nb at *
  generalize hmb : b.kids.length = mb at *
  generalize b.leaf = LB at *
  have HNA := put hna
  have HMA := put hma
  have HNB := put hnb
  have HMB := put hmb
  clear ha hb fa fb hna hma hnb hmb
  obtain ⟨L, hL⟩ : ∃ L, L = a.leaf := ⟨_, rfl⟩
  rw [← hL]
  have HLF := put hL.symm
  clear hL
  obtain ⟨w2, hw2⟩ : ∃ w2, w2 = ((w.alloc (.cells #[.bool L, .slice A1 na c1, .slice A2 ma c2'] 69)).alloc (.cells #[.bool LB, .slice A3 nb c3', .slice A4 mb c4'] 69)).alloc (.cells #[.bool false, .slice none 0 0, .slice none 0 0] 69) := ⟨_, rfl⟩
  have S2 : Kp (w2.heap.size = w.heap.size + 1 + 1 + 1) := put (by rw [hw2, alloc_size, alloc_size, alloc_size])
  have B2 : Kp (Below w.heap.size w w2) := put (by rw [hw2]; exact balloc (balloc (balloc (Below.refl _ _) _) _) _)
  have hb2 : w2.heap[w.heap.size]? = some (.cells #[.bool L, .slice A1 na c1, .slice A2 ma c2'] 69 (0, 0)) := by rw [hw2, hag, if_neg (by rw [alloc_size, alloc_size]; omega), hag, if_neg (by rw [alloc_size]; omega), hag, if_pos rfl]
  have hn2 : w2.heap[w.heap.size + 1]? = some (.cells #[.bool LB, .slice A3 nb c3', .slice A4 mb c4'] 69 (0, 0)) := by rw [hw2, hag, if_neg (by rw [alloc_size, alloc_size]; omega), hag, if_pos (by rw [alloc_size])]
  have hn3 : w2.heap[w.heap.size + 1 + 1]? = some (.cells #[.bool false, .slice none 0 0, .slice none 0 0] 69 (0, 0)) := by rw [hw2, hag, if_pos (by rw [alloc_size, alloc_size])]
  have HB2 := put hb2
  have HN2 := put hn2
  have HN3 := put hn3
  have HW := put hw2
  obtain ⟨x0, x1, x2⟩ := c3 hb2
  have hne1 : w.heap.size ≠ w2.heap.size := by have := S2.out; omega
  have hne2 : w2.heap.size ≠ w.heap.size := by have := S2.out; omega
  clear hw2 hb2 hn2 hn3
  go_enter Try.func73, Try.ntmps73
  cases L with
  | true =>
    go_wp2_with fail
    rw [← HW.out]
    go_region_held3 (fun w' => w'.cell? ⟨w.heap.size, 0, none⟩ = some (.bool true) ∧ w'.cell? ⟨w.heap.size, 1, none⟩ = some (.slice A1 na c1)) (first | go_keep | exact ⟨x0, x1⟩ | exact ⟨y0, y1⟩) (first | (go_at_call 85; refine (cloneS (fun k => k < w.heap.size) no _ _ _ (HRA.out.below (bt B2.out (by (repeat (first | with_reducible exact (Below.refl _ _) | with_reducible apply Below.drew | with_reducible refine balloc ?_ _))))) (by rw [HNA.out]; omega)).mono ?_; rintro e w5 ⟨v5, rfl, ho5, hb5⟩; have hb5' : Below w2.heap.size w2 w5 := bt (by (repeat (first | with_reducible exact (Below.refl _ _) | with_reducible apply Below.drew | with_reducible refine balloc ?_ _))) hb5; have y0 := cell_at x0 hb5'; have y1 := cell_at x1 hb5'; obtain ⟨A5, c5, e5, q1, q2⟩ := ho5.form; rw [HNA.out] at e5; subst e5; clear q1 q2; have B5 := put hb5'; have O5 := put ho5; refine useIt (P := w5.heap[w2.heap.size]? = some (.cells #[.bool false, .slice none 0 0, .slice none 0 0] 69 (0, 0))) ?_ (fun hz => ?_); (refine (hb5.block _ ?_).trans ?_; (first | (show w2.heap.size < (w2.alloc _).heap.size; rw [alloc_size]; exact Nat.lt_succ_self _) | (show w2.heap.size < (w2.drew.alloc _).heap.size; rw [alloc_size]; exact Nat.lt_succ_self _)); (exact heap_alloc_new _ _)); obtain ⟨z0, z1, z2⟩ := c3 hz; obtain ⟨z3, z4, z5⟩ := f3 hz; have HZ5 := put hz; clear ho5 hb5 hb5' hz) | (go_at_call 85; refine (cloneS (fun k => k < w.heap.size) no _ _ _ (HRA.out.below (bt B2.out (by (repeat (first | with_reducible exact (Below.refl _ _) | with_reducible apply Below.drew | with_reducible refine balloc ?_ _))))) (by rw [HNA.out]; omega)).mono ?_; rintro e w5 ⟨v5, rfl, ho5, hb5⟩; have hb5' : Below w2.heap.size w2 w5 := bt (by (repeat (first | with_reducible exact (Below.refl _ _) | with_reducible apply Below.drew | with_reducible refine balloc ?_ _))) hb5; have y0 := cell_at x0 hb5'; have y1 := cell_at x1 hb5'; obtain ⟨A5, c5, e5, q1, q2⟩ := ho5.form; rw [HNA.out] at e5; subst e5; clear q1 q2; have B5 := put hb5'; have O5 := put ho5; clear ho5 hb5 hb5'))
    all_goals
      first | (obtain ⟨N, hN⟩ : ∃ N, N = w5.heap.size := ⟨_, rfl⟩; obtain ⟨W, hW⟩ : ∃ W, W = w5.alloc (.cells #[.bool true, .slice A5 na c5, .slice none 0 0] 69) := ⟨_, rfl⟩; rw [← hN, ← hW]; have WST := put (nst1 hN hW (by exact Nat.le_refl _) O5.out B5.out); clear hN hW y0 y1) | (obtain ⟨N, hN⟩ : ∃ N, N = w2.heap.size := ⟨_, rfl⟩; rw [← hN]; obtain ⟨W, hW⟩ : ∃ W, W = ((w5.setCell ⟨N, 0, none⟩ (.bool true)).setCell ⟨N, 1, none⟩ (.slice A5 na c5)).setCell ⟨N, 2, none⟩ (.slice none 0 0) := ⟨_, rfl⟩; rw [← hW]; have WST := put (nst2 hN hW (by simp) O5.out B5.out HZ5.out); clear hN hW y0 y1 z0 z1 z2 z3 z4 z5)
      clear x0 x1 x2
      have hS := S2.out
      have bb := WST.out.b
      have hA := (bb.block w.heap.size (by omega)).trans HB2.out
      have hB := (bb.block (w.heap.size + 1) (by omega)).trans HN2.out
      have hR := (bb.block (w.heap.size + 1 + 1) (by omega)).trans HN3.out
      obtain ⟨x0, x1, x2⟩ := c3 hA
      obtain ⟨b0, b1, b2⟩ := c3 hB
      obtain ⟨r0, r1, r2⟩ := c3 hR
      obtain ⟨r3, r4, r5⟩ := f3 hR
      obtain ⟨n0, n1, n2⟩ := c3 WST.out.n
      obtain ⟨n3, n4, n5⟩ := f3 WST.out.n
      have nn := WST.out.nb
      have nltR := (Array.getElem?_eq_some_iff.1 hR).1
      have nltA := (Array.getElem?_eq_some_iff.1 hA).1
      have nltB := (Array.getElem?_eq_some_iff.1 hB).1
      have e1 : N ≠ w.heap.size := by omega
      have e2 : N ≠ w.heap.size + 1 := by omega
      have e3 : N ≠ w.heap.size + 1 + 1 := by omega
      have HA := put hA
      have HBB := put hB
      have HRW := put hR
      clear bb hA hB hR hS nn
      have ST := WST
      go_wp2_with (first | (at_builtin; go_loud (refine wpList_pushes tStr w2.heap.size rfl _ _ 33 9 _ 16 rfl Try.underlying33 infoStr rfl (by decide) (by decide) (.slice A5 na c5) (.slice A3 nb c3') (a.recs) b.recs (fun k => k < w.heap.size) (fun k => k < w.heap.size) rfl rfl ((rd_sl strD rfl HRB.out (by rw [HNB.out]; omega)).below (bt B2.out (bw2 ST.out.b))) (fun k hk => ⟨hk, fun e => by have h1 := (ST.out.r.lt k e.symm).1; have h2 := S2.out; omega⟩) (own_strs ST.out.r _) ST.out.b.size (by have h1 := HNA.out; have h2 := HNB.out; (try simp only [List.length_append, List.length_singleton]); omega) ?_; intro v1 w7 ho hg hat; obtain ⟨A7, c7, e7, q1, q2⟩ := ho.form; obtain ⟨n7, hn7⟩ : ∃ n7, n7 = (a.recs ++ b.recs).length := ⟨_, rfl⟩; rw [← hn7] at e7 q1; subst e7; clear hn7; have ST7 := put (ST.out.pushR hg (own_strs ho no)); obtain ⟨m0, m1, m2, m3, m4⟩ := ST.out.cellR hg; have hR7 := (hg.block (w.heap.size + 1 + 1) nltR (fun e => by have h1 := (ST.out.r.lt _ e.symm).1; have h2 := S2.out; omega)).trans HRW.out; obtain ⟨u0, u1, u2⟩ := c3 hR7; obtain ⟨u3, u4, u5⟩ := f3 hR7; have HR7 := put hR7; clear hR7 ho hg hat q1 q2)))
      refine bodyPost_ret (results_cell_row rfl _ _ _ _ _ _ _ rfl ((setCell_heap (setCell_heap (setCell_heap ((Below.heap_setCell _ ⟨N, 1, none⟩ _ (w.heap.size + 1 + 1) (Ne.symm e3)).trans HR7.out) 0 _) 1 _) 2 _).trans rfl) Try.underlying69 rfl (infoNd.trans rfl)) rfl ⟨_, _, rfl, ⟨?_, ?_⟩, ?_⟩
      · refine (own_far3 (base := w.heap.size + 1 + 1) ?_ _ _ _).lower (by omega)
        have h1 := ST7.out.r
        rw [S2.out] at h1
        have e : (a.join sep b).recs = a.recs ++ b.recs := by unfold Nd.join; rw [HLF.out]; first | rfl | simp
        rw [e]
        exact h1
      · refine (own_far3 (base := w.heap.size + 1 + 1) ?_ _ _ _).lower (by omega)
        have h1 := ST7.out.k
        rw [S2.out] at h1
        have e : kints (a.join sep b).kids = [] := by unfold Nd.join; rw [HLF.out]; rfl
        rw [e]
        exact h1
      · exact (((bt B2.out ST7.out.b).setCell (show w.heap.size ≤ w.heap.size + 1 + 1 by omega) _).setCell (show w.heap.size ≤ w.heap.size + 1 + 1 by omega) _).setCell (show w.heap.size ≤ w.heap.size + 1 + 1 by omega) _
  | false =>
    go_wp2_with fail
    rw [← HW.out]
    go_region_held3 (fun w' => w'.cell? ⟨w.heap.size, 0, none⟩ = some (.bool false) ∧ w'.cell? ⟨w.heap.size, 1, none⟩ = some (.slice A1 na c1)) (first | go_keep | exact ⟨x0, x1⟩ | exact ⟨y0, y1⟩) (first | (go_at_call 85; refine (cloneS (fun k => k < w.heap.size) no _ _ _ (HRA.out.below (bt B2.out (by (repeat (first | with_reducible exact (Below.refl _ _) | with_reducible apply Below.drew | with_reducible refine balloc ?_ _))))) (by rw [HNA.out]; omega)).mono ?_; rintro e w5 ⟨v5, rfl, ho5, hb5⟩; have hb5' : Below w2.heap.size w2 w5 := bt (by (repeat (first | with_reducible exact (Below.refl _ _) | with_reducible apply Below.drew | with_reducible refine balloc ?_ _))) hb5; have y0 := cell_at x0 hb5'; have y1 := cell_at x1 hb5'; obtain ⟨A5, c5, e5, q1, q2⟩ := ho5.form; rw [HNA.out] at e5; subst e5; clear q1 q2; have B5 := put hb5'; have O5 := put ho5; refine useIt (P := w5.heap[w2.heap.size]? = some (.cells #[.bool false, .slice none 0 0, .slice none 0 0] 69 (0, 0))) ?_ (fun hz => ?_); (refine (hb5.block _ ?_).trans ?_; (first | (show w2.heap.size < (w2.alloc _).heap.size; rw [alloc_size]; exact Nat.lt_succ_self _) | (show w2.heap.size < (w2.drew.alloc _).heap.size; rw [alloc_size]; exact Nat.lt_succ_self _)); (exact heap_alloc_new _ _)); obtain ⟨z0, z1, z2⟩ := c3 hz; obtain ⟨z3, z4, z5⟩ := f3 hz; have HZ5 := put hz; clear ho5 hb5 hb5' hz) | (go_at_call 85; refine (cloneS (fun k => k < w.heap.size) no _ _ _ (HRA.out.below (bt B2.out (by (repeat (first | with_reducible exact (Below.refl _ _) | with_reducible apply Below.drew | with_reducible refine balloc ?_ _))))) (by rw [HNA.out]; omega)).mono ?_; rintro e w5 ⟨v5, rfl, ho5, hb5⟩; have hb5' : Below w2.heap.size w2 w5 := bt (by (repeat (first | with_reducible exact (Below.refl _ _) | with_reducible apply Below.drew | with_reducible refine balloc ?_ _))) hb5; have y0 := cell_at x0 hb5'; have y1 := cell_at x1 hb5'; obtain ⟨A5, c5, e5, q1, q2⟩ := ho5.form; rw [HNA.out] at e5; subst e5; clear q1 q2; have B5 := put hb5'; have O5 := put ho5; clear ho5 hb5 hb5'))
    all_goals
      first | (obtain ⟨N, hN⟩ : ∃ N, N = w5.heap.size := ⟨_, rfl⟩; obtain ⟨W, hW⟩ : ∃ W, W = w5.alloc (.cells #[.bool false, .slice A5 na c5, .slice none 0 0] 69) := ⟨_, rfl⟩; rw [← hN, ← hW]; have WST := put (nst1 hN hW (by exact Nat.le_refl _) O5.out B5.out); clear hN hW y0 y1) | (obtain ⟨N, hN⟩ : ∃ N, N = w2.heap.size := ⟨_, rfl⟩; rw [← hN]; obtain ⟨W, hW⟩ : ∃ W, W = ((w5.setCell ⟨N, 0, none⟩ (.bool false)).setCell ⟨N, 1, none⟩ (.slice A5 na c5)).setCell ⟨N, 2, none⟩ (.slice none 0 0) := ⟨_, rfl⟩; rw [← hW]; have WST := put (nst2 hN hW (by simp) O5.out B5.out HZ5.out); clear hN hW y0 y1 z0 z1 z2 z3 z4 z5)
      clear x0 x1 x2
      have hS := S2.out
      have bb := WST.out.b
      have hA := (bb.block w.heap.size (by omega)).trans HB2.out
      have hB := (bb.block (w.heap.size + 1) (by omega)).trans HN2.out
      have hR := (bb.block (w.heap.size + 1 + 1) (by omega)).trans HN3.out
      obtain ⟨x0, x1, x2⟩ := c3 hA
      obtain ⟨b0, b1, b2⟩ := c3 hB
      obtain ⟨r0, r1, r2⟩ := c3 hR
      obtain ⟨r3, r4, r5⟩ := f3 hR
      obtain ⟨n0, n1, n2⟩ := c3 WST.out.n
      obtain ⟨n3, n4, n5⟩ := f3 WST.out.n
      have nn := WST.out.nb
      have nltR := (Array.getElem?_eq_some_iff.1 hR).1
      have nltA := (Array.getElem?_eq_some_iff.1 hA).1
      have nltB := (Array.getElem?_eq_some_iff.1 hB).1
      have e1 : N ≠ w.heap.size := by omega
      have e2 : N ≠ w.heap.size + 1 := by omega
      have e3 : N ≠ w.heap.size + 1 + 1 := by omega
      have HA := put hA
      have HBB := put hB
      have HRW := put hR
      clear bb hA hB hR hS nn
      go_wp2_with (first | (at_builtin; go_loud (refine wpList_push tStr w2.heap.size rfl _ _ 33 9 _ 16 rfl Try.underlying33 infoStr rfl (by decide) (by decide) (.slice A5 na c5) a.recs sep [.string sep] no rfl rfl rfl WST.out.r WST.out.b.size (by have h1 := HNA.out; omega) ?_; intro v1 w6 ho hg hat; obtain ⟨A6, c6, e6, q1, q2⟩ := ho.form; obtain ⟨n6, hn6⟩ : ∃ n6, n6 = (a.recs ++ [sep]).length := ⟨_, rfl⟩; rw [← hn6] at e6 q1; subst e6; have HN6 := put hn6; clear hn6; have ST6 := put (WST.out.pushR hg ho); obtain ⟨m0, m1, m2, m3, m4⟩ := WST.out.cellR hg; have hA6 := (hg.block w.heap.size nltA (fun e => by have h1 := (WST.out.r.lt _ e.symm).1; have h2 := S2.out; omega)).trans HA.out; have hB6 := (hg.block (w.heap.size + 1) nltB (fun e => by have h1 := (WST.out.r.lt _ e.symm).1; have h2 := S2.out; omega)).trans HBB.out; have hR6 := (hg.block (w.heap.size + 1 + 1) nltR (fun e => by have h1 := (WST.out.r.lt _ e.symm).1; have h2 := S2.out; omega)).trans HRW.out; obtain ⟨y0, y1, y2⟩ := c3 hA6; obtain ⟨y3, y4, y5⟩ := c3 hB6; have HA6 := put hA6; have HB6 := put hB6; have HR6 := put hR6; have hlA := (Array.getElem?_eq_some_iff.1 hA6).1; have hlB := (Array.getElem?_eq_some_iff.1 hB6).1; clear hA6 hB6 hR6 ho hg hat q1 q2)))
      obtain ⟨w9, hw9⟩ : ∃ w9, w9 = (w6.setCell ⟨N, 1, none⟩ (.slice A6 n6 c6)).alloc (.cells #[.slice A2 ma c2', .slice A4 mb c4'] 53) := ⟨_, rfl⟩
      rw [← hw9]
      have hb9 : Below (w6.setCell ⟨N, 1, none⟩ (.slice A6 n6 c6)).heap.size (w6.setCell ⟨N, 1, none⟩ (.slice A6 n6 c6)) w9 := by rw [hw9]; exact balloc (Below.refl _ _) _
      have hlit : w9.heap[w6.heap.size]? = some (.cells #[.slice A2 ma c2', .slice A4 mb c4'] 53 (0, 0)) := by rw [hw9, hag, if_pos (by rw [World.size_setCell])]
      have ST9 := put (ST6.out.below hb9)
      have hB9 := (hb9.block (w.heap.size + 1) (by rw [World.size_setCell]; exact hlB)).trans ((Below.heap_setCell _ ⟨N, 1, none⟩ _ (w.heap.size + 1) (Ne.symm e2)).trans HB6.out)
      have hR9 := (hb9.block (w.heap.size + 1 + 1) (by rw [World.size_setCell]; exact (Array.getElem?_eq_some_iff.1 HR6.out).1)).trans ((Below.heap_setCell _ ⟨N, 1, none⟩ _ (w.heap.size + 1 + 1) (Ne.symm e3)).trans HR6.out)
      refine (concatI (fun k => k < w.heap.size) _ _ (kints a.kids) (kints b.kids) w6.heap.size w9 hlit (HKA.out.below (bt B2.out ST9.out.b)) (HKB.out.below (bt B2.out ST9.out.b)) (by rw [kints_len, HMA.out]; exact hl2) (by rw [kints_len, HMB.out]; exact hl4)).mono ?_
      rintro e w10 ⟨vk, rfl, ho10, hb10⟩
      obtain ⟨A8, c8, e8, q1, q2⟩ := ho10.form
      obtain ⟨n8, hn8⟩ : ∃ n8, n8 = (kints a.kids ++ kints b.kids).length := ⟨_, rfl⟩
      rw [← hn8] at e8 q1
      subst e8
      have ST := put (ST9.out.setK hb10 (ho10.lower ST9.out.b.size))
      have ST10 := put (ST9.out.below hb10)
      have hB10 := (hb10.block (w.heap.size + 1) (Array.getElem?_eq_some_iff.1 hB9).1).trans hB9
      have hR10 := (hb10.block (w.heap.size + 1 + 1) (Array.getElem?_eq_some_iff.1 hR9).1).trans hR9
      have HR11 := put ((Below.heap_setCell _ ⟨N, 2, none⟩ (.slice A8 n8 c8) (w.heap.size + 1 + 1) (Ne.symm e3)).trans hR10)
      have nlt11 := (Array.getElem?_eq_some_iff.1 HR11.out).1
      clear x0 x1 x2 b0 b1 b2 r0 r1 r2 r3 r4 r5 n0 n1 n2 n3 n4 n5 y0 y1 y2 y3 y4 y5 m0 m1 m2 m3 m4 hn8 q1 q2 hw9 hb9 hlit ho10 hb10 hR10 hlA hlB nltA nltB nltR
      obtain ⟨b0, b1, b2⟩ := c3 hB10
      obtain ⟨n0, n1, n2⟩ := c3 ST10.out.n
      obtain ⟨n3, n4, n5⟩ := f3 ST10.out.n
      clear hB10 hB9 hR9
      go_wp2_with (first | (at_builtin; go_loud (refine wpList_pushes tStr w2.heap.size rfl _ _ 33 9 _ 16 rfl Try.underlying33 infoStr rfl (by decide) (by decide) (.slice A6 n6 c6) (.slice A3 nb c3') (a.recs ++ [sep]) b.recs (fun k => k < w.heap.size) (fun k => k < w.heap.size) rfl rfl ((rd_sl strD rfl HRB.out (by rw [HNB.out]; omega)).below (bt B2.out (bw2 ST.out.b))) (fun k hk => ⟨hk, fun e => by have h1 := (ST.out.r.lt k e.symm).1; have h2 := S2.out; omega⟩) (own_strs ST.out.r _) ST.out.b.size (by have h1 := HNA.out; have h2 := HNB.out; (try simp only [List.length_append, List.length_singleton]); omega) ?_; intro v1 w7 ho hg hat; obtain ⟨A7, c7, e7, q1, q2⟩ := ho.form; obtain ⟨n7, hn7⟩ : ∃ n7, n7 = (a.recs ++ [sep] ++ b.recs).length := ⟨_, rfl⟩; rw [← hn7] at e7 q1; subst e7; clear hn7; have ST7 := put (ST.out.pushR hg (own_strs ho no)); obtain ⟨m0, m1, m2, m3, m4⟩ := ST.out.cellR hg; have hR7 := (hg.block (w.heap.size + 1 + 1) nlt11 (fun e => by have h1 := (ST.out.r.lt _ e.symm).1; have h2 := S2.out; omega)).trans HR11.out; obtain ⟨u0, u1, u2⟩ := c3 hR7; obtain ⟨u3, u4, u5⟩ := f3 hR7; have HR7 := put hR7; clear hR7 ho hg hat q1 q2)))
      refine bodyPost_ret (results_cell_row rfl _ _ _ _ _ _ _ rfl ((setCell_heap (setCell_heap (setCell_heap ((Below.heap_setCell _ ⟨N, 1, none⟩ _ (w.heap.size + 1 + 1) (Ne.symm e3)).trans HR7.out) 0 _) 1 _) 2 _).trans rfl) Try.underlying69 rfl (infoNd.trans rfl)) rfl ⟨_, _, rfl, ⟨?_, ?_⟩, ?_⟩
      · refine (own_far3 (base := w.heap.size + 1 + 1) ?_ _ _ _).lower (by omega)
        have h1 := ST7.out.r
        rw [S2.out] at h1
        have e : (a.join sep b).recs = (a.recs ++ [sep]) ++ b.recs := by unfold Nd.join; rw [HLF.out]; first | rfl | simp
        rw [e]
        exact h1
      · refine (own_far3 (base := w.heap.size + 1 + 1) ?_ _ _ _).lower (by omega)
        have h1 := ST7.out.k
        rw [S2.out] at h1
        have e : kints (a.join sep b).kids = kints a.kids ++ kints b.kids := by unfold Nd.join; rw [HLF.out]; exact kints_app _ _
        rw [e]
        exact h1
      · exact (((bt B2.out ST7.out.b).setCell (show w.heap.size ≤ w.heap.size + 1 + 1 by omega) _).setCell (show w.heap.size ≤ w.heap.size + 1 + 1 by omega) _).setCell (show w.heap.size ≤ w.heap.size + 1 + 1 by omega) _
end Go.Proofs.Ytcpahknlabnnbaa.T

namespace Go.Proofs.Ytcpahknlabnnbaa.T
open Go Go.RowKit Go.Sort Go.Proofs.Ytcpahknlabnnbaa.Mem

/-- A right node. -/
structure Nd.Ok (n : Nd) : Prop where
  shp : n.Shp
  size : n.size ≤ 1024
theorem Nd.Ok.fair {n : Nd} (h : n.Ok) : n.Fair := by
  have h1 := h.size
  have h2 := wt_dl n.recs
  unfold Nd.size at h1
  exact ⟨by omega, by omega, by omega⟩
theorem NdO.mono_base {base : Nat} {w : World} {vr vk : Value} {n : Nd} (h : NdO base w vr vk n) : NdV (fun k => base ≤ k) w vr vk n := h.v
theorem ArX.below {ok : Nat → Prop} {w w' : World} {a : Nat} {A : Ar} (h : ArX ok w a A) (hb : Below w.heap.size w w') : ArX ok w' a A := by
  obtain ⟨vp, vf, h⟩ := h
  exact ⟨vp, vf, h.below hb⟩
theorem ArX.mono {ok ok' : Nat → Prop} {w : World} {a : Nat} {A : Ar} (h : ArX ok w a A) (hk : ∀ k, ok k → ok' k) : ArX ok' w a A := by
  obtain ⟨vp, vf, h⟩ := h
  exact ⟨vp, vf, h.at', h.pages.mono (fun k hk' => ⟨hk k hk'.1, hk'.2⟩), h.free, h.np, h.nf, hk _ h.oka, fun k e => hk k (h.okp k e), fun k e => hk k (h.okf k e)⟩
theorem own_bnd {α : Type} {d : Ty α} {E base : Nat} {ok : Nat → Prop} {w : World} {v : Value} {xs : List α} (h : Own d E ok w base v xs) : Own d E (fun k => ok k ∧ k < w.heap.size) w base v xs := by
  obtain ⟨cells, hl, ho, hr⟩ := h
  exact ⟨cells, hl, ho, fun i x c hx hc => d.mono (fun k hk => ⟨⟨hk.1.1, hk.2⟩, hk.1.2⟩) (d.bnd (hr i x c hx hc))⟩
theorem ArX.bnd {ok : Nat → Prop} {w : World} {a : Nat} {A : Ar} (h : ArX ok w a A) : ArX (fun k => ok k ∧ k < w.heap.size) w a A := by
  obtain ⟨vp, vf, h⟩ := h
  exact ⟨vp, vf, h.at', (own_bnd h.pages).mono (fun k hk => ⟨⟨hk.1.1, hk.2⟩, hk.1.2⟩), h.free, h.np, h.nf, ⟨h.oka, (Array.getElem?_eq_some_iff.1 h.at').1⟩, fun k e => ⟨h.okp k e, (h.pages.lt k e).2⟩, fun k e => ⟨h.okf k e, (h.free.lt k e).2⟩⟩
/-- What the arena may touch when new blocks, from S on up to M, are somebody else's. -/
def nar (ok : Nat → Prop) (S M k : Nat) : Prop := (ok k ∧ k < S) ∨ M ≤ k
theorem ArX.nar {ok : Nat → Prop} {w w' : World} {a : Nat} {A : Ar} (h : ArX ok w a A) (hb : Below w.heap.size w w') : ArX (nar ok w.heap.size w'.heap.size) w' a A := (h.bnd.below hb).mono fun _ hk => .inl hk

section
variable {ok : Nat → Prop}
set_option maxHeartbeats 1000000 in
set_option maxRecDepth 100000 in
theorem loadN (T a i : Nat) (A : Ar) (n : Nd) (w : World) (h : ArX ok w a A) (hT : w.cell? ⟨T, 0, none⟩ = some (.pointer (some ⟨a, 0, none⟩))) (hTl : T < w.heap.size) (hx : A.pages[i]? = some (some (enc n))) (hn : n.Ok) :
    Calls Try.prog 40 #[.pointer (some ⟨T, 0, none⟩), .int .i64 ((i : Int) + 1)] w fun e w' => ∃ vr vk, e = .returned (.agg #[.bool n.leaf, vr, vk]) ∧ NdO w.heap.size w' vr vk n ∧ Below w.heap.size w w' := by
  obtain ⟨w1, hw1⟩ : ∃ w1, w1 = w.alloc (.cells #[.bool false, .slice none 0 0, .slice none 0 0] 69) := ⟨_, rfl⟩
  have B1 : Kp (Below w.heap.size w w1) := put (by rw [hw1]; exact balloc (Below.refl _ _) _)
  have S1 : Kp (w1.heap.size = w.heap.size + 1) := put (by rw [hw1, alloc_size])
  have R1 : Kp (w1.heap[w.heap.size]? = some (.cells #[.bool false, .slice none 0 0, .slice none 0 0] 69 (0, 0))) := put (by rw [hw1]; exact heap_alloc_new _ _)
  have hl := enc_len n hn.size
  have C1 := put (loadCalls a A i (enc n) w1 (h.below B1.out) hx hl)
  have HN := put hn
  have HL := put hl
  have HW := put hw1
  clear hw1 h hx hn hl
  go_enter Try.func40, Try.ntmps40
  go_wp2_with fail
  rw [← HW.out]
  refine C1.out.mono ?_
  rintro e w2 ⟨v2, rfl, hr2, hb2⟩
  obtain ⟨A2, c2', rfl, q1, q2, q3⟩ := hr2.shape
  rw [HL.out] at hr2 q1 ⊢
  have HR2 := put hr2
  have B2 := put hb2
  clear hr2 hb2 q3 q1 q2
  go_wp2_with fail
  refine (checkNone _).mono ?_
  rintro e w3 ⟨rfl, rfl⟩
  go_wp2_with fail
  refine (decodeCalls _ A2 c2' n w3 HR2.out HN.out.fair HN.out.shp HN.out.size).mono ?_
  rintro e w4 ⟨vr, vk, rfl, ho4, hb4⟩
  obtain ⟨⟨A5, c5, rfl⟩, ⟨A6, c6, rfl⟩⟩ := ho4.form
  have B4 := put hb4
  have O4 : Kp (NdO (w.heap.size + 1) w4 (.slice A5 n.recs.length c5) (.slice A6 n.kids.length c6) n) := put (ho4.lower (by rw [← S1.out]; exact B2.out.size))
  clear ho4 hb4
  go_wp2_with fail
  refine (checkNone _).mono ?_
  rintro e w5 ⟨rfl, rfl⟩
  have hR := ((bt B2.out B4.out).block w.heap.size (by have := S1.out; omega)).trans R1.out
  have hsz := (Array.getElem?_eq_some_iff.1 hR).1
  obtain ⟨y0, y1, y2⟩ := c3 hR
  obtain ⟨y3, y4, y5⟩ := f3 hR
  have HR4 := put hR
  clear hR
  go_wp2_with fail
  have hne : w.heap.size ≠ w4.heap.size := by omega
  have BB := bt B1.out (bt B2.out B4.out)
  refine bodyPost_ret (results_cell_row rfl _ _ _ _ _ _ _ rfl ((Below.heap_alloc _ _ _ (by rw [World.size_setCell, World.size_setCell, World.size_setCell]; exact hsz)).trans ((setCell_heap (setCell_heap (setCell_heap HR4.out 0 _) 1 _) 2 _).trans rfl)) Try.underlying69 rfl (infoNd.trans rfl)) rfl ⟨_, _, rfl, ?_, ?_⟩
  · exact (((O4.out.far (Nat.lt_succ_self _) 0 _).far (Nat.lt_succ_self _) 1 _).far (Nat.lt_succ_self _) 2 _).lower (Nat.le_succ _) |>.below (balloc (Below.refl _ _) _)
  · exact ((((BB.setCell (Nat.le_refl _) _).setCell (Nat.le_refl _) _).setCell (Nat.le_refl _) _)).alloc (by rw [World.size_setCell, World.size_setCell, World.size_setCell]; exact BB.size) _

set_option maxHeartbeats 1000000 in
set_option maxRecDepth 100000 in
theorem storeN (okn : Nat → Prop) (T a i : Nat) (A : Ar) (old : List UInt8) (vr vk : Value) (n : Nd) (w : World) (h : ArX ok w a A) (hok : ∀ k, w.heap.size ≤ k → ok k) (hT : w.cell? ⟨T, 0, none⟩ = some (.pointer (some ⟨a, 0, none⟩))) (hTl : T < w.heap.size) (hx : A.pages[i]? = some (some old)) (hv : NdV okn w vr vk n) (hn : n.Ok) :
    Calls Try.prog 45 #[.pointer (some ⟨T, 0, none⟩), .int .i64 ((i : Int) + 1), .agg #[.bool n.leaf, vr, vk]] w fun e w' => e = .returned (.tuple #[]) ∧ ArX ok w' a (A.put i (enc n)) ∧ Kps ok w w' := by
  obtain ⟨w1, hw1⟩ : ∃ w1, w1 = w.alloc (.cells #[.bool n.leaf, vr, vk] 69) := ⟨_, rfl⟩
  have B1 : Kp (Below w.heap.size w w1) := put (by rw [hw1]; exact balloc (Below.refl _ _) _)
  obtain ⟨x0, x1, x2⟩ := c3 (w := w1) (X := w.heap.size) (t := 69) (by rw [hw1]; exact heap_alloc_new _ _)
  have C1 := put (encodeCalls okn vr vk n w1 (hv.below B1.out) hn.fair hn.shp hn.size)
  have HL := put (enc_len n hn.size)
  have HA := put h
  have HOK := put hok
  have HW := put hw1
  have HX := put hx
  obtain ⟨⟨A5, c5, e5⟩, ⟨A6, c6, e6⟩⟩ : (∃ A c, vr = .slice A n.recs.length c) ∧ ∃ A c, vk = .slice A n.kids.length c := by
    obtain ⟨A, c, e, _⟩ := hv.recs.shape
    obtain ⟨A2, c2, e2, _⟩ := hv.kids.shape
    rw [kints_len] at e2
    exact ⟨⟨A, c, e⟩, ⟨A2, c2, e2⟩⟩
  subst e5 e6
  clear hw1 h hok hx hv hn
  go_enter Try.func45, Try.ntmps45
  go_wp2_with fail
  rw [← HW.out]
  refine C1.out.mono ?_
  rintro e w2 ⟨b, rfl, hb2, hbb, hbl⟩
  have B2 := put (bt B1.out hbl)
  have HB2 := put hb2
  have hT2 := cell_at hT B2.out
  have hTl2 : T < w2.heap.size := Nat.lt_of_lt_of_le hTl B2.out.size
  clear hb2 hbb hbl x0 x1 x2
  go_wp2_with fail
  refine (checkNone _).mono ?_
  rintro e w3 ⟨rfl, rfl⟩
  go_wp2_with fail
  refine (storeCalls a A i b old (enc n) w3 (HA.out.below B2.out) HX.out HB2.out HL.out (fun k hk => HOK.out k (Nat.le_trans B2.out.size hk))).mono ?_
  rintro e w4 ⟨rfl, ha4, k4⟩
  have A4 := put ha4
  have K4 := put k4
  clear ha4 k4
  go_wp2_with fail
  refine (checkNone _).mono ?_
  rintro e w5 ⟨rfl, rfl⟩
  go_wp2_with fail
  exact bodyPost_end (results_none rfl _ _ _) rfl ⟨rfl, A4.out, (below_kps B2.out ok).trans K4.out⟩

set_option maxHeartbeats 1000000 in
set_option maxRecDepth 100000 in
theorem allocN (okn : Nat → Prop) (T a : Nat) (A : Ar) (vr vk : Value) (n : Nd) (w : World) (h : ArX ok w a A) (hA : A.Ok) (hl : 0 < A.left) (hok : ∀ k, w.heap.size ≤ k → ok k) (hTo : ¬ ok T) (hT : w.cell? ⟨T, 0, none⟩ = some (.pointer (some ⟨a, 0, none⟩))) (hTl : T < w.heap.size) (hv : NdV okn w vr vk n) (hno : ∀ k, okn k → k < w.heap.size → ¬ ok k) (hn : n.Ok) (i : Nat) (hi : A.nextId = (i : Int) + 1) (hx : A.alloc.pages[i]? = some (some zeroPg)) :
    Calls Try.prog 27 #[.pointer (some ⟨T, 0, none⟩), .agg #[.bool n.leaf, vr, vk]] w fun e w' => e = .returned (.int .i64 ((i : Int) + 1)) ∧ ArX ok w' a (A.alloc.put i (enc n)) ∧ Kps ok w w' := by
  obtain ⟨w1, hw1⟩ : ∃ w1, w1 = w.alloc (.cells #[.bool n.leaf, vr, vk] 69) := ⟨_, rfl⟩
  have B1 : Kp (Below w.heap.size w w1) := put (by rw [hw1]; exact balloc (Below.refl _ _) _)
  have hn1 : w1.heap[w.heap.size]? = some (.cells #[.bool n.leaf, vr, vk] 69 (0, 0)) := by rw [hw1]; exact heap_alloc_new _ _
  -- the box is nobody's: the arena's blocks are others
  have h1 : ArX (nar ok w.heap.size w1.heap.size) w1 a A := h.nar B1.out
  have hs1 : w1.heap.size = w.heap.size + 1 := by rw [hw1, alloc_size]
  have C1 := put (allocCalls a A w1 h1 hA hl (fun k hk => .inr hk))
  have HN1 := put hn1
  have HV := put (hv.bnd)
  have HNO := put hno
  have HOK := put hok
  have HW := put hw1
  have HX := put hx
  have HN := put hn
  have S1 := put hs1
  rw [hi] at C1
  have hT1 := cell_at hT B1.out
  clear hw1 h h1 hok hx hv hn hn1 hA hl hi hno hs1
  go_enter Try.func27, Try.ntmps27
  go_wp2_with fail
  rw [← HW.out]
  refine C1.out.mono ?_
  rintro e w2 ⟨rfl, ha2, k2⟩
  have A2 := put ha2
  have K2 := put k2
  have hbox := (k2.block w.heap.size (by have := S1.out; omega) (by rintro (h | h); exact absurd h.2 (Nat.lt_irrefl _); have := S1.out; omega)).trans HN1.out
  have hT2 : w2.cell? ⟨T, 0, none⟩ = some (.pointer (some ⟨a, 0, none⟩)) := (World.cell?_of_block (a := ⟨T, 0, none⟩) (k2.block T (by have := S1.out; omega) (by rintro (h | h); exact hTo h.1; have := S1.out; omega))).trans hT1
  obtain ⟨x0, x1, x2⟩ := c3 hbox
  have V2 : Kp (NdV (fun k => okn k ∧ k < w.heap.size) w2 vr vk n) := put ((HV.out.below B1.out).kps k2 (fun k hk _ => by rintro (h | h); exact HNO.out k hk.1 hk.2 h.1; have := S1.out; have := hk.2; omega))
  have hs2 := k2.size
  clear ha2 k2 hbox
  go_wp2_with fail
  refine (checkNone _).mono ?_
  rintro e w3 ⟨rfl, rfl⟩
  go_wp2_with fail
  refine (storeN (ok := nar ok w.heap.size w1.heap.size) (fun k => okn k ∧ k < w.heap.size) T a i A.alloc zeroPg vr vk n w3 A2.out (fun k hk => .inr (Nat.le_trans hs2 hk)) hT2 (by have := S1.out; omega) HX.out V2.out HN.out).mono ?_
  rintro e w4 ⟨rfl, ha4, k4⟩
  have hfin : ∀ k, nar ok w.heap.size w1.heap.size k → ok k := fun k hk => by
    rcases hk with hk | hk
    · exact hk.1
    · exact HOK.out k (by have := S1.out; omega)
  have A4 := put (ha4.mono hfin)
  have K4 : Kp (Kps ok w w4) := put ((below_kps B1.out ok).trans ((K2.out.trans k4).mono hfin))
  clear ha4 k4 hfin
  go_wp2_with fail
  go_ret
  exact ⟨rfl, A4.out, K4.out⟩
end
end Go.Proofs.Ytcpahknlabnnbaa.T

namespace Go.Proofs.Ytcpahknlabnnbaa.T
open Go Go.RowKit Go.Sort Go.Proofs.Ytcpahknlabnnbaa.Mem

/-! ### order -/
theorem ltB_trans {a b c : ByteArray} (h1 : ltB a b = true) (h2 : ltB b c = true) : ltB a c = true := by
  rw [ltB_iff] at *; exact List.lt_trans h1 h2
theorem ltB_irrefl (a : ByteArray) : ltB a a = false := by
  cases h : ltB a a with
  | false => rfl
  | true => rw [ltB_iff] at h; exact absurd h (List.lt_irrefl _)
theorem ltB_asymm {a b : ByteArray} (h : ltB a b = true) : ltB b a = false := by
  cases h2 : ltB b a with
  | false => rfl
  | true => exact absurd (ltB_trans h h2) (by rw [ltB_irrefl]; simp)
theorem toListB_inj {a b : ByteArray} (h : a.toList = b.toList) : a = b := by
  have h1 : a.data.toList = b.data.toList := by rw [← ByteArray.toList_eq, ← ByteArray.toList_eq]; exact h
  cases a; cases b
  simp only at h1
  congr 1
  exact Array.toList_inj.1 h1
theorem ltB_total {a b : ByteArray} (h1 : ltB a b = false) (h2 : ltB b a = false) : a = b := by
  have e1 : ¬ a.toList < b.toList := fun h => by rw [← ltB_iff, h1] at h; exact absurd h (by simp)
  have e2 : ¬ b.toList < a.toList := fun h => by rw [← ltB_iff, h2] at h; exact absurd h (by simp)
  exact toListB_inj (List.le_antisymm (List.not_lt.1 e2) (List.not_lt.1 e1))
/-- a ≤ b < c. -/
theorem leB_lt {a b c : ByteArray} (h1 : ltB b a = false) (h2 : ltB b c = true) : ltB a c = true := by
  cases h : ltB a b with
  | true => exact ltB_trans h h2
  | false => rw [ltB_total h h1]; exact h2
theorem lt_leB {a b c : ByteArray} (h1 : ltB a b = true) (h2 : ltB c b = false) : ltB a c = true := by
  cases h : ltB b c with
  | true => exact ltB_trans h1 h
  | false => rw [← ltB_total h h2]; exact h1
theorem leB_trans {a b c : ByteArray} (h1 : ltB b a = false) (h2 : ltB c b = false) : ltB c a = false := by
  cases h : ltB c a with
  | false => rfl
  | true => rw [lt_leB h h1] at h2; exact absurd h2 (by simp)

/-! ### where an entry stands -/
theorem bsGo_spec' (less : Nat → Bool) (k n : Nat) (h1 : ∀ t, t < k → less t = true) (h2 : ∀ t, k ≤ t → t < n → less t = false) : ∀ (f lo hi : Nat), hi - lo ≤ f → lo ≤ k → k ≤ hi → hi ≤ n → Lib.bsGo less f lo hi = k
  | 0, lo, hi, hf, a, b, _ => by simp [Lib.bsGo]; omega
  | f + 1, lo, hi, hf, a, b, c => by
    unfold Lib.bsGo
    by_cases h : lo < hi
    · rw [if_pos h]
      by_cases hm : (lo + hi) / 2 < k
      · rw [h1 _ hm, if_pos rfl]; exact bsGo_spec' less k n h1 h2 f _ _ (by omega) (by omega) b c
      · rw [h2 _ (by omega) (by omega)]; exact bsGo_spec' less k n h1 h2 f _ _ (by omega) a (by omega) (by omega)
    · rw [if_neg h]; omega
theorem rise_tail {x : ByteArray} {l : List ByteArray} (h : Rise (x :: l)) : Rise l := (List.pairwise_cons.1 h).2
theorem rise_head {x : ByteArray} {l : List ByteArray} (h : Rise (x :: l)) : ∀ y ∈ l, ltB x y = true := (List.pairwise_cons.1 h).1
theorem rise_app {a b : List ByteArray} : Rise (a ++ b) ↔ Rise a ∧ Rise b ∧ ∀ x ∈ a, ∀ y ∈ b, ltB x y = true := List.pairwise_append
theorem cut_at (s : ByteArray) : ∀ l : List ByteArray, Rise l → ∃ k, k ≤ l.length ∧ (∀ y ∈ l.take k, ltB y s = true) ∧ (∀ y ∈ l.drop k, ltB y s = false)
  | [], _ => ⟨0, Nat.le_refl _, by simp, by simp⟩
  | x :: l, h => by
    cases hx : ltB x s with
    | false =>
      refine ⟨0, Nat.zero_le _, by simp, fun y hy => ?_⟩
      rw [List.drop_zero] at hy
      rcases List.mem_cons.1 hy with rfl | hy
      · exact hx
      · exact leB_trans hx (ltB_asymm (rise_head h y hy))
    | true =>
      obtain ⟨k, h1, h2, h3⟩ := cut_at s l (rise_tail h)
      refine ⟨k + 1, by simpa using h1, fun y hy => ?_, by simpa using h3⟩
      rw [List.take_succ_cons] at hy
      rcases List.mem_cons.1 hy with rfl | hy
      · exact hx
      · exact h2 y hy
theorem posS_spec {l : List ByteArray} (s : ByteArray) (h : Rise l) : posS l s ≤ l.length ∧ (∀ y ∈ l.take (posS l s), ltB y s = true) ∧ (∀ y ∈ l.drop (posS l s), ltB y s = false) := by
  obtain ⟨k, h1, h2, h3⟩ := cut_at s l h
  have e : posS l s = k := by
    unfold posS
    refine bsGo_spec' _ k l.length (fun t ht => ?_) (fun t ht hn => ?_) _ _ _ (by omega) (Nat.zero_le _) h1 (Nat.le_refl _)
    · have hl : t < l.length := by omega
      rw [List.getD_eq_getElem?_getD, List.getElem?_eq_getElem hl]
      exact h2 _ (List.mem_of_getElem? (i := t) (by rw [List.getElem?_take_of_lt ht, List.getElem?_eq_getElem hl]; rfl))
    · rw [List.getD_eq_getElem?_getD, List.getElem?_eq_getElem hn]
      exact h3 _ (List.mem_of_getElem? (i := t - k) (by rw [List.getElem?_drop, show k + (t - k) = t by omega, List.getElem?_eq_getElem hn]; rfl))
  rw [e]
  exact ⟨h1, h2, h3⟩
theorem posS_there {l : List ByteArray} {s : ByteArray} (h : Rise l) : l[posS l s]? = some s ↔ s ∈ l := by
  obtain ⟨h1, h2, h3⟩ := posS_spec s h
  constructor
  · exact fun e => List.mem_of_getElem? e
  · intro hs
    rw [← List.take_append_drop (posS l s) l] at hs
    rcases List.mem_append.1 hs with hs | hs
    · have := h2 s hs; rw [ltB_irrefl] at this; exact absurd this (by simp)
    · obtain ⟨j, hj⟩ := List.mem_iff_getElem?.1 hs
      rcases Nat.eq_zero_or_pos j with rfl | hj0
      · rw [List.getElem?_drop, Nat.add_zero] at hj; exact hj
      · have hlen := (List.getElem?_eq_some_iff.1 hj).1
        have hd : Rise (l.drop (posS l s)) := h.sublist (List.drop_sublist _ _)
        have h0 : (l.drop (posS l s))[0]? = some (l.drop (posS l s))[0] := List.getElem?_eq_getElem (by omega)
        have e1 := h3 _ (List.mem_of_getElem? h0)
        obtain ⟨hj1, hj2⟩ := List.getElem?_eq_some_iff.1 hj
        have e3 : ltB (l.drop (posS l s))[0] (l.drop (posS l s))[j] = true := List.pairwise_iff_getElem.1 hd 0 j (by omega) hlen hj0
        have e2 : ∀ z, z = s → ltB (l.drop (posS l s))[0] z = true → ltB (l.drop (posS l s))[0] s = true := fun z hz h => hz ▸ h
        have e2 := e2 _ hj2 e3
        rw [e1] at e2; exact absurd e2 (by simp)

/-- x lies between the seps ahead of the i-th kid and those behind. -/
def Sep (l : List ByteArray) (i : Nat) (x : ByteArray) : Prop := (∀ y ∈ l.take i, ltB x y = false) ∧ (∀ y ∈ l.drop i, ltB x y = true)
theorem kidAt_sep {l : List ByteArray} (s : ByteArray) (h : Rise l) : kidAt l s ≤ l.length ∧ Sep l (kidAt l s) s := by
  obtain ⟨h1, h2, h3⟩ := posS_spec s h
  unfold kidAt
  by_cases e : l[posS l s]? = some s
  · rw [if_pos e]
    obtain ⟨hl, he⟩ := List.getElem?_eq_some_iff.1 e
    refine ⟨hl, fun y hy => ?_, fun y hy => ?_⟩
    · rw [take_one e] at hy
      rcases List.mem_append.1 hy with hy | hy
      · exact ltB_asymm (h2 y hy)
      · rw [List.mem_singleton.1 hy]; exact ltB_irrefl s
    · have hd : Rise (l.drop (posS l s)) := h.sublist (List.drop_sublist _ _)
      rw [List.drop_eq_getElem_cons hl, he] at hd
      exact rise_head hd y hy
  · rw [if_neg e]
    refine ⟨h1, fun y hy => ltB_asymm (h2 y hy), fun y hy => ?_⟩
    cases hs : ltB s y with
    | true => rfl
    | false =>
      have := ltB_total hs (h3 y hy)
      subst this
      exact absurd ((posS_there h).2 (List.mem_of_mem_drop hy)) e
theorem sep_unique {l : List ByteArray} {i j : Nat} {x : ByteArray} (hi : i ≤ l.length) (hj : j ≤ l.length) (h1 : Sep l i x) (h2 : Sep l j x) : i = j := by
  have key : ∀ {i j : Nat}, j ≤ l.length → Sep l i x → Sep l j x → ¬ i < j := fun {i j} hj h1 h2 hlt => by
    have hl : i < l.length := by omega
    have e1 := h1.2 l[i] (List.mem_of_getElem? (i := 0) (by rw [List.getElem?_drop, Nat.add_zero, List.getElem?_eq_getElem hl]))
    have e2 := h2.1 l[i] (List.mem_of_getElem? (i := i) (by rw [List.getElem?_take_of_lt hlt, List.getElem?_eq_getElem hl]))
    rw [e1] at e2; exact absurd e2 (by simp)
  have a := key hj h1 h2
  have b := key hi h2 h1
  omega
/-- A rising list with s put in. -/
theorem rise_put {l : List ByteArray} {s : ByteArray} (h : Rise l) (hs : s ∉ l) : Rise (l.take (kidAt l s) ++ s :: l.drop (kidAt l s)) := by
  obtain ⟨h1, h2, h3⟩ := kidAt_sep s h
  rw [rise_app]
  refine ⟨h.sublist (List.take_sublist _ _), List.pairwise_cons.2 ⟨h3, h.sublist (List.drop_sublist _ _)⟩, fun x hx y hy => ?_⟩
  have hxs : ltB x s = true := by
    cases e : ltB x s with
    | true => rfl
    | false => exact absurd (ltB_total e (h2 x hx) ▸ List.mem_of_mem_take hx) hs
  rcases List.mem_cons.1 hy with rfl | hy
  · exact hxs
  · exact ltB_trans hxs (h3 y hy)
end Go.Proofs.Ytcpahknlabnnbaa.T

namespace Go.Proofs.Ytcpahknlabnnbaa.T
open Go Go.RowKit Go.Sort Go.Proofs.Ytcpahknlabnnbaa.Mem

abbrev Bnd := ByteArray → Prop
abbrev Lo := List ByteArray × List Nat
/-- An inner node: what lies below its kids. -/
structure Body (S : Nat → Bnd → List ByteArray → List Nat → Prop) (B : Bnd) (n : Nd) (ks : List Lo) : Prop where
  inner : n.leaf = false
  recs : ∀ r ∈ n.recs, B r ∧ ∃ y, B y ∧ ltB y r = true
  rise : Rise n.recs
  len : n.kids.length = n.recs.length + 1
  lk : ks.length = n.kids.length
  kid : ∀ (j k : Nat) (p : Lo), n.kids[j]? = some k → ks[j]? = some p → S (k - 1) (fun x => B x ∧ Sep n.recs j x) p.1 p.2
  nd : (ks.map (·.2)).flatten.Nodup
def entsOf (ks : List Lo) : List ByteArray := (ks.map (·.1)).flatten
def pagsOf (ks : List Lo) : List Nat := (ks.map (·.2)).flatten
def inUse (A : Ar) (p : Nat) : Prop := ∃ b, A.pages[p]? = some (some b)
/-- What lies below page i (its index), h levels above the leaves: all within B; the entries es, the pages ps; a node at level l has μ l entries at least. -/
def Sub (μ : Nat → Nat) (A : Ar) : Nat → Nat → Bnd → List ByteArray → List Nat → Prop
  | 0, i, B, es, ps => ∃ n : Nd, A.pages[i]? = some (some (enc n)) ∧ (n.Ok ∧ μ 0 ≤ n.recs.length) ∧ n.leaf = true ∧ (∀ r ∈ n.recs, B r) ∧ es = n.recs ∧ ps = [i]
  | h + 1, i, B, es, ps => ∃ (n : Nd) (ks : List Lo), A.pages[i]? = some (some (enc n)) ∧ (n.Ok ∧ μ (h + 1) ≤ n.recs.length) ∧ Body (Sub μ A h) B n ks ∧ i ∉ pagsOf ks ∧ es = entsOf ks ∧ ps = i :: pagsOf ks

theorem mem_ents {ks : List Lo} {x : ByteArray} : x ∈ entsOf ks ↔ ∃ (j : Nat) (p : Lo), ks[j]? = some p ∧ x ∈ p.1 := by
  unfold entsOf
  simp only [List.mem_flatten, List.mem_map]
  constructor
  · rintro ⟨l, ⟨p, hp, rfl⟩, hx⟩
    obtain ⟨j, hj⟩ := List.mem_iff_getElem?.1 hp
    exact ⟨j, p, hj, hx⟩
  · rintro ⟨j, p, hj, hx⟩
    exact ⟨_, ⟨p, List.mem_of_getElem? hj, rfl⟩, hx⟩
theorem mem_pags {ks : List Lo} {x : Nat} : x ∈ pagsOf ks ↔ ∃ (j : Nat) (p : Lo), ks[j]? = some p ∧ x ∈ p.2 := by
  unfold pagsOf
  simp only [List.mem_flatten, List.mem_map]
  constructor
  · rintro ⟨l, ⟨p, hp, rfl⟩, hx⟩
    obtain ⟨j, hj⟩ := List.mem_iff_getElem?.1 hp
    exact ⟨j, p, hj, hx⟩
  · rintro ⟨j, p, hj, hx⟩
    exact ⟨_, ⟨p, List.mem_of_getElem? hj, rfl⟩, hx⟩
section
variable {S S' : Nat → Bnd → List ByteArray → List Nat → Prop} {B B' : Bnd} {n : Nd} {ks : List Lo}
theorem Body.at (h : Body S B n ks) {j : Nat} {p : Lo} (hp : ks[j]? = some p) : ∃ k, n.kids[j]? = some k ∧ S (k - 1) (fun x => B x ∧ Sep n.recs j x) p.1 p.2 := by
  have hj := (List.getElem?_eq_some_iff.1 hp).1
  have hl := h.lk
  have hk := List.getElem?_eq_getElem (l := n.kids) (i := j) (by omega)
  exact ⟨_, hk, h.kid j _ p hk hp⟩
theorem Body.imp (h : Body S B n ks) (hs : ∀ (j : Nat) (p : Lo) (i : Nat) (B : Bnd), ks[j]? = some p → S i B p.1 p.2 → S' i B p.1 p.2) : Body S' B n ks :=
  ⟨h.inner, h.recs, h.rise, h.len, h.lk, fun j k p hk hp => hs j p _ _ hp (h.kid j k p hk hp), h.nd⟩
theorem Body.mono (h : Body S B n ks) (hb : ∀ x, B x → B' x) (hs : ∀ (i : Nat) (B B' : Bnd) (es : List ByteArray) (ps : List Nat), (∀ x, B x → B' x) → S i B es ps → S i B' es ps) : Body S B' n ks :=
  ⟨h.inner, fun r hr => ⟨hb _ (h.recs r hr).1, let ⟨y, h1, h2⟩ := (h.recs r hr).2; ⟨y, hb _ h1, h2⟩⟩, h.rise, h.len, h.lk, fun j k p hk hp => hs _ _ _ _ _ (fun _ hx => ⟨hb _ hx.1, hx.2⟩) (h.kid j k p hk hp), h.nd⟩
end
section
variable {μ : Nat → Nat} {A A' : Ar}
theorem Sub.frame : ∀ {h i : Nat} {B : Bnd} {es : List ByteArray} {ps : List Nat}, Sub μ A h i B es ps → (∀ p ∈ ps, A'.pages[p]? = A.pages[p]?) → Sub μ A' h i B es ps := by
  intro h
  induction h with
  | zero =>
    rintro i B es ps ⟨n, h1, h2, h3, h4, h5, h6⟩ hf
    exact ⟨n, (hf i (by rw [h6]; exact List.mem_singleton.2 rfl)).trans h1, h2, h3, h4, h5, h6⟩
  | succ h ih =>
    rintro i B es ps ⟨n, ks, h1, h2, h3, h4, h5, h6⟩ hf
    exact ⟨n, ks, (hf i (by rw [h6]; exact List.mem_cons_self)).trans h1, h2, h3.imp (fun j p _ _ hp hs => ih hs (fun q hq => hf q (by rw [h6]; exact List.mem_cons_of_mem _ (mem_pags.2 ⟨j, p, hp, hq⟩)))), h4, h5, h6⟩
theorem Sub.mono : ∀ {h i : Nat} {B B' : Bnd} {es : List ByteArray} {ps : List Nat}, (∀ x, B x → B' x) → Sub μ A h i B es ps → Sub μ A h i B' es ps := by
  intro h
  induction h with
  | zero =>
    rintro i B B' es ps hb ⟨n, h1, h2, h3, h4, h5, h6⟩
    exact ⟨n, h1, h2, h3, fun r hr => hb _ (h4 r hr), h5, h6⟩
  | succ h ih =>
    rintro i B B' es ps hb ⟨n, ks, h1, h2, h3, h4, h5, h6⟩
    exact ⟨n, ks, h1, h2, h3.mono hb (fun _ _ _ _ _ hx hs => ih hx hs), h4, h5, h6⟩
theorem Sub.lower {ν : Nat → Nat} : ∀ {h i : Nat} {B : Bnd} {es : List ByteArray} {ps : List Nat}, (∀ l, l ≤ h → ν l ≤ μ l) → Sub μ A h i B es ps → Sub ν A h i B es ps := by
  intro h
  induction h with
  | zero =>
    rintro i B es ps hb ⟨n, h1, ⟨h2, g2⟩, h3, h4, h5, h6⟩
    exact ⟨n, h1, ⟨h2, Nat.le_trans (hb 0 (Nat.le_refl _)) g2⟩, h3, h4, h5, h6⟩
  | succ h ih =>
    rintro i B es ps hb ⟨n, ks, h1, ⟨h2, g2⟩, h3, h4, h5, h6⟩
    exact ⟨n, ks, h1, ⟨h2, Nat.le_trans (hb _ (Nat.le_refl _)) g2⟩, h3.imp (fun _ _ _ _ _ hs => ih (fun l hl => hb l (Nat.le_succ_of_le hl)) hs), h4, h5, h6⟩
theorem Sub.bound : ∀ {h i : Nat} {B : Bnd} {es : List ByteArray} {ps : List Nat}, Sub μ A h i B es ps → ∀ x ∈ es, B x := by
  intro h
  induction h with
  | zero =>
    rintro i B es ps ⟨n, h1, h2, h3, h4, h5, h6⟩ x hx
    exact h4 x (by rw [← h5]; exact hx)
  | succ h ih =>
    rintro i B es ps ⟨n, ks, h1, h2, h3, h4, h5, h6⟩ x hx
    rw [h5] at hx
    obtain ⟨j, p, hp, hx⟩ := mem_ents.1 hx
    obtain ⟨k, _, hs⟩ := h3.at hp
    exact (ih hs x hx).1
theorem Sub.use : ∀ {h i : Nat} {B : Bnd} {es : List ByteArray} {ps : List Nat}, Sub μ A h i B es ps → ∀ p ∈ ps, inUse A p := by
  intro h
  induction h with
  | zero =>
    rintro i B es ps ⟨n, h1, h2, h3, h4, h5, h6⟩ x hx
    rw [h6] at hx
    rw [List.mem_singleton.1 hx]
    exact ⟨_, h1⟩
  | succ h ih =>
    rintro i B es ps ⟨n, ks, h1, h2, h3, h4, h5, h6⟩ x hx
    rw [h6] at hx
    rcases List.mem_cons.1 hx with rfl | hx
    · exact ⟨_, h1⟩
    · obtain ⟨j, p, hp, hx⟩ := mem_pags.1 hx
      obtain ⟨k, _, hs⟩ := h3.at hp
      exact ih hs x hx
theorem Sub.head {h i : Nat} {B : Bnd} {es : List ByteArray} {ps : List Nat} (hs : Sub μ A h i B es ps) : i ∈ ps := by
  cases h with
  | zero =>
    obtain ⟨n, h1, h2, h3, h4, h5, h6⟩ := hs
    rw [h6]; exact List.mem_singleton.2 rfl
  | succ h =>
    obtain ⟨n, ks, h1, h2, h3, h4, h5, h6⟩ := hs
    rw [h6]; exact List.mem_cons_self
theorem Sub.nodup {h i : Nat} {B : Bnd} {es : List ByteArray} {ps : List Nat} (hs : Sub μ A h i B es ps) : ps.Nodup := by
  cases h with
  | zero =>
    obtain ⟨n, h1, h2, h3, h4, h5, h6⟩ := hs
    rw [h6]; simp
  | succ h =>
    obtain ⟨n, ks, h1, h2, h3, h4, h5, h6⟩ := hs
    rw [h6]; exact List.nodup_cons.2 ⟨h4, h3.nd⟩
theorem sep_lt {l : List ByteArray} {i j : Nat} {x y : ByteArray} (hij : i < j) (hj : j ≤ l.length) (h1 : Sep l i x) (h2 : Sep l j y) : ltB x y = true := by
  have hl : i < l.length := by omega
  have e1 := h1.2 l[i] (List.mem_of_getElem? (i := 0) (by rw [List.getElem?_drop, Nat.add_zero, List.getElem?_eq_getElem hl]))
  have e2 := h2.1 l[i] (List.mem_of_getElem? (i := i) (by rw [List.getElem?_take_of_lt hij, List.getElem?_eq_getElem hl]))
  exact lt_leB e1 e2
theorem Sub.rise : ∀ {h i : Nat} {B : Bnd} {es : List ByteArray} {ps : List Nat}, Sub μ A h i B es ps → Rise es := by
  intro h
  induction h with
  | zero =>
    rintro i B es ps ⟨n, h1, h2, h3, h4, h5, h6⟩
    rw [h5]; exact h2.1.shp.rise
  | succ h ih =>
    rintro i B es ps ⟨n, ks, h1, h2, h3, h4, h5, h6⟩
    rw [h5]
    unfold Rise entsOf
    rw [List.pairwise_flatten]
    constructor
    · intro l hl
      obtain ⟨p, hp, rfl⟩ := List.mem_map.1 hl
      obtain ⟨j, hj⟩ := List.mem_iff_getElem?.1 hp
      obtain ⟨k, _, hs⟩ := h3.at hj
      exact ih hs
    · rw [List.pairwise_map, List.pairwise_iff_getElem]
      intro a b ha hb hab x hx y hy
      obtain ⟨k, _, hs⟩ := h3.at (List.getElem?_eq_getElem ha)
      obtain ⟨k2, _, hs2⟩ := h3.at (List.getElem?_eq_getElem hb)
      exact sep_lt hab (by have := h3.len; have := h3.lk; omega) (Sub.bound hs x hx).2 (Sub.bound hs2 y hy).2
end
end Go.Proofs.Ytcpahknlabnnbaa.T

namespace Go.Proofs.Ytcpahknlabnnbaa.T
open Go Go.RowKit Go.Sort Go.Proofs.Ytcpahknlabnnbaa.Mem

theorem pags_app (a b : List Lo) : pagsOf (a ++ b) = pagsOf a ++ pagsOf b := by unfold pagsOf; rw [List.map_append, List.flatten_append]
theorem pags_cons (p : Lo) (b : List Lo) : pagsOf (p :: b) = p.2 ++ pagsOf b := by unfold pagsOf; rw [List.map_cons, List.flatten_cons]
theorem ents_app (a b : List Lo) : entsOf (a ++ b) = entsOf a ++ entsOf b := by unfold entsOf; rw [List.map_append, List.flatten_append]
theorem ents_cons (p : Lo) (b : List Lo) : entsOf (p :: b) = p.1 ++ entsOf b := by unfold entsOf; rw [List.map_cons, List.flatten_cons]
theorem split_at {α : Type} {l : List α} {j : Nat} {p : α} (h : l[j]? = some p) : l = l.take j ++ p :: l.drop (j + 1) := by
  obtain ⟨hj, rfl⟩ := List.getElem?_eq_some_iff.1 h
  rw [← List.drop_eq_getElem_cons hj, List.take_append_drop]
theorem nd_put {X p Y p' : List Nat} (h : (X ++ (p ++ Y)).Nodup) (hp : p'.Nodup) (hq : ∀ q ∈ p', q ∈ p ∨ (q ∉ X ∧ q ∉ Y)) : (X ++ (p' ++ Y)).Nodup := by
  rw [List.nodup_append] at *
  obtain ⟨h1, h2, h3⟩ := h
  rw [List.nodup_append] at h2
  obtain ⟨h4, h5, h6⟩ := h2
  refine ⟨h1, List.nodup_append.2 ⟨hp, h5, fun a ha b hb e => ?_⟩, fun a ha b hb e => ?_⟩
  · subst e
    rcases hq a ha with hq | hq
    · exact h6 a hq a hb rfl
    · exact hq.2 hb
  · subst e
    rcases List.mem_append.1 hb with hb | hb
    · rcases hq a hb with hq | hq
      · exact h3 a ha a (List.mem_append_left _ hq) rfl
      · exact hq.1 ha
    · exact h3 a ha a (List.mem_append_right _ hb) rfl
theorem get_put1 {α : Type} {l : List α} {a : Nat} {x : α} (ha : a ≤ l.length) (i : Nat) : (l.take a ++ x :: l.drop a)[i]? = if i < a then l[i]? else if i = a then some x else l[i - 1]? := by
  have hl : (l.take a).length = a := by rw [List.length_take]; omega
  by_cases h1 : i < a
  · rw [if_pos h1, List.getElem?_append_left (by omega), List.getElem?_take_of_lt h1]
  · rw [if_neg h1, List.getElem?_append_right (by omega), hl]
    by_cases h2 : i = a
    · rw [if_pos h2, h2, Nat.sub_self]; rfl
    · rw [if_neg h2, show i - a = (i - a - 1) + 1 by omega, List.getElem?_cons_succ, List.getElem?_drop, show a + (i - a - 1) = i - 1 by omega]
theorem get_put2 {α : Type} {l : List α} {j : Nat} {x y : α} (ha : j < l.length) (i : Nat) : (l.take j ++ x :: y :: l.drop (j + 1))[i]? = if i < j then l[i]? else if i = j then some x else if i = j + 1 then some y else l[i - 1]? := by
  have hl : (l.take j).length = j := by rw [List.length_take]; omega
  by_cases h1 : i < j
  · rw [if_pos h1, List.getElem?_append_left (by omega), List.getElem?_take_of_lt h1]
  · rw [if_neg h1, List.getElem?_append_right (by omega), hl]
    by_cases h2 : i = j
    · rw [if_pos h2, h2, Nat.sub_self]; rfl
    · rw [if_neg h2]
      by_cases h3 : i = j + 1
      · rw [if_pos h3, h3, show j + 1 - j = 1 by omega]; rfl
      · rw [if_neg h3, show i - j = (i - j - 2) + 2 by omega, List.getElem?_cons_succ, List.getElem?_cons_succ, List.getElem?_drop, show j + 1 + (i - j - 2) = i - 1 by omega]
/-- Seps, one more of them. -/
theorem sep_lo {l : List ByteArray} {s x : ByteArray} {i j : Nat} (hij : i < j) (hj : j ≤ l.length) (hs : Sep l j s) (h : Sep l i x) : Sep (l.take j ++ s :: l.drop j) i x := by
  have hl : (l.take j).length = j := by rw [List.length_take]; omega
  have hlt : ltB x s = true := sep_lt hij hj h hs
  constructor
  · intro y hy
    rw [List.take_append_of_le_length (by omega), List.take_take, Nat.min_eq_left (by omega)] at hy
    exact h.1 y hy
  · intro y hy
    rw [List.drop_append_of_le_length (by omega)] at hy
    rcases List.mem_append.1 hy with hy | hy
    · rw [List.drop_take] at hy
      exact h.2 y (List.mem_of_mem_take hy)
    · rcases List.mem_cons.1 hy with rfl | hy
      · exact hlt
      · exact ltB_trans hlt (hs.2 y hy)
theorem sep_mid {l : List ByteArray} {s x : ByteArray} {j : Nat} (hj : j ≤ l.length) (h : Sep l j x) (hx : ltB x s = true) : Sep (l.take j ++ s :: l.drop j) j x := by
  have hl : (l.take j).length = j := by rw [List.length_take]; omega
  constructor
  · intro y hy
    rw [List.take_append_of_le_length (by omega), List.take_take, Nat.min_self] at hy
    exact h.1 y hy
  · intro y hy
    rw [List.drop_append_of_le_length (by omega), List.drop_eq_nil_of_le (by omega), List.nil_append] at hy
    rcases List.mem_cons.1 hy with rfl | hy
    · exact hx
    · exact h.2 y hy
theorem sep_mid2 {l : List ByteArray} {s x : ByteArray} {j : Nat} (hj : j ≤ l.length) (h : Sep l j x) (hx : ltB x s = false) : Sep (l.take j ++ s :: l.drop j) (j + 1) x := by
  have hl : (l.take j).length = j := by rw [List.length_take]; omega
  have e : l.take j ++ s :: l.drop j = (l.take j ++ [s]) ++ l.drop j := by simp
  have hl2 : (l.take j ++ [s]).length = j + 1 := by rw [List.length_append, hl]; rfl
  rw [e]
  constructor
  · intro y hy
    rw [← hl2, List.take_left] at hy
    rcases List.mem_append.1 hy with hy | hy
    · exact h.1 y hy
    · rw [List.mem_singleton.1 hy]; exact hx
  · intro y hy
    rw [← hl2, List.drop_left] at hy
    exact h.2 y hy
theorem sep_hi {l : List ByteArray} {s x : ByteArray} {i j : Nat} (hij : j < i) (hi : i ≤ l.length) (hs : Sep l j s) (h : Sep l i x) : Sep (l.take j ++ s :: l.drop j) (i + 1) x := by
  have hl : (l.take j).length = j := by rw [List.length_take]; omega
  have hlt : ltB s x = true := sep_lt hij hi hs h
  have e : l.take j ++ s :: l.drop j = (l.take j ++ [s]) ++ l.drop j := by simp
  have hl2 : (l.take j ++ [s]).length = j + 1 := by rw [List.length_append, hl]; rfl
  rw [e]
  have hi1 : i + 1 = (l.take j ++ [s]).length + (i - j) := by rw [hl2]; omega
  constructor
  · intro y hy
    rw [hi1, List.take_length_add_append] at hy
    rcases List.mem_append.1 hy with hy | hy
    · rcases List.mem_append.1 hy with hy | hy
      · exact h.1 y (List.take_subset_take_left _ (Nat.le_of_lt hij) hy)
      · rw [List.mem_singleton.1 hy]; exact ltB_asymm hlt
    · have : y ∈ l.take i := by
        rw [show i = j + (i - j) by omega, List.take_add]
        exact List.mem_append_right _ hy
      exact h.1 y this
  · intro y hy
    rw [hi1, List.drop_length_add_append, List.drop_drop, show j + (i - j) = i by omega] at hy
    exact h.2 y hy
section
variable {S S' : Nat → Bnd → List ByteArray → List Nat → Prop} {B : Bnd} {n : Nd} {ks : List Lo}
/-- One kid turned. -/
theorem Body.set (h : Body S B n ks) {j k : Nat} {p p' : Lo} (hk : n.kids[j]? = some k) (hp : ks[j]? = some p) (hs : S' (k - 1) (fun x => B x ∧ Sep n.recs j x) p'.1 p'.2) (ho : ∀ (i : Nat) (q : Lo) (m : Nat) (B : Bnd), i ≠ j → ks[i]? = some q → S m B q.1 q.2 → S' m B q.1 q.2) (hn : p'.2.Nodup) (hq : ∀ q ∈ p'.2, q ∈ p.2 ∨ q ∉ pagsOf ks) :
    Body S' B n (ks.set j p') := by
  have hj := (List.getElem?_eq_some_iff.1 hp).1
  refine ⟨h.inner, h.recs, h.rise, h.len, by rw [List.length_set]; exact h.lk, fun i m q hm hq' => ?_, ?_⟩
  · by_cases hij : i = j
    · subst hij
      rw [List.getElem?_set_self hj] at hq'
      simp only [Option.some.injEq] at hq'
      subst hq'
      rw [hk] at hm
      simp only [Option.some.injEq] at hm
      subst hm
      exact hs
    · rw [List.getElem?_set_ne (Ne.symm hij)] at hq'
      exact ho i q _ _ hij hq' (h.kid i m q hm hq')
  · have hnd := h.nd
    rw [List.set_eq_take_append_cons_drop, if_pos hj]
    have e1 := split_at hp
    have e2 : pagsOf ks = pagsOf (ks.take j) ++ (p.2 ++ pagsOf (ks.drop (j + 1))) := by
      conv => lhs; rw [e1]
      rw [pags_app, pags_cons]
    show (pagsOf _).Nodup
    have hnd' : (pagsOf ks).Nodup := hnd
    rw [pags_app, pags_cons]
    rw [e2] at hnd' hq
    refine nd_put hnd' hn (fun q hq' => ?_)
    rcases hq q hq' with h1 | h1
    · exact .inl h1
    · exact .inr ⟨fun h2 => h1 (List.mem_append_left _ h2), fun h2 => h1 (List.mem_append_right _ (List.mem_append_right _ h2))⟩
/-- A kid that is split: sep and a further kid put in. -/
theorem Body.put (h : Body S B n ks) {j k r : Nat} {p p1 p2 : Lo} {sep : ByteArray} (hk : n.kids[j]? = some k) (hp : ks[j]? = some p)
    (h1 : S' (k - 1) (fun x => (B x ∧ Sep n.recs j x) ∧ ltB x sep = true) p1.1 p1.2) (h2 : S' (r - 1) (fun x => (B x ∧ Sep n.recs j x) ∧ ltB x sep = false) p2.1 p2.2)
    (hb : B sep ∧ Sep n.recs j sep) (hy : ∃ y, (B y ∧ Sep n.recs j y) ∧ ltB y sep = true)
    (ho : ∀ (i : Nat) (q : Lo) (m : Nat) (B : Bnd), i ≠ j → ks[i]? = some q → S m B q.1 q.2 → S' m B q.1 q.2) (hmono : ∀ (i : Nat) (B B' : Bnd) (es : List ByteArray) (ps : List Nat), (∀ x, B x → B' x) → S' i B es ps → S' i B' es ps)
    (hn : (p1.2 ++ p2.2).Nodup) (hq : ∀ q ∈ p1.2 ++ p2.2, q ∈ p.2 ∨ q ∉ pagsOf ks) :
    Body S' B ⟨false, n.recs.take j ++ sep :: n.recs.drop j, n.kids.take (j + 1) ++ r :: n.kids.drop (j + 1)⟩ (ks.take j ++ p1 :: p2 :: ks.drop (j + 1)) := by
  have hj := (List.getElem?_eq_some_iff.1 hp).1
  have hlk := h.lk
  have hlen := h.len
  have hjr : j ≤ n.recs.length := by omega
  have hrise : Rise (n.recs.take j ++ sep :: n.recs.drop j) := by
    obtain ⟨y, hy1, hy2⟩ := hy
    rw [rise_app]
    have hts : ∀ x ∈ n.recs.take j, ltB x sep = true := fun x hx => leB_lt (hy1.2.1 x hx) hy2
    refine ⟨h.rise.sublist (List.take_sublist _ _), List.pairwise_cons.2 ⟨hb.2.2, h.rise.sublist (List.drop_sublist _ _)⟩, fun x hx z hz => ?_⟩
    rcases List.mem_cons.1 hz with rfl | hz
    · exact hts x hx
    · exact ltB_trans (hts x hx) (hb.2.2 z hz)
  refine ⟨rfl, fun r' hr => ?_, hrise, ?_, ?_, fun i m q hm hq' => ?_, ?_⟩
  · rcases List.mem_append.1 hr with hr | hr
    · exact h.recs r' (List.mem_of_mem_take hr)
    · rcases List.mem_cons.1 hr with rfl | hr
      · obtain ⟨y, hy1, hy2⟩ := hy
        exact ⟨hb.1, y, hy1.1, hy2⟩
      · exact h.recs r' (List.mem_of_mem_drop hr)
  · simp only [List.length_append, List.length_take, List.length_cons, List.length_drop]; omega
  · simp only [List.length_append, List.length_take, List.length_cons, List.length_drop]; omega
  · rw [get_put1 (by omega)] at hm
    rw [get_put2 (by omega)] at hq'
    by_cases c1 : i < j
    · rw [if_pos (by omega)] at hm
      rw [if_pos c1] at hq'
      exact hmono _ _ _ _ _ (fun x hx => ⟨hx.1, sep_lo c1 hjr hb.2 hx.2⟩) (ho i q _ _ (by omega) hq' (h.kid i m q hm hq'))
    · rw [if_neg c1] at hq'
      by_cases c2 : i = j
      · subst c2
        rw [if_pos (by omega), hk] at hm
        rw [if_pos rfl] at hq'
        simp only [Option.some.injEq] at hm hq'
        subst hm hq'
        exact hmono _ _ _ _ _ (fun x hx => ⟨hx.1.1, sep_mid hjr hx.1.2 hx.2⟩) h1
      · rw [if_neg c2] at hq'
        by_cases c3 : i = j + 1
        · subst c3
          rw [if_neg (by omega), if_pos rfl] at hm
          rw [if_pos rfl] at hq'
          simp only [Option.some.injEq] at hm hq'
          subst hm hq'
          exact hmono _ _ _ _ _ (fun x hx => ⟨hx.1.1, sep_mid2 hjr hx.1.2 hx.2⟩) h2
        · rw [if_neg (by omega), if_neg c3] at hm
          rw [if_neg c3] at hq'
          have hi1 := (List.getElem?_eq_some_iff.1 hq').1
          have hs := ho (i - 1) q _ _ (by omega) hq' (h.kid (i - 1) m q hm hq')
          refine hmono _ _ _ _ _ (fun x hx => ⟨hx.1, ?_⟩) hs
          have := sep_hi (i := i - 1) (j := j) (by omega) (by omega) hb.2 hx.2
          rwa [show i - 1 + 1 = i by omega] at this
  · have hnd' : (pagsOf ks).Nodup := h.nd
    have e2 : pagsOf ks = pagsOf (ks.take j) ++ (p.2 ++ pagsOf (ks.drop (j + 1))) := by
      conv => lhs; rw [split_at hp]
      rw [pags_app, pags_cons]
    show (pagsOf _).Nodup
    rw [pags_app, pags_cons, pags_cons, ← List.append_assoc p1.2]
    rw [e2] at hnd' hq
    refine nd_put hnd' hn (fun q hq' => ?_)
    rcases hq q hq' with h1 | h1
    · exact .inl h1
    · exact .inr ⟨fun h2 => h1 (List.mem_append_left _ h2), fun h2 => h1 (List.mem_append_right _ (List.mem_append_right _ h2))⟩
end
end Go.Proofs.Ytcpahknlabnnbaa.T

namespace Go.Proofs.Ytcpahknlabnnbaa.T
open Go Go.RowKit Go.Sort Go.Proofs.Ytcpahknlabnnbaa.Mem

section
variable {S : Nat → Bnd → List ByteArray → List Nat → Prop} {B : Bnd} {n : Nd} {ks : List Lo}
theorem sub_take {l : List ByteArray} {i k : Nat} {x y : ByteArray} (hik : i ≤ k) (hy : l[k]? = some y) (h : Sep l i x) : ltB x y = true ∧ Sep (l.take k) i x := by
  refine ⟨h.2 y (List.mem_of_getElem? (i := k - i) (by rw [List.getElem?_drop, show i + (k - i) = k by omega]; exact hy)), fun z hz => ?_, fun z hz => ?_⟩
  · rw [List.take_take, Nat.min_eq_left hik] at hz
    exact h.1 z hz
  · rw [List.drop_take] at hz
    exact h.2 z (List.mem_of_mem_take hz)
theorem sub_drop {l : List ByteArray} {i k : Nat} {x y : ByteArray} (hy : l[k]? = some y) (h : Sep l (k + 1 + i) x) : ltB x y = false ∧ Sep (l.drop (k + 1)) i x := by
  refine ⟨h.1 y (List.mem_of_getElem? (i := k) (by rw [List.getElem?_take_of_lt (by omega)]; exact hy)), fun z hz => ?_, fun z hz => ?_⟩
  · have : z ∈ l.take (k + 1 + i) := by rw [List.take_add]; exact List.mem_append_right _ hz
    exact h.1 z this
  · rw [List.drop_drop] at hz
    exact h.2 z hz
theorem Body.left (h : Body S B n ks) {k : Nat} {y : ByteArray} (hy : n.recs[k]? = some y) (hmono : ∀ (i : Nat) (B B' : Bnd) (es : List ByteArray) (ps : List Nat), (∀ x, B x → B' x) → S i B es ps → S i B' es ps) :
    Body S (fun x => B x ∧ ltB x y = true) (n.some 0 k) (ks.take (k + 1)) := by
  have hk := (List.getElem?_eq_some_iff.1 hy).1
  have hl := h.len
  have hlk := h.lk
  have hm := List.mem_of_getElem? hy
  have er : (n.some 0 k).recs = n.recs.take k := by unfold Nd.some; simp
  have ek : (n.some 0 k).kids = n.kids.take (k + 1) := by unfold Nd.some; rw [h.inner]; simp
  have hly : ∀ r ∈ n.recs.take k, ltB r y = true := fun r hr => by
    have := h.rise
    rw [split_at hy] at this
    exact (rise_app.1 this).2.2 r hr y List.mem_cons_self
  refine ⟨by unfold Nd.some; exact h.inner, fun r hr => ?_, by rw [er]; exact h.rise.sublist (List.take_sublist _ _), by rw [er, ek, List.length_take, List.length_take]; omega, by rw [ek, List.length_take, List.length_take]; omega, fun i m q hm' hq => ?_, ?_⟩
  · rw [er] at hr
    obtain ⟨h1, z, h2, h3⟩ := h.recs r (List.mem_of_mem_take hr)
    exact ⟨⟨h1, hly r hr⟩, z, ⟨h2, ltB_trans h3 (hly r hr)⟩, h3⟩
  · rw [ek] at hm'
    have hi := (List.getElem?_eq_some_iff.1 hq).1
    rw [List.length_take] at hi
    rw [List.getElem?_take_of_lt (by omega)] at hm' hq
    rw [er]
    refine hmono _ _ _ _ _ (fun x hx => ?_) (h.kid i m q hm' hq)
    obtain ⟨h1, h2⟩ := sub_take (by omega) hy hx.2
    exact ⟨⟨hx.1, h1⟩, h2⟩
  · have hnd : (pagsOf ks).Nodup := h.nd
    rw [← List.take_append_drop (k + 1) ks, pags_app] at hnd
    exact (List.nodup_append.1 hnd).1
theorem Body.right (h : Body S B n ks) {k : Nat} {y : ByteArray} (hy : n.recs[k]? = some y) (hmono : ∀ (i : Nat) (B B' : Bnd) (es : List ByteArray) (ps : List Nat), (∀ x, B x → B' x) → S i B es ps → S i B' es ps) :
    Body S (fun x => B x ∧ ltB x y = false) (n.some (k + 1) n.recs.length) (ks.drop (k + 1)) := by
  have hk := (List.getElem?_eq_some_iff.1 hy).1
  have hl := h.len
  have hlk := h.lk
  have hm := List.mem_of_getElem? hy
  have er : (n.some (k + 1) n.recs.length).recs = n.recs.drop (k + 1) := by
    unfold Nd.some
    exact List.take_of_length_le (by rw [List.length_drop]; exact Nat.le_refl _)
  have ek : (n.some (k + 1) n.recs.length).kids = n.kids.drop (k + 1) := by
    unfold Nd.some
    rw [h.inner]
    exact List.take_of_length_le (by rw [List.length_drop]; omega)
  have hly : ∀ r ∈ n.recs.drop (k + 1), ltB y r = true := fun r hr => by
    have := h.rise
    rw [split_at hy] at this
    exact rise_head (rise_app.1 this).2.1 r hr
  refine ⟨by unfold Nd.some; exact h.inner, fun r hr => ?_, by rw [er]; exact h.rise.sublist (List.drop_sublist _ _), by rw [er, ek, List.length_drop, List.length_drop]; omega, by rw [ek, List.length_drop, List.length_drop]; omega, fun i m q hm' hq => ?_, ?_⟩
  · rw [er] at hr
    obtain ⟨h1, z, h2, h3⟩ := h.recs r (List.mem_of_mem_drop hr)
    exact ⟨⟨h1, ltB_asymm (hly r hr)⟩, y, ⟨(h.recs y hm).1, ltB_irrefl y⟩, hly r hr⟩
  · rw [ek, List.getElem?_drop] at hm'
    rw [List.getElem?_drop] at hq
    rw [er]
    refine hmono _ _ _ _ _ (fun x hx => ?_) (h.kid _ m q hm' hq)
    obtain ⟨h1, h2⟩ := sub_drop hy hx.2
    exact ⟨⟨hx.1, h1⟩, h2⟩
  · have hnd : (pagsOf ks).Nodup := h.nd
    rw [← List.take_append_drop (k + 1) ks, pags_app] at hnd
    exact (List.nodup_append.1 hnd).2.1
end

/-! ### weights -/
theorem first_at (f : Nat → Nat) (T : Nat) : ∀ m, T ≤ f m → ∃ k, k ≤ m ∧ T ≤ f k ∧ ∀ j, j < k → f j < T
  | 0, h => ⟨0, Nat.le_refl _, h, fun j hj => absurd hj (Nat.not_lt_zero _)⟩
  | m + 1, h => by
    by_cases hm : T ≤ f m
    · obtain ⟨k, h1, h2, h3⟩ := first_at f T m hm
      exact ⟨k, by omega, h2, h3⟩
    · by_cases hall : ∃ j, j < m + 1 ∧ T ≤ f j
      · obtain ⟨j, hj, hf⟩ := hall
        obtain ⟨k, h1, h2, h3⟩ := first_at f T j hf
        exact ⟨k, by omega, h2, h3⟩
      · exact ⟨m + 1, Nat.le_refl _, h, fun j hj => by
          rcases Nat.lt_or_ge (f j) T with h1 | h1
          · exact h1
          · exact absurd ⟨j, hj, h1⟩ hall⟩
theorem wt_app : ∀ a b : List ByteArray, wt (a ++ b) = wt a + wt b
  | [], b => by simp [wt]
  | x :: a, b => by rw [List.cons_append, wt, wt, wt_app a b]; omega
theorem wt_split (l : List ByteArray) (i : Nat) : wt (l.take i) + wt (l.drop i) = wt l := by
  induction l generalizing i with
  | nil => simp [wt]
  | cons s l ih =>
    cases i with
    | zero => simp [wt]
    | succ i =>
      rw [List.take_succ_cons, List.drop_succ_cons, wt, wt]
      have := ih i
      omega
theorem wt_step {l : List ByteArray} (hl : ∀ s ∈ l, s.size ≤ 400) (i : Nat) : wt (l.take (i + 1)) ≤ wt (l.take i) + 404 := by
  by_cases hi : i < l.length
  · have h := wt_take (List.getElem?_eq_getElem hi)
    have := hl l[i] (List.getElem_mem hi)
    omega
  · rw [List.take_of_length_le (by omega), List.take_of_length_le (by omega)]; omega
end Go.Proofs.Ytcpahknlabnnbaa.T

namespace Go.Proofs.Ytcpahknlabnnbaa.T
open Go Go.RowKit Go.Sort Go.Proofs.Ytcpahknlabnnbaa.Mem

/-- What a cut must be. -/
structure CutOk (n : Nd) : Prop where
  len : n.sk + 2 ≤ n.recs.length
  lo : 1 ≤ n.cut
  hi : n.cut + n.sk < n.recs.length
  a : (n.some 0 n.cut).size ≤ 1024
  b : (n.some (n.cut + n.sk) n.recs.length).size ≤ 1024
theorem CutOk.n1 {n : Nd} (h : CutOk n) : 1 ≤ (n.some 0 n.cut).recs.length := by
  have := h.lo
  have := h.hi
  unfold Nd.some
  simp only [List.drop_zero, Nat.sub_zero, List.length_take]
  omega
theorem CutOk.n2 {n : Nd} (h : CutOk n) : 1 ≤ (n.some (n.cut + n.sk) n.recs.length).recs.length := by
  have := h.hi
  unfold Nd.some
  simp only [List.length_take, List.length_drop]
  omega
theorem cut_range {n : Nd} (h : n.sk + 2 ≤ n.recs.length) : 1 ≤ n.cut ∧ n.cut + n.sk < n.recs.length := by
  have h1 := cutN_pos n (n.recs.length - n.sk - 2)
  have h2 := cutN_le n (n.recs.length - n.sk - 1)
  rw [show n.recs.length - n.sk - 2 + 1 = n.recs.length - n.sk - 1 by omega] at h1
  unfold Nd.cut
  omega
theorem cut_best {n : Nd} {j : Nat} (h1 : 1 ≤ j) (h2 : j + n.sk < n.recs.length) : n.side n.cut ≤ n.side j := cutN_best n _ j h1 (by omega)
theorem cut_leaf {n : Nd} (hl : n.leaf = true) (hk : n.kids = []) (hr : ∀ s ∈ n.recs, s.size ≤ 400) (h1 : 1024 < n.size) (h2 : n.size ≤ 1428) : CutOk n := by
  have hsk : n.sk = 0 := by unfold Nd.sk; rw [if_pos hl]
  have hea : n.ea = 0 := by unfold Nd.ea; rw [if_pos hl]
  have hW : n.size = 3 + wt n.recs := by unfold Nd.size; rw [hk]; simp
  obtain ⟨j, a1, a2, a3⟩ := first_at (fun i => wt (n.recs.take i)) (wt n.recs - 1021) n.recs.length (by simp only [List.take_length]; omega)
  have hj0 : j ≠ 0 := by
    rintro rfl
    simp only [List.take_zero, wt] at a2
    omega
  have hs := wt_step hr (j - 1)
  have hp : wt (n.recs.take (j - 1)) < wt n.recs - 1021 := a3 (j - 1) (by omega)
  have a2 : wt n.recs - 1021 ≤ wt (n.recs.take j) := a2
  rw [show j - 1 + 1 = j by omega] at hs
  have hsp := wt_split n.recs j
  have hjl : j < n.recs.length := by
    rcases Nat.lt_or_ge j n.recs.length with h | h
    · exact h
    · rw [List.take_of_length_le h] at hs; omega
  have hlen : n.sk + 2 ≤ n.recs.length := by omega
  obtain ⟨c1, c2⟩ := cut_range hlen
  have hb := cut_best (n := n) (j := j) (by omega) (by omega)
  have hside : n.side j ≤ 1021 := by unfold Nd.side; rw [hsk, hea, Nat.add_zero]; omega
  have hc : n.side n.cut ≤ 1021 := Nat.le_trans hb hside
  unfold Nd.side at hc
  rw [hsk, hea, Nat.add_zero] at hc
  refine ⟨hlen, c1, c2, ?_, ?_⟩
  · unfold Nd.some Nd.size
    rw [if_pos hl]
    simp only [List.length_nil, List.drop_zero, Nat.sub_zero]
    omega
  · unfold Nd.some Nd.size
    rw [if_pos hl, hsk, Nat.add_zero]
    simp only [List.length_nil]
    rw [List.take_of_length_le (by rw [List.length_drop]; exact Nat.le_refl _)]
    omega
theorem cut_inner {n : Nd} (hl : n.leaf = false) (hk : n.kids.length = n.recs.length + 1) (hr : ∀ s ∈ n.recs, s.size ≤ 400) (h1 : 1024 < n.size) (h2 : n.size ≤ 1432) : CutOk n := by
  have hsk : n.sk = 1 := by unfold Nd.sk; rw [if_neg (by rw [hl]; simp)]
  have hea : n.ea = 4 := by unfold Nd.ea; rw [if_neg (by rw [hl]; simp)]
  have hW : n.size = 7 + (wt n.recs + 4 * n.recs.length) := by unfold Nd.size; rw [hk]; omega
  obtain ⟨j, a1, a2, a3⟩ := first_at (fun i => wt (n.recs.take i) + 4 * i) (wt n.recs + 4 * n.recs.length - 1017) n.recs.length (by simp only [List.take_length]; omega)
  have a2 : wt n.recs + 4 * n.recs.length - 1017 ≤ wt (n.recs.take j) + 4 * j := a2
  have a3 : ∀ i, i < j → wt (n.recs.take i) + 4 * i < wt n.recs + 4 * n.recs.length - 1017 := a3
  have hj0 : j ≠ 0 := by
    rintro rfl
    simp only [List.take_zero, wt] at a2
    omega
  -- m: at least two
  obtain ⟨m, hm, hmj⟩ : ∃ m, m = max 2 j ∧ j ≤ m := ⟨_, rfl, Nat.le_max_right _ _⟩
  have w1 := wt_step hr 0
  have w2 := wt_step hr 1
  simp only [List.take_zero, wt, Nat.zero_add] at w1
  rw [show 1 + 1 = 2 from rfl] at w2
  have hpre : wt (n.recs.take (m - 1)) + 4 * (m - 1) ≤ 1017 ∧ wt (n.recs.take m) + 4 * m ≤ 816 := by
    rcases Nat.lt_or_ge 2 j with h | h
    · have hmm : m = j := by omega
      have hp := a3 (j - 1) (by omega)
      have hs := wt_step hr (j - 1)
      rw [show j - 1 + 1 = j by omega] at hs
      rw [hmm]
      omega
    · have hmm : m = 2 := by omega
      rw [hmm, show 2 - 1 = 1 from rfl]
      omega
  have hmono : wt n.recs + 4 * n.recs.length - 1017 ≤ wt (n.recs.take m) + 4 * m := by
    rcases Nat.lt_or_ge j m with h | h
    · have h12 : j = 1 ∧ m = 2 := by omega
      obtain ⟨rfl, e⟩ := h12
      rw [e]
      have := wt_le (l := n.recs.take 2) 1
      rw [List.take_take, Nat.min_eq_left (by omega)] at this
      omega
    · have : m = j := by omega
      rw [this]; exact a2
  have hml : m < n.recs.length := by
    rcases Nat.lt_or_ge m n.recs.length with h | h
    · exact h
    · have h5 := hpre.2
      rw [List.take_of_length_le h] at h5
      omega
  have hsp := wt_split n.recs m
  have hlen : n.sk + 2 ≤ n.recs.length := by omega
  obtain ⟨c1, c2⟩ := cut_range hlen
  have hb := cut_best (n := n) (j := m - 1) (by omega) (by omega)
  have hside : n.side (m - 1) ≤ 1017 := by
    unfold Nd.side
    rw [hsk, hea, show m - 1 + 1 = m by omega]
    omega
  have hc : n.side n.cut ≤ 1017 := Nat.le_trans hb hside
  unfold Nd.side at hc
  rw [hsk, hea] at hc
  refine ⟨hlen, c1, c2, ?_, ?_⟩
  · unfold Nd.some Nd.size
    rw [if_neg (by rw [hl]; simp)]
    simp only [List.drop_zero, Nat.sub_zero, List.length_take]
    omega
  · unfold Nd.some Nd.size
    rw [if_neg (by rw [hl]; simp), hsk]
    simp only [List.length_take, List.length_drop]
    rw [List.take_of_length_le (by rw [List.length_drop]; exact Nat.le_refl _)]
    omega
end Go.Proofs.Ytcpahknlabnnbaa.T

namespace Go.Proofs.Ytcpahknlabnnbaa.T
open Go Go.RowKit Go.Sort Go.Proofs.Ytcpahknlabnnbaa.Mem

theorem put_same {A : Ar} {i : Nat} (h : inUse A i) (bs : List UInt8) : (A.put i bs).pages[i]? = some (some bs) := by
  obtain ⟨b, hb⟩ := h
  unfold Ar.put
  exact List.getElem?_set_self (List.getElem?_eq_some_iff.1 hb).1
theorem put_other {A : Ar} {i p : Nat} (hp : p ≠ i) (bs : List UInt8) : (A.put i bs).pages[p]? = A.pages[p]? := by
  unfold Ar.put
  exact List.getElem?_set_ne (Ne.symm hp)
theorem put_ok {A : Ar} {i : Nat} (hA : A.Ok) (h : inUse A i) (bs : List UInt8) : (A.put i bs).Ok := by
  refine ⟨hA.q, fun n hn => ?_, hA.nd⟩
  obtain ⟨h1, h2, h3⟩ := hA.free n hn
  refine ⟨h1, by unfold Ar.put; rw [List.length_set]; exact h2, ?_⟩
  rw [put_other]
  · exact h3
  · rintro e
    obtain ⟨b, hb⟩ := h
    rw [e, hb] at h3
    simp at h3
theorem put_used (A : Ar) (i : Nat) (bs : List UInt8) : (A.put i bs).used = A.used := by unfold Ar.used Ar.put; simp
theorem put_use {A : Ar} {i p : Nat} (h : inUse A i) (bs : List UInt8) : inUse (A.put i bs) p ↔ inUse A p := by
  by_cases hp : p = i
  · subst hp
    exact ⟨fun _ => h, fun _ => ⟨_, put_same h bs⟩⟩
  · unfold inUse; rw [put_other hp]
/-- What a new page does. -/
structure NewPg (A : Ar) (i : Nat) : Prop where
  id : A.nextId = (i : Int) + 1
  at' : A.alloc.pages[i]? = some (some zeroPg)
  fresh : ¬ inUse A i
  other : ∀ p, p ≠ i → inUse A p → A.alloc.pages[p]? = A.pages[p]?
  back : ∀ p, p ≠ i → inUse A.alloc p → inUse A p
  ok : A.alloc.Ok
  used : A.alloc.used = A.used + 1
  q : A.alloc.quota = A.quota
  le : i + 1 ≤ 4096
theorem new_page {A : Ar} (hA : A.Ok) (hl : 0 < A.left) (hnp : A.pages.length ≤ 4096) : ∃ i, NewPg A i := by
  have hq := hA.q
  cases hf : A.free.getLast? with
  | none =>
    have h0 : A.free = [] := List.getLast?_eq_none_iff.1 hf
    have hu : A.used = A.pages.length := by unfold Ar.used; rw [h0]; simp
    have hlt : (A.pages.length : Int) < A.quota := by
      unfold Ar.left at hl
      rw [hu] at hl
      omega
    have ea : A.alloc = { A with pages := A.pages ++ [some zeroPg] } := by unfold Ar.alloc; rw [hf]
    have ho : ∀ p, p ≠ A.pages.length → A.alloc.pages[p]? = A.pages[p]? := fun p hp => by
      rw [ea]
      rcases Nat.lt_or_ge p A.pages.length with h | h
      · exact List.getElem?_append_left h
      · rw [List.getElem?_eq_none (by simp; omega), List.getElem?_eq_none h]
    refine ⟨A.pages.length, ?_, ?_, ?_, fun p hp _ => ho p hp, fun p hp h => ?_, ⟨?_, ?_, ?_⟩, ?_, by rw [ea], by omega⟩
    · unfold Ar.nextId; rw [hf]
    · rw [ea]; simp
    · rintro ⟨b, hb⟩
      have := (List.getElem?_eq_some_iff.1 hb).1
      omega
    · unfold inUse at *; rw [← ho p hp]; exact h
    · rw [ea]; exact hA.q
    · rw [ea]; intro n hn; rw [show A.free = [] from h0] at hn; simp at hn
    · rw [ea]; exact hA.nd
    · rw [ea]; unfold Ar.used; simp only [List.length_append, List.length_singleton]; omega
  | some n =>
    have hm := List.mem_of_getLast? hf
    obtain ⟨h1, h2, h3⟩ := hA.free n hm
    have ea : A.alloc = { A with pages := A.pages.set (n - 1).toNat (some zeroPg), free := A.free.dropLast } := by unfold Ar.alloc; rw [hf]
    have hlt : (n - 1).toNat < A.pages.length := by omega
    have hfd : A.free = A.free.dropLast ++ [n] := by
      have hne : A.free ≠ [] := by rintro h; rw [h] at hm; simp at hm
      have := List.dropLast_concat_getLast hne
      rw [List.getLast?_eq_some_getLast hne] at hf
      simp only [Option.some.injEq] at hf
      rw [hf] at this
      exact this.symm
    have hlen : A.free.length = A.free.dropLast.length + 1 := by have := congrArg List.length hfd; rwa [List.length_append, List.length_singleton] at this
    have ho : ∀ p, p ≠ (n - 1).toNat → A.alloc.pages[p]? = A.pages[p]? := fun p hp => by
      rw [ea]; exact List.getElem?_set_ne (Ne.symm hp)
    refine ⟨(n - 1).toNat, ?_, ?_, ?_, fun p hp _ => ho p hp, fun p hp h => ?_, ⟨?_, ?_, ?_⟩, ?_, by rw [ea], by omega⟩
    · unfold Ar.nextId; rw [hf]; show n = _; omega
    · rw [ea]; exact List.getElem?_set_self hlt
    · rintro ⟨b, hb⟩
      rw [h3] at hb
      simp at hb
    · unfold inUse at *; rw [← ho p hp]; exact h
    · rw [ea]; exact hA.q
    · intro k hk
      rw [ea] at hk ⊢
      have hnd := hA.nd
      rw [hfd] at hnd
      have hkn : k ≠ n := fun e => by
        subst e
        exact (List.nodup_append.1 hnd).2.2 k hk k (List.mem_singleton.2 rfl) rfl
      obtain ⟨g1, g2, g3⟩ := hA.free k (by rw [hfd]; exact List.mem_append_left _ hk)
      refine ⟨g1, by simpa using g2, ?_⟩
      show (A.pages.set (n - 1).toNat (some zeroPg))[(k - 1).toNat]? = _
      rw [List.getElem?_set_ne (by omega)]
      exact g3
    · rw [ea]
      have hnd := hA.nd
      rw [hfd] at hnd
      exact (List.nodup_append.1 hnd).1
    · rw [ea]; unfold Ar.used; simp only [List.length_set]; omega
end Go.Proofs.Ytcpahknlabnnbaa.T

namespace Go.Proofs.Ytcpahknlabnnbaa.T
open Go Go.RowKit Go.Sort Go.Proofs.Ytcpahknlabnnbaa.Mem

/-- What a node holds, and what lies below it (the pages bl). -/
def Cont (μ : Nat → Nat) (A : Ar) : Nat → Bnd → Nd → List ByteArray → List Nat → Prop
  | 0, B, n, es, bl => n.leaf = true ∧ n.kids = [] ∧ Rise n.recs ∧ (∀ r ∈ n.recs, B r) ∧ es = n.recs ∧ bl = []
  | h + 1, B, n, es, bl => ∃ ks, Body (Sub μ A h) B n ks ∧ es = entsOf ks ∧ bl = pagsOf ks
section
variable {μ : Nat → Nat} {A A' : Ar} {B : Bnd} {n : Nd} {es : List ByteArray} {bl ps : List Nat}
theorem Cont.sub {h i : Nat} (hc : Cont μ A h B n es bl) (hp : A.pages[i]? = some (some (enc n))) (hn : n.Ok ∧ μ h ≤ n.recs.length) (hi : i ∉ bl) : Sub μ A h i B es (i :: bl) := by
  cases h with
  | zero =>
    obtain ⟨h1, h2, h3, h4, rfl, rfl⟩ := hc
    exact ⟨n, hp, hn, h1, h4, rfl, rfl⟩
  | succ h =>
    obtain ⟨ks, h1, rfl, rfl⟩ := hc
    exact ⟨n, ks, hp, hn, h1, hi, rfl, rfl⟩
theorem Sub.cont {h i : Nat} (hs : Sub μ A h i B es ps) : ∃ n bl, A.pages[i]? = some (some (enc n)) ∧ (n.Ok ∧ μ h ≤ n.recs.length) ∧ Cont μ A h B n es bl ∧ i ∉ bl ∧ ps = i :: bl := by
  cases h with
  | zero =>
    obtain ⟨n, h1, h2, h3, h4, rfl, rfl⟩ := hs
    exact ⟨n, [], h1, h2, ⟨h3, h2.1.shp.leaf h3, h2.1.shp.rise, h4, rfl, rfl⟩, by simp, rfl⟩
  | succ h =>
    obtain ⟨n, ks, h1, h2, h3, h4, rfl, rfl⟩ := hs
    exact ⟨n, _, h1, h2, ⟨ks, h3, rfl, rfl⟩, h4, rfl⟩
theorem Cont.frame {h : Nat} (hc : Cont μ A h B n es bl) (hf : ∀ p ∈ bl, A'.pages[p]? = A.pages[p]?) : Cont μ A' h B n es bl := by
  cases h with
  | zero => exact hc
  | succ h =>
    obtain ⟨ks, h1, rfl, rfl⟩ := hc
    exact ⟨ks, h1.imp (fun j p _ _ hp hs => hs.frame fun q hq => hf q (mem_pags.2 ⟨j, p, hp, hq⟩)), rfl, rfl⟩
theorem Cont.use {h : Nat} (hc : Cont μ A h B n es bl) : ∀ p ∈ bl, inUse A p := by
  cases h with
  | zero =>
    obtain ⟨h1, h2, h3, h4, rfl, rfl⟩ := hc
    intro p hp; simp at hp
  | succ h =>
    obtain ⟨ks, h1, rfl, rfl⟩ := hc
    intro p hp
    obtain ⟨j, q, hq, hp⟩ := mem_pags.1 hp
    obtain ⟨k, _, hs⟩ := h1.at hq
    exact hs.use p hp
theorem Cont.nodup {h : Nat} (hc : Cont μ A h B n es bl) : bl.Nodup := by
  cases h with
  | zero =>
    obtain ⟨h1, h2, h3, h4, rfl, rfl⟩ := hc
    simp
  | succ h =>
    obtain ⟨ks, h1, rfl, rfl⟩ := hc
    exact h1.nd
theorem sub_mono' {h : Nat} : ∀ (i : Nat) (B B' : Bnd) (es : List ByteArray) (ps : List Nat), (∀ x, B x → B' x) → Sub μ A h i B es ps → Sub μ A h i B' es ps := fun _ _ _ _ _ hb hs => hs.mono hb
/-- The halves of a node. -/
theorem Cont.halves {h : Nat} (hc : Cont μ A h B n es bl) (hk : CutOk n) : ∃ y es1 bl1 es2 bl2, n.recs[n.cut]? = some y ∧ es = es1 ++ es2 ∧ bl = bl1 ++ bl2 ∧ Cont μ A h (fun x => B x ∧ ltB x y = true) (n.some 0 n.cut) es1 bl1 ∧ Cont μ A h (fun x => B x ∧ ltB x y = false) (n.some (n.cut + n.sk) n.recs.length) es2 bl2 ∧ B y ∧ ∃ z, B z ∧ ltB z y = true := by
  have hhi := hk.hi
  have hlo := hk.lo
  have hy : n.recs[n.cut]? = some n.recs[n.cut] := List.getElem?_eq_getElem (by omega)
  cases h with
  | zero =>
    obtain ⟨h1, h2, h3, h4, rfl, rfl⟩ := hc
    have hsk : n.sk = 0 := by unfold Nd.sk; rw [if_pos h1]
    have e1 : (n.some 0 n.cut).recs = n.recs.take n.cut := by unfold Nd.some; simp
    have e2 : (n.some (n.cut + n.sk) n.recs.length).recs = n.recs.drop n.cut := by
      unfold Nd.some
      rw [hsk, Nat.add_zero]
      exact List.take_of_length_le (by rw [List.length_drop]; exact Nat.le_refl _)
    have hall := h3
    unfold Rise at hall
    have hsp := split_at hy
    rw [hsp] at hall
    have hr := rise_app.1 hall
    refine ⟨_, n.recs.take n.cut, [], n.recs.drop n.cut, [], hy, (List.take_append_drop _ _).symm, rfl, ⟨h1, by unfold Nd.some; rw [if_pos h1], by rw [e1]; exact h3.sublist (List.take_sublist _ _), ?_, e1.symm, rfl⟩, ⟨h1, by unfold Nd.some; rw [if_pos h1], by rw [e2]; exact h3.sublist (List.drop_sublist _ _), ?_, e2.symm, rfl⟩, h4 _ (List.getElem_mem _), ?_⟩
    · intro r hr'
      rw [e1] at hr'
      exact ⟨h4 r (List.mem_of_mem_take hr'), hr.2.2 r hr' _ List.mem_cons_self⟩
    · intro r hr'
      rw [e2] at hr'
      refine ⟨h4 r (List.mem_of_mem_drop hr'), ?_⟩
      rw [List.drop_eq_getElem_cons (by omega)] at hr'
      rcases List.mem_cons.1 hr' with rfl | hr'
      · exact ltB_irrefl _
      · exact ltB_asymm (rise_head hr.2.1 r hr')
    · have h0 : n.recs[0] ∈ n.recs.take n.cut := List.mem_of_getElem? (i := 0) (by rw [List.getElem?_take_of_lt (by omega), List.getElem?_eq_getElem (by omega)])
      exact ⟨n.recs[0], h4 _ (List.getElem_mem _), hr.2.2 _ h0 _ List.mem_cons_self⟩
  | succ h =>
    obtain ⟨ks, h1, rfl, rfl⟩ := hc
    have hsk : n.sk = 1 := by unfold Nd.sk; rw [if_neg (by rw [h1.inner]; simp)]
    obtain ⟨hb, z, hz1, hz2⟩ := h1.recs _ (List.mem_of_getElem? hy)
    refine ⟨_, entsOf (ks.take (n.cut + 1)), pagsOf (ks.take (n.cut + 1)), entsOf (ks.drop (n.cut + 1)), pagsOf (ks.drop (n.cut + 1)), hy, ?_, ?_, ⟨_, h1.left hy sub_mono', rfl, rfl⟩, ⟨_, by rw [hsk]; exact h1.right hy sub_mono', rfl, rfl⟩, hb, z, hz1, hz2⟩
    · rw [← ents_app, List.take_append_drop]
    · rw [← pags_app, List.take_append_drop]
end
/-- The halves of a node have the right shape. -/
theorem Nd.Shp.halves {n : Nd} (h : n.Shp) (hk : CutOk n) : (n.some 0 n.cut).Shp ∧ (n.some (n.cut + n.sk) n.recs.length).Shp := by
  have hhi := hk.hi
  constructor
  · refine ⟨fun e => ?_, fun e => ?_, ?_, fun s hs => ?_, fun k hk' => ?_⟩
    · have e' : n.leaf = true := e
      unfold Nd.some; rw [if_pos e']
    · have e' : n.leaf = false := e
      have := h.inner e'
      have hsk : n.sk = 1 := by unfold Nd.sk; rw [if_neg (by rw [e']; simp)]
      unfold Nd.some
      rw [if_neg (by rw [e']; simp)]
      simp only [List.length_take, List.length_drop]
      omega
    · exact h.rise.sublist ((List.take_sublist _ _).trans (List.drop_sublist _ _))
    · exact h.recs s (List.mem_of_mem_drop (List.mem_of_mem_take hs))
    · cases e : n.leaf with
      | true => unfold Nd.some at hk'; rw [if_pos e] at hk'; simp at hk'
      | false =>
        unfold Nd.some at hk'
        rw [if_neg (by rw [e]; simp)] at hk'
        exact h.kids k (List.mem_of_mem_drop (List.mem_of_mem_take hk'))
  · refine ⟨fun e => ?_, fun e => ?_, ?_, fun s hs => ?_, fun k hk' => ?_⟩
    · have e' : n.leaf = true := e
      unfold Nd.some; rw [if_pos e']
    · have e' : n.leaf = false := e
      have := h.inner e'
      have hsk : n.sk = 1 := by unfold Nd.sk; rw [if_neg (by rw [e']; simp)]
      unfold Nd.some
      rw [if_neg (by rw [e']; simp)]
      simp only [List.length_take, List.length_drop]
      omega
    · exact h.rise.sublist ((List.take_sublist _ _).trans (List.drop_sublist _ _))
    · exact h.recs s (List.mem_of_mem_drop (List.mem_of_mem_take hs))
    · cases e : n.leaf with
      | true => unfold Nd.some at hk'; rw [if_pos e] at hk'; simp at hk'
      | false =>
        unfold Nd.some at hk'
        rw [if_neg (by rw [e]; simp)] at hk'
        exact h.kids k (List.mem_of_mem_drop (List.mem_of_mem_take hk'))
end Go.Proofs.Ytcpahknlabnnbaa.T

namespace Go.Proofs.Ytcpahknlabnnbaa.T
open Go Go.RowKit Go.Sort Go.Proofs.Ytcpahknlabnnbaa.Mem

/-- What an insertion below page i leaves: es', ps'; sep, r: what was split off (0: nothing). -/
structure InsOut (μ : Nat → Nat) (A A' : Ar) (h i : Nat) (B : Bnd) (s : ByteArray) (es : List ByteArray) (ps : List Nat) (sep : ByteArray) (r : Nat) (es' : List ByteArray) (ps' : List Nat) : Prop where
  ok : A'.Ok
  q : A'.quota = A.quota
  fr : ∀ p, inUse A p → p ∉ ps → A'.pages[p]? = A.pages[p]?
  mem : ∀ x, x ∈ es' ↔ x = s ∨ x ∈ es
  new : ∀ p ∈ ps', p ∈ ps ∨ ¬ inUse A p
  old : ∀ p ∈ ps, p ∈ ps'
  used : A'.used - A.used = (ps'.length : Int) - (ps.length : Int)
  len : ps'.length ≤ ps.length + h + 1
  back : ∀ p, inUse A' p → inUse A p ∨ p ∈ ps'
  fit : h = 0 → 7 + wt es + s.size ≤ 1024 → r = 0
  out : (r = 0 ∧ Sub μ A' h i B es' ps') ∨ ((1 ≤ r ∧ r ≤ 4096) ∧ (1 ≤ sep.size ∧ sep.size ≤ 400) ∧ B sep ∧ (∃ y, B y ∧ ltB y sep = true) ∧ ∃ es1 ps1 es2 ps2, es' = es1 ++ es2 ∧ ps' = ps1 ++ ps2 ∧ ps'.Nodup ∧ Sub μ A' h i (fun x => B x ∧ ltB x sep = true) es1 ps1 ∧ Sub μ A' h (r - 1) (fun x => B x ∧ ltB x sep = false) es2 ps2)
/-- On the way: the node n with s put in isn't laid yet. -/
structure Mid (μ : Nat → Nat) (A A1 : Ar) (h i : Nat) (B : Bnd) (s : ByteArray) (es : List ByteArray) (ps : List Nat) (n : Nd) (es' : List ByteArray) (bl : List Nat) : Prop where
  ok : A1.Ok
  q : A1.quota = A.quota
  fr : ∀ p, inUse A p → p ∉ ps → A1.pages[p]? = A.pages[p]?
  mem : ∀ x, x ∈ es' ↔ x = s ∨ x ∈ es
  new : ∀ p ∈ bl, p ∈ ps ∨ ¬ inUse A p
  old : ∀ p ∈ ps, p = i ∨ p ∈ bl
  used : A1.used - A.used = (bl.length : Int) + 1 - (ps.length : Int)
  len : bl.length + 1 ≤ ps.length + h
  back : ∀ p, inUse A1 p → inUse A p ∨ p ∈ bl
  cont : Cont μ A1 h B n es' bl
  ii : i ∉ bl
  use : inUse A1 i
  ps : i ∈ ps
  shp : n.Shp
  cnt : 1 ≤ n.recs.length
  sz : h = 0 → n.size = 7 + wt es + s.size
section
variable {μ : Nat → Nat} {A A1 : Ar} {h i : Nat} {B : Bnd} {s : ByteArray} {es : List ByteArray} {ps : List Nat} {n : Nd} {es' : List ByteArray} {bl : List Nat}
theorem Mid.fits (m : Mid μ A A1 h i B s es ps n es' bl) (hμ : ∀ l, μ l ≤ 1) (hz : n.size ≤ 1024) : InsOut μ A (A1.put i (enc n)) h i B s es ps ⟨#[]⟩ 0 es' (i :: bl) := by
  refine ⟨put_ok m.ok m.use _, m.q, fun p hp hps => ?_, m.mem, fun p hp => ?_, fun p hp => ?_, ?_, ?_, fun p hp => ?_, fun _ _ => rfl, .inl ⟨rfl, ?_⟩⟩
  · rw [put_other (fun e => hps (by rw [e]; exact m.ps))]
    exact m.fr p hp hps
  · rcases List.mem_cons.1 hp with rfl | hp
    · exact .inl m.ps
    · exact m.new p hp
  · rcases m.old p hp with rfl | hp
    · exact List.mem_cons_self
    · exact List.mem_cons_of_mem _ hp
  · rw [put_used, List.length_cons]; have := m.used; omega
  · rw [List.length_cons]; have := m.len; omega
  · rcases m.back p ((put_use m.use _).1 hp) with h1 | h1
    · exact .inl h1
    · exact .inr (List.mem_cons_of_mem _ h1)
  · exact (m.cont.frame (fun p hp => put_other (fun e => m.ii (by rw [← e]; exact hp)) _)).sub (put_same m.use _) ⟨⟨m.shp, hz⟩, Nat.le_trans (hμ h) m.cnt⟩ m.ii
theorem Mid.split (m : Mid μ A A1 h i B s es ps n es' bl) (hμ : ∀ l, μ l ≤ 1) (hbig : 1024 < n.size) (hk : CutOk n) {y : ByteArray} (hy : n.recs[n.cut]? = some y) {r : Nat} (hr : NewPg (A1.put i (enc (n.some 0 n.cut))) r) :
    ∃ ps', InsOut μ A ((A1.put i (enc (n.some 0 n.cut))).alloc.put r (enc (n.some (n.cut + n.sk) n.recs.length))) h i B s es ps y (r + 1) es' ps' := by
  obtain ⟨y', es1, bl1, es2, bl2, hy', rfl, rfl, c1, c2, hb, hz⟩ := m.cont.halves hk
  rw [hy] at hy'
  simp only [Option.some.injEq] at hy'
  subst hy'
  obtain ⟨s1, s2⟩ := m.shp.halves hk
  have hri : r ≠ i := fun e => hr.fresh (by rw [e]; exact ⟨_, put_same m.use _⟩)
  have hrf : ¬ inUse A1 r := fun e => hr.fresh ((put_use m.use _).2 e)
  have hrA : ¬ inUse A r ∨ r ∈ ps := by
    by_cases hp : r ∈ ps
    · exact .inr hp
    · refine .inl fun e => hrf ?_
      obtain ⟨b, hb'⟩ := e
      exact ⟨b, (m.fr r ⟨b, hb'⟩ hp).trans hb'⟩
  have hrps : r ∉ ps := fun e => by
    rcases m.old r e with h1 | h1
    · exact hri h1
    · exact hrf (m.cont.use r h1)
  have hru : ¬ inUse A r := hrA.resolve_right hrps
  have hrbl : ∀ p ∈ bl1 ++ bl2, p ≠ r := fun p hp e => hrf (by rw [← e]; exact m.cont.use p hp)
  have hib : ∀ p ∈ bl1 ++ bl2, p ≠ i := fun p hp e => m.ii (by rw [← e]; exact hp)
  have hru' : inUse (A1.put i (enc (n.some 0 n.cut))).alloc r := ⟨_, hr.at'⟩
  have hget : ∀ p, p ≠ r → p ≠ i → inUse A1 p → ((A1.put i (enc (n.some 0 n.cut))).alloc.put r (enc (n.some (n.cut + n.sk) n.recs.length))).pages[p]? = A1.pages[p]? := fun p h1 h2 h3 => by
    rw [put_other h1, hr.other p h1 ((put_use m.use _).2 h3), put_other h2]
  have hgi : ((A1.put i (enc (n.some 0 n.cut))).alloc.put r (enc (n.some (n.cut + n.sk) n.recs.length))).pages[i]? = some (some (enc (n.some 0 n.cut))) := by
    rw [put_other (Ne.symm hri), hr.other i (Ne.symm hri) ⟨_, put_same m.use _⟩, put_same m.use]
  have hnd := m.cont.nodup
  have hnd2 := List.nodup_append.1 hnd
  refine ⟨(i :: bl1) ++ (r :: bl2), ⟨put_ok hr.ok hru' _, ?_, fun p hp hps => ?_, m.mem, fun p hp => ?_, fun p hp => ?_, ?_, ?_, fun p hp => ?_, (fun h0 hle => by have := m.sz h0; omega), .inr ⟨⟨by omega, hr.le⟩, m.shp.recs y (List.mem_of_getElem? hy), hb, hz, es1, i :: bl1, es2, r :: bl2, rfl, rfl, ?_, ?_, ?_⟩⟩⟩
  · show (A1.put i (enc (n.some 0 n.cut))).alloc.quota = A.quota
    rw [hr.q]; exact m.q
  · have h1 : p ≠ i := fun e => hps (by rw [e]; exact m.ps)
    have h2 : p ≠ r := fun e => hru (by rw [← e]; exact hp)
    have h3 := m.fr p hp hps
    obtain ⟨b, hb'⟩ := hp
    rw [hget p h2 h1 ⟨b, h3.trans hb'⟩]
    exact h3
  · rcases List.mem_append.1 hp with hp | hp
    · rcases List.mem_cons.1 hp with rfl | hp
      · exact .inl m.ps
      · exact m.new p (List.mem_append_left _ hp)
    · rcases List.mem_cons.1 hp with rfl | hp
      · exact .inr hru
      · exact m.new p (List.mem_append_right _ hp)
  · rcases m.old p hp with rfl | hp
    · exact List.mem_append_left _ List.mem_cons_self
    · rcases List.mem_append.1 hp with hp | hp
      · exact List.mem_append_left _ (List.mem_cons_of_mem _ hp)
      · exact List.mem_append_right _ (List.mem_cons_of_mem _ hp)
  · rw [put_used, hr.used, put_used]
    have := m.used
    simp only [List.length_append, List.length_cons] at this ⊢
    omega
  · have := m.len
    simp only [List.length_append, List.length_cons] at this ⊢
    omega
  · by_cases h1 : p = r
    · exact .inr (by rw [h1]; exact List.mem_append_right _ List.mem_cons_self)
    · have h2 := hr.back p h1 ((put_use hru' _).1 hp)
      rcases m.back p ((put_use m.use _).1 h2) with h3 | h3
      · exact .inl h3
      · refine .inr ?_
        rcases List.mem_append.1 h3 with h3 | h3
        · exact List.mem_append_left _ (List.mem_cons_of_mem _ h3)
        · exact List.mem_append_right _ (List.mem_cons_of_mem _ h3)
  · rw [List.nodup_append]
    refine ⟨List.nodup_cons.2 ⟨fun e => hib i (List.mem_append_left _ e) rfl, hnd2.1⟩, List.nodup_cons.2 ⟨fun e => hrbl r (List.mem_append_right _ e) rfl, hnd2.2.1⟩, fun a ha b hb' e => ?_⟩
    subst e
    rcases List.mem_cons.1 ha with rfl | ha
    · rcases List.mem_cons.1 hb' with h1 | h1
      · exact hri h1.symm
      · exact hib _ (List.mem_append_right _ h1) rfl
    · rcases List.mem_cons.1 hb' with h1 | h1
      · exact hrbl a (List.mem_append_left _ ha) h1
      · exact hnd2.2.2 a ha a h1 rfl
  · exact (c1.frame (fun p hp => hget p (hrbl p (List.mem_append_left _ hp)) (hib p (List.mem_append_left _ hp)) (m.cont.use p (List.mem_append_left _ hp)))).sub hgi ⟨⟨s1, hk.a⟩, Nat.le_trans (hμ h) hk.n1⟩ (fun e => hib i (List.mem_append_left _ e) rfl)
  · rw [show r + 1 - 1 = r by omega]
    exact (c2.frame (fun p hp => hget p (hrbl p (List.mem_append_right _ hp)) (hib p (List.mem_append_right _ hp)) (m.cont.use p (List.mem_append_right _ hp)))).sub (put_same hru' _) ⟨⟨s2, hk.b⟩, Nat.le_trans (hμ h) hk.n2⟩ (fun e => hrbl r (List.mem_append_right _ e) rfl)
end
end Go.Proofs.Ytcpahknlabnnbaa.T

namespace Go.Proofs.Ytcpahknlabnnbaa.T
open Go Go.RowKit Go.Sort Go.Proofs.Ytcpahknlabnnbaa.Mem

theorem mid_leaf {μ : Nat → Nat} {A : Ar} {i : Nat} {B : Bnd} {s : ByteArray} {n : Nd} (hA : A.Ok) (hp : A.pages[i]? = some (some (enc n))) (hn : n.Ok) (hl : n.leaf = true) (hb : ∀ r ∈ n.recs, B r) (hB : B s) (hs : 1 ≤ s.size ∧ s.size ≤ 400) (hno : s ∉ n.recs) :
    Mid μ A A 0 i B s n.recs [i] ⟨n.leaf, n.recs.take (kidAt n.recs s) ++ s :: n.recs.drop (kidAt n.recs s), n.kids⟩ (n.recs.take (kidAt n.recs s) ++ s :: n.recs.drop (kidAt n.recs s)) [] := by
  have hrise := rise_put hn.shp.rise hno
  have hm : ∀ x, x ∈ n.recs.take (kidAt n.recs s) ++ s :: n.recs.drop (kidAt n.recs s) ↔ x = s ∨ x ∈ n.recs := fun x => by
    conv => rhs; rw [← List.take_append_drop (kidAt n.recs s) n.recs]
    simp only [List.mem_append, List.mem_cons]
    constructor
    · rintro (h | h | h)
      · exact .inr (.inl h)
      · exact .inl h
      · exact .inr (.inr h)
    · rintro (h | h | h)
      · exact .inr (.inl h)
      · exact .inl h
      · exact .inr (.inr h)
  refine ⟨hA, rfl, fun _ _ _ => rfl, hm, by simp, fun p hp' => .inl (List.mem_singleton.1 hp'), by simp, by simp, fun p hp' => .inl hp', ⟨hl, hn.shp.leaf hl, hrise, fun r hr => ?_, rfl, rfl⟩, by simp, ⟨_, hp⟩, List.mem_singleton.2 rfl, ⟨fun _ => hn.shp.leaf hl, fun e => ?_, hrise, fun r hr => ?_, hn.shp.kids⟩, by show 1 ≤ (n.recs.take (kidAt n.recs s) ++ s :: n.recs.drop (kidAt n.recs s)).length; rw [List.length_append, List.length_cons]; omega, fun _ => ?_⟩
  · rcases (hm r).1 hr with rfl | h
    · exact hB
    · exact hb r h
  · have e' : n.leaf = false := e
    rw [hl] at e'; exact absurd e' (by simp)
  · rcases (hm r).1 hr with rfl | h
    · exact hs
    · exact hn.shp.recs r h
  · have h1 := wt_split n.recs (kidAt n.recs s)
    unfold Nd.size
    simp only [hn.shp.leaf hl, List.length_nil]
    rw [wt_app, wt]
    omega

section
variable {μ : Nat → Nat} {A A1 : Ar} {h i : Nat} {B : Bnd} {s sep : ByteArray} {n : Nd} {ks : List Lo} {j k r : Nat} {p : Lo} {es' : List ByteArray} {ps' : List Nat}
theorem ents_at (hp : ks[j]? = some p) : entsOf ks = entsOf (ks.take j) ++ (p.1 ++ entsOf (ks.drop (j + 1))) := by
  conv => lhs; rw [split_at hp]
  rw [ents_app, ents_cons]
theorem pags_at (hp : ks[j]? = some p) : pagsOf ks = pagsOf (ks.take j) ++ (p.2 ++ pagsOf (ks.drop (j + 1))) := by
  conv => lhs; rw [split_at hp]
  rw [pags_app, pags_cons]
theorem set_at (hp : ks[j]? = some p) (q : Lo) : ks.set j q = ks.take j ++ q :: ks.drop (j + 1) := by
  rw [List.set_eq_take_append_cons_drop, if_pos (List.getElem?_eq_some_iff.1 hp).1]
/-- What holds of the other kids' pages. -/
theorem other_kids (hb : Body (Sub μ A h) B n ks) (hp : ks[j]? = some p) (hfr : ∀ q, inUse A q → q ∉ p.2 → A1.pages[q]? = A.pages[q]?) : ∀ (m : Nat) (q : Lo) (x : Nat) (B' : Bnd), m ≠ j → ks[m]? = some q → Sub μ A h x B' q.1 q.2 → Sub μ A1 h x B' q.1 q.2 := fun m q x B' hm hq hs => by
  refine hs.frame fun y hy => hfr y (hs.use y hy) fun hy2 => ?_
  have hnd : (pagsOf ks).Nodup := hb.nd
  rcases Nat.lt_or_gt_of_ne hm with hlt | hlt
  · rw [pags_at hp, List.nodup_append] at hnd
    refine hnd.2.2 y (mem_pags.2 ⟨m, q, by rw [List.getElem?_take_of_lt hlt]; exact hq, hy⟩) y (List.mem_append_left _ hy2) rfl
  · rw [pags_at hq, List.nodup_append] at hnd
    refine hnd.2.2 y (mem_pags.2 ⟨j, p, by rw [List.getElem?_take_of_lt hlt]; exact hp, hy2⟩) y (List.mem_append_left _ hy) rfl
/-- The kid wasn't split. -/
theorem ins_same (hA : A.pages[i]? = some (some (enc n))) (hn : n.Ok ∧ μ (h + 1) ≤ n.recs.length) (hb : Body (Sub μ A h) B n ks) (hi : i ∉ pagsOf ks) (hk : n.kids[j]? = some k) (hp : ks[j]? = some p)
    (hr : InsOut μ A A1 h (k - 1) (fun x => B x ∧ Sep n.recs j x) s p.1 p.2 sep 0 es' ps') : InsOut μ A A1 (h + 1) i B s (entsOf ks) (i :: pagsOf ks) ⟨#[]⟩ 0 (entsOf (ks.set j (es', ps'))) (i :: pagsOf (ks.set j (es', ps'))) := by
  have hsub : Sub μ A1 h (k - 1) (fun x => B x ∧ Sep n.recs j x) es' ps' := by
    rcases hr.out with h1 | h1
    · exact h1.2
    · have := h1.1.1; omega
  have hiu : inUse A i := ⟨_, hA⟩
  have hip : i ∉ p.2 := fun e => hi (mem_pags.2 ⟨j, p, hp, e⟩)
  have hips : i ∉ ps' := fun e => by
    rcases hr.new i e with h1 | h1
    · exact hip h1
    · exact h1 hiu
  have hbody : Body (Sub μ A1 h) B n (ks.set j (es', ps')) := hb.set (p' := (es', ps')) hk hp hsub (other_kids hb hp hr.fr) hsub.nodup (fun q hq => by
    rcases hr.new q hq with h1 | h1
    · exact .inl h1
    · refine .inr fun h2 => h1 ?_
      obtain ⟨m, q', hm, hq'⟩ := mem_pags.1 h2
      obtain ⟨_, _, hs⟩ := hb.at hm
      exact hs.use q hq')
  have hi2 : i ∉ pagsOf (ks.set j (es', ps')) := by
    rw [set_at hp, pags_app, pags_cons]
    rw [pags_at hp] at hi
    simp only [List.mem_append, not_or] at hi ⊢
    exact ⟨hi.1, hips, hi.2.2⟩
  have hin : ∀ q, q ∈ pagsOf ks → inUse A q := fun q hq => by
    obtain ⟨m, q', hm, hq'⟩ := mem_pags.1 hq
    obtain ⟨_, _, hs⟩ := hb.at hm
    exact hs.use q hq'
  refine ⟨hr.ok, hr.q, fun q hq hqs => hr.fr q hq (fun e => hqs (List.mem_cons_of_mem _ (mem_pags.2 ⟨j, p, hp, e⟩))), fun x => ?_, fun q hq => ?_, fun q hq => ?_, ?_, ?_, fun q hq => ?_, fun _ _ => rfl, .inl ⟨rfl, n, _, (hr.fr i hiu hip).trans hA, hn, hbody, hi2, rfl, rfl⟩⟩
  · rw [set_at hp, ents_app, ents_cons, ents_at hp]
    simp only [List.mem_append]
    rw [hr.mem x]
    constructor
    · rintro (h1 | (h1 | h1) | h1)
      · exact .inr (.inl h1)
      · exact .inl h1
      · exact .inr (.inr (.inl h1))
      · exact .inr (.inr (.inr h1))
    · rintro (h1 | h1 | h1 | h1)
      · exact .inr (.inl (.inl h1))
      · exact .inl h1
      · exact .inr (.inl (.inr h1))
      · exact .inr (.inr h1)
  · rcases List.mem_cons.1 hq with rfl | hq
    · exact .inl List.mem_cons_self
    · rw [set_at hp, pags_app, pags_cons] at hq
      rw [pags_at hp]
      simp only [List.mem_append, List.mem_cons] at hq ⊢
      rcases hq with h1 | h1 | h1
      · exact .inl (.inr (.inl h1))
      · rcases hr.new q h1 with h2 | h2
        · exact .inl (.inr (.inr (.inl h2)))
        · exact .inr h2
      · exact .inl (.inr (.inr (.inr h1)))
  · rcases List.mem_cons.1 hq with rfl | hq
    · exact List.mem_cons_self
    · refine List.mem_cons_of_mem _ ?_
      rw [pags_at hp] at hq
      rw [set_at hp, pags_app, pags_cons]
      simp only [List.mem_append] at hq ⊢
      rcases hq with h1 | h1 | h1
      · exact .inl h1
      · exact .inr (.inl (hr.old q h1))
      · exact .inr (.inr h1)
  · have := hr.used
    rw [pags_at hp, set_at hp, pags_app, pags_cons]
    simp only [List.length_cons, List.length_append]
    omega
  · have := hr.len
    rw [pags_at hp, set_at hp, pags_app, pags_cons]
    simp only [List.length_cons, List.length_append]
    omega
  · rcases hr.back q hq with h1 | h1
    · exact .inl h1
    · refine .inr (List.mem_cons_of_mem _ ?_)
      rw [set_at hp, pags_app, pags_cons]
      exact List.mem_append_right _ (List.mem_append_left _ h1)
/-- The kid was split. -/
theorem mid_inner (hA : A.pages[i]? = some (some (enc n))) (hn : n.Ok) (hb : Body (Sub μ A h) B n ks) (hi : i ∉ pagsOf ks) (hk : n.kids[j]? = some k) (hp : ks[j]? = some p) (hr0 : r ≠ 0)
    (hr : InsOut μ A A1 h (k - 1) (fun x => B x ∧ Sep n.recs j x) s p.1 p.2 sep r es' ps') : ∃ es2 bl2, Mid μ A A1 (h + 1) i B s (entsOf ks) (i :: pagsOf ks) ⟨n.leaf, n.recs.take j ++ sep :: n.recs.drop j, n.kids.take (j + 1) ++ r :: n.kids.drop (j + 1)⟩ es2 bl2 := by
  obtain ⟨hrr, hsz, hbs, hy, e1, p1, e2, p2, rfl, rfl, hnd, s1, s2⟩ : (1 ≤ r ∧ r ≤ 4096) ∧ (1 ≤ sep.size ∧ sep.size ≤ 400) ∧ (B sep ∧ Sep n.recs j sep) ∧ (∃ y, (B y ∧ Sep n.recs j y) ∧ ltB y sep = true) ∧ ∃ es1 ps1 es2 ps2, es' = es1 ++ es2 ∧ ps' = ps1 ++ ps2 ∧ ps'.Nodup ∧ Sub μ A1 h (k - 1) (fun x => (B x ∧ Sep n.recs j x) ∧ ltB x sep = true) es1 ps1 ∧ Sub μ A1 h (r - 1) (fun x => (B x ∧ Sep n.recs j x) ∧ ltB x sep = false) es2 ps2 := by
    rcases hr.out with h1 | h1
    · exact absurd h1.1 hr0
    · exact h1
  have hiu : inUse A i := ⟨_, hA⟩
  have hip : i ∉ p.2 := fun e => hi (mem_pags.2 ⟨j, p, hp, e⟩)
  have hips : i ∉ p1 ++ p2 := fun e => by
    rcases hr.new i e with h1 | h1
    · exact hip h1
    · exact h1 hiu
  have hin : ∀ q, q ∈ pagsOf ks → inUse A q := fun q hq => by
    obtain ⟨m, q', hm, hq'⟩ := mem_pags.1 hq
    obtain ⟨_, _, hs⟩ := hb.at hm
    exact hs.use q hq'
  have hbody := hb.put (S' := Sub μ A1 h) (p1 := (e1, p1)) (p2 := (e2, p2)) (r := r) hk hp s1 s2 hbs hy (other_kids hb hp hr.fr) sub_mono' hnd (fun q hq => by
    rcases hr.new q hq with h1 | h1
    · exact .inl h1
    · exact .inr fun h2 => h1 (hin q h2))
  have hlf : n.leaf = false := hb.inner
  have hii : i ∉ pagsOf (ks.take j ++ (e1, p1) :: (e2, p2) :: ks.drop (j + 1)) := by
    rw [pags_app, pags_cons, pags_cons]
    rw [pags_at hp] at hi
    simp only [List.mem_append, not_or] at hi hips ⊢
    exact ⟨hi.1, hips.1, hips.2, hi.2.2⟩
  refine ⟨entsOf (ks.take j ++ (e1, p1) :: (e2, p2) :: ks.drop (j + 1)), pagsOf (ks.take j ++ (e1, p1) :: (e2, p2) :: ks.drop (j + 1)), hr.ok, hr.q, fun q hq hqs => hr.fr q hq (fun e => hqs (List.mem_cons_of_mem _ (mem_pags.2 ⟨j, p, hp, e⟩))), fun x => ?_, fun q hq => ?_, fun q hq => ?_, ?_, ?_, fun q hq => ?_, ⟨_, by rw [hlf]; exact hbody, rfl, rfl⟩, hii, ?_, List.mem_cons_self, ⟨fun e => ?_, fun _ => hbody.len, hbody.rise, fun x hx => ?_, fun m hm => ?_⟩, by show 1 ≤ (n.recs.take j ++ sep :: n.recs.drop j).length; rw [List.length_append, List.length_cons]; omega, fun e => absurd e (Nat.succ_ne_zero h)⟩
  · rw [ents_app, ents_cons, ents_cons, ents_at hp]
    have := hr.mem x
    simp only [List.mem_append] at this ⊢
    constructor
    · rintro (h1 | h1 | h1 | h1)
      · exact .inr (.inl h1)
      · rcases this.1 (.inl h1) with h2 | h2
        · exact .inl h2
        · exact .inr (.inr (.inl h2))
      · rcases this.1 (.inr h1) with h2 | h2
        · exact .inl h2
        · exact .inr (.inr (.inl h2))
      · exact .inr (.inr (.inr h1))
    · rintro (h1 | h1 | h1 | h1)
      · rcases this.2 (.inl h1) with h2 | h2
        · exact .inr (.inl h2)
        · exact .inr (.inr (.inl h2))
      · exact .inl h1
      · rcases this.2 (.inr h1) with h2 | h2
        · exact .inr (.inl h2)
        · exact .inr (.inr (.inl h2))
      · exact .inr (.inr (.inr h1))
  · rw [pags_app, pags_cons, pags_cons] at hq
    rw [pags_at hp]
    simp only [List.mem_append, List.mem_cons] at hq ⊢
    rcases hq with h1 | h1 | h1 | h1
    · exact .inl (.inr (.inl h1))
    · rcases hr.new q (List.mem_append_left _ h1) with h2 | h2
      · exact .inl (.inr (.inr (.inl h2)))
      · exact .inr h2
    · rcases hr.new q (List.mem_append_right _ h1) with h2 | h2
      · exact .inl (.inr (.inr (.inl h2)))
      · exact .inr h2
    · exact .inl (.inr (.inr (.inr h1)))
  · rcases List.mem_cons.1 hq with rfl | hq
    · exact .inl rfl
    · refine .inr ?_
      rw [pags_at hp] at hq
      rw [pags_app, pags_cons, pags_cons]
      simp only [List.mem_append] at hq ⊢
      rcases hq with h1 | h1 | h1
      · exact .inl h1
      · rcases List.mem_append.1 (hr.old q h1) with h2 | h2
        · exact .inr (.inl h2)
        · exact .inr (.inr (.inl h2))
      · exact .inr (.inr (.inr h1))
  · have := hr.used
    rw [pags_at hp, pags_app, pags_cons, pags_cons]
    simp only [List.length_cons, List.length_append] at this ⊢
    omega
  · have := hr.len
    rw [pags_at hp, pags_app, pags_cons, pags_cons]
    simp only [List.length_cons, List.length_append] at this ⊢
    omega
  · rcases hr.back q hq with h1 | h1
    · exact .inl h1
    · refine .inr ?_
      rw [pags_app, pags_cons, pags_cons]
      simp only [List.mem_append] at h1 ⊢
      rcases h1 with h1 | h1
      · exact .inr (.inl h1)
      · exact .inr (.inr (.inl h1))
  · obtain ⟨b, hb'⟩ := hiu
    exact ⟨b, (hr.fr i ⟨b, hb'⟩ hip).trans hb'⟩
  · have e' : n.leaf = true := e
    rw [hlf] at e'; exact absurd e' (by simp)
  · rcases List.mem_append.1 hx with hx | hx
    · exact hn.shp.recs x (List.mem_of_mem_take hx)
    · rcases List.mem_cons.1 hx with rfl | hx
      · exact hsz
      · exact hn.shp.recs x (List.mem_of_mem_drop hx)
  · rcases List.mem_append.1 hm with hm | hm
    · exact hn.shp.kids m (List.mem_of_mem_take hm)
    · rcases List.mem_cons.1 hm with rfl | hm
      · exact hrr
      · exact hn.shp.kids m (List.mem_of_mem_drop hm)
end
end Go.Proofs.Ytcpahknlabnnbaa.T
