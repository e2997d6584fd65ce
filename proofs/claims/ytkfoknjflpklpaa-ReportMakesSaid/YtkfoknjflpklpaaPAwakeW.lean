/- The reports' example: its walk. -/
import Derived.Test.YtkfoknjflpklpaaPAwake
import Derived.Test.YtkfoknjflpklpaaPMakeW
namespace Go.Proofs.Ytkfoknjflpklpaa.P
open Go Go.RowKit Go.Sort Go.Proofs.Ytkfoknjflpklpaa.Mem Go.Proofs.Ytkfoknjflpklpaa.Cmp Go.Proofs.Ytkfoknjflpklpaa.D

theorem s_set {w : World} {X : Nat} {a0 a1 a2 a3 : Value} {t : TypeId} (h : w.heap[X]? = some (.cells #[a0, a1, a2, a3] t (0, 0))) (u2 u3 : Value) : ((w.setCell ⟨X, 2, none⟩ u2).setCell ⟨X, 3, none⟩ u3).heap[X]? = some (.cells #[a0, a1, u2, u3] t (0, 0)) := by
  simp [World.setCell, Array.getElem?_modify, h]
theorem s_fr {w : World} {X : Nat} {a0 a1 a2 a3 : Value} {t : TypeId} (h : w.heap[X]? = some (.cells #[a0, a1, a2, a3] t (0, 0))) : w.frozen? ⟨X, 2, none⟩ = false ∧ w.frozen? ⟨X, 3, none⟩ = false := by simp [World.frozen?, h]
theorem tRowU_sl {ok : Nat → Prop} {w : World} {v : Value} {rows : List (List Val)} (h : Sl tRowU ok w v rows) : Sl tRow ok w v rows := by
  obtain ⟨A, c, rfl, h1, h2, h3, hn, hr⟩ := h
  refine ⟨A, c, rfl, h1, h2, h3, hn, fun hne => ?_⟩
  obtain ⟨ad, rfl, hb, hlt, hx⟩ := hr hne
  exact ⟨ad, rfl, hb, hlt, fun i x hi => let ⟨cs, hcs, ha⟩ := hx i x hi; ⟨cs, hcs.1, ha⟩⟩
/-- The number of the second value of the first row. -/
theorem rowA_at {ok : Nat → Prop} {w : World} {A : Option Addr} {n c : Nat} {s : ByteArray} {k : Int} {rest : List (List Val)} (h : Sl tRow ok w (.slice A n c) (rowA s k :: rest)) : ∃ ad bd c1, A = some ad ∧ w.cell? ad = some (.slice (some bd) 2 c1) ∧ w.cell? ⟨bd.block, bd.off + 4, none⟩ = some (.int .i64 k) := by
  obtain ⟨ad, r, A1, c1, rfl, hr, x0, hs⟩ := rows_get h.row.1 0 (by simp)
  simp only [List.getElem?_cons_zero, Option.some.injEq] at hr
  subst hr
  obtain ⟨bd, rfl, y0, y1, y2⟩ := vals_get hs.row.1 1 (by simp [rowA])
  refine ⟨ad, bd, c1, rfl, by rw [add_zero] at x0; exact x0, ?_⟩
  rw [add_pos bd (1 * 3) (by decide)] at y1
  exact y1

set_option maxHeartbeats 16000000 in
set_option maxRecDepth 100000 in
theorem awakeCalls28 (w : World) : Calls Try.prog 40 #[] w fun e w' => e = .returned (.bool true) ∧ Below w.heap.size w w' := by
  obtain ⟨N, hN⟩ : ∃ N, N = w.heap.size := ⟨_, rfl⟩
  obtain ⟨w7, hw7⟩ : ∃ w7, w7 = ((((((w.alloc (.cells #[.int .i64 3, .int .i64 0, .string ⟨#[97]⟩, .int .i64 2, .int .i64 1, .string ⟨#[]⟩] 55)).alloc (.cells #[.int .i64 3, .int .i64 0, .string ⟨#[98]⟩, .int .i64 2, .int .i64 5, .string ⟨#[]⟩] 55)).alloc (.cells #[.int .i64 3, .int .i64 0, .string ⟨#[97]⟩, .int .i64 2, .int .i64 2, .string ⟨#[]⟩] 55)).alloc (.cells #[.slice (some ⟨w.heap.size, 0, none⟩) 2 2, .slice (some ⟨w.heap.size + 1, 0, none⟩) 2 2, .slice (some ⟨w.heap.size + 1 + 1, 0, none⟩) 2 2] 30)).alloc (.cells #[.int .i64 0] 3)).alloc (.cells #[.int .i64 3, .int .i64 1] 102)).alloc (.cells #[.slice (some ⟨w.heap.size + 1 + 1 + 1 + 1, 0, none⟩) 1 1, .slice (some ⟨w.heap.size + 1 + 1 + 1 + 1 + 1, 0, none⟩) 1 1, .slice none 0 0, .int .i64 (-1)] 82) := ⟨_, rfl⟩
  have hz7 : w7.heap.size = N + 7 := by rw [hw7, hN]; simp
  have e0 : w7.heap[N]? = some (.cells #[.int .i64 3, .int .i64 0, .string ⟨#[97]⟩, .int .i64 2, .int .i64 1, .string ⟨#[]⟩] 55 (0, 0)) := by rw [hw7, hN]; (simp only [hag, alloc_size, Nat.add_assoc, Nat.reduceAdd]; repeat (first | rfl | rw [if_pos (by omega)] | rw [if_neg (by omega)]))
  have e1 : w7.heap[N + 1]? = some (.cells #[.int .i64 3, .int .i64 0, .string ⟨#[98]⟩, .int .i64 2, .int .i64 5, .string ⟨#[]⟩] 55 (0, 0)) := by rw [hw7, hN]; (simp only [hag, alloc_size, Nat.add_assoc, Nat.reduceAdd]; repeat (first | rfl | rw [if_pos (by omega)] | rw [if_neg (by omega)]))
  have e2 : w7.heap[N + 2]? = some (.cells #[.int .i64 3, .int .i64 0, .string ⟨#[97]⟩, .int .i64 2, .int .i64 2, .string ⟨#[]⟩] 55 (0, 0)) := by rw [hw7, hN]; (simp only [hag, alloc_size, Nat.add_assoc, Nat.reduceAdd]; repeat (first | rfl | rw [if_pos (by omega)] | rw [if_neg (by omega)]))
  have e3 : w7.heap[N + 3]? = some (.cells #[.slice (some ⟨N, 0, none⟩) 2 2, .slice (some ⟨N + 1, 0, none⟩) 2 2, .slice (some ⟨N + 2, 0, none⟩) 2 2] 30 (0, 0)) := by rw [hw7, hN]; (simp only [hag, alloc_size, Nat.add_assoc, Nat.reduceAdd]; repeat (first | rfl | rw [if_pos (by omega)] | rw [if_neg (by omega)]))
  have e4 : w7.heap[N + 4]? = some (.cells #[.int .i64 0] 3 (0, 0)) := by rw [hw7, hN]; (simp only [hag, alloc_size, Nat.add_assoc, Nat.reduceAdd]; repeat (first | rfl | rw [if_pos (by omega)] | rw [if_neg (by omega)]))
  have e5 : w7.heap[N + 5]? = some (.cells #[.int .i64 3, .int .i64 1] 102 (0, 0)) := by rw [hw7, hN]; (simp only [hag, alloc_size, Nat.add_assoc, Nat.reduceAdd]; repeat (first | rfl | rw [if_pos (by omega)] | rw [if_neg (by omega)]))
  have e6 : w7.heap[N + 6]? = some (.cells #[.slice (some ⟨N + 4, 0, none⟩) 1 1, .slice (some ⟨N + 5, 0, none⟩) 1 1, .slice none 0 0, .int .i64 (-1)] 82 (0, 0)) := by rw [hw7, hN]; (simp only [hag, alloc_size, Nat.add_assoc, Nat.reduceAdd]; repeat (first | rfl | rw [if_pos (by omega)] | rw [if_neg (by omega)]))
  have b7 : Below N w w7 := by rw [hw7, hN]; exact balloc (balloc (balloc (balloc (balloc (balloc (balloc (Below.refl _ _) _) _) _) _) _) _) _
  have hrows : Sl tRow (fun k => k ≤ N + 5) w7 (.slice (some ⟨N + 3, 0, none⟩) 3 3) rowsA :=
    Sl.lit (d := tRow) (xs := rowsA) [[.slice (some ⟨N, 0, none⟩) 2 2], [.slice (some ⟨N + 1, 0, none⟩) 2 2], [.slice (some ⟨N + 2, 0, none⟩) 2 2]] e3 ⟨⟨_, rfl, rowA_sl e0 (by omega)⟩, ⟨_, rfl, rowA_sl e1 (by omega)⟩, ⟨_, rfl, rowA_sl e2 (by omega)⟩, trivial⟩ (by omega) (by decide)
  have hcols : Sl (tInt .i64) (fun k => k ≤ N + 5) w7 (.slice (some ⟨N + 4, 0, none⟩) 1 1) [0] := Sl.lit (d := tInt .i64) (xs := [0]) [[.int .i64 0]] e4 ⟨rfl, trivial⟩ (by omega) (by decide)
  have hsums : Sl tSmm (fun k => k ≤ N + 5) w7 (.slice (some ⟨N + 5, 0, none⟩) 1 1) [⟨3, 1⟩] := Sl.lit (d := tSmm) (xs := [⟨3, 1⟩]) [[.int .i64 3, .int .i64 1]] e5 ⟨rfl, trivial⟩ (by omega) (by decide)
  have M1 := put (makeCalls (fun k => k ≤ N + 5) (fun k => k ≤ N + 5) _ _ _ _ rowsA specA w7 hrows ⟨hcols, hsums, Sl.nil _ _ _, by decide, by decide, by decide⟩ (by decide) (by decide) (by decide) rowsA_in)
  have HROWS := put hrows
  have HCOLS := put hcols
  have HSUMS := put hsums
  have E6 := put e6
  have HZ7 := put hz7
  have B7 := put b7
  clear e0 e1 e2 e3 e4 e5 e6 hrows hcols hsums hz7 b7
  go_enter Try.func40, Try.ntmps40
  go_wp2_with (first | (go_at_call 66; refine (rowCalls28 _ _ _).mono ?_; rintro e w' ⟨rfl, rfl⟩))
  rw [← hw7, ← hN]
  have HN := put hN
  clear hw7 hN
  refine M1.out.mono ?_
  rintro e w8 ⟨vo, rfl, hso, hb8⟩
  rw [makeA] at hso ⊢
  dsimp only at hso ⊢
  obtain ⟨Av, cv, rfl, _, _, _⟩ := hso.shape
  have HSO := put (tRowU_sl hso)
  have HB8 : Kp (Below w7.heap.size w7 w8) := put hb8
  obtain ⟨X, hX⟩ : ∃ X, X = N + 1 + 1 + 1 + 1 + 1 + 1 := ⟨_, rfl⟩
  rw [← hX]
  have HX : Kp (X = N + 6) := put hX
  have e8 : w8.heap[X]? = some (.cells #[.slice (some ⟨N + 4, 0, none⟩) 1 1, .slice (some ⟨N + 5, 0, none⟩) 1 1, .slice none 0 0, .int .i64 (-1)] 82 (0, 0)) := by rw [HX.out]; exact (hb8.block _ (by have := HZ7.out; omega)).trans E6.out
  have hlt8 := (Array.getElem?_eq_some_iff.1 e8).1
  have fr2 : ∀ o, (w8.alloc o).frozen? ⟨X, 2, none⟩ = false := fun o => (s_fr ((Below.heap_alloc w8 o X hlt8).trans e8)).1
  have fr3 : ∀ o, (w8.alloc o).frozen? ⟨X, 3, none⟩ = false := fun o => (s_fr ((Below.heap_alloc w8 o X hlt8).trans e8)).2
  have cs := fun o => s_cells ((Below.heap_alloc w8 o X hlt8).trans e8)
  have t0 := fun o => (cs o).1
  have t1 := fun o => (cs o).2.1
  have t2 := fun o => (cs o).2.2.1
  have t3 := fun o => (cs o).2.2.2
  clear cs
  obtain ⟨w9, hw9⟩ : ∃ w9, w9 = ((w8.alloc (.cells #[.int .i64 1, .bool true] 105)).setCell ⟨X, 2, none⟩ (.slice (some ⟨w8.heap.size, 0, none⟩) 1 1)).setCell ⟨X, 3, none⟩ (.int .i64 1) := ⟨_, rfl⟩
  have e9 : w9.heap[X]? = some (.cells #[.slice (some ⟨N + 4, 0, none⟩) 1 1, .slice (some ⟨N + 5, 0, none⟩) 1 1, .slice (some ⟨w8.heap.size, 0, none⟩) 1 1, .int .i64 1] 82 (0, 0)) := by rw [hw9]; exact s_set ((Below.heap_alloc w8 _ X hlt8).trans e8) _ _
  have k9 : ∀ k, k ≠ X → k < w8.heap.size → w9.heap[k]? = w8.heap[k]? := fun k hk hlt => by rw [hw9]; exact ((Below.heap_setCell _ ⟨X, 3, none⟩ _ _ hk).trans (Below.heap_setCell _ ⟨X, 2, none⟩ _ _ hk)).trans (Below.heap_alloc _ _ _ hlt)
  have hkey : w9.heap[w8.heap.size]? = some (.cells #[.int .i64 1, .bool true] 105 (0, 0)) := by rw [hw9]; exact ((Below.heap_setCell _ ⟨X, 3, none⟩ _ _ (by show w8.heap.size ≠ X; omega)).trans (Below.heap_setCell _ ⟨X, 2, none⟩ _ _ (by show w8.heap.size ≠ X; omega))).trans (heap_alloc_new _ _)
  have hz9 : w9.heap.size = w8.heap.size + 1 := by rw [hw9]; simp [World.setCell]
  have b9 : Below N w w9 := by rw [hw9]; exact below_set (below_set ((B7.out.trans (hb8.mono (by have := HZ7.out; omega))).alloc (by have := hb8.size; have := HZ7.out; omega) _) (by omega)) (by omega)
  have hz8 := hb8.size
  have hz7 := HZ7.out
  have mv : ∀ k, (k ≤ N + 5) → k < w7.heap.size → w9.heap[k]? = w7.heap[k]? := fun k hk hlt => (k9 k (by omega) (by omega)).trans (hb8.block k hlt)
  have M2 := put (makeCalls (fun _ => True) (fun _ => True) _ _ _ _ rowsA specB w9 ((HROWS.out.move (fun k hk hlt => mv k hk hlt)).mono (fun _ _ => trivial)) ⟨(HCOLS.out.move (fun k hk hlt => mv k hk hlt)).mono (fun _ _ => trivial), (HSUMS.out.move (fun k hk hlt => mv k hk hlt)).mono (fun _ _ => trivial), Sl.lit (d := tKey) (xs := [⟨1, true⟩]) [[.int .i64 1, .bool true]] hkey ⟨rfl, trivial⟩ trivial (by decide), by decide, by decide, by decide⟩ (by decide) (by decide) (by decide) rowsA_in)
  have hs9 := (HSO.out.bnd.mono (ok' := fun k => w7.heap.size ≤ k ∧ k < w8.heap.size) (fun k hk => hk)).move (w' := w9) (fun k hk _ => k9 k (by omega) hk.2)
  obtain ⟨ad, bd, c1, rfl, x0, x1⟩ := rowA_at hs9
  have B9 := put b9
  have X0 := put x0
  have X1 := put x1
  have M1 := 0
  clear M1 hso hb8 hX e8 e9 k9 hkey hz9 b9 hz8 hz7 mv hs9 hlt8 x0 x1
  go_wp2_with fail
  rw [← hw9]
  clear hw9 fr2 fr3 t0 t1 t2 t3
  refine M2.out.mono ?_
  rintro e w10 ⟨vo, rfl, hso2, hb10⟩
  rw [makeB] at hso2 ⊢
  dsimp only at hso2 ⊢
  obtain ⟨Av2, cv2, rfl, _, _, _⟩ := hso2.shape
  obtain ⟨ad2, bd2, c2, rfl, z0, z1⟩ := rowA_at (tRowU_sl hso2)
  have x0 := (hb10.cell (World.block_lt_of_cell? _ _ X0.out)).trans X0.out
  have x1 := (hb10.cell (World.block_lt_of_cell? _ _ X1.out)).trans X1.out
  have HE : Kp (Below w.heap.size w w10) := put (by rw [← HN.out]; exact B9.out.trans (hb10.mono (by rw [HN.out]; have := B9.out.size; omega)))
  clear hso2 hb10 M2
  go_wp2_with fail
  go_ret
  exact ⟨rfl, HE.out⟩
end Go.Proofs.Ytkfoknjflpklpaa.P
