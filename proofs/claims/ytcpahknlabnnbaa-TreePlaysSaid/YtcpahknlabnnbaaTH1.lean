/- Trees: New, where there is no page. The laws of the trees: TreePlays, walked. -/
import Derived.Test.YtcpahknlabnnbaaTG10
namespace Go.Proofs.Ytcpahknlabnnbaa.T
open Go Go.RowKit Go.Sort Go.Proofs.Ytcpahknlabnnbaa.Mem

set_option maxHeartbeats 1000000 in
set_option maxRecDepth 100000 in
theorem allocQ {ok : Nat → Prop} (a : Nat) (A : Ar) (w : World) (h : ArX ok w a A) (hq : 0 ≤ A.quota ∧ A.quota ≤ 4096) (hl : A.left = 0) :
    Calls Try.prog 44 #[.pointer (some ⟨a, 0, none⟩)] w fun e w' => e = .returned (.tuple #[.int .i64 0, .int .i64 9]) ∧ Below w.heap.size w w' := by
  obtain ⟨vp, vf, h⟩ := h
  have LC := put (leftCalls a vp vf A w h hq)
  have HL := put hl
  clear h hl
  go_enter Try.func44, Try.ntmps44
  go_wp2_with fail
  refine LC.out.mono ?_
  rintro e w1 ⟨rfl, hw1⟩
  rw [HL.out]
  have B1 : Kp (Below w.heap.size w w1) := put (by obtain ⟨q, rfl⟩ := hw1; exact bdr w q)
  clear hw1
  go_wp2_with fail
  go_ret2
  exact ⟨rfl, B1.out⟩

set_option maxHeartbeats 1000000 in
set_option maxRecDepth 100000 in
theorem treeAllocQ {ok : Nat → Prop} (T a : Nat) (A : Ar) (w : World) (h : ArX ok w a A) (hq : 0 ≤ A.quota ∧ A.quota ≤ 4096) (hl : A.left = 0) (hT : w.cell? ⟨T, 0, none⟩ = some (.pointer (some ⟨a, 0, none⟩))) (hTl : T < w.heap.size) :
    Calls Try.prog 27 #[.pointer (some ⟨T, 0, none⟩), .agg #[.bool true, .slice none 0 0, .slice none 0 0]] w fun e w' => e = stopE 9 ∧ Below w.heap.size w w' := by
  obtain ⟨w1, hw1⟩ : ∃ w1, w1 = w.alloc (.cells #[.bool true, .slice none 0 0, .slice none 0 0] 69) := ⟨_, rfl⟩
  have B1 : Kp (Below w.heap.size w w1) := put (by rw [hw1]; exact balloc (Below.refl _ _) _)
  have C1 := put (allocQ a A w1 (h.below B1.out) hq hl)
  have hT1 := cell_at hT B1.out
  have HW := put hw1
  clear hw1 h hl
  go_enter Try.func27, Try.ntmps27
  go_wp2_with fail
  rw [← HW.out]
  refine C1.out.mono ?_
  rintro e w2 ⟨rfl, hb2⟩
  have B2 := put (bt B1.out hb2)
  clear hb2
  go_wp2_with fail
  refine (checkSome 9 w2 (by decide)).mono ?_
  rintro e w3 ⟨rfl, rfl⟩
  exact ⟨rfl, rfl, B2.out⟩

set_option maxHeartbeats 1000000 in
set_option maxRecDepth 100000 in
theorem newFunQ {ok : Nat → Prop} (V T a : Nat) (A : Ar) (w : World) (hv : w.heap[V]? = some (.cells #[.pointer (some ⟨T, 0, none⟩)] 29 (0, 0))) (t : TrR T a w 0 1 0) (h : ArX ok w a A) (hq : 0 ≤ A.quota ∧ A.quota ≤ 4096) (hl : A.left = 0) :
    Calls Try.prog 26 #[.pointer (some ⟨V, 0, none⟩)] w fun e w' => e = stopE 9 ∧ Below w.heap.size w w' := by
  obtain ⟨x0, x1, x2, x3⟩ := t.cells
  have y0 : w.cell? ⟨V, 0, none⟩ = some (.pointer (some ⟨T, 0, none⟩)) := by simp [World.cell?, hv]
  have C := put (fun (W : World) (hb : Below w.heap.size w W) => treeAllocQ T a A W (h.below hb) hq hl (cell_at x0 hb) (Nat.lt_of_lt_of_le t.lt hb.size))
  clear hv h hl x2 x3
  go_enter Try.func26, Try.ntmps26
  go_wp2_with fail
  refine wp_region_held_drew (S := (fun W => W.cell? ⟨V, 0, none⟩ = some (.pointer (some ⟨T, 0, none⟩)))) (by kernel_rfl) y0 (fun hHeld => ?_)
  refine wpAnyH_take (i := 0) (v := ?_) rfl (by kernel_rfl) (by kernel_rfl) (by kernel_rfl) (fun _ _ _ h => h) (Or.inl ⟨by kernel_rfl, ?_⟩) (by assumption) ?_
  rotate_left
  focus (intro w hSw; (try dsimp only at hSw); go_simp; (try with_reducible rfl); done)
  try simp only [List.getElem_toArray, List.getElem_cons_zero, Act.put, List.setIfInBounds_toArray, List.set_cons_zero, List.set_cons_succ]
  refine wpAnyH_take (i := 1) (v := ?_) rfl (by kernel_rfl) (by kernel_rfl) (by kernel_rfl) (fun _ _ _ h => h) (Or.inl ⟨by kernel_rfl, ?_⟩) (by assumption) ?_
  rotate_left
  focus (intro w hSw; (try dsimp only at hSw); go_simp; (try with_reducible rfl); done)
  try simp only [List.getElem_toArray, List.getElem_cons_succ, List.getElem_cons_zero, Act.put, List.setIfInBounds_toArray, List.set_cons_zero, List.set_cons_succ]
  refine wpAnyH_take (i := 2) (v := ?_) rfl (by kernel_rfl) (by kernel_rfl) (by kernel_rfl) (fun _ _ _ h => h) (Or.inl ⟨by kernel_rfl, ?_⟩) (by assumption) ?_
  rotate_left
  focus (intro w hSw; (try dsimp only at hSw); go_simp; (try with_reducible rfl); done)
  try simp only [List.getElem_toArray, List.getElem_cons_succ, List.getElem_cons_zero, Act.put, List.setIfInBounds_toArray, List.set_cons_zero, List.set_cons_succ]
  refine wpAnyH_ready (rs := [3]) (by kernel_rfl) (by simp) ?_
  refine AllReadyH.cons rfl (fun JJ hJJ => ?_) AllReadyH.nil
  go_simp
  go_at_call 27
  refine (C.out _ (by (repeat (first | with_reducible exact (Below.refl _ _) | with_reducible apply Below.drew | with_reducible refine balloc ?_ _)))).mono ?_
  rintro e w5 ⟨rfl, hb5⟩
  have hb6 : Below w.heap.size w w5 := bt (by (repeat (first | with_reducible exact (Below.refl _ _) | with_reducible apply Below.drew | with_reducible refine balloc ?_ _))) hb5
  exact And.intro rfl (And.intro rfl hb6)

set_option maxHeartbeats 1000000 in
set_option maxRecDepth 100000 in
/-- New, where there is no page. -/
theorem newQ {a : Nat} {D : Nat → Prop} {W : World} {A : Ar} (t : AS a D W A) (hq : 0 ≤ A.quota ∧ A.quota ≤ 4096) (hl : A.left = 0) :
    Calls Try.prog 9 #[.pointer (some ⟨a, 0, none⟩)] W fun e W' => e = .returned (.tuple #[.pointer none, .int .i64 9]) ∧ Below W.heap.size W W' := by
  obtain ⟨ok, h1, _, _⟩ := t.out
  obtain ⟨w2, hw2⟩ : ∃ w2, w2 = (W.alloc (.cells #[.pointer (some ⟨a, 0, none⟩), .int .i64 0, .int .i64 1, .int .i64 0] 63)).alloc (.cells #[.pointer (some ⟨W.heap.size, 0, none⟩)] 29) := ⟨_, rfl⟩
  have s2 : w2.heap.size = W.heap.size + 1 + 1 := by rw [hw2, alloc_size, alloc_size]
  have B2 : Kp (Below W.heap.size W w2) := put (by rw [hw2]; exact balloc (balloc (Below.refl _ _) _) _)
  have T2 : TrR W.heap.size a w2 0 1 0 := by unfold TrR; rw [hw2, hag, if_neg (by rw [alloc_size]; omega), hag, if_pos rfl]
  have V2 : w2.heap[W.heap.size + 1]? = some (.cells #[.pointer (some ⟨W.heap.size, 0, none⟩)] 29 (0, 0)) := by rw [hw2, hag, if_pos (by rw [alloc_size])]
  have HC : Kp (Calls Try.prog 25 #[.func (.func 26) #[] #[.pointer (some ⟨W.heap.size + 1, 0, none⟩)]] w2 fun e w' => ∃ c, e = .returned (.agg #[.int .i64 c, .int .i64 0]) ∧ (c = 9 ∧ Below w2.heap.size w2 w')) := put (by
    have ha : Below w2.heap.size w2 (w2.alloc (.cells #[.int .i64 0, .int .i64 0] 65)) := balloc (Below.refl _ _) _
    have hz : (w2.alloc (.cells #[.int .i64 0, .int .i64 0] 65)).heap.size = w2.heap.size + 1 := by rw [alloc_size]
    refine catchCalls 26 _ (enters_of Try.func26 (by kernel_rfl) rfl _) w2 _ ?_ ?_ ?_
    · refine (newFunQ (W.heap.size + 1) W.heap.size a A _ ((ha.block _ (by omega)).trans V2) (T2.below ha) (h1.below (bt B2.out ha)) hq hl).mono ?_
      rintro e w' ⟨rfl, hb⟩
      exact ⟨9, rfl, ⟨rfl, bt ha hb⟩, by rw [hb.block _ (by omega), hag, if_pos rfl]⟩
    · rintro c w' o ⟨g0, g1⟩
      exact ⟨g0, g1.alloc g1.size o⟩
    · rintro c w' j u ⟨g0, g1⟩
      exact ⟨g0, g1.setCell (Nat.le_refl _) u⟩)
  have HW := put hw2
  clear hw2 h1 hl T2 V2 s2
  go_enter Try.func9, Try.ntmps9
  go_wp2_with fail
  rw [← HW.out]
  refine HC.out.mono ?_
  rintro e w3 ⟨c, rfl, rfl, hb3⟩
  have B3 := put (bt B2.out hb3)
  clear hb3
  go_wp2_with fail
  obtain ⟨w4, hw4⟩ : ∃ w4, w4 = w3.alloc (.cells #[.int .i64 9, .int .i64 0] 65) := ⟨_, rfl⟩
  rw [← hw4]
  have hx4 : w4.heap[w3.heap.size]? = some (.cells #[.int .i64 9, .int .i64 0] 65 (0, 0)) := by rw [hw4]; exact heap_alloc_new _ _
  have B4 : Kp (Below W.heap.size W w4) := put (by rw [hw4]; exact B3.out.alloc B3.out.size _)
  have x0 : ∀ n, (w4.drewN n).cell? ⟨w3.heap.size, 0, none⟩ = some (.int .i64 9) := fun n => by
    show w4.cell? ⟨w3.heap.size, 0, none⟩ = _
    simp [World.cell?, hx4]
  clear hw4 hx4
  go_quiet (fail)
  all_goals (go_wp2_with fail)
  go_ret2
  exact ⟨rfl, bdr' B4.out _⟩
end Go.Proofs.Ytcpahknlabnnbaa.T
namespace Go.Proofs.Ytcpahknlabnnbaa.T
open Go Go.RowKit Go.Sort Go.Proofs.Ytcpahknlabnnbaa.Mem

theorem SetR.wide {D D' : Nat → Prop} {S : Nat} {W : World} {l : List ByteArray} (s : SetR D S W l) (h : ∀ k, D k → D' k) : SetR D' S W l := by
  obtain ⟨v, h1, h2⟩ := s.out
  exact ⟨h _ s.s, ⟨v, h1, h2.mono h⟩, s.r⟩
set_option maxHeartbeats 4000000 in
set_option maxRecDepth 100000 in
theorem playsCalls (okx : Nat → Prop) (quota : Int) (v : Value) (zs : List Opr) (W : World) (hz : Sl tOp okx W v zs) :
    Calls Try.prog 3 #[.int .i64 quota, v] W fun e W' => e = .returned (.bool true) ∧ Below W.heap.size W W' := by
  obtain ⟨A0, c0, rfl, l1, l2, l3⟩ := hz.shape
  have KS := put hz
  obtain ⟨mm, hmm⟩ : ∃ mm, mm = zs.length := ⟨_, rfl⟩
  rw [← hmm] at l1 l3 KS ⊢
  have HMM := put hmm
  clear hz hmm
  go_enter Try.func3, Try.ntmps3
  go_wp2_with fail
  refine (awakeCalls W).mono ?_
  rintro e w3 ⟨rfl, hb3⟩
  have B3 := put hb3
  clear hb3
  by_cases hq : ¬ (0 ≤ quota ∧ quota ≤ 4096)
  · go_wp2_with fail
    refine (badArena quota w3 hq).mono ?_
    rintro e w4 ⟨rfl, hb4⟩
    have B4 := put (bt B3.out hb4)
    clear hb4 hq
    go_wp2_with fail
    go_ret
    exact ⟨rfl, B4.out⟩
  have hq' : 0 ≤ quota ∧ quota ≤ 4096 := Classical.not_not.1 hq
  have HQ := put hq'
  go_wp2_with fail
  refine (newArena (D := fun k => k < w3.heap.size) quota w3 hq' (fun _ h => h)).mono ?_
  rintro e w4 ⟨rfl, as1, b1⟩
  have AS4 := put as1
  have B34 := put b1
  have B4 := put (bt B3.out b1)
  clear as1 b1 hq hq'
  go_wp2_with fail
  refine (greatCalls okx _ 200 zs w4 (by have := KS.out.below B4.out; rw [← HMM.out] at *; exact this) (by omega)).mono ?_
  rintro e w5 ⟨⟨b, rfl, hsm⟩, hb5⟩
  have B5 := put (bt B4.out hb5)
  have B35 := put (bt B34.out hb5)
  have AS5 := put (AS4.out.below hb5)
  have HSM := put hsm
  clear hb5 hsm
  cases b with
  | true =>
    go_wp2_with fail
    go_ret
    exact ⟨rfl, B5.out⟩
  | false =>
  have SM := put (HSM.out rfl)
  have hmm2 : mm ≤ 200 := by rw [HMM.out]; exact SM.out.1
  by_cases hq0 : quota = 0
  · subst hq0
    go_wp2_with fail
    refine (newQ AS5.out HQ.out rfl).mono ?_
    rintro e w6 ⟨rfl, hb6⟩
    have B6 := put (bt B5.out hb6)
    clear hb6
    go_wp2_with fail
    go_ret
    exact ⟨rfl, B6.out⟩
  go_wp2_with fail
  refine (newTS AS5.out (ar_ok quota HQ.out) (ar_left quota (by have := HQ.out; omega)) (fun k hk => Nat.lt_of_lt_of_le hk B35.out.size)).mono ?_
  rintro e w6 ⟨rfl, A6, i6, t6, k6, _, _, _, _⟩
  have P0 : Kp (PL w3.heap.size w3 w3.heap.size w5.heap.size w6.heap.size 0 (w6.alloc (.cells #[.slice none 0 0] 35))) := put (PL.new t6 ((below_kps B35.out _).trans k6) (Nat.le_trans B35.out.size k6.size))
  clear t6 k6
  go_wp2_with fail
  obtain ⟨a, ha⟩ : ∃ a, a = w3.heap.size := ⟨_, rfl⟩
  obtain ⟨T, hT⟩ : ∃ T, T = w5.heap.size := ⟨_, rfl⟩
  obtain ⟨S, hS⟩ : ∃ S, S = w6.heap.size := ⟨_, rfl⟩
  obtain ⟨w7, hw7⟩ : ∃ w7, w7 = w6.alloc (.cells #[.slice none 0 0] 35) := ⟨_, rfl⟩
  rw [← hw7, ← hT, ← hS]
  rw [← hw7, ← hT, ← hS] at P0
  have P1 : Kp (PL w3.heap.size w3 a T S 0 w7) := put (by rw [ha]; exact P0.out)
  rw [← ha]
  have hq0b : (quota == 0) = false := by simp [hq0]
  rw [hq0b]
  clear hw7 hT hS P0 ha hq0b
  go_loopg [52] mm (fun kx s52 wr => ∃ (i : Nat), s52 = .int .i64 i ∧ i ≤ mm ∧ mm - i ≤ kx ∧ Kp (PL w3.heap.size w3 a T S i wr))
  case atStart => exact ⟨0, rfl, Nat.zero_le _, Nat.le_refl _, P1⟩
  case round =>
    obtain ⟨i, rfl, hi, hkx, PP⟩ := hrel
    have BW : Kp (Below W.heap.size W wr) := put (bt B3.out (PP.out.k.below (fun k hk => Nat.le_of_not_lt hk) (Nat.le_refl _)))
    by_cases hlt : i < mm
    · have hlz : (i : Int) < (mm : Int) := by omega
      have i0 : (0 : Int) ≤ (i : Int) := by omega
      have hwr : IntKind.i64.wrap ((i : Int) + 1) = (i : Int) + 1 := IntWalk.i64_in _ (by omega)
      obtain ⟨ad, o, rfl, ho, hon, x0, x1, x2⟩ := ops_get (KS.out.below BW.out).row.1 i (by rw [← HMM.out]; exact hlt)
      have hos : o.s.size ≤ 420 := SM.out.2 o (List.mem_of_getElem? ho)
      obtain ⟨D, A, h, i', es, ps, hD, ht, hs⟩ := PP.out.out
      obtain ⟨w8, hw8⟩ : ∃ w8, w8 = wr.alloc (.cells #[.int .i64 o.k, .int .i64 o.n, .string o.s] 37) := ⟨_, rfl⟩
      have hb8 : Below wr.heap.size wr w8 := by rw [hw8]; exact balloc (Below.refl _ _) _
      have s8 : w8.heap.size = wr.heap.size + 1 := by rw [hw8, alloc_size]
      have HX8 := put (show w8.heap[wr.heap.size]? = some (.cells #[.int .i64 o.k, .int .i64 o.n, .string o.s] 37 (0, 0)) by rw [hw8]; exact heap_alloc_new _ _)
      have t8 : TS a T (fun b => D b ∨ (wr.heap.size ≤ b ∧ b < w8.heap.size)) w8 A h i' es ps i := ht.step (below_kps hb8 _) (fun b hb => hb)
      have s8' : SetR (fun b => D b ∨ (wr.heap.size ≤ b ∧ b < w8.heap.size)) S w8 es := (hs.below hb8).wide (fun _ h => .inl h)
      have hSl : S < wr.heap.size := by obtain ⟨_, h1, _⟩ := hs.out; exact (Array.getElem?_eq_some_iff.1 h1).1
      have SC : Kp (∀ W', Below w8.heap.size w8 W' → Calls Try.prog 10 #[.pointer (some ⟨a, 0, none⟩), .pointer (some ⟨T, 0, none⟩), .pointer (some ⟨S, 0, none⟩), .agg #[.int .i64 o.k, .int .i64 o.n, .string o.s]] W' fun e w' => e = .returned (.bool true) ∧ ∃ (D' : Nat → Prop) (A' : Ar) (h' i' : Nat) (es' : List ByteArray) (ps' : List Nat), (∀ b, (D b ∨ (wr.heap.size ≤ b ∧ b < w8.heap.size)) → D' b) ∧ TS a T D' w' A' h' i' es' ps' (i + 1) ∧ SetR D' S w' es' ∧ Kps (fun b => ¬ (D b ∨ (wr.heap.size ≤ b ∧ b < w8.heap.size)) ∨ b = S) w8 w') := put fun W' hb => (stepCalls (t8.below hb) (s8'.below hb) o hos hon (by omega)).mono (by
        rintro e w' ⟨h1, D', A', h', i2, es', ps', g1, g2, g3, g4⟩
        exact ⟨h1, D', A', h', i2, es', ps', g1, g2, g3, (below_kps hb _).trans g4⟩)
      have HW8 := put hw8
      have HD := put hD
      have S8 := put s8
      have B8 := put hb8
      obtain ⟨b0, b1, b2⟩ := c3 HX8.out
      clear ho hw8 hb8 t8 s8' ht hs hD s8
      go_wp2_with fail
      rw [← HW8.out]
      refine wp_region_noPanic ?_
      refine wp_region_held_drew (S := (fun w' => w'.cell? ⟨wr.heap.size, 0, none⟩ = some (.int .i64 o.k) ∧ w'.cell? ⟨wr.heap.size, 1, none⟩ = some (.int .i64 o.n) ∧ w'.cell? ⟨wr.heap.size, 2, none⟩ = some (.string o.s))) (by kernel_rfl) ⟨b0, b1, b2⟩ (fun hHeld => ?_)
      refine wpAnyH_take (i := 0) (v := ?_) rfl (by kernel_rfl) (by kernel_rfl) (by kernel_rfl) (fun _ _ _ h => h) (Or.inl ⟨by kernel_rfl, ?_⟩) (by assumption) ?_
      rotate_left
      focus (intro w hSw; (try dsimp only at hSw); go_simp; (try with_reducible rfl); done)
      try simp only [List.getElem_toArray, List.getElem_cons_zero, Act.put, List.setIfInBounds_toArray, List.set_cons_zero, List.set_cons_succ]
      refine wpAnyH_take (i := 1) (v := ?_) rfl (by kernel_rfl) (by kernel_rfl) (by kernel_rfl) (fun _ _ _ h => h) (Or.inl ⟨by kernel_rfl, ?_⟩) (by assumption) ?_
      rotate_left
      focus (intro w hSw; (try dsimp only at hSw); go_simp; (try with_reducible rfl); done)
      try simp only [List.getElem_toArray, List.getElem_cons_succ, List.getElem_cons_zero, Act.put, List.setIfInBounds_toArray, List.set_cons_zero, List.set_cons_succ]
      refine wpAnyH_take (i := 2) (v := ?_) rfl (by kernel_rfl) (by kernel_rfl) (by kernel_rfl) (fun _ _ _ h => h) (Or.inl ⟨by kernel_rfl, ?_⟩) (by assumption) ?_
      rotate_left
      focus (intro w hSw; (try dsimp only at hSw); go_simp; (try with_reducible rfl); done)
      try simp only [List.getElem_toArray, List.getElem_cons_succ, List.getElem_cons_zero, Act.put, List.setIfInBounds_toArray, List.set_cons_zero, List.set_cons_succ]
      refine wpAnyH_take (i := 3) (v := ?_) rfl (by kernel_rfl) (by kernel_rfl) (by kernel_rfl) (fun _ _ _ h => h) (Or.inl ⟨by kernel_rfl, ?_⟩) (by assumption) ?_
      rotate_left
      focus (intro w hSw; (try dsimp only at hSw); obtain ⟨q0, q1, q2⟩ := hSw; go_simp; (try with_reducible rfl); done)
      try simp only [List.getElem_toArray, List.getElem_cons_succ, List.getElem_cons_zero, Act.put, List.setIfInBounds_toArray, List.set_cons_zero, List.set_cons_succ]
      refine wpAnyH_ready (rs := [4]) (by kernel_rfl) (by simp) ?_
      refine AllReadyH.cons rfl (fun JJ hJJ => ?_) AllReadyH.nil
      go_simp
      (go_at_call 10; refine (SC.out _ (by (repeat (first | with_reducible exact (Below.refl _ _) | with_reducible apply Below.drew | with_reducible refine balloc ?_ _)))).mono ?_; rintro e w9 ⟨rfl, D', A', h', i2, es', ps', g1, g2, g3, g4⟩; have hX9 := (g4.block wr.heap.size (by have := S8.out; omega) (by (rintro (h5 | h5); exact h5 (.inr ⟨Nat.le_refl _, by have := S8.out; omega⟩); omega))).trans HX8.out; obtain ⟨z0, z1, z2⟩ := c3 hX9; have G1 := put g1; have G2 := put g2; have G3 := put g3; have G4 := put g4; obtain ⟨v9, hv9, hr9⟩ := g3.out; obtain ⟨A9, c9, rfl, _⟩ := hr9.shape; obtain ⟨l9, hl9⟩ : ∃ l9, l9 = es'.length := ⟨_, rfl⟩; have y0 : w9.cell? ⟨S, 0, none⟩ = some (.slice A9 l9 c9) := (by rw [hl9]; simp [World.cell?, hv9]); have HL9 := put hl9; clear g1 g2 g3 g4 hX9 hv9 hr9 hl9)
      refine hJJ.out _ _ ?_ (fun hHeld2 => ?_)
      · exact ⟨z0, z1, z2⟩
      clear hJJ JJ hHeld
      have hHeld := hHeld2
      clear hHeld2
      try simp only [List.getElem_toArray, List.getElem_cons_succ, List.getElem_cons_zero, Act.put, List.setIfInBounds_toArray, List.set_cons_zero, List.set_cons_succ]
      refine wpAnyH_take (i := 5) (v := ?_) rfl (by kernel_rfl) (by kernel_rfl) (by kernel_rfl) (fun _ _ _ h => h) (Or.inl ⟨by kernel_rfl, ?_⟩) (by assumption) ?_
      rotate_left
      focus (intro w hSw; (try dsimp only at hSw); go_simp; (try with_reducible rfl); done)
      try simp only [List.getElem_toArray, List.getElem_cons_succ, List.getElem_cons_zero, Act.put, List.setIfInBounds_toArray, List.set_cons_zero, List.set_cons_succ]
      refine wpAnyH_take (i := 6) (v := ?_) rfl (by kernel_rfl) (by kernel_rfl) (by kernel_rfl) (fun _ _ _ h => h) (Or.inl ⟨by kernel_rfl, ?_⟩) (by assumption) ?_
      rotate_left
      focus (intro w hSw; (try dsimp only at hSw); go_simp; (try with_reducible rfl); done)
      try simp only [List.getElem_toArray, List.getElem_cons_succ, List.getElem_cons_zero, Act.put, List.setIfInBounds_toArray, List.set_cons_zero, List.set_cons_succ]
      refine wpAnyH_take (i := 7) (v := ?_) rfl (by kernel_rfl) (by kernel_rfl) (by kernel_rfl) (fun _ _ _ h => h) (Or.inl ⟨by kernel_rfl, ?_⟩) (by assumption) ?_
      rotate_left
      focus (intro w hSw; (try dsimp only at hSw); go_simp; (try with_reducible rfl); done)
      try simp only [List.getElem_toArray, List.getElem_cons_succ, List.getElem_cons_zero, Act.put, List.setIfInBounds_toArray, List.set_cons_zero, List.set_cons_succ]
      refine wpAnyH_take (i := 9) (v := ?_) rfl (by kernel_rfl) (by kernel_rfl) (by kernel_rfl) (fun _ _ _ h => h) (Or.inl ⟨by kernel_rfl, ?_⟩) (by assumption) ?_
      rotate_left
      focus (intro w hSw; (try dsimp only at hSw); go_simp; (try with_reducible rfl); done)
      try simp only [List.getElem_toArray, List.getElem_cons_succ, List.getElem_cons_zero, Act.put, List.setIfInBounds_toArray, List.set_cons_zero, List.set_cons_succ]
      refine wpAnyH_take (i := 10) (v := ?_) rfl (by kernel_rfl) (by kernel_rfl) (by kernel_rfl) (fun _ _ _ h => h) (Or.inl ⟨by kernel_rfl, ?_⟩) (by assumption) ?_
      rotate_left
      focus (intro w hSw; (try dsimp only at hSw); go_simp; (try with_reducible rfl); done)
      try simp only [List.getElem_toArray, List.getElem_cons_succ, List.getElem_cons_zero, Act.put, List.setIfInBounds_toArray, List.set_cons_zero, List.set_cons_succ]
      refine wpAnyH_take (i := 11) (v := ?_) rfl (by kernel_rfl) (by kernel_rfl) (by kernel_rfl) (fun _ _ _ h => h) (Or.inl ⟨by kernel_rfl, ?_⟩) (by assumption) ?_
      rotate_left
      focus (intro w hSw; (try dsimp only at hSw); go_simp; (try with_reducible rfl); done)
      try simp only [List.getElem_toArray, List.getElem_cons_succ, List.getElem_cons_zero, Act.put, List.setIfInBounds_toArray, List.set_cons_zero, List.set_cons_succ]
      refine wpAnyH_ready (rs := [8, 12]) (by kernel_rfl) (by simp) ?_
      refine AllReadyH.cons rfl (fun JJ hJJ => ?_) ?_
      · go_simp
        (go_at_call 11; refine (lenTS G2.out).mono ?_; rintro e w10 ⟨rfl, rfl⟩; rw [← HL9.out])
        refine hJJ.out _ _ ?_ (fun hHeld2 => ?_)
        · assumption
        clear hJJ JJ hHeld
        have hHeld := hHeld2
        clear hHeld2
        try simp only [List.getElem_toArray, List.getElem_cons_succ, List.getElem_cons_zero, Act.put, List.setIfInBounds_toArray, List.set_cons_zero, List.set_cons_succ]
        refine wpAnyH_ready (rs := [12]) (by kernel_rfl) (by simp) ?_
        refine AllReadyH.cons rfl (fun JJ hJJ => ?_) AllReadyH.nil
        go_simp
        refine hJJ.out _ _ ?_ (fun hHeld2 => ?_)
        · assumption
        clear hJJ JJ hHeld
        have hHeld := hHeld2
        clear hHeld2
        try simp only [List.getElem_toArray, List.getElem_cons_succ, List.getElem_cons_zero, Act.put, List.setIfInBounds_toArray, List.set_cons_zero, List.set_cons_succ]
        refine wpAnyH_take (i := 13) (v := ?_) rfl (by kernel_rfl) (by kernel_rfl) (by kernel_rfl) (fun _ _ _ h => h) (Or.inl ⟨by kernel_rfl, ?_⟩) (by assumption) ?_
        rotate_left
        focus (intro w hSw; (try dsimp only at hSw); go_simp; (try with_reducible rfl); done)
        try simp only [List.getElem_toArray, List.getElem_cons_succ, List.getElem_cons_zero, Act.put, List.setIfInBounds_toArray, List.set_cons_zero, List.set_cons_succ]
        refine wpAnyH_take (i := 14) (v := ?_) rfl (by kernel_rfl) (by kernel_rfl) (by kernel_rfl) (fun _ _ _ h => h) (Or.inl ⟨by kernel_rfl, ?_⟩) (by assumption) ?_
        rotate_left
        focus (intro w hSw; (try dsimp only at hSw); go_simp; (try with_reducible rfl); done)
        try simp only [List.getElem_toArray, List.getElem_cons_succ, List.getElem_cons_zero, Act.put, List.setIfInBounds_toArray, List.set_cons_zero, List.set_cons_succ]
        refine wpAnyH_take (i := 15) (v := ?_) rfl (by kernel_rfl) (by kernel_rfl) (by kernel_rfl) (fun _ _ _ h => h) (Or.inl ⟨by kernel_rfl, ?_⟩) (by assumption) ?_
        rotate_left
        focus (intro w hSw; (try dsimp only at hSw); go_simp; (try with_reducible rfl); done)
        try simp only [List.getElem_toArray, List.getElem_cons_succ, List.getElem_cons_zero, Act.put, List.setIfInBounds_toArray, List.set_cons_zero, List.set_cons_succ]
        refine wpAnyH_done (by kernel_rfl) ?_ _
        refine NoPanic.normal ?_
        have PLn : Kp (PL w3.heap.size w3 a T S (i + 1) w10) := put ⟨⟨D', A', h', i2, es', ps', fun k hk => G1.out k (.inl (HD.out k hk)), G2.out, G3.out⟩, PP.out.k.trans ((below_kps B8.out _).trans (G4.out.mono fun b hb hlt => by
          rcases hb with hb | hb
          · exact hb (.inl (HD.out b hlt))
          · have := PP.out.s; omega)), PP.out.s⟩
        have hem := G2.out.em
        go_wp2_with fail
        refine (textCalls o.k o.n o.s w10 hos).mono ?_
        rintro e w11 ⟨rfl, hb11⟩
        have PL11 := put (PLn.out.below hb11)
        have G2' := put (G2.out.below hb11)
        have G3' := put (G3.out.below hb11)
        obtain ⟨tx, htx⟩ : ∃ tx, tx = opTxt o.n o.s := ⟨_, rfl⟩
        obtain ⟨okk, hok⟩ : ∃ okk, okk = opOk o.n o.s := ⟨_, rfl⟩
        rw [← htx, ← hok]
        clear hb11 htx hok z0 z1 z2 y0
        cases okk with
        | false =>
          go_wp2_with fail
          go_roundg (mm - (i + 1))
          case measure => omega
          case rel => exact ⟨i + 1, rfl, by omega, Nat.le_refl _, PL11⟩
        | true =>
          obtain ⟨v11, hv1, hv2⟩ := G3'.out.out
          have AT := put (atCalls D' S v11 es' tx w11 hv1 hv2 G3'.out.r (by omega))
          clear hv1 hv2
          go_wp2_with fail
          refine AT.out.mono ?_
          rintro e w12 ⟨rfl, hb12⟩
          have PL12 := put (PL11.out.below hb12)
          have G2'' := put (G2'.out.below hb12)
          obtain ⟨hx, hhx⟩ : ∃ hx, hx = hasB tx es' := ⟨_, rfl⟩
          rw [← hhx]
          have HHX := put hhx
          clear hb12 hhx
          go_wp2_with fail
          refine (hasTS G2''.out tx).mono ?_
          rintro e w13 ⟨rfl, hb13⟩
          have PL13 := put (PL12.out.below hb13)
          rw [← HHX.out]
          clear hb13
          cases hx with
          | true =>
            go_wp2_with fail
            go_roundg (mm - (i + 1))
            case measure => omega
            case rel => exact ⟨i + 1, rfl, by omega, Nat.le_refl _, PL13⟩
          | false =>
            go_wp2_with fail
            go_roundg (mm - (i + 1))
            case measure => omega
            case rel => exact ⟨i + 1, rfl, by omega, Nat.le_refl _, PL13⟩
      refine AllReadyH.cons rfl (fun JJ hJJ => ?_) AllReadyH.nil
      go_simp
      refine hJJ.out _ _ ?_ (fun hHeld2 => ?_)
      · assumption
      clear hJJ JJ hHeld
      have hHeld := hHeld2
      clear hHeld2
      try simp only [List.getElem_toArray, List.getElem_cons_succ, List.getElem_cons_zero, Act.put, List.setIfInBounds_toArray, List.set_cons_zero, List.set_cons_succ]
      refine wpAnyH_take (i := 13) (v := ?_) rfl (by kernel_rfl) (by kernel_rfl) (by kernel_rfl) (fun _ _ _ h => h) (Or.inl ⟨by kernel_rfl, ?_⟩) (by assumption) ?_
      rotate_left
      focus (intro w hSw; (try dsimp only at hSw); go_simp; (try with_reducible rfl); done)
      try simp only [List.getElem_toArray, List.getElem_cons_succ, List.getElem_cons_zero, Act.put, List.setIfInBounds_toArray, List.set_cons_zero, List.set_cons_succ]
      refine wpAnyH_ready (rs := [8]) (by kernel_rfl) (by simp) ?_
      refine AllReadyH.cons rfl (fun JJ hJJ => ?_) AllReadyH.nil
      go_simp
      (go_at_call 11; refine (lenTS G2.out).mono ?_; rintro e w10 ⟨rfl, rfl⟩; rw [← HL9.out])
      refine hJJ.out _ _ ?_ (fun hHeld2 => ?_)
      · assumption
      clear hJJ JJ hHeld
      have hHeld := hHeld2
      clear hHeld2
      try simp only [List.getElem_toArray, List.getElem_cons_succ, List.getElem_cons_zero, Act.put, List.setIfInBounds_toArray, List.set_cons_zero, List.set_cons_succ]
      refine wpAnyH_take (i := 14) (v := ?_) rfl (by kernel_rfl) (by kernel_rfl) (by kernel_rfl) (fun _ _ _ h => h) (Or.inl ⟨by kernel_rfl, ?_⟩) (by assumption) ?_
      rotate_left
      focus (intro w hSw; (try dsimp only at hSw); go_simp; (try with_reducible rfl); done)
      try simp only [List.getElem_toArray, List.getElem_cons_succ, List.getElem_cons_zero, Act.put, List.setIfInBounds_toArray, List.set_cons_zero, List.set_cons_succ]
      refine wpAnyH_take (i := 15) (v := ?_) rfl (by kernel_rfl) (by kernel_rfl) (by kernel_rfl) (fun _ _ _ h => h) (Or.inl ⟨by kernel_rfl, ?_⟩) (by assumption) ?_
      rotate_left
      focus (intro w hSw; (try dsimp only at hSw); go_simp; (try with_reducible rfl); done)
      try simp only [List.getElem_toArray, List.getElem_cons_succ, List.getElem_cons_zero, Act.put, List.setIfInBounds_toArray, List.set_cons_zero, List.set_cons_succ]
      refine wpAnyH_done (by kernel_rfl) ?_ _
      refine NoPanic.normal ?_
      have PLn : Kp (PL w3.heap.size w3 a T S (i + 1) w10) := put ⟨⟨D', A', h', i2, es', ps', fun k hk => G1.out k (.inl (HD.out k hk)), G2.out, G3.out⟩, PP.out.k.trans ((below_kps B8.out _).trans (G4.out.mono fun b hb hlt => by
        rcases hb with hb | hb
        · exact hb (.inl (HD.out b hlt))
        · have := PP.out.s; omega)), PP.out.s⟩
      have hem := G2.out.em
      go_wp2_with fail
      refine (textCalls o.k o.n o.s w10 hos).mono ?_
      rintro e w11 ⟨rfl, hb11⟩
      have PL11 := put (PLn.out.below hb11)
      have G2' := put (G2.out.below hb11)
      have G3' := put (G3.out.below hb11)
      obtain ⟨tx, htx⟩ : ∃ tx, tx = opTxt o.n o.s := ⟨_, rfl⟩
      obtain ⟨okk, hok⟩ : ∃ okk, okk = opOk o.n o.s := ⟨_, rfl⟩
      rw [← htx, ← hok]
      clear hb11 htx hok z0 z1 z2 y0
      cases okk with
      | false =>
        go_wp2_with fail
        go_roundg (mm - (i + 1))
        case measure => omega
        case rel => exact ⟨i + 1, rfl, by omega, Nat.le_refl _, PL11⟩
      | true =>
        obtain ⟨v11, hv1, hv2⟩ := G3'.out.out
        have AT := put (atCalls D' S v11 es' tx w11 hv1 hv2 G3'.out.r (by omega))
        clear hv1 hv2
        go_wp2_with fail
        refine AT.out.mono ?_
        rintro e w12 ⟨rfl, hb12⟩
        have PL12 := put (PL11.out.below hb12)
        have G2'' := put (G2'.out.below hb12)
        obtain ⟨hx, hhx⟩ : ∃ hx, hx = hasB tx es' := ⟨_, rfl⟩
        rw [← hhx]
        have HHX := put hhx
        clear hb12 hhx
        go_wp2_with fail
        refine (hasTS G2''.out tx).mono ?_
        rintro e w13 ⟨rfl, hb13⟩
        have PL13 := put (PL12.out.below hb13)
        rw [← HHX.out]
        clear hb13
        cases hx with
        | true =>
          go_wp2_with fail
          go_roundg (mm - (i + 1))
          case measure => omega
          case rel => exact ⟨i + 1, rfl, by omega, Nat.le_refl _, PL13⟩
        | false =>
          go_wp2_with fail
          go_roundg (mm - (i + 1))
          case measure => omega
          case rel => exact ⟨i + 1, rfl, by omega, Nat.le_refl _, PL13⟩
    · have hlz : ¬ (i : Int) < (mm : Int) := by omega
      obtain rfl : i = mm := by omega
      obtain ⟨D, A, h, i', es, ps, hD, ht, hs⟩ := PP.out.out
      have hem := ht.em
      obtain ⟨v, hv1, hv2⟩ := hs.out
      obtain ⟨A5, c5, rfl, _⟩ := hv2.shape
      obtain ⟨l5, hl5⟩ : ∃ l5, l5 = es.length := ⟨_, rfl⟩
      have y0 : wr.cell? ⟨S, 0, none⟩ = some (.slice A5 l5 c5) := by rw [hl5]; simp [World.cell?, hv1]
      have HL5 := put hl5
      have HV := put hv2
      have HT := put ht
      clear hv1 hv2 ht hs hD hl5
      go_wp2_with fail
      go_region_held3 (fun w' => w'.cell? ⟨S, 0, none⟩ = some (.slice A5 l5 c5)) (first | go_keep | exact y0 | exact u0 | exact q0) (first | (go_at_call 16; refine (allTS (HT.out.below (by (repeat (first | with_reducible exact (Below.refl _ _) | with_reducible apply Below.drew | with_reducible refine balloc ?_ _)))) (by omega)).mono ?_; rintro e w20 ⟨va, rfl, hra, hba⟩; have hb20 : Below wr.heap.size wr w20 := bt (by (repeat (first | with_reducible exact (Below.refl _ _) | with_reducible apply Below.drew | with_reducible refine balloc ?_ _))) hba; have u0 := cell_at y0 hb20; have RA := put hra; have B20 := put hb20; clear hra hba hb20) | (go_at_call 15; refine (sameTrue _ D va _ es _ RA.out (by rw [HL5.out]; exact HV.out.below B20.out) (by omega)).mono ?_; rintro e w21 ⟨rfl, hb21⟩; have q0 := cell_at u0 hb21; have B21 := put (bt B20.out hb21); clear hb21))
      all_goals
        go_wp2_with fail
        go_ret
        exact ⟨rfl, bt BW.out B21.out⟩
end Go.Proofs.Ytcpahknlabnnbaa.T
