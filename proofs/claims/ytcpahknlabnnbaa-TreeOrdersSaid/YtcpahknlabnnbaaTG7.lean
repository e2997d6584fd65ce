/- Trees: Insert's closure. Trees: Insert. Trees: Delete's closure. Trees: Delete. -/
import Derived.Test.YtcpahknlabnnbaaTG5
import Derived.Test.YtcpahknlabnnbaaTG6

namespace Go.Proofs.Ytcpahknlabnnbaa.T
open Go Go.RowKit Go.Sort Go.Proofs.Ytcpahknlabnnbaa.Mem

theorem rd_lit {α : Type} {e : α → Value} {ok : Nat → Prop} {w : World} {b n : Nat} {xs : List α} {t : TypeId} (hb : w.heap[b]? = some (.cells (xs.map e).toArray t (0, 0))) (hok : ok b) (hn : n = xs.length) (hm : xs.length ≤ 1000) : RdE e ok w (.slice (some ⟨b, 0, none⟩) n n) xs := by
  subst hn
  refine .inr ⟨b, 0, _, rfl, hok, (Array.getElem?_eq_some_iff.1 hb).1, Nat.le_refl _, by unfold maxLen; omega, fun j x hx => ?_⟩
  simp [World.cell?, hb, hx]
theorem lit_fst (w : World) (o1 o2 : Obj) : ((w.alloc o1).alloc o2).drew.heap[w.heap.size]? = some o1 := by
  show ((w.alloc o1).alloc o2).heap[w.heap.size]? = some o1
  rw [hag, if_neg (by rw [alloc_size]; omega), hag, if_pos rfl]
theorem lit_snd (w : World) (o1 o2 : Obj) : ((w.alloc o1).alloc o2).drew.heap[w.heap.size + 1]? = some o2 := by
  show ((w.alloc o1).alloc o2).heap[w.heap.size + 1]? = some o2
  rw [hag, if_pos (by rw [alloc_size])]
theorem nar_all {ok : Nat → Prop} {S M k : Nat} (hs : S ≤ M) (h : nar ok S M k) : nar ok S S k := by
  rcases h with h | h
  · exact .inl h
  · exact .inr (Nat.le_trans hs h)
theorem nar_not {ok : Nat → Prop} {S k : Nat} (h : k < S) (hk : ¬ ok k) : ¬ nar ok S S k := by
  rintro (h1 | h1)
  · exact hk h1.1
  · omega
theorem rd_lit2 {α : Type} {e : α → Value} {w : World} {base b n : Nat} {xs : List α} {t : TypeId} (hb : w.heap[b]? = some (.cells (xs.map e).toArray t (0, 0))) (hok : base ≤ b) (hn : n = xs.length) (hm : xs.length ≤ 1000) : RdE e (fun k => base ≤ k ∧ k < w.heap.size) w (.slice (some ⟨b, 0, none⟩) n n) xs := rd_lit hb ⟨hok, (Array.getElem?_eq_some_iff.1 hb).1⟩ hn hm
theorem lit_a (w : World) (o : Obj) (t : TypeId) (s : ByteArray) : RdE Value.string (fun k => w.heap.size ≤ k ∧ k < ((w.alloc (.cells #[.string s] t)).alloc o).drew.heap.size) ((w.alloc (.cells #[.string s] t)).alloc o).drew (.slice (some ⟨w.heap.size, 0, none⟩) 1 1) [s] := rd_lit2 (xs := [s]) (t := t) (lit_fst w _ o) (Nat.le_refl _) rfl (Nat.le_of_ble_eq_true rfl)
theorem lit_b (w : World) (o : Obj) (t : TypeId) (s : ByteArray) : RdE Value.string (fun k => w.heap.size ≤ k ∧ k < ((w.alloc o).alloc (.cells #[.string s] t)).drew.heap.size) ((w.alloc o).alloc (.cells #[.string s] t)).drew (.slice (some ⟨w.heap.size + 1, 0, none⟩) 1 1) [s] := rd_lit2 (xs := [s]) (t := t) (lit_snd w o _) (Nat.le_succ _) rfl (Nat.le_of_ble_eq_true rfl)
theorem lit_c (w : World) (o : Obj) (t : TypeId) (i r : Int) : RdE (Value.int .i64) (fun k => w.heap.size ≤ k ∧ k < ((w.alloc (.cells #[.int .i64 i, .int .i64 r] t)).alloc o).drew.heap.size) ((w.alloc (.cells #[.int .i64 i, .int .i64 r] t)).alloc o).drew (.slice (some ⟨w.heap.size, 0, none⟩) 2 2) [i, r] := rd_lit2 (xs := [i, r]) (t := t) (lit_fst w _ o) (Nat.le_refl _) rfl (Nat.le_of_ble_eq_true rfl)
theorem lit_d (w : World) (o : Obj) (t : TypeId) (i r : Int) : RdE (Value.int .i64) (fun k => w.heap.size ≤ k ∧ k < ((w.alloc o).alloc (.cells #[.int .i64 i, .int .i64 r] t)).drew.heap.size) ((w.alloc o).alloc (.cells #[.int .i64 i, .int .i64 r] t)).drew (.slice (some ⟨w.heap.size + 1, 0, none⟩) 2 2) [i, r] := rd_lit2 (xs := [i, r]) (t := t) (lit_snd w o _) (Nat.le_succ _) rfl (Nat.le_of_ble_eq_true rfl)
set_option maxHeartbeats 4000000 in
set_option maxRecDepth 100000 in
/-- Insert's closure, where there are pages. -/
theorem insFun {μ μ0 : Nat → Nat} (hμ : ∀ l, μ l ≤ 1) {ok : Nat → Prop} (V V2 T a h i : Nat) (n : Nat) (s : ByteArray) (A : Ar) (es : List ByteArray) (ps : List Nat) (w : World) (hv : w.heap[V]? = some (.cells #[.pointer (some ⟨T, 0, none⟩)] 29 (0, 0))) (hv2 : w.heap[V2]? = some (.cells #[.string s] 9 (0, 0))) (t : TrR T a w ((i : Int) + 1) ((h : Int) + 1) n) (ha : ArX ok w a A) (hA : A.Ok) (hl : (h : Int) + 2 ≤ A.left) (hok : ∀ k, w.heap.size ≤ k → ok k) (hTo : ¬ ok T) (hVo : ¬ ok V) (hVo2 : ¬ ok V2) (hn : n ≤ 1000000) (hs : Sub μ0 A h i top es ps) (hm0 : h ≠ 0 → μ0 = μ) (hsz : 1 ≤ s.size ∧ s.size ≤ 400) (hno : s ∉ es) :
    Calls Try.prog 36 #[.pointer (some ⟨V, 0, none⟩), .pointer (some ⟨V2, 0, none⟩)] w fun e w' => e = .returned (.tuple #[]) ∧ ∃ A' h' i' ps', Ins1 μ A A' h s es ps h' i' ps' ∧ ArX ok w' a A' ∧ TrR T a w' ((i' : Int) + 1) ((h' : Int) + 1) ((n + 1 : Nat) : Int) ∧ Kps (fun k => ok k ∨ k = T) w w' := by
  obtain ⟨x0, x1, x2, x3⟩ := t.cells
  have y0 : w.cell? ⟨V, 0, none⟩ = some (.pointer (some ⟨T, 0, none⟩)) := by simp [World.cell?, hv]
  have y1 : w.cell? ⟨V2, 0, none⟩ = some (.string s) := by simp [World.cell?, hv2]
  have IC := put (fun (W : World) (hb : Below w.heap.size w W) => insertN hμ T a h μ0 ok i top s es ps A W (ha.below hb) hA (by omega) (fun k hk => hok k (Nat.le_trans hb.size hk)) hTo (cell_at x0 hb) (Nat.lt_of_lt_of_le t.lt hb.size) hs hm0 trivial hsz hno)
  have hAq := hA.q
  have hhb : h + 2 ≤ 4096 + 4096 := by unfold Ar.left Ar.used at hl; have := ha.np; have h2 : (A.free.length : Int) ≤ A.pages.length := by obtain ⟨_, _, h⟩ := ha; exact_mod_cast h.nf
                                       omega
  have HT := put t
  have HTO := put hTo
  have HVO := put hVo
  have HVO2 := put hVo2
  have HV := put hv
  have HY0 := put y0
  have HNP := put ha.np
  have hvl2 := (Array.getElem?_eq_some_iff.1 hv2).1
  have HA := put hA
  have HL := put hl
  have HS := put hs
  have HNO := put hno
  have HOK := put hok
  have hvt : T ≠ V := by
    rintro rfl
    have h1 : w.heap[T]? = _ := t
    rw [hv] at h1
    injection h1 with h1
    injection h1 with _ h1 _
    exact absurd h1 (by decide)
  have htl := t.lt
  have hvl := (Array.getElem?_eq_some_iff.1 hv).1
  clear hv hv2 t ha hA hl hok hTo hVo hVo2 hs hsz hno hAq x0 x2 x3
  go_enter Try.func36, Try.ntmps36
  go_wp2_with fail
  go_region_held3 (fun w' => w'.cell? ⟨V, 0, none⟩ = some (.pointer (some ⟨T, 0, none⟩)) ∧ w'.cell? ⟨T, 1, none⟩ = some (.int .i64 ((i : Int) + 1)) ∧ w'.cell? ⟨V2, 0, none⟩ = some (.string s)) (first | go_keep | exact ⟨y0, x1, y1⟩ | exact ⟨z0, z1, z2⟩) (first | (go_at_call 37; refine (IC.out _ (by (repeat (first | with_reducible exact (Below.refl _ _) | with_reducible apply Below.drew | with_reducible refine balloc ?_ _)))).mono ?_; rintro e w3 ⟨A3, sep, r, es3, ps3, rfl, io, ax, k3⟩; have IO := put io; have AX := put ax; have K3 : Kp (Kps ok w w3) := put ((below_kps (by (repeat (first | with_reducible exact (Below.refl _ _) | with_reducible apply Below.drew | with_reducible refine balloc ?_ _))) ok).trans k3); clear io ax k3; have z0 := keep_cell K3.out hvl HVO.out y0; have z1 := keep_cell K3.out htl HTO.out x1; have z2 := keep_cell K3.out hvl2 HVO2.out y1))
  all_goals
    have T3 := (K3.out.block T htl HTO.out).trans HT.out
    have HT3 : Kp (TrR T a w3 ((i : Int) + 1) ((h : Int) + 1) n) := put T3
    have tl3 := HT3.out.lt
    have vl3 : V < w3.heap.size := Nat.lt_of_lt_of_le hvl K3.out.size
    have hs3 := K3.out.size
    clear y0 y1 x1 z0 z1 z2
    have z0 : w3.cell? ⟨V, 0, none⟩ = some (.pointer (some ⟨T, 0, none⟩)) := (World.cell?_of_block (a := ⟨V, 0, none⟩) (K3.out.block V hvl HVO.out)).trans HY0.out
    obtain ⟨x0, x1, x2, x3⟩ := c4 T3
    have lo1 := HT3.out.loose 1
    have lo2 := HT3.out.loose 2
    have lo3 := HT3.out.loose 3
    clear T3
    by_cases hr0 : r = 0
    · subst hr0
      go_wp2_with fail
      refine bodyPost_end (results_none rfl _ _ _) rfl ⟨rfl, A3, h, i, ps3, IO.out.ins1 HS.out.rise HNO.out, ?_, ?_, ?_⟩
      · exact AX.out.kps ((Kps.refl (fun k => k = T) w3).set (.inl rfl) 3 _) (fun b hb _ e => HTO.out (e ▸ hb))
      · exact (setCell_heap HT3.out 3 _).trans rfl
      · exact (K3.out.mono fun k hk => .inl hk).set (.inl (.inr rfl)) 3 _
    have hrz : ¬ (r : Int) = 0 := by omega
    have hlft : 0 < A3.left := by
      have h1 := IO.out.used
      have h2 := IO.out.q
      have h3 := HL.out
      have := IO.out.len
      unfold Ar.left at h3 ⊢
      omega
    obtain ⟨k, hk⟩ := new_page IO.out.ok hlft AX.out.np
    have HK := put hk
    have C := put (fun (W : World) (vr vk : Value) (hb : Below w3.heap.size w3 W) (hr : RdE Value.string (fun k => w3.heap.size ≤ k ∧ k < W.heap.size) W vr [sep]) (hkk : RdE (.int .i64) (fun k => w3.heap.size ≤ k ∧ k < W.heap.size) W vk [(i : Int) + 1, (r : Int)]) => (allocN (ok := nar ok w3.heap.size W.heap.size) (fun k => w3.heap.size ≤ k ∧ k < W.heap.size) T a A3 vr vk (root2 sep i r) W (AX.out.nar hb) IO.out.ok hlft (fun k hk => .inr hk) (fun h1 => by
      have := hb.size
      rcases h1 with h1 | h1
      · exact HTO.out h1.1
      · omega) (cell_at x0 hb) (Nat.lt_of_lt_of_le tl3 hb.size) ⟨hr, by exact hkk⟩ (fun b hb _ h1 => by rcases h1 with h1 | h1 <;> omega) (root2_ok (by
        rcases IO.out.out with h1 | h1
        · exact absurd h1.1 hr0
        · exact h1.2.1) (by
        obtain ⟨b, hb⟩ := HS.out.use i HS.out.head
        have h1 := (List.getElem?_eq_some_iff.1 hb).1
        have := HNP.out
        omega) (by
        rcases IO.out.out with h1 | h1
        · exact absurd h1.1 hr0
        · exact h1.1)) k hk.id hk.at').mono (R' := fun e w' => e = .returned (.int .i64 ((k : Int) + 1)) ∧ ArX (nar ok w3.heap.size w3.heap.size) w' a (A3.alloc.put k (enc (root2 sep i r))) ∧ Kps (nar ok w3.heap.size w3.heap.size) w3 w') (fun e w' ⟨h1, h2, h3⟩ => ⟨h1, h2.mono (fun k hk => nar_all hb.size hk), (below_kps hb _).trans (h3.mono (fun k hk => nar_all hb.size hk))⟩))
    clear hk
    go_wp2_with fail
    refine wp_region_noPanic ?_
    refine wp_region_held_drew (S := (fun W => W.cell? ⟨V, 0, none⟩ = some (.pointer (some ⟨T, 0, none⟩)))) (by kernel_rfl) z0 (fun hHeld => ?_)
    refine wpAnyH_take (i := 0) (v := ?_) rfl (by kernel_rfl) (by kernel_rfl) (by kernel_rfl) (fun _ _ _ h => h) (Or.inl ⟨by kernel_rfl, ?_⟩) (by assumption) ?_
    rotate_left
    focus (intro w hSw; (try dsimp only at hSw); go_simp; (try with_reducible rfl); done)
    try simp only [List.getElem_toArray, List.getElem_cons_zero, Act.put, List.setIfInBounds_toArray, List.set_cons_zero, List.set_cons_succ]
    refine wpAnyH_take (i := 1) (v := ?_) rfl (by kernel_rfl) (by kernel_rfl) (by kernel_rfl) (fun _ _ _ h => h) (Or.inl ⟨by kernel_rfl, ?_⟩) (by assumption) ?_
    rotate_left
    focus (intro w hSw; (try dsimp only at hSw); go_simp; (try with_reducible rfl); done)
    try simp only [List.getElem_toArray, List.getElem_cons_succ, List.getElem_cons_zero, Act.put, List.setIfInBounds_toArray, List.set_cons_zero, List.set_cons_succ]
    refine wpAnyH_take (i := 2) (v := ?_) rfl (by kernel_rfl) (by kernel_rfl) (by kernel_rfl) (fun _ _ _ h => h) (Or.inl ⟨by kernel_rfl, ?_⟩) (by assumption) ?_
    rotate_left
    focus (intro w hSw; (try dsimp only at hSw); go_simp; (try with_reducible rfl); done)
    try simp only [List.getElem_toArray, List.getElem_cons_succ, List.getElem_cons_zero, Act.put, List.setIfInBounds_toArray, List.set_cons_zero, List.set_cons_succ]
    refine wpAnyH_take (i := 4) (v := ?_) rfl (by kernel_rfl) (by kernel_rfl) (by kernel_rfl) (fun _ _ _ h => h) (Or.inl ⟨by kernel_rfl, ?_⟩) (by assumption) ?_
    rotate_left
    focus (intro w hSw; (try dsimp only at hSw); go_simp; (try with_reducible rfl); done)
    try simp only [List.getElem_toArray, List.getElem_cons_succ, List.getElem_cons_zero, Act.put, List.setIfInBounds_toArray, List.set_cons_zero, List.set_cons_succ]
    refine wpAnyH_take (i := 5) (v := ?_) rfl (by kernel_rfl) (by kernel_rfl) (by kernel_rfl) (fun _ _ _ h => h) (Or.inl ⟨by kernel_rfl, ?_⟩) (by assumption) ?_
    rotate_left
    focus (intro w hSw; (try dsimp only at hSw); go_simp; (try with_reducible rfl); done)
    try simp only [List.getElem_toArray, List.getElem_cons_succ, List.getElem_cons_zero, Act.put, List.setIfInBounds_toArray, List.set_cons_zero, List.set_cons_succ]
    refine wpAnyH_take (i := 6) (v := ?_) rfl (by kernel_rfl) (by kernel_rfl) (by kernel_rfl) (fun _ _ _ h => h) (Or.inl ⟨by kernel_rfl, ?_⟩) (by assumption) ?_
    rotate_left
    focus (intro w hSw; (try dsimp only at hSw); go_simp; (try with_reducible rfl); done)
    try simp only [List.getElem_toArray, List.getElem_cons_succ, List.getElem_cons_zero, Act.put, List.setIfInBounds_toArray, List.set_cons_zero, List.set_cons_succ]
    refine wpAnyH_take (i := 8) (v := ?_) rfl (by kernel_rfl) (by kernel_rfl) (by kernel_rfl) (fun _ _ _ h => h) (Or.inl ⟨by kernel_rfl, ?_⟩) (by assumption) ?_
    rotate_left
    focus (intro w hSw; (try dsimp only at hSw); go_simp; (try with_reducible rfl); done)
    try simp only [List.getElem_toArray, List.getElem_cons_succ, List.getElem_cons_zero, Act.put, List.setIfInBounds_toArray, List.set_cons_zero, List.set_cons_succ]
    refine wpAnyH_ready (rs := [3, 7]) (by kernel_rfl) (by simp) ?_
    refine AllReadyH.cons rfl (fun JJ hJJ => ?_) ?_
    · go_simp
      refine hJJ.out _ _ ?_ (fun hHeld2 => ?_)
      · first | go_keep | assumption | exact z0
      clear hJJ JJ hHeld
      have hHeld := hHeld2
      clear hHeld2
      try simp only [List.getElem_toArray, List.getElem_cons_succ, List.getElem_cons_zero, Act.put, List.setIfInBounds_toArray, List.set_cons_zero, List.set_cons_succ]
      refine wpAnyH_ready (rs := [7]) (by kernel_rfl) (by simp) ?_
      refine AllReadyH.cons rfl (fun JJ hJJ => ?_) AllReadyH.nil
      go_simp
      refine hJJ.out _ _ ?_ (fun hHeld2 => ?_)
      · first | go_keep | assumption | exact z0
      clear hJJ JJ hHeld
      have hHeld := hHeld2
      clear hHeld2
      try simp only [List.getElem_toArray, List.getElem_cons_succ, List.getElem_cons_zero, Act.put, List.setIfInBounds_toArray, List.set_cons_zero, List.set_cons_succ]
      refine wpAnyH_ready (rs := [9]) (by kernel_rfl) (by simp) ?_
      refine AllReadyH.cons rfl (fun JJ hJJ => ?_) AllReadyH.nil
      go_simp
      refine hJJ.out _ _ ?_ (fun hHeld2 => ?_)
      · first | go_keep | assumption | exact z0
      clear hJJ JJ hHeld
      have hHeld := hHeld2
      clear hHeld2
      try simp only [List.getElem_toArray, List.getElem_cons_succ, List.getElem_cons_zero, Act.put, List.setIfInBounds_toArray, List.set_cons_zero, List.set_cons_succ]
      refine wpAnyH_take (i := 10) (v := ?_) rfl (by kernel_rfl) (by kernel_rfl) (by kernel_rfl) (fun _ _ _ h => h) (Or.inl ⟨by kernel_rfl, ?_⟩) (by assumption) ?_
      rotate_left
      focus (intro w hSw; (try dsimp only at hSw); go_simp; (try with_reducible rfl); done)
      try simp only [List.getElem_toArray, List.getElem_cons_succ, List.getElem_cons_zero, Act.put, List.setIfInBounds_toArray, List.set_cons_zero, List.set_cons_succ]
      refine wpAnyH_ready (rs := [11]) (by kernel_rfl) (by simp) ?_
      refine AllReadyH.cons rfl (fun JJ hJJ => ?_) AllReadyH.nil
      go_simp
      (go_at_call 27; refine Calls.mono (C.out _ _ _ ?_ ?_ ?_) ?_; (focus ((repeat (first | with_reducible exact (Below.refl _ _) | with_reducible apply Below.drew | with_reducible refine balloc ?_ _)); done)); (first | with_reducible exact lit_a _ _ _ _ | with_reducible exact lit_b _ _ _ _); (first | with_reducible exact lit_d _ _ _ _ _ | with_reducible exact lit_c _ _ _ _ _); rintro e w5 ⟨rfl, ha5, k5⟩; have hb5 := k5; have u0 : w5.cell? ⟨V, 0, none⟩ = some (.pointer (some ⟨T, 0, none⟩)) := keep_cell hb5 vl3 (nar_not vl3 HVO.out) z0; have u1 := keep_cell hb5 tl3 (nar_not tl3 HTO.out) x1; have T5 := (hb5.block T tl3 (nar_not tl3 HTO.out)).trans HT3.out; have A5 := put ha5; have K5 := put hb5; have HT5 := put T5; clear ha5 k5 hb5 T5; obtain ⟨t0, t1, t2, t3⟩ := c4 HT5.out; have t4 : w5.frozen? ⟨T, 1, none⟩ = false := TrR.loose (a := a) (r := (i : Int) + 1) (h := (h : Int) + 1) (n := n) HT5.out 1; have t5 : w5.frozen? ⟨T, 2, none⟩ = false := TrR.loose (a := a) (r := (i : Int) + 1) (h := (h : Int) + 1) (n := n) HT5.out 2; have t6 : w5.frozen? ⟨T, 3, none⟩ = false := TrR.loose (a := a) (r := (i : Int) + 1) (h := (h : Int) + 1) (n := n) HT5.out 3)
      refine hJJ.out _ _ ?_ (fun hHeld2 => ?_)
      · exact u0
      clear hJJ JJ hHeld
      have hHeld := hHeld2
      clear hHeld2
      try simp only [List.getElem_toArray, List.getElem_cons_succ, List.getElem_cons_zero, Act.put, List.setIfInBounds_toArray, List.set_cons_zero, List.set_cons_succ]
      refine wpAnyH_take (i := 12) (v := ?_) rfl (by kernel_rfl) (by kernel_rfl) (by kernel_rfl) (fun _ _ _ h => h) (Or.inl ⟨by kernel_rfl, ?_⟩) (by assumption) ?_
      rotate_left
      focus (intro w hSw; (try dsimp only at hSw); go_simp; (try with_reducible rfl); done)
      try simp only [List.getElem_toArray, List.getElem_cons_succ, List.getElem_cons_zero, Act.put, List.setIfInBounds_toArray, List.set_cons_zero, List.set_cons_succ]
      refine wpAnyH_take (i := 13) (v := ?_) rfl (by kernel_rfl) (by kernel_rfl) (by kernel_rfl) (fun _ _ _ h => h) (Or.inl ⟨by kernel_rfl, ?_⟩) (by assumption) ?_
      rotate_left
      focus (intro w hSw; (try dsimp only at hSw); go_simp; (try with_reducible rfl); done)
      try simp only [List.getElem_toArray, List.getElem_cons_succ, List.getElem_cons_zero, Act.put, List.setIfInBounds_toArray, List.set_cons_zero, List.set_cons_succ]
      refine wpAnyH_ready (rs := [14]) (by kernel_rfl) (by simp) ?_
      refine AllReadyH.cons rfl (fun JJ hJJ => ?_) AllReadyH.nil
      go_simp
      refine hJJ.out _ _ ?_ (fun hHeld2 => ?_)
      · exact (World.cell?_setCell_far _ _ _ _ (by exact hvt)).trans u0
      clear hJJ JJ hHeld
      have hHeld := hHeld2
      clear hHeld2
      try simp only [List.getElem_toArray, List.getElem_cons_succ, List.getElem_cons_zero, Act.put, List.setIfInBounds_toArray, List.set_cons_zero, List.set_cons_succ]
      refine wpAnyH_done (by kernel_rfl) ?_ _
      refine NoPanic.normal ?_
      go_wp2_with fail
      have hN5 : ∀ b, nar ok w3.heap.size w3.heap.size b → ok b := fun b hb => by
        rcases hb with hb | hb
        · exact hb.1
        · exact HOK.out b (Nat.le_trans hs3 hb)
      refine bodyPost_end (results_none rfl _ _ _) rfl ⟨rfl, _, h + 1, k, k :: ps3, IO.out.root hr0 HS.out.rise HNO.out HK.out AX.out.np, ?_, ?_, ?_⟩
      · exact (A5.out.mono hN5).kps ((((Kps.refl (fun k => k = T) w5).set (.inl rfl) 1 _).set (.inl rfl) 2 _).set (.inl rfl) 3 _) (fun b hb _ e => HTO.out (e ▸ hb))
      · exact (setCell_heap (setCell_heap (setCell_heap HT5.out 1 _) 2 _) 3 _).trans rfl
      · exact ((((K3.out.mono fun k hk => .inl hk).trans (K5.out.mono fun k hk => .inl (hN5 k hk))).set (.inl (.inr rfl)) 1 _).set (.inl (.inr rfl)) 2 _).set (.inl (.inr rfl)) 3 _
    refine AllReadyH.cons rfl (fun JJ hJJ => ?_) AllReadyH.nil
    go_simp
    refine hJJ.out _ _ ?_ (fun hHeld2 => ?_)
    · first | go_keep | assumption | exact z0
    clear hJJ JJ hHeld
    have hHeld := hHeld2
    clear hHeld2
    try simp only [List.getElem_toArray, List.getElem_cons_succ, List.getElem_cons_zero, Act.put, List.setIfInBounds_toArray, List.set_cons_zero, List.set_cons_succ]
    refine wpAnyH_ready (rs := [3, 9]) (by kernel_rfl) (by simp) ?_
    refine AllReadyH.cons rfl (fun JJ hJJ => ?_) ?_
    · go_simp
      refine hJJ.out _ _ ?_ (fun hHeld2 => ?_)
      · first | go_keep | assumption | exact z0
      clear hJJ JJ hHeld
      have hHeld := hHeld2
      clear hHeld2
      try simp only [List.getElem_toArray, List.getElem_cons_succ, List.getElem_cons_zero, Act.put, List.setIfInBounds_toArray, List.set_cons_zero, List.set_cons_succ]
      refine wpAnyH_ready (rs := [9]) (by kernel_rfl) (by simp) ?_
      refine AllReadyH.cons rfl (fun JJ hJJ => ?_) AllReadyH.nil
      go_simp
      refine hJJ.out _ _ ?_ (fun hHeld2 => ?_)
      · first | go_keep | assumption | exact z0
      clear hJJ JJ hHeld
      have hHeld := hHeld2
      clear hHeld2
      try simp only [List.getElem_toArray, List.getElem_cons_succ, List.getElem_cons_zero, Act.put, List.setIfInBounds_toArray, List.set_cons_zero, List.set_cons_succ]
      refine wpAnyH_take (i := 10) (v := ?_) rfl (by kernel_rfl) (by kernel_rfl) (by kernel_rfl) (fun _ _ _ h => h) (Or.inl ⟨by kernel_rfl, ?_⟩) (by assumption) ?_
      rotate_left
      focus (intro w hSw; (try dsimp only at hSw); go_simp; (try with_reducible rfl); done)
      try simp only [List.getElem_toArray, List.getElem_cons_succ, List.getElem_cons_zero, Act.put, List.setIfInBounds_toArray, List.set_cons_zero, List.set_cons_succ]
      refine wpAnyH_ready (rs := [11]) (by kernel_rfl) (by simp) ?_
      refine AllReadyH.cons rfl (fun JJ hJJ => ?_) AllReadyH.nil
      go_simp
      (go_at_call 27; refine Calls.mono (C.out _ _ _ ?_ ?_ ?_) ?_; (focus ((repeat (first | with_reducible exact (Below.refl _ _) | with_reducible apply Below.drew | with_reducible refine balloc ?_ _)); done)); (first | with_reducible exact lit_a _ _ _ _ | with_reducible exact lit_b _ _ _ _); (first | with_reducible exact lit_d _ _ _ _ _ | with_reducible exact lit_c _ _ _ _ _); rintro e w5 ⟨rfl, ha5, k5⟩; have hb5 := k5; have u0 : w5.cell? ⟨V, 0, none⟩ = some (.pointer (some ⟨T, 0, none⟩)) := keep_cell hb5 vl3 (nar_not vl3 HVO.out) z0; have u1 := keep_cell hb5 tl3 (nar_not tl3 HTO.out) x1; have T5 := (hb5.block T tl3 (nar_not tl3 HTO.out)).trans HT3.out; have A5 := put ha5; have K5 := put hb5; have HT5 := put T5; clear ha5 k5 hb5 T5; obtain ⟨t0, t1, t2, t3⟩ := c4 HT5.out; have t4 : w5.frozen? ⟨T, 1, none⟩ = false := TrR.loose (a := a) (r := (i : Int) + 1) (h := (h : Int) + 1) (n := n) HT5.out 1; have t5 : w5.frozen? ⟨T, 2, none⟩ = false := TrR.loose (a := a) (r := (i : Int) + 1) (h := (h : Int) + 1) (n := n) HT5.out 2; have t6 : w5.frozen? ⟨T, 3, none⟩ = false := TrR.loose (a := a) (r := (i : Int) + 1) (h := (h : Int) + 1) (n := n) HT5.out 3)
      refine hJJ.out _ _ ?_ (fun hHeld2 => ?_)
      · exact u0
      clear hJJ JJ hHeld
      have hHeld := hHeld2
      clear hHeld2
      try simp only [List.getElem_toArray, List.getElem_cons_succ, List.getElem_cons_zero, Act.put, List.setIfInBounds_toArray, List.set_cons_zero, List.set_cons_succ]
      refine wpAnyH_take (i := 12) (v := ?_) rfl (by kernel_rfl) (by kernel_rfl) (by kernel_rfl) (fun _ _ _ h => h) (Or.inl ⟨by kernel_rfl, ?_⟩) (by assumption) ?_
      rotate_left
      focus (intro w hSw; (try dsimp only at hSw); go_simp; (try with_reducible rfl); done)
      try simp only [List.getElem_toArray, List.getElem_cons_succ, List.getElem_cons_zero, Act.put, List.setIfInBounds_toArray, List.set_cons_zero, List.set_cons_succ]
      refine wpAnyH_take (i := 13) (v := ?_) rfl (by kernel_rfl) (by kernel_rfl) (by kernel_rfl) (fun _ _ _ h => h) (Or.inl ⟨by kernel_rfl, ?_⟩) (by assumption) ?_
      rotate_left
      focus (intro w hSw; (try dsimp only at hSw); go_simp; (try with_reducible rfl); done)
      try simp only [List.getElem_toArray, List.getElem_cons_succ, List.getElem_cons_zero, Act.put, List.setIfInBounds_toArray, List.set_cons_zero, List.set_cons_succ]
      refine wpAnyH_ready (rs := [14]) (by kernel_rfl) (by simp) ?_
      refine AllReadyH.cons rfl (fun JJ hJJ => ?_) AllReadyH.nil
      go_simp
      refine hJJ.out _ _ ?_ (fun hHeld2 => ?_)
      · exact (World.cell?_setCell_far _ _ _ _ (by exact hvt)).trans u0
      clear hJJ JJ hHeld
      have hHeld := hHeld2
      clear hHeld2
      try simp only [List.getElem_toArray, List.getElem_cons_succ, List.getElem_cons_zero, Act.put, List.setIfInBounds_toArray, List.set_cons_zero, List.set_cons_succ]
      refine wpAnyH_done (by kernel_rfl) ?_ _
      refine NoPanic.normal ?_
      go_wp2_with fail
      have hN5 : ∀ b, nar ok w3.heap.size w3.heap.size b → ok b := fun b hb => by
        rcases hb with hb | hb
        · exact hb.1
        · exact HOK.out b (Nat.le_trans hs3 hb)
      refine bodyPost_end (results_none rfl _ _ _) rfl ⟨rfl, _, h + 1, k, k :: ps3, IO.out.root hr0 HS.out.rise HNO.out HK.out AX.out.np, ?_, ?_, ?_⟩
      · exact (A5.out.mono hN5).kps ((((Kps.refl (fun k => k = T) w5).set (.inl rfl) 1 _).set (.inl rfl) 2 _).set (.inl rfl) 3 _) (fun b hb _ e => HTO.out (e ▸ hb))
      · exact (setCell_heap (setCell_heap (setCell_heap HT5.out 1 _) 2 _) 3 _).trans rfl
      · exact ((((K3.out.mono fun k hk => .inl hk).trans (K5.out.mono fun k hk => .inl (hN5 k hk))).set (.inl (.inr rfl)) 1 _).set (.inl (.inr rfl)) 2 _).set (.inl (.inr rfl)) 3 _
    refine AllReadyH.cons rfl (fun JJ hJJ => ?_) AllReadyH.nil
    go_simp
    refine hJJ.out _ _ ?_ (fun hHeld2 => ?_)
    · first | go_keep | assumption | exact z0
    clear hJJ JJ hHeld
    have hHeld := hHeld2
    clear hHeld2
    try simp only [List.getElem_toArray, List.getElem_cons_succ, List.getElem_cons_zero, Act.put, List.setIfInBounds_toArray, List.set_cons_zero, List.set_cons_succ]
    refine wpAnyH_ready (rs := [3]) (by kernel_rfl) (by simp) ?_
    refine AllReadyH.cons rfl (fun JJ hJJ => ?_) AllReadyH.nil
    go_simp
    refine hJJ.out _ _ ?_ (fun hHeld2 => ?_)
    · first | go_keep | assumption | exact z0
    clear hJJ JJ hHeld
    have hHeld := hHeld2
    clear hHeld2
    try simp only [List.getElem_toArray, List.getElem_cons_succ, List.getElem_cons_zero, Act.put, List.setIfInBounds_toArray, List.set_cons_zero, List.set_cons_succ]
    refine wpAnyH_take (i := 10) (v := ?_) rfl (by kernel_rfl) (by kernel_rfl) (by kernel_rfl) (fun _ _ _ h => h) (Or.inl ⟨by kernel_rfl, ?_⟩) (by assumption) ?_
    rotate_left
    focus (intro w hSw; (try dsimp only at hSw); go_simp; (try with_reducible rfl); done)
    try simp only [List.getElem_toArray, List.getElem_cons_succ, List.getElem_cons_zero, Act.put, List.setIfInBounds_toArray, List.set_cons_zero, List.set_cons_succ]
    refine wpAnyH_ready (rs := [11]) (by kernel_rfl) (by simp) ?_
    refine AllReadyH.cons rfl (fun JJ hJJ => ?_) AllReadyH.nil
    go_simp
    (go_at_call 27; refine Calls.mono (C.out _ _ _ ?_ ?_ ?_) ?_; (focus ((repeat (first | with_reducible exact (Below.refl _ _) | with_reducible apply Below.drew | with_reducible refine balloc ?_ _)); done)); (first | with_reducible exact lit_a _ _ _ _ | with_reducible exact lit_b _ _ _ _); (first | with_reducible exact lit_d _ _ _ _ _ | with_reducible exact lit_c _ _ _ _ _); rintro e w5 ⟨rfl, ha5, k5⟩; have hb5 := k5; have u0 : w5.cell? ⟨V, 0, none⟩ = some (.pointer (some ⟨T, 0, none⟩)) := keep_cell hb5 vl3 (nar_not vl3 HVO.out) z0; have u1 := keep_cell hb5 tl3 (nar_not tl3 HTO.out) x1; have T5 := (hb5.block T tl3 (nar_not tl3 HTO.out)).trans HT3.out; have A5 := put ha5; have K5 := put hb5; have HT5 := put T5; clear ha5 k5 hb5 T5; obtain ⟨t0, t1, t2, t3⟩ := c4 HT5.out; have t4 : w5.frozen? ⟨T, 1, none⟩ = false := TrR.loose (a := a) (r := (i : Int) + 1) (h := (h : Int) + 1) (n := n) HT5.out 1; have t5 : w5.frozen? ⟨T, 2, none⟩ = false := TrR.loose (a := a) (r := (i : Int) + 1) (h := (h : Int) + 1) (n := n) HT5.out 2; have t6 : w5.frozen? ⟨T, 3, none⟩ = false := TrR.loose (a := a) (r := (i : Int) + 1) (h := (h : Int) + 1) (n := n) HT5.out 3)
    refine hJJ.out _ _ ?_ (fun hHeld2 => ?_)
    · exact u0
    clear hJJ JJ hHeld
    have hHeld := hHeld2
    clear hHeld2
    try simp only [List.getElem_toArray, List.getElem_cons_succ, List.getElem_cons_zero, Act.put, List.setIfInBounds_toArray, List.set_cons_zero, List.set_cons_succ]
    refine wpAnyH_take (i := 12) (v := ?_) rfl (by kernel_rfl) (by kernel_rfl) (by kernel_rfl) (fun _ _ _ h => h) (Or.inl ⟨by kernel_rfl, ?_⟩) (by assumption) ?_
    rotate_left
    focus (intro w hSw; (try dsimp only at hSw); go_simp; (try with_reducible rfl); done)
    try simp only [List.getElem_toArray, List.getElem_cons_succ, List.getElem_cons_zero, Act.put, List.setIfInBounds_toArray, List.set_cons_zero, List.set_cons_succ]
    refine wpAnyH_take (i := 13) (v := ?_) rfl (by kernel_rfl) (by kernel_rfl) (by kernel_rfl) (fun _ _ _ h => h) (Or.inl ⟨by kernel_rfl, ?_⟩) (by assumption) ?_
    rotate_left
    focus (intro w hSw; (try dsimp only at hSw); go_simp; (try with_reducible rfl); done)
    try simp only [List.getElem_toArray, List.getElem_cons_succ, List.getElem_cons_zero, Act.put, List.setIfInBounds_toArray, List.set_cons_zero, List.set_cons_succ]
    refine wpAnyH_ready (rs := [14]) (by kernel_rfl) (by simp) ?_
    refine AllReadyH.cons rfl (fun JJ hJJ => ?_) AllReadyH.nil
    go_simp
    refine hJJ.out _ _ ?_ (fun hHeld2 => ?_)
    · exact (World.cell?_setCell_far _ _ _ _ (by exact hvt)).trans u0
    clear hJJ JJ hHeld
    have hHeld := hHeld2
    clear hHeld2
    try simp only [List.getElem_toArray, List.getElem_cons_succ, List.getElem_cons_zero, Act.put, List.setIfInBounds_toArray, List.set_cons_zero, List.set_cons_succ]
    refine wpAnyH_done (by kernel_rfl) ?_ _
    refine NoPanic.normal ?_
    go_wp2_with fail
    have hN5 : ∀ b, nar ok w3.heap.size w3.heap.size b → ok b := fun b hb => by
      rcases hb with hb | hb
      · exact hb.1
      · exact HOK.out b (Nat.le_trans hs3 hb)
    refine bodyPost_end (results_none rfl _ _ _) rfl ⟨rfl, _, h + 1, k, k :: ps3, IO.out.root hr0 HS.out.rise HNO.out HK.out AX.out.np, ?_, ?_, ?_⟩
    · exact (A5.out.mono hN5).kps ((((Kps.refl (fun k => k = T) w5).set (.inl rfl) 1 _).set (.inl rfl) 2 _).set (.inl rfl) 3 _) (fun b hb _ e => HTO.out (e ▸ hb))
    · exact (setCell_heap (setCell_heap (setCell_heap HT5.out 1 _) 2 _) 3 _).trans rfl
    · exact ((((K3.out.mono fun k hk => .inl hk).trans (K5.out.mono fun k hk => .inl (hN5 k hk))).set (.inl (.inr rfl)) 1 _).set (.inl (.inr rfl)) 2 _).set (.inl (.inr rfl)) 3 _
end Go.Proofs.Ytcpahknlabnnbaa.T

namespace Go.Proofs.Ytcpahknlabnnbaa.T
open Go Go.RowKit Go.Sort Go.Proofs.Ytcpahknlabnnbaa.Mem

/-- What Insert answers. -/
def insCode (A : Ar) (h : Nat) (es : List ByteArray) (s : ByteArray) : Int := if s.size < 1 ∨ 400 < s.size then 15 else if hasB s es = true then 3 else if A.left < (h : Int) + 2 then 9 else 0
/-- What Insert leaves. -/
structure InsT (μ : Nat → Nat) (ok : Nat → Prop) (T a h i n : Nat) (s : ByteArray) (es : List ByteArray) (ps : List Nat) (A : Ar) (w : World) (e : Ending) (w' : World) : Prop where
  out : ∃ c : Int, e = .returned (.int .i64 c) ∧ c = insCode A h es s ∧ ((c ≠ 0 ∧ ArX ok w' a A ∧ TrR T a w' ((i : Int) + 1) ((h : Int) + 1) n ∧ Kps ok w w') ∨ (c = 0 ∧ s ∉ es ∧ ∃ A' h' i' ps', Ins1 μ A A' h s es ps h' i' ps' ∧ ArX ok w' a A' ∧ TrR T a w' ((i' : Int) + 1) ((h' : Int) + 1) ((n + 1 : Nat) : Int) ∧ Kps (fun k => ok k ∨ k = T) w w'))
set_option maxHeartbeats 4000000 in
set_option maxRecDepth 100000 in
/-- Insert. -/
theorem insertTree {μ μ0 : Nat → Nat} (hμ : ∀ l, μ l ≤ 1) {ok : Nat → Prop} (T a h i : Nat) (n : Nat) (s : ByteArray) (A : Ar) (es : List ByteArray) (ps : List Nat) (w : World) (t : TrR T a w ((i : Int) + 1) ((h : Int) + 1) n) (ha : ArX ok w a A) (hA : A.Ok) (hok : ∀ k, w.heap.size ≤ k → ok k) (hTo : ¬ ok T) (hn : n ≤ 1000000) (hs : Sub μ0 A h i top es ps) (hm0 : h ≠ 0 → μ0 = μ) (hh : h ≤ 1000000) (hz : s.size ≤ 1000000) :
    Calls Try.prog 21 #[.pointer (some ⟨T, 0, none⟩), .string s] w (InsT μ ok T a h i n s es ps A w) := by
  obtain ⟨w2, hw2⟩ : ∃ w2, w2 = (w.alloc (.cells #[.pointer (some ⟨T, 0, none⟩)] 29)).alloc (.cells #[.string s] 9) := ⟨_, rfl⟩
  have s2 : w2.heap.size = w.heap.size + 1 + 1 := by rw [hw2, alloc_size, alloc_size]
  have hb2 : Below w.heap.size w w2 := by rw [hw2]; exact balloc (balloc (Below.refl _ _) _) _
  have hV : w2.heap[w.heap.size]? = some (.cells #[.pointer (some ⟨T, 0, none⟩)] 29 (0, 0)) := by rw [hw2, hag, if_neg (by rw [alloc_size]; omega), hag, if_pos rfl]
  have hV2 : w2.heap[w.heap.size + 1]? = some (.cells #[.string s] 9 (0, 0)) := by rw [hw2, hag, if_pos (by rw [alloc_size])]
  have B2 := put hb2
  have S2 := put s2
  have HT := put t
  have HA := put ha
  have HAO := put hA
  have HOK := put hok
  have HTO := put hTo
  have HS := put hs
  have HM0 := put hm0
  have htl := t.lt
  have HHT := put (hasCalls (ok := ok) T a h i ((h : Int) + 1) n A top es ps s w2 (t.below hb2) (by omega) hs (ha.below hb2))
  have HOV := put (overCalls T a ((i : Int) + 1) ((h : Int) + 1) n w2 (t.below hb2) (by omega))
  have HNOT : Kp (∀ c : Int, c ≠ 0 → c = insCode A h es s → ∀ w', Below w.heap.size w w' → InsT μ ok T a h i n s es ps A w (.returned (.int .i64 c)) w') := put fun c h1 h2 w' hb => ⟨c, rfl, h2, .inl ⟨h1, HA.out.below hb, HT.out.below hb, below_kps hb ok⟩⟩
  have HV := put hV
  have HV2 := put hV2
  have x0 : w2.cell? ⟨w.heap.size, 0, none⟩ = some (.pointer (some ⟨T, 0, none⟩)) := by simp [World.cell?, hV]
  have x1 : w2.cell? ⟨w.heap.size + 1, 0, none⟩ = some (.string s) := by simp [World.cell?, hV2]
  have HW := put hw2
  clear hw2 s2 hb2 hV hV2 t ha hA hok hTo hs hm0
  go_enter Try.func21, Try.ntmps21
  go_wp2_with fail
  rw [← HW.out]
  refine HOV.out.mono ?_
  rintro e w3 ⟨rfl, rfl⟩
  by_cases hz1 : (s.size : Int) < 1
  · go_wp2_with fail
    go_ret
    exact HNOT.out 15 (by decide) (by unfold insCode; rw [if_pos (by omega)]) _ B2.out
  by_cases hz2 : (400 : Int) < s.size
  · go_wp2_with fail
    go_ret
    exact HNOT.out 15 (by decide) (by unfold insCode; rw [if_pos (by omega)]) _ B2.out
  go_wp2_with fail
  refine HHT.out.mono ?_
  rintro e w4 ⟨rfl, hb4⟩
  have B4 := put (bt B2.out hb4)
  have x0' := cell_at x0 hb4
  have x1' := cell_at x1 hb4
  have HV4 := put ((hb4.block _ (Array.getElem?_eq_some_iff.1 HV.out).1).trans HV.out)
  have HV42 := put ((hb4.block _ (Array.getElem?_eq_some_iff.1 HV2.out).1).trans HV2.out)
  have hs4 := hb4.size
  clear hb4 x0 x1
  obtain ⟨bb, hbb⟩ : ∃ bb, bb = hasB s es := ⟨_, rfl⟩
  rw [← hbb]
  have HBB := put hbb
  clear hbb
  cases bb with
  | true =>
    go_wp2_with fail
    go_ret
    exact HNOT.out 3 (by decide) (by unfold insCode; rw [if_neg (by omega), if_pos HBB.out.symm]) _ B4.out
  | false =>
    have T4 := HT.out.below B4.out
    obtain ⟨t0, t1, t2, t3⟩ := c4 T4
    have HT4 := put T4
    have AX4 := put (HA.out.below B4.out)
    have LC : Kp (∀ W, Below w4.heap.size w4 W → Calls Try.prog 28 #[.pointer (some ⟨a, 0, none⟩)] W fun e w' => e = .returned (.int .i64 A.left) ∧ Below w4.heap.size w4 w') := put fun W hb => by
      obtain ⟨vp, vf, hx⟩ := AX4.out.below hb
      refine (leftCalls a vp vf A W hx HAO.out.q).mono ?_
      rintro e w' ⟨h1, q, rfl⟩
      exact ⟨h1, bt hb ⟨rfl, rfl, rfl, Nat.le_refl _, fun _ _ => rfl⟩⟩
    clear T4
    go_wp2_with fail
    have k1 : IntKind.i64.wrap ((h : Int) + 1 + 1) = (h : Int) + 1 + 1 := IntWalk.i64_in _ (by omega)
    go_region_held3 (fun w' => w'.cell? ⟨w.heap.size, 0, none⟩ = some (.pointer (some ⟨T, 0, none⟩)) ∧ w'.cell? ⟨T, 0, none⟩ = some (.pointer (some ⟨a, 0, none⟩)) ∧ w'.cell? ⟨T, 2, none⟩ = some (.int .i64 ((h : Int) + 1))) (first | go_keep | exact ⟨x0', t0, t2⟩ | exact ⟨y0, y1, y2⟩) (first | (go_at_call 28; refine (LC.out _ (by (repeat (first | with_reducible exact (Below.refl _ _) | with_reducible apply Below.drew | with_reducible refine balloc ?_ _)))).mono ?_; rintro e w5 ⟨rfl, hb5⟩; have y0 := cell_at x0' hb5; have y1 := cell_at t0 hb5; have y2 := cell_at t2 hb5; have B5 := put hb5; clear hb5))
    clear t0 t1 t2 t3
    have B05 := put (bt B4.out B5.out)
    have hs5 := B5.out.size
    have HV5 := put ((B5.out.block _ (Array.getElem?_eq_some_iff.1 HV4.out).1).trans HV4.out)
    have HV52 := put ((B5.out.block _ (Array.getElem?_eq_some_iff.1 HV42.out).1).trans HV42.out)
    by_cases hl : A.left < (h : Int) + 1 + 1
    · go_wp2_with fail
      go_ret
      exact HNOT.out 9 (by decide) (by unfold insCode; rw [if_neg (by omega), if_neg (by rw [← HBB.out]; simp), if_pos (by omega)]) _ B05.out
    have HL : Kp ((h : Int) + 2 ≤ A.left) := put (by omega)
    have HZ : Kp (1 ≤ s.size ∧ s.size ≤ 400) := put (by omega)
    have hsz5 : w.heap.size + 1 + 1 ≤ w5.heap.size := by have := S2.out; omega
    have HNO : Kp (s ∉ es) := put (hasB_false.1 HBB.out.symm)
    have HC : Kp (Calls Try.prog 25 #[.func (.func 36) #[] #[.pointer (some ⟨w.heap.size, 0, none⟩), .pointer (some ⟨w.heap.size + 1, 0, none⟩)]] w5 fun e w' => ∃ c, e = .returned (.agg #[.int .i64 c, .int .i64 0]) ∧ (c = 0 ∧ w5.heap.size < w'.heap.size ∧ Kp (∃ A' h' i' ps', Ins1 μ A A' h s es ps h' i' ps' ∧ ArX (nar ok w.heap.size (w5.heap.size + 1)) w' a A' ∧ TrR T a w' ((i' : Int) + 1) ((h' : Int) + 1) ((n + 1 : Nat) : Int) ∧ Kps (fun k => ok k ∨ k = T) w w'))) := put (by
      have ha : Below w5.heap.size w5 (w5.alloc (.cells #[.int .i64 0, .int .i64 0] 65)) := balloc (Below.refl _ _) _
      have hz : (w5.alloc (.cells #[.int .i64 0, .int .i64 0] 65)).heap.size = w5.heap.size + 1 := by rw [alloc_size]
      have hA3 := HA.out.nar (bt B05.out ha)
      rw [hz] at hA3
      have hno : ∀ k, w.heap.size ≤ k → k < w5.heap.size + 1 → ¬ nar ok w.heap.size (w5.heap.size + 1) k := fun k h1 h2 h3 => by rcases h3 with h3 | h3 <;> omega
      have hnT : ¬ nar ok w.heap.size (w5.heap.size + 1) T := fun h3 => by
        rcases h3 with h3 | h3
        · exact HTO.out h3.1
        · omega
      have hin : ∀ k, nar ok w.heap.size (w5.heap.size + 1) k → ok k := fun k hk => by
        rcases hk with hk | hk
        · exact hk.1
        · exact HOK.out k (by omega)
      refine catchCalls 36 _ (enters_of Try.func36 (by kernel_rfl) rfl _) w5 _ ?_ ?_ ?_
      · refine (insFun (μ0 := μ0) hμ (ok := nar ok w.heap.size (w5.heap.size + 1)) w.heap.size (w.heap.size + 1) T a h i n s A es ps _ ((ha.block _ (by omega)).trans HV5.out) ((ha.block _ (by omega)).trans HV52.out) ((HT.out.below B05.out).below ha) hA3 HAO.out HL.out (fun k hk => .inr (by rw [hz] at hk; exact hk)) hnT (hno _ (by omega) (by omega)) (hno _ (by omega) (by omega)) hn HS.out HM0.out HZ.out HNO.out).mono ?_
        rintro e w' ⟨rfl, A', h', i', ps', g1, g2, g3, g4⟩
        refine ⟨0, rfl, ⟨rfl, by have := g4.size; omega, put ⟨A', h', i', ps', g1, g2, g3, ?_⟩⟩, ?_⟩
        · refine (below_kps (bt B05.out ha) _).trans (g4.mono fun k hk => ?_)
          rcases hk with hk | hk
          · exact .inl (hin k hk)
          · exact .inr hk
        · rw [g4.block _ (by omega) (by
            rintro (h3 | h3)
            · exact hno _ (by omega) (by omega) h3
            · omega), hag, if_pos rfl]
      · rintro c w' o ⟨g0, gs, g⟩
        obtain ⟨A', h', i', ps', g1, g2, g3, g4⟩ := g.out
        exact ⟨g0, by rw [alloc_size]; omega, put ⟨A', h', i', ps', g1, g2.below (balloc (Below.refl _ _) _), g3.below (balloc (Below.refl _ _) _), g4.alloc o⟩⟩
      · rintro c w' j u ⟨g0, gs, g⟩
        obtain ⟨A', h', i', ps', g1, g2, g3, g4⟩ := g.out
        have hk : Kps (fun k => k = w5.heap.size) w' (w'.setCell ⟨w5.heap.size, j, none⟩ u) := (Kps.refl (fun k => k = w5.heap.size) w').set (.inl rfl) j u
        refine ⟨g0, by rw [World.size_setCell]; exact gs, put ⟨A', h', i', ps', g1, g2.kps hk (fun b hb _ e => hno b (by omega) (by omega) hb), (hk.block _ g3.lt (by omega)).trans g3, g4.set (.inr (by omega)) j u⟩⟩)
    have HNC : Kp (insCode A h es s = 0) := put (by unfold insCode; rw [if_neg (by omega), if_neg (by rw [← HBB.out]; simp), if_neg (by omega)])
    have hnT2 : Kp (∀ k, nar ok w.heap.size (w5.heap.size + 1) k → ok k) := put fun k hk => by
      rcases hk with hk | hk
      · exact hk.1
      · exact HOK.out k (by omega)
    clear x0' x1'
    go_wp2_with fail
    refine HC.out.mono ?_
    rintro e w6 ⟨c, rfl, rfl, hs6, hG⟩
    go_wp2_with fail
    go_ret
    obtain ⟨A', h', i', ps', g1, g2, g3, g4⟩ := hG.out
    exact ⟨0, rfl, HNC.out.symm, .inr ⟨rfl, HNO.out, A', h', i', ps', g1, (g2.mono hnT2.out).below (balloc (Below.refl _ _) _), g3.below (balloc (Below.refl _ _) _), g4.alloc _⟩⟩
end Go.Proofs.Ytcpahknlabnnbaa.T

namespace Go.Proofs.Ytcpahknlabnnbaa.T
open Go Go.RowKit Go.Sort Go.Proofs.Ytcpahknlabnnbaa.Mem

/-- s taken out. -/
def dropE (es : List ByteArray) (s : ByteArray) : List ByteArray := es.take (posS es s) ++ es.drop (posS es s + 1)
theorem dropE_mem {es : List ByteArray} {s : ByteArray} (h : Rise es) (hs : s ∈ es) (x : ByteArray) : x ∈ dropE es s ↔ x ∈ es ∧ x ≠ s := mem_del h ((posS_there h).2 hs) x
theorem dropE_rise {es : List ByteArray} {s : ByteArray} (h : Rise es) : Rise (dropE es s) := rise_del h
theorem dropE_len {es : List ByteArray} {s : ByteArray} (h : Rise es) (hs : s ∈ es) : (dropE es s).length + 1 = es.length := by
  have := (List.getElem?_eq_some_iff.1 ((posS_there h).2 hs)).1
  unfold dropE
  rw [List.length_append, List.length_take, List.length_drop]
  omega
/-- The root has an entry, or is a leaf. -/
def rootm (h : Nat) : Nat → Nat := fun l => if l = h ∧ h ≠ 0 then 1 else 0
theorem rootm_le (h l : Nat) : rootm h l ≤ 1 := by unfold rootm; split <;> omega
theorem root_sub {A : Ar} {h i : Nat} {B : Bnd} {n : Nd} {es : List ByteArray} {bl : List Nat} (c : Cont m0 A h B n es bl) (hp : A.pages[i]? = some (some (enc n))) (hn : n.Ok) (hi : i ∉ bl) (hr : h = 0 ∨ n.recs ≠ []) : Sub (rootm h) A h i B es (i :: bl) := by
  cases h with
  | zero =>
    obtain ⟨h1, h2, h3, h4, rfl, rfl⟩ := c
    exact ⟨n, hp, ⟨hn, by unfold rootm; rw [if_neg (by simp)]; exact Nat.zero_le _⟩, h1, h4, rfl, rfl⟩
  | succ h =>
    obtain ⟨ks, hb, rfl, rfl⟩ := c
    have hr : n.recs ≠ [] := hr.resolve_left (Nat.succ_ne_zero h)
    refine ⟨n, ks, hp, ⟨hn, ?_⟩, hb.imp (fun _ _ _ _ _ hs => hs.lower fun l hl => ?_), hi, rfl, rfl⟩
    · unfold rootm
      rw [if_pos ⟨rfl, Nat.succ_ne_zero h⟩]
      exact List.length_pos_iff.2 hr
    · unfold rootm
      rw [if_neg (by omega)]
      exact Nat.zero_le _
/-- What Delete leaves. -/
structure Del1 (A A' : Ar) (h : Nat) (s : ByteArray) (es : List ByteArray) (ps : List Nat) (h' i' : Nat) (ps' : List Nat) : Prop where
  d : DelOut A A' h' i' top ps (dropE es s) ps'
  r : Sub (rootm h') A' h' i' top (dropE es s) ps'
  hh : h' ≤ h
structure DelF (ok : Nat → Prop) (T a h : Nat) (n : Int) (s : ByteArray) (es : List ByteArray) (ps : List Nat) (A : Ar) (w : World) (e : Ending) (w' : World) : Prop where
  e0 : e = .returned (.tuple #[])
  out : ∃ A' h' i' ps', Del1 A A' h s es ps h' i' ps' ∧ ArX ok w' a A' ∧ TrR T a w' ((i' : Int) + 1) ((h' : Int) + 1) (n - 1) ∧ Kps (fun k => ok k ∨ k = T) w w'
theorem bl_size {w W : World} (h : Below w.heap.size w W) : w.heap.size ≤ W.heap.size := h.size
theorem nw_jb {base : Nat} {w2 W : World} {N : Nat} {lf : Bool} {va vk : Value} {x : Nd} (j : JB base w2 W N lf va vk x) : NW (fun b => base ≤ b ∧ b < W.heap.size) N W lf va vk x.recs (kints x.kids) :=
  ⟨j.n, j.r.lower (Nat.zero_le _), j.k.lower (Nat.zero_le _), ⟨j.nb, (Array.getElem?_eq_some_iff.1 j.n).1⟩, fun b hb => j.r.lt b hb, fun b hb => j.k.lt b hb⟩
theorem jb3 {base : Nat} {w2 w5 W : World} {X : Nat} {lf : Bool} {va vk a0 a1 a2 : Value} {x : Nd} (hX : base ≤ X) (hW : W = ((w5.setCell ⟨X, 0, none⟩ (.bool lf)).setCell ⟨X, 1, none⟩ va).setCell ⟨X, 2, none⟩ vk) (hz : w5.heap[X]? = some (.cells #[a0, a1, a2] 69 (0, 0))) (b : Below base w2 w5) (o : NdO base w5 va vk x) : JB base w2 W X lf va vk x := by
  have h1 := o.r.ne_block hz (by decide)
  have h2 := o.k.ne_block hz (by decide)
  subst hW
  have e1 : ∀ k, va.ownBlock = some k → k ≠ X := fun k hk e => h1 (by rw [hk, e])
  have e2 : ∀ k, vk.ownBlock = some k → k ≠ X := fun k hk e => h2 (by rw [hk, e])
  refine ⟨((b.setCell hX _).setCell hX _).setCell hX _, (setCell_heap (setCell_heap (setCell_heap hz 0 _) 1 _) 2 _).trans rfl, hX, ?_, ?_⟩
  · exact ((o.r.far (fun k hk e => e1 k hk e) (fun _ hk => hk.elim) _).far (fun k hk e => e1 k hk e) (fun _ hk => hk.elim) _).far (fun k hk e => e1 k hk e) (fun _ hk => hk.elim) _
  · exact ((o.k.far (fun k hk e => e2 k hk e) (fun _ hk => hk.elim) _).far (fun k hk e => e2 k hk e) (fun _ hk => hk.elim) _).far (fun k hk e => e2 k hk e) (fun _ hk => hk.elim) _
/-- The loop that takes roots away: where it stands. -/
structure DL (ok : Nat → Prop) (T a : Nat) (n : Int) (A0 : Ar) (es : List ByteArray) (ps0 : List Nat) (w0 : World) (V X : Nat) (W : World) (h' : Nat) (A' : Ar) (i' : Nat) (bl : List Nat) (nd : Nd) (vr vk : Value) (okk : Nat → Prop) : Prop where
  d : DelOut A0 A' h' i' top ps0 es (i' :: bl)
  pg : A'.pages[i']? = some (some (enc nd))
  nok : nd.Ok
  c : Cont m0 A' h' top nd es bl
  ib : i' ∉ bl
  o1 : ∀ k, okk k → ok k
  o2 : ∀ k, W.heap.size ≤ k → okk k
  ax : ArX okk W a A'
  t : TrR T a W ((i' : Int) + 1) ((h' : Int) + 1) n
  nw : NW (fun b => w0.heap.size ≤ b ∧ ¬ okk b) X W nd.leaf vr vk nd.recs (kints nd.kids)
  v : W.cell? ⟨V, 0, none⟩ = some (.pointer (some ⟨T, 0, none⟩))
  k : Kps (fun k => ok k ∨ k = T) w0 W
set_option maxHeartbeats 4000000 in
set_option maxRecDepth 100000 in
/-- Delete's closure. -/
theorem delFun {μ : Nat → Nat} {ok : Nat → Prop} (V V2 T a h i : Nat) (n : Int) (s : ByteArray) (A : Ar) (es : List ByteArray) (ps : List Nat) (w : World) (hv : w.heap[V]? = some (.cells #[.pointer (some ⟨T, 0, none⟩)] 29 (0, 0))) (hv2 : w.heap[V2]? = some (.cells #[.string s] 9 (0, 0))) (t : TrR T a w ((i : Int) + 1) ((h : Int) + 1) n) (ha : ArX ok w a A) (hA : A.Ok) (hok : ∀ k, w.heap.size ≤ k → ok k) (hTo : ¬ ok T) (hVo : ¬ ok V) (hVo2 : ¬ ok V2) (hn : 0 ≤ n ∧ n ≤ 1000000) (hh : h ≤ 1000000) (hs : Sub μ A h i top es ps) (hin : s ∈ es) :
    Calls Try.prog 38 #[.pointer (some ⟨V, 0, none⟩), .pointer (some ⟨V2, 0, none⟩)] w (DelF ok T a h n s es ps A w) := by
  obtain ⟨x0, x1, x2, x3⟩ := t.cells
  have y0 : w.cell? ⟨V, 0, none⟩ = some (.pointer (some ⟨T, 0, none⟩)) := by simp [World.cell?, hv]
  have y1 : w.cell? ⟨V2, 0, none⟩ = some (.string s) := by simp [World.cell?, hv2]
  have hsub0 : Sub m0 A h i top es ps := hs.lower (fun _ _ => Nat.zero_le _)
  have IC := put (fun (W : World) (hb : Below w.heap.size w W) => removeN T a h ok i top s es ps A W (ha.below hb) hA (fun k hk => hok k (Nat.le_trans hb.size hk)) hTo (cell_at x0 hb) (Nat.lt_of_lt_of_le t.lt hb.size) hsub0 hin)
  have HT := put t
  have HTO := put hTo
  have HVO := put hVo
  have HVO2 := put hVo2
  have HV := put hv
  have HY0 := put y0
  have hvl2 := (Array.getElem?_eq_some_iff.1 hv2).1
  have HR := put hs.rise
  have HIN := put hin
  have HOK := put hok
  have hvt : T ≠ V := by
    rintro rfl
    have h1 : w.heap[T]? = _ := t
    rw [hv] at h1
    injection h1 with h1
    injection h1 with _ h1 _
    exact absurd h1 (by decide)
  have htl := t.lt
  have hvl := (Array.getElem?_eq_some_iff.1 hv).1
  clear hv hv2 t ha hA hok hTo hVo hVo2 hs hin x0 x2 x3 hsub0
  go_enter Try.func38, Try.ntmps38
  go_wp2_with fail
  go_region_held3 (fun w' => w'.cell? ⟨V, 0, none⟩ = some (.pointer (some ⟨T, 0, none⟩)) ∧ w'.cell? ⟨T, 1, none⟩ = some (.int .i64 ((i : Int) + 1)) ∧ w'.cell? ⟨V2, 0, none⟩ = some (.string s)) (first | go_keep | exact ⟨y0, x1, y1⟩ | exact ⟨z0, z1, z2⟩) (first | (go_at_call 39; refine (IC.out _ (by (repeat (first | with_reducible exact (Below.refl _ _) | with_reducible apply Below.drew | with_reducible refine balloc ?_ _)))).mono ?_; rintro e w3 ⟨rfl, A3, es3, ps3, d3, hm3, ax, k3⟩; have D3 := put d3; have HM3 := put hm3; have AX := put ax; have K3 : Kp (Kps ok w w3) := put ((below_kps (by (repeat (first | with_reducible exact (Below.refl _ _) | with_reducible apply Below.drew | with_reducible refine balloc ?_ _))) ok).trans k3); clear d3 hm3 ax k3; have z0 := keep_cell K3.out hvl HVO.out y0; have z1 := keep_cell K3.out htl HTO.out x1; have z2 := keep_cell K3.out hvl2 HVO2.out y1))
  have T3 := (K3.out.block T htl HTO.out).trans HT.out
  have HT3 : Kp (TrR T a w3 ((i : Int) + 1) ((h : Int) + 1) n) := put T3
  have hs3 := K3.out.size
  clear T3 y0 y1 x1 z2
  have he3 : es3 = dropE es s := rise_ext D3.out.sub.rise (dropE_rise HR.out) (fun x => by rw [HM3.out x, dropE_mem HR.out HIN.out])
  subst he3
  obtain ⟨nd, bl, hp3, hn3, hc3, hib3, rfl⟩ := D3.out.sub.cont
  have hT30 := (HT3.out.cells).1
  have LD := put (fun (W : World) (hb : Below w3.heap.size w3 W) => loadN T a i A3 nd W (AX.out.below hb) (cell_at hT30 hb) (Nat.lt_of_lt_of_le HT3.out.lt hb.size) hp3 hn3.1)
  have HP3 := put hp3
  have HN3 := put hn3.1
  have HC3 := put hc3
  have HIB3 := put hib3
  clear hp3 hn3 hc3 hib3 hT30
  go_wp2_with fail
  go_region_held3 (fun w' => w'.cell? ⟨V, 0, none⟩ = some (.pointer (some ⟨T, 0, none⟩)) ∧ w'.cell? ⟨T, 1, none⟩ = some (.int .i64 ((i : Int) + 1))) (first | go_keep | exact ⟨z0, z1⟩ | exact ⟨far3 hX1 u0, far3 hX2 u1⟩ | exact ⟨u0, u1⟩) (first | (go_at_call 40; refine (LD.out _ (by (repeat (first | with_reducible exact (Below.refl _ _) | with_reducible apply Below.drew | with_reducible refine balloc ?_ _)))).mono ?_; rintro e w5 ⟨va, vk, rfl, ho5, hb5⟩; refine useIt (P := w5.heap[w3.heap.size]? = some (.cells #[.bool false, .slice none 0 0, .slice none 0 0] 69 (0, 0))) ?_ (fun hz5 => ?_); (refine (hb5.block _ ?_).trans ?_; (first | (show w3.heap.size < (w3.alloc _).heap.size; rw [alloc_size]; exact Nat.lt_succ_self _) | (show w3.heap.size < (w3.drew.alloc _).heap.size; rw [alloc_size]; exact Nat.lt_succ_self _)); (exact heap_alloc_new _ _)); obtain ⟨t0, t1, t2⟩ := c3 hz5; obtain ⟨t3, t4, t5⟩ := f3 hz5; have HZ5 := put hz5; have hX1 : w3.heap.size ≠ V := (by omega); have hX2 : w3.heap.size ≠ T := (by omega); clear hz5; obtain ⟨⟨A7, c7, e7⟩, ⟨A8, c8, e8⟩⟩ := ho5.form; obtain ⟨l7, hl7⟩ : ∃ l, l = nd.recs.length := ⟨_, rfl⟩; obtain ⟨l8, hl8⟩ : ∃ l, l = nd.kids.length := ⟨_, rfl⟩; rw [← hl7] at e7; rw [← hl8] at e8; subst e7 e8; have HL7 := put hl7; have HL8 := put hl8; clear hl7 hl8; have hb35 : Below w3.heap.size w3 w5 := bt (by (repeat (first | with_reducible exact (Below.refl _ _) | with_reducible apply Below.drew | with_reducible refine balloc ?_ _))) hb5; have u0 := cell_at z0 hb35; have u1 := cell_at z1 hb35; have B5 := put hb35; have O5 : Kp (NdO w3.heap.size w5 (.slice A7 l7 c7) (.slice A8 l8 c8) nd) := put (ho5.lower (bl_size (by (repeat (first | with_reducible exact (Below.refl _ _) | with_reducible apply Below.drew | with_reducible refine balloc ?_ _))))); clear ho5 hb5 hb35) | (go_at_call 40; refine (LD.out _ (by (repeat (first | with_reducible exact (Below.refl _ _) | with_reducible apply Below.drew | with_reducible refine balloc ?_ _)))).mono ?_; rintro e w5 ⟨va, vk, rfl, ho5, hb5⟩; obtain ⟨⟨A7, c7, e7⟩, ⟨A8, c8, e8⟩⟩ := ho5.form; obtain ⟨l7, hl7⟩ : ∃ l, l = nd.recs.length := ⟨_, rfl⟩; obtain ⟨l8, hl8⟩ : ∃ l, l = nd.kids.length := ⟨_, rfl⟩; rw [← hl7] at e7; rw [← hl8] at e8; subst e7 e8; have HL7 := put hl7; have HL8 := put hl8; clear hl7 hl8; have hb35 : Below w3.heap.size w3 w5 := bt (by (repeat (first | with_reducible exact (Below.refl _ _) | with_reducible apply Below.drew | with_reducible refine balloc ?_ _))) hb5; have u0 := cell_at z0 hb35; have u1 := cell_at z1 hb35; have B5 := put hb35; have O5 : Kp (NdO w3.heap.size w5 (.slice A7 l7 c7) (.slice A8 l8 c8) nd) := put (ho5.lower (bl_size (by (repeat (first | with_reducible exact (Below.refl _ _) | with_reducible apply Below.drew | with_reducible refine balloc ?_ _))))); clear ho5 hb5 hb35))
  all_goals
    first | (obtain ⟨W, hW⟩ : ∃ W, W = w5.alloc (.cells #[.bool nd.leaf, .slice A7 l7 c7, .slice A8 l8 c8] 69) := ⟨_, rfl⟩; rw [← hW]; obtain ⟨X, hX⟩ : ∃ X, X = w5.heap.size := ⟨_, rfl⟩; rw [← hX]; have J : Kp (JB w3.heap.size w3 W X nd.leaf (.slice A7 l7 c7) (.slice A8 l8 c8) nd) := put (by rw [hX]; exact jb1 hW B5.out O5.out); clear hX hW) | (obtain ⟨W, hW⟩ : ∃ W, W = ((w5.setCell ⟨w3.heap.size, 0, none⟩ (.bool nd.leaf)).setCell ⟨w3.heap.size, 1, none⟩ (.slice A7 l7 c7)).setCell ⟨w3.heap.size, 2, none⟩ (.slice A8 l8 c8) := ⟨_, rfl⟩; rw [← hW]; obtain ⟨X, hX⟩ : ∃ X, X = w3.heap.size := ⟨_, rfl⟩; rw [← hX]; have J : Kp (JB w3.heap.size w3 W X nd.leaf (.slice A7 l7 c7) (.slice A8 l8 c8) nd) := put (by rw [hX]; exact jb3 (Nat.le_refl _) hW HZ5.out B5.out O5.out); clear hX hW t0 t1 t2 t3 t4 t5 hX1 hX2)
    have hsW := J.out.b.size
    have DL0 : Kp (∃ A' i' bl nd vr vk okk, DL ok T a n A (dropE es s) ps w V X W h A' i' bl nd vr vk okk) := put ⟨A3, i, bl, nd, .slice A7 l7 c7, .slice A8 l8 c8, nar ok w3.heap.size W.heap.size, D3.out, HP3.out, HN3.out, HC3.out, HIB3.out, fun k hk => by
      rcases hk with hk | hk
      · exact hk.1
      · exact HOK.out k (by omega), fun k hk => .inr hk, AX.out.nar J.out.b, HT3.out.below J.out.b, (nw_jb J.out).imp (fun b h1 _ => ⟨by have := h1.1; omega, fun h2 => by
      rcases h2 with h2 | h2
      · have := h1.1; omega
      · have := h1.2; omega⟩), cell_at z0 J.out.b, (K3.out.mono fun k hk => .inl hk).trans (below_kps J.out.b _)⟩
    clear u0 u1 z0 z1 O5 B5 HL7 HL8
    go_wp2_with fail
    go_loopg [2] h (fun kx s2 wr => ∃ (X h' : Nat), s2 = .pointer (some ⟨X, 0, none⟩) ∧ h' ≤ kx ∧ h' ≤ h ∧ Kp (∃ A' i' bl nd vr vk okk, DL ok T a n A (dropE es s) ps w V X wr h' A' i' bl nd vr vk okk))
    case atStart => exact ⟨X, h, rfl, Nat.le_refl _, Nat.le_refl _, DL0⟩
    case round =>
      obtain ⟨X, h', rfl, hk', hh', HD⟩ := hrel
      obtain ⟨A', i', bl', nd', vr, vk, okk, D⟩ := HD.out
      obtain ⟨lf, recs, kids⟩ := nd'
      obtain ⟨⟨A5, c5, rfl⟩, ⟨A6, c6, e6⟩⟩ := D.nw.form
      rw [kints_len] at e6
      subst e6
      have DD := put D
      obtain ⟨x0, x1, x2⟩ := c3 D.nw.n
      obtain ⟨t0, t1, t2, t3⟩ := c4 D.t
      have v0 := D.v
      have lo1 := D.t.loose 1
      have lo2 := D.t.loose 2
      have lo3 := D.t.loose 3
      have n1 : IntKind.i64.wrap (n - 1) = n - 1 := IntWalk.i64_in _ (by omega)
      have hTo' : ¬ okk T := fun h1 => HTO.out (DD.out.o1 T h1)
      have hVo' : ¬ okk V := fun h1 => HVO.out (DD.out.o1 V h1)
      have FIN : Kp ((h' = 0 ∨ recs ≠ []) → ∀ W, W = wr.setCell ⟨T, 3, none⟩ (.int .i64 (n - 1)) → DelF ok T a h n s es ps A w (.returned (.tuple #[])) W) := put fun hr W hW => by
        subst hW
        have hkT : Kps (fun k => k = T) wr (wr.setCell ⟨T, 3, none⟩ (.int .i64 (n - 1))) := (Kps.refl (fun k => k = T) wr).set (.inl rfl) 3 _
        exact ⟨rfl, A', h', i', i' :: bl', ⟨DD.out.d, root_sub DD.out.c DD.out.pg DD.out.nok DD.out.ib hr, hh'⟩, (DD.out.ax.mono DD.out.o1).kps hkT (fun b hb _ e => HTO.out (e ▸ hb)), (setCell_heap DD.out.t 3 _).trans rfl, DD.out.k.trans (hkT.mono fun k hk => .inr hk)⟩
      clear D HD
      obtain ⟨l5, hl5⟩ : ∃ l5, l5 = recs.length := ⟨_, rfl⟩
      rw [← hl5] at x1
      have HL5 := put hl5
      clear hl5
      have h0 : Kp (lf = true → h' = 0) := put fun e => by
        cases h' with
        | zero => rfl
        | succ h2 =>
          obtain ⟨ks, hb, _⟩ := DD.out.c
          have := hb.inner
          rw [show (Nd.mk lf recs kids).leaf = lf from rfl, e] at this
          exact absurd this (by simp)
      cases lf with
      | true =>
        go_wp2_with fail
        exact bodyPost_end (results_none rfl _ _ _) rfl (FIN.out (.inl (h0.out (by first | rfl | trivial))) _ rfl)
      | false =>
        by_cases hl5 : (l5 : Int) = 0
        rotate_left
        · go_wp2_with fail
          refine bodyPost_end (results_none rfl _ _ _) rfl (FIN.out (.inr ?_) _ rfl)
          intro e
          have := HL5.out
          rw [e] at this
          exact hl5 (by rw [this]; rfl)
        · have hrn : recs = [] := List.length_eq_zero_iff.1 (by have := HL5.out; omega)
          have HRN := put hrn
          have HL50 := put hl5
          clear hrn
          obtain ⟨h2, rfl⟩ : ∃ h2, h' = h2 + 1 := by
            cases h' with
            | zero => exact absurd DD.out.c.1 (by simp)
            | succ h2 => exact ⟨h2, rfl⟩
          obtain ⟨ks, hb, hes, hbl⟩ := DD.out.c
          obtain ⟨k, hk⟩ : ∃ k, kids[0]? = some k := ⟨_, List.getElem?_eq_getElem (by have := hb.len; have h5 : (Nd.mk false recs kids).kids.length = kids.length := rfl; omega)⟩
          have hk1 := (DD.out.nok.shp.kids k (List.mem_of_getElem? hk)).1
          have hkl : Kp (0 < kids.length ∧ True) := put ⟨(List.getElem?_eq_some_iff.1 hk).1, trivial⟩
          obtain ⟨ps'', ro⟩ := root_out DD.out.d.ok DD.out.pg hb (hbl ▸ DD.out.ib) HRN.out hk
          obtain ⟨nd2, bl2, hp2, hn2, hc2, hi2, rfl⟩ := ro.sub.cont
          have hdd := DD.out.d
          rw [hbl] at hdd
          have D2 := put (hdd.trans ro)
          rw [← hes] at hc2 D2
          have HP2 := put hp2
          have HN2 := put hn2.1
          have HC2 := put hc2
          have HI2 := put hi2
          have hkr := own_rd intD rfl DD.out.nw.k
          rw [show (Value.slice A6 kids.length c6) = .slice A6 (kints kids).length c6 by rw [kints_len]] at hkr
          obtain ⟨g, o, hg1, hgl, e0⟩ := hkr.get (kints_get hk)
          subst hg1
          have e0' : wr.cell? ⟨g, o + 0, none⟩ = some (.int .i64 (((k - 1 : Nat) : Int) + 1)) := by rw [e0]; congr 2; omega
          have hgM := DD.out.nw.qk g rfl
          have hXM := DD.out.nw.qn
          have hXl := DD.out.nw.lt
          have hTX : T ≠ X := fun e => by have := hXM.1; omega
          have hTg : T ≠ g := fun e => by have := hgM.1; omega
          have htlr := DD.out.t.lt
          have hvlr : V < wr.heap.size := World.block_lt_of_cell? _ _ v0
          have FC : Kp (∀ W', Below wr.heap.size wr W' → Calls Try.prog 42 #[.pointer (some ⟨a, 0, none⟩), .int .i64 ((i' : Int) + 1)] W' fun e w' => e = .returned (.int .i64 0) ∧ ArX okk w' a (A'.give i') ∧ Kps okk wr w') := put fun W' hb => (freeCalls a A' i' _ W' (DD.out.ax.below hb) DD.out.d.ok DD.out.pg (fun k hk => DD.out.o2 k (Nat.le_trans hb.size hk))).mono (by
            rintro e w' ⟨h1, h2, h3⟩
            exact ⟨h1, h2, (below_kps hb _).trans h3⟩)
          clear hk hkr e0 hb hes hbl ro hdd hp2 hn2 hc2 hi2 h0 FIN
          go_wp2_with fail
          go_region_held3 (fun w' => w'.cell? ⟨V, 0, none⟩ = some (.pointer (some ⟨T, 0, none⟩)) ∧ w'.cell? ⟨T, 0, none⟩ = some (.pointer (some ⟨a, 0, none⟩)) ∧ w'.cell? ⟨T, 1, none⟩ = some (.int .i64 ((i' : Int) + 1))) (first | go_keep | exact ⟨v0, t0, t1⟩ | exact ⟨u0, u1, u2⟩) (first | (go_at_call 42; refine (FC.out _ (by (repeat (first | with_reducible exact (Below.refl _ _) | with_reducible apply Below.drew | with_reducible refine balloc ?_ _)))).mono ?_; rintro e w4 ⟨rfl, ha4, k4⟩; have A4' := put ha4; have K4 := put k4; have u0 := keep_cell k4 hvlr hVo' v0; have u1 := keep_cell k4 htlr hTo' t0; have u2 := keep_cell k4 htlr hTo' t1; clear ha4 k4) | (go_at_call 41; refine (checkNone _).mono ?_; rintro e w5 ⟨rfl, rfl⟩))
          have nw5 := DD.out.nw.kps K4.out (fun b h1 _ => h1.2)
          have T5 : TrR T a w5 ((i' : Int) + 1) (((h2 + 1 : Nat) : Int) + 1) n := (K4.out.block T htlr hTo').trans DD.out.t
          have T5 : TrR T a w5 ((i' : Int) + 1) ((h2 : Int) + 1 + 1) n := T5
          have NW5 := put nw5
          have HT5 := put T5
          have g5 : w5.cell? ⟨g, o, none⟩ = some (.int .i64 (((k - 1 : Nat) : Int) + 1)) := keep_cell K4.out hgl hgM.2 e0'
          clear x0 x1 x2 t0 t1 t2 t3 v0 lo1 lo2 lo3 e0' u1 u2
          obtain ⟨x0, x1, x2⟩ := c3 nw5.n
          obtain ⟨t0, t1, t2, t3⟩ := c4 T5
          have lo1 := T5.loose 1
          have lo2 := T5.loose 2
          have hkl0 : (0 : Int) < (kids.length : Int) := by have := hkl.out.1; omega
          have hkl1 : 0 < kids.length := hkl.out.1
          have hkl2 : ¬ kids = [] := fun e => by have := hkl.out.1; rw [e] at this; exact absurd this (by decide)
          have hkl3 : ¬ kids.length ≤ 0 := by omega
          have n2 : IntKind.i64.wrap ((h2 : Int) + 1 + 1 - 1) = (h2 : Int) + 1 := by rw [Int.add_sub_cancel]; exact IntWalk.i64_in _ (by omega)
          have hs5 := K4.out.size
          have hlx5 := nw5.lt
          clear nw5 T5
          go_wp2_with fail
          go_region_held3 (fun w' => w'.cell? ⟨V, 0, none⟩ = some (.pointer (some ⟨T, 0, none⟩)) ∧ w'.cell? ⟨X, 2, none⟩ = some (.slice (some ⟨g, o, none⟩) kids.length c6) ∧ w'.cell? ⟨g, o, none⟩ = some (.int .i64 (((k - 1 : Nat) : Int) + 1))) (first | go_keep | exact ⟨u0, x2, g5⟩ | exact ⟨(World.cell?_setCell_far _ _ _ _ (by exact hvt)).trans u0, (World.cell?_setCell_far _ _ _ _ (by exact hTX)).trans x2, (World.cell?_setCell_far _ _ _ _ (by exact hTg)).trans g5⟩) (first | fail)
          obtain ⟨w6, hw6⟩ : ∃ w6, w6 = (w5.setCell ⟨T, 1, none⟩ (.int .i64 (((k - 1 : Nat) : Int) + 1))).drew := ⟨_, rfl⟩
          rw [← hw6]
          have K6 : Kp (Kps (fun k => k = T) w5 w6) := put (by rw [hw6]; exact ((Kps.refl (fun k => k = T) w5).set (.inl rfl) 1 _).drewN 1)
          have T6 : TrR T a w6 (((k - 1 : Nat) : Int) + 1) ((h2 : Int) + 1 + 1) n := by rw [hw6]; exact (setCell_heap HT5.out 1 _).trans rfl
          have nw6 := NW5.out.kps K6.out (fun b h1 _ e => by have := h1.1; omega)
          have hs6 := K6.out.size
          have v6 : w6.cell? ⟨V, 0, none⟩ = some (.pointer (some ⟨T, 0, none⟩)) := keep_cell K6.out (by omega) (fun e => hvt e.symm) u0
          have HT6 := put T6
          have NW6 := put nw6
          clear x0 x1 x2 t0 t1 t2 t3 lo1 lo2 g5 u0 hw6
          obtain ⟨x0, x1, x2⟩ := c3 nw6.n
          obtain ⟨t0, t1, t2, t3⟩ := c4 T6
          have lo2 := T6.loose 2
          have hlx6 := nw6.lt
          have htl6 : T < w6.heap.size := T6.lt
          rw [← HL5.out] at x1
          clear nw6 T6
          go_wp2_with fail
          obtain ⟨w7, hw7⟩ : ∃ w7, w7 = w6.setCell ⟨T, 2, none⟩ (.int .i64 ((h2 : Int) + 1)) := ⟨_, rfl⟩
          rw [← hw7]
          have K7 : Kp (Kps (fun k => k = T) w6 w7) := put (by rw [hw7]; exact (Kps.refl (fun k => k = T) w6).set (.inl rfl) 2 _)
          have T7 : TrR T a w7 (((k - 1 : Nat) : Int) + 1) ((h2 : Int) + 1) n := by rw [hw7]; exact (setCell_heap HT6.out 2 _).trans rfl
          have hs7 : w7.heap.size = w6.heap.size := by rw [hw7, World.size_setCell]
          have v7 : w7.cell? ⟨V, 0, none⟩ = some (.pointer (some ⟨T, 0, none⟩)) := keep_cell K7.out (by omega) (fun e => hvt e.symm) v6
          obtain ⟨w8, hw8⟩ : ∃ w8, w8 = w7.alloc (.cells #[.bool false, .slice A5 l5 c5, .slice (some ⟨g, o, none⟩) kids.length c6] 69) := ⟨_, rfl⟩
          rw [← hw8]
          have hb8 : Below w7.heap.size w7 w8 := by rw [hw8]; exact balloc (Below.refl _ _) _
          have hX8 : w8.heap[w6.heap.size]? = some (.cells #[.bool false, .slice A5 l5 c5, .slice (some ⟨g, o, none⟩) kids.length c6] 69 (0, 0)) := by rw [hw8, ← hs7]; exact heap_alloc_new _ _
          have hs8 : w8.heap.size = w6.heap.size + 1 := by rw [hw8, alloc_size, hs7]
          have B8 := put hb8
          have HX8 := put hX8
          have HT7 := put T7
          have AX7 : Kp (ArX okk w7 a (A'.give i')) := put ((A4'.out.kps K6.out (fun b hb _ e => hTo' (e ▸ hb))).kps K7.out (fun b hb _ e => hTo' (e ▸ hb)))
          have v8 := cell_at v7 hb8
          have T8 := T7.below hb8
          have t00 := (T8.cells).1
          have LD2 := put (fun (W : World) (hb : Below w8.heap.size w8 W) => loadN T a (k - 1) (A'.give i') nd2 W ((AX7.out.below B8.out).below hb) (cell_at t00 hb) (Nat.lt_of_lt_of_le T8.lt hb.size) HP2.out HN2.out)
          have T8' := T8
          clear x0 x1 x2 t0 t1 t2 t3 lo2 v6 v7 hw7 hw8 hb8 hX8 T7 t00
          obtain ⟨t0, t1, t2, t3⟩ := c4 T8'
          have HT8 := put T8
          have htl8 : T < w6.heap.size := htl6
          have hX1 : w6.heap.size ≠ V := by omega
          have hX2 : w6.heap.size ≠ T := by omega
          clear T8 T8'
          go_wp2_with fail
          go_region_held3 (fun w' => w'.cell? ⟨V, 0, none⟩ = some (.pointer (some ⟨T, 0, none⟩)) ∧ w'.cell? ⟨T, 1, none⟩ = some (.int .i64 (((k - 1 : Nat) : Int) + 1))) (first | go_keep | exact ⟨v8, t1⟩ | exact ⟨far3 hX1 u0, far3 hX2 u1⟩ | exact ⟨u0, u1⟩) (first | (go_at_call 40; refine (LD2.out _ (by (repeat (first | with_reducible exact (Below.refl _ _) | with_reducible apply Below.drew | with_reducible refine balloc ?_ _)))).mono ?_; rintro e w9 ⟨va, vk, rfl, ho5, hb5⟩; obtain ⟨⟨A7, c7, e7⟩, ⟨A8, c8, e8⟩⟩ := ho5.form; obtain ⟨l7, hl7⟩ : ∃ l, l = nd2.recs.length := ⟨_, rfl⟩; obtain ⟨l8, hl8⟩ : ∃ l, l = nd2.kids.length := ⟨_, rfl⟩; rw [← hl7] at e7; rw [← hl8] at e8; subst e7 e8; clear hl7 hl8; have hb89 : Below w8.heap.size w8 w9 := bt (by (repeat (first | with_reducible exact (Below.refl _ _) | with_reducible apply Below.drew | with_reducible refine balloc ?_ _))) hb5; have u0 := cell_at v8 hb89; have u1 := cell_at t1 hb89; have hz9 := (hb89.block w6.heap.size (by omega)).trans HX8.out; obtain ⟨q0, q1, q2⟩ := c3 hz9; obtain ⟨q3, q4, q5⟩ := f3 hz9; have HZ9 := put hz9; have B9 := put hb89; have O9 : Kp (NdO w8.heap.size w9 (.slice A7 l7 c7) (.slice A8 l8 c8) nd2) := put (ho5.lower (bl_size (by (repeat (first | with_reducible exact (Below.refl _ _) | with_reducible apply Below.drew | with_reducible refine balloc ?_ _))))); clear ho5 hb5 hb89 hz9))
          obtain ⟨W, hW⟩ : ∃ W, W = ((w9.setCell ⟨w6.heap.size, 0, none⟩ (.bool nd2.leaf)).setCell ⟨w6.heap.size, 1, none⟩ (.slice A7 l7 c7)).setCell ⟨w6.heap.size, 2, none⟩ (.slice A8 l8 c8) := ⟨_, rfl⟩
          rw [← hW]
          have J2 : Kp (JB w7.heap.size w7 W w6.heap.size nd2.leaf (.slice A7 l7 c7) (.slice A8 l8 c8) nd2) := put (jb3 (by omega) hW HZ9.out (bt B8.out B9.out) (O9.out.lower (by omega)))
          have u0v : W.cell? ⟨V, 0, none⟩ = some (.pointer (some ⟨T, 0, none⟩)) := by rw [hW]; exact far3 hX1 u0
          clear hW q0 q1 q2 q3 q4 q5
          have hsW2 := J2.out.b.size
          have hs45 := K4.out.size
          have hsw := DD.out.k.size
          have DLn : Kp (∃ A' i' bl nd vr vk okk, DL ok T a n A (dropE es s) ps w V w6.heap.size W h2 A' i' bl nd vr vk okk) := put ⟨A'.give i', k - 1, bl2, nd2, .slice A7 l7 c7, .slice A8 l8 c8, nar okk w7.heap.size W.heap.size, D2.out, HP2.out, HN2.out, HC2.out, HI2.out, fun b hb => by
            rcases hb with hb | hb
            · exact DD.out.o1 b hb.1
            · exact HOK.out b (by omega), fun b hb => .inr hb, AX7.out.nar J2.out.b, HT7.out.below J2.out.b, (nw_jb J2.out).imp (fun b h1 _ => ⟨by have := h1.1; omega, fun h2 => by
            rcases h2 with h2 | h2
            · have := h1.1; omega
            · have := h1.2; omega⟩), u0v, ((((DD.out.k.trans (K4.out.mono fun b hb => .inl (DD.out.o1 b hb))).trans (K6.out.mono fun b hb => .inr hb)).trans (K7.out.mono fun b hb => .inr hb)).trans (below_kps J2.out.b _))⟩
          clear u0 u1
          go_wp2_with fail
          go_roundg h2
          case measure => omega
          case rel => exact ⟨w6.heap.size, h2, rfl, Nat.le_refl _, by omega, DLn⟩
end Go.Proofs.Ytcpahknlabnnbaa.T

namespace Go.Proofs.Ytcpahknlabnnbaa.T
open Go Go.RowKit Go.Sort Go.Proofs.Ytcpahknlabnnbaa.Mem

/-- What Delete leaves. -/
structure DelT (ok : Nat → Prop) (T a h i : Nat) (n : Int) (s : ByteArray) (es : List ByteArray) (ps : List Nat) (A : Ar) (w : World) (e : Ending) (w' : World) : Prop where
  out : ∃ c : Int, e = .returned (.int .i64 c) ∧ ((c = 2 ∧ s ∉ es ∧ ArX ok w' a A ∧ TrR T a w' ((i : Int) + 1) ((h : Int) + 1) n ∧ Kps ok w w') ∨ (c = 0 ∧ s ∈ es ∧ ∃ A' h' i' ps', Del1 A A' h s es ps h' i' ps' ∧ ArX ok w' a A' ∧ TrR T a w' ((i' : Int) + 1) ((h' : Int) + 1) (n - 1) ∧ Kps (fun k => ok k ∨ k = T) w w'))
set_option maxHeartbeats 4000000 in
set_option maxRecDepth 100000 in
/-- Delete. -/
theorem deleteTree {μ : Nat → Nat} {ok : Nat → Prop} (T a h i : Nat) (n : Int) (s : ByteArray) (A : Ar) (es : List ByteArray) (ps : List Nat) (w : World) (t : TrR T a w ((i : Int) + 1) ((h : Int) + 1) n) (ha : ArX ok w a A) (hA : A.Ok) (hok : ∀ k, w.heap.size ≤ k → ok k) (hTo : ¬ ok T) (hn : 0 ≤ n ∧ n ≤ 1000000) (hs : Sub μ A h i top es ps) (hh : h ≤ 1000000) :
    Calls Try.prog 22 #[.pointer (some ⟨T, 0, none⟩), .string s] w (DelT ok T a h i n s es ps A w) := by
  obtain ⟨w2, hw2⟩ : ∃ w2, w2 = (w.alloc (.cells #[.pointer (some ⟨T, 0, none⟩)] 29)).alloc (.cells #[.string s] 9) := ⟨_, rfl⟩
  have s2 : w2.heap.size = w.heap.size + 1 + 1 := by rw [hw2, alloc_size, alloc_size]
  have hb2 : Below w.heap.size w w2 := by rw [hw2]; exact balloc (balloc (Below.refl _ _) _) _
  have hV : w2.heap[w.heap.size]? = some (.cells #[.pointer (some ⟨T, 0, none⟩)] 29 (0, 0)) := by rw [hw2, hag, if_neg (by rw [alloc_size]; omega), hag, if_pos rfl]
  have hV2 : w2.heap[w.heap.size + 1]? = some (.cells #[.string s] 9 (0, 0)) := by rw [hw2, hag, if_pos (by rw [alloc_size])]
  have B2 := put hb2
  have S2 := put s2
  have HT := put t
  have HA := put ha
  have HAO := put hA
  have HOK := put hok
  have HTO := put hTo
  have HS := put hs
  have htl := t.lt
  have HHT := put (hasCalls (ok := ok) T a h i ((h : Int) + 1) n A top es ps s w2 (t.below hb2) (by omega) hs (ha.below hb2))
  have HOV := put (overCalls T a ((i : Int) + 1) ((h : Int) + 1) n w2 (t.below hb2) (by omega))
  have HV := put hV
  have HV2 := put hV2
  have x0 : w2.cell? ⟨w.heap.size, 0, none⟩ = some (.pointer (some ⟨T, 0, none⟩)) := by simp [World.cell?, hV]
  have x1 : w2.cell? ⟨w.heap.size + 1, 0, none⟩ = some (.string s) := by simp [World.cell?, hV2]
  have HW := put hw2
  clear hw2 s2 hb2 hV hV2 t ha hA hok hTo hs
  go_enter Try.func22, Try.ntmps22
  go_wp2_with fail
  rw [← HW.out]
  refine HOV.out.mono ?_
  rintro e w3 ⟨rfl, rfl⟩
  go_wp2_with fail
  refine HHT.out.mono ?_
  rintro e w4 ⟨rfl, hb4⟩
  have B4 := put (bt B2.out hb4)
  have x0' := cell_at x0 hb4
  have x1' := cell_at x1 hb4
  have HV4 := put ((hb4.block _ (Array.getElem?_eq_some_iff.1 HV.out).1).trans HV.out)
  have HV42 := put ((hb4.block _ (Array.getElem?_eq_some_iff.1 HV2.out).1).trans HV2.out)
  have hs4 := hb4.size
  clear hb4 x0 x1
  obtain ⟨bb, hbb⟩ : ∃ bb, bb = hasB s es := ⟨_, rfl⟩
  rw [← hbb]
  have HBB := put hbb
  clear hbb
  cases bb with
  | false =>
    go_wp2_with fail
    go_ret
    exact ⟨2, rfl, .inl ⟨rfl, hasB_false.1 HBB.out.symm, HA.out.below B4.out, HT.out.below B4.out, below_kps B4.out ok⟩⟩
  | true =>
    have hsz5 : w.heap.size + 1 + 1 ≤ w4.heap.size := by have := S2.out; omega
    have HIN : Kp (s ∈ es) := put (hasB_true.1 HBB.out.symm)
    have HC : Kp (Calls Try.prog 25 #[.func (.func 38) #[] #[.pointer (some ⟨w.heap.size, 0, none⟩), .pointer (some ⟨w.heap.size + 1, 0, none⟩)]] w4 fun e w' => ∃ c, e = .returned (.agg #[.int .i64 c, .int .i64 0]) ∧ (c = 0 ∧ w4.heap.size < w'.heap.size ∧ Kp (∃ A' h' i' ps', Del1 A A' h s es ps h' i' ps' ∧ ArX (nar ok w.heap.size (w4.heap.size + 1)) w' a A' ∧ TrR T a w' ((i' : Int) + 1) ((h' : Int) + 1) (n - 1) ∧ Kps (fun k => ok k ∨ k = T) w w'))) := put (by
      have ha : Below w4.heap.size w4 (w4.alloc (.cells #[.int .i64 0, .int .i64 0] 65)) := balloc (Below.refl _ _) _
      have hz : (w4.alloc (.cells #[.int .i64 0, .int .i64 0] 65)).heap.size = w4.heap.size + 1 := by rw [alloc_size]
      have hA3 := HA.out.nar (bt B4.out ha)
      rw [hz] at hA3
      have hno : ∀ k, w.heap.size ≤ k → k < w4.heap.size + 1 → ¬ nar ok w.heap.size (w4.heap.size + 1) k := fun k h1 h2 h3 => by rcases h3 with h3 | h3 <;> omega
      have hnT : ¬ nar ok w.heap.size (w4.heap.size + 1) T := fun h3 => by
        rcases h3 with h3 | h3
        · exact HTO.out h3.1
        · omega
      have hin : ∀ k, nar ok w.heap.size (w4.heap.size + 1) k → ok k := fun k hk => by
        rcases hk with hk | hk
        · exact hk.1
        · exact HOK.out k (by omega)
      refine catchCalls 38 _ (enters_of Try.func38 (by kernel_rfl) rfl _) w4 _ ?_ ?_ ?_
      · refine (delFun (ok := nar ok w.heap.size (w4.heap.size + 1)) w.heap.size (w.heap.size + 1) T a h i n s A es ps _ ((ha.block _ (by omega)).trans HV4.out) ((ha.block _ (by omega)).trans HV42.out) ((HT.out.below B4.out).below ha) hA3 HAO.out (fun k hk => .inr (by rw [hz] at hk; exact hk)) hnT (hno _ (by omega) (by omega)) (hno _ (by omega) (by omega)) hn hh HS.out HIN.out).mono ?_
        rintro e w' ⟨rfl, A', h', i', ps', g1, g2, g3, g4⟩
        refine ⟨0, rfl, ⟨rfl, by have := g4.size; omega, put ⟨A', h', i', ps', g1, g2, g3, ?_⟩⟩, ?_⟩
        · refine (below_kps (bt B4.out ha) _).trans (g4.mono fun k hk => ?_)
          rcases hk with hk | hk
          · exact .inl (hin k hk)
          · exact .inr hk
        · rw [g4.block _ (by omega) (by
            rintro (h3 | h3)
            · exact hno _ (by omega) (by omega) h3
            · omega), hag, if_pos rfl]
      · rintro c w' o ⟨g0, gs, g⟩
        obtain ⟨A', h', i', ps', g1, g2, g3, g4⟩ := g.out
        exact ⟨g0, by rw [alloc_size]; omega, put ⟨A', h', i', ps', g1, g2.below (balloc (Below.refl _ _) _), g3.below (balloc (Below.refl _ _) _), g4.alloc o⟩⟩
      · rintro c w' j u ⟨g0, gs, g⟩
        obtain ⟨A', h', i', ps', g1, g2, g3, g4⟩ := g.out
        have hk : Kps (fun k => k = w4.heap.size) w' (w'.setCell ⟨w4.heap.size, j, none⟩ u) := (Kps.refl (fun k => k = w4.heap.size) w').set (.inl rfl) j u
        refine ⟨g0, by rw [World.size_setCell]; exact gs, put ⟨A', h', i', ps', g1, g2.kps hk (fun b hb _ e => hno b (by omega) (by omega) hb), (hk.block _ g3.lt (by omega)).trans g3, g4.set (.inr (by omega)) j u⟩⟩)
    have hnT2 : Kp (∀ k, nar ok w.heap.size (w4.heap.size + 1) k → ok k) := put fun k hk => by
      rcases hk with hk | hk
      · exact hk.1
      · exact HOK.out k (by omega)
    clear x0' x1'
    go_wp2_with fail
    refine HC.out.mono ?_
    rintro e w6 ⟨c, rfl, rfl, hs6, hG⟩
    go_wp2_with fail
    go_ret
    obtain ⟨A', h', i', ps', g1, g2, g3, g4⟩ := hG.out
    exact ⟨0, rfl, .inr ⟨rfl, HIN.out, A', h', i', ps', g1, (g2.mono hnT2.out).below (balloc (Below.refl _ _) _), g3.below (balloc (Below.refl _ _) _), g4.alloc _⟩⟩
end Go.Proofs.Ytcpahknlabnnbaa.T
