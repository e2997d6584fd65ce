/- How two rows stand: report.at, order.compare. -/
import Derived.Test.YtkfoknjflpklpaaPOrd
namespace Go.Proofs.Ytkfoknjflpklpaa.P
open Go Go.RowKit Go.Sort Go.Proofs.Ytkfoknjflpklpaa.Mem Go.Proofs.Ytkfoknjflpklpaa.Cmp Go.Proofs.Ytkfoknjflpklpaa.D

/-- w' is w, some orders drawn, some blocks laid. -/
def G (w w' : World) : Prop := ∃ q os, w' = grow (w.drewN q) os
theorem G.refl (w : World) : G w w := ⟨0, #[], by rw [grow_empty]; rfl⟩
theorem grow_drewN (w : World) (os : Array Obj) (q : Nat) : (grow w os).drewN q = grow (w.drewN q) os := rfl
theorem G.trans {a b c : World} (h : G a b) (k : G b c) : G a c := by
  obtain ⟨q, os, rfl⟩ := h
  obtain ⟨q', os', rfl⟩ := k
  exact ⟨q + q', os ++ os', by rw [grow_drewN, World.drewN_drewN, grow_grow]⟩
theorem G.drew {a b : World} (h : G a b) : G a b.drew := h.trans ⟨1, #[], by rw [grow_empty]; rfl⟩
theorem G.alloc {a b : World} (h : G a b) (o : Obj) : G a (b.alloc o) := h.trans (grow1 _ _)
theorem G.below {w w' : World} (h : G w w') : Below w.heap.size w w' := by
  obtain ⟨q, os, rfl⟩ := h
  refine ⟨rfl, rfl, rfl, by simp, fun k hk => ?_⟩
  rw [heap_grow_old _ _ (by simpa using hk)]
  simp
theorem G.heap {w w' : World} {k : Nat} {o : Obj} (h : G w w') (hk : w.heap[k]? = some o) : w'.heap[k]? = some o := (h.below.block k (Array.getElem?_eq_some_iff.1 hk).1).trans hk
theorem _root_.Go.Proofs.Ytkfoknjflpklpaa.Mem.Row.grown {α : Type} {d : Ty α} {ok : Nat → Prop} {w w' : World} {A : Option Addr} {xs : List α} (h : Row d ok w A xs) (hg : G w w') : Row d ok w' A xs := h.move (fun k _ hk => hg.below.block k hk)

def Key.cells (k : Key) : List Value := [.int .i64 k.col, .bool k.down]
def tKey : Ty Key where
  sz := 2
  R := fun _ _ x cs => cs = x.cells
  len := fun h => by rw [h]; rfl
  one := fun {_ _ x _} h u hu => by
    rw [h] at hu
    simp only [Key.cells, List.mem_cons, List.not_mem_nil, or_false] at hu
    rcases hu with rfl | rfl <;> rfl
  mono := fun _ h => h
  move := fun _ h => h
  bnd := fun h => h
theorem keys_get {ok : Nat → Prop} {w : World} {A : Option Addr} {xs : List Key} (h : Row tKey ok w A xs) (i : Nat) (hi : i < xs.length) :
    ∃ ad x, A = some ad ∧ xs[i]? = some x ∧ w.cell? (ad.add (i * 2)) = some (.int .i64 x.col) ∧ w.cell? ⟨(ad.add (i * 2)).block, (ad.add (i * 2)).off + 1, none⟩ = some (.bool x.down) := by
  obtain ⟨ad, cs, rfl, _, _, rfl, ha⟩ := h.get i hi
  exact ⟨ad, xs[i], rfl, List.getElem?_eq_getElem hi, At.c0 ha rfl, At.cj ha 1 (by omega) rfl⟩
theorem k_cells {w : World} {X : Nat} {a0 a1 : Value} {t : TypeId} (h : w.heap[X]? = some (.cells #[a0, a1] t (0, 0))) : w.cell? ⟨X, 0, none⟩ = some a0 ∧ w.cell? ⟨X, 1, none⟩ = some a1 := by simp [World.cell?, h]

set_option maxHeartbeats 4000000 in
set_option maxRecDepth 100000 in
theorem atCalls (ok : Nat → Prop) (A : Option Addr) (c : Nat) (r : List Val) (i : Int) (w : World) (h : Row tVal ok w A r) :
    Calls Try.prog 108 #[.slice A r.length c, .int .i64 i] w fun e w' => e = .returned (.agg #[.int .i64 (atV r i).kind, .int .i64 (atV r i).n, .string (atV r i).s]) ∧ G w w' := by
  have H := put h
  clear h
  by_cases h0 : i < 0
  · have E : Kp (atV r i = nullV) := put (by unfold atV; rw [if_neg (by omega)])
    go_enter Try.func108, Try.ntmps108
    go_wp2
    refine bodyPost_ret (v := .agg #[.int .i64 0, .int .i64 0, .string { data := #[] }]) (by simp [results, Try.results108, go_sem]) rfl ⟨by rw [E.out]; rfl, ?_⟩
    exact (G.refl _).alloc _
  · by_cases h1 : i ≥ (r.length : Int)
    · have E : Kp (atV r i = nullV) := put (by unfold atV; rw [if_neg (by omega)])
      go_enter Try.func108, Try.ntmps108
      go_wp2
      refine bodyPost_ret (v := .agg #[.int .i64 0, .int .i64 0, .string { data := #[] }]) (by simp [results, Try.results108, go_sem]) rfl ⟨by rw [E.out]; rfl, ?_⟩
      exact (G.refl _).alloc _
    · obtain ⟨j, rfl⟩ : ∃ j : Nat, i = j := ⟨i.toNat, by omega⟩
      have hj : j < r.length := by omega
      have E : Kp (atV r j = r[j]) := put (by unfold atV; rw [if_pos ⟨by omega, by omega⟩, Int.toNat_natCast, List.getD_eq_getElem?_getD, List.getElem?_eq_getElem hj]; rfl)
      obtain ⟨ad, rfl, x0, x1, x2⟩ := vals_get H.out j hj
      generalize r[j] = x at E x0 x1 x2
      have hlz : (j : Int) < (r.length : Int) := by omega
      have j0 : (0 : Int) ≤ (j : Int) := by omega
      have y0 : ∀ o, (w.alloc o).cell? (ad.add (j * 3)) = some (.int .i64 x.kind) := fun o => (World.cell?_alloc_some _ _ _ (by rw [x0]; rfl)).trans x0
      have y1 : ∀ o, (w.alloc o).cell? ⟨(ad.add (j * 3)).block, (ad.add (j * 3)).off + 1, none⟩ = some (.int .i64 x.n) := fun o => (World.cell?_alloc_some _ _ _ (by rw [x1]; rfl)).trans x1
      have y2 : ∀ o, (w.alloc o).cell? ⟨(ad.add (j * 3)).block, (ad.add (j * 3)).off + 2, none⟩ = some (.string x.s) := fun o => (World.cell?_alloc_some _ _ _ (by rw [x2]; rfl)).trans x2
      go_enter Try.func108, Try.ntmps108
      go_wp2
      refine bodyPost_ret (v := .agg #[.int .i64 x.kind, .int .i64 x.n, .string x.s]) (by simp [results, Try.results108, go_sem]) rfl ⟨by rw [E.out], ?_⟩
      exact (G.refl _).alloc _

set_option maxHeartbeats 8000000 in
set_option maxRecDepth 100000 in
theorem cmpCalls (okk okr oks : Nat → Prop) (Ak A1 A2 : Option Addr) (ck c1 c2 : Nat) (ks : List Key) (a b : List Val) (w : World) (hk : Row tKey okk w Ak ks) (ha : Row tVal okr w A1 a) (hb : Row tVal oks w A2 b) (hl : ks.length ≤ 1000) :
    Calls Try.prog 78 #[.slice Ak ks.length ck, .slice A1 a.length c1, .slice A2 b.length c2] w fun e w' => e = .returned (.int .i64 (cmpR ks a b)) ∧ G w w' := by
  have HK0 := put hk
  have HA := put ha
  have HB := put hb
  have HL := put hl
  clear hk ha hb hl
  obtain ⟨n, hn⟩ : ∃ n, n = ks.length := ⟨_, rfl⟩
  rw [← hn] at HL ⊢
  have HN := put hn
  clear hn
  go_enter Try.func78, Try.ntmps78
  go_wp2_with fail
  go_loopg [12] n (fun kx s12 wr => ∃ (i : Nat), s12 = .int .i64 i ∧ i ≤ n ∧ n - i ≤ kx ∧ Kp (cmpR (ks.drop i) a b = cmpR ks a b) ∧ Kp (G w wr))
  case atStart => exact ⟨0, rfl, Nat.zero_le _, Nat.le_refl _, put rfl, put (G.refl _)⟩
  case round =>
    obtain ⟨i, rfl, hi, hkx, HC, KG⟩ := hrel
    by_cases hlt : i < n
    · have hlz : (i : Int) < (n : Int) := by omega
      have i0 : (0 : Int) ≤ (i : Int) := by omega
      have hn9 := HL.out
      obtain ⟨ad, k, rfl, hx, x0, x1⟩ := keys_get (HK0.out.grown KG.out) i (by rw [← HN.out]; exact hlt)
      have hd : ks.drop i = k :: ks.drop (i + 1) := by
        have h1 : i < ks.length := by rw [← HN.out]; exact hlt
        rw [List.drop_eq_getElem_cons h1]
        rw [List.getElem?_eq_getElem h1] at hx
        rw [Option.some.inj hx]
      have HD := put hd
      clear hx hd
      go_wp2_with fail
      obtain ⟨wk, hwk⟩ : ∃ wk, wk = wr.alloc (.cells #[.int .i64 k.col, .bool k.down] 105) := ⟨_, rfl⟩
      have hK : wk.heap[wr.heap.size]? = some (.cells #[.int .i64 k.col, .bool k.down] 105 (0, 0)) := by rw [hwk]; exact heap_alloc_new _ _
      have hgk : G w wk := by rw [hwk]; exact KG.out.alloc _
      rw [← hwk]
      have HK := put hK
      have HGK := put hgk
      have HR := put (And.intro (HA.out.grown hgk) (HB.out.grown hgk))
      clear hwk hK hgk x0 x1
      obtain ⟨K, hKe⟩ : ∃ K, K = wr.heap.size := ⟨_, rfl⟩
      rw [← hKe] at HK ⊢
      clear hKe
      refine wp_region_noPanic ?_
      refine wp_region_held_drew (S := (fun w' => G wk w')) (by kernel_rfl) (G.refl _).drew (fun hHeld => ?_)
      refine wpAnyH_take (i := 0) (v := ?_) rfl (by kernel_rfl) (by kernel_rfl) (by kernel_rfl) (fun _ _ _ h => h) (Or.inl ⟨by kernel_rfl, ?_⟩) (by assumption) ?_
      rotate_left
      · intro w hSw; (try dsimp only at hSw); go_simp; try with_reducible rfl
      try simp only [List.getElem_toArray, List.getElem_cons_zero, Act.put, List.setIfInBounds_toArray, List.set_cons_zero, List.set_cons_succ]
      refine wpAnyH_take (i := 1) (v := ?_) rfl (by kernel_rfl) (by kernel_rfl) (by kernel_rfl) (fun _ _ _ h => h) (Or.inl ⟨by kernel_rfl, ?_⟩) (by assumption) ?_
      rotate_left
      · intro w hSw; (try dsimp only at hSw); go_simp; try with_reducible rfl
      try simp only [List.getElem_toArray, List.getElem_cons_succ, List.getElem_cons_zero, Act.put, List.setIfInBounds_toArray, List.set_cons_zero, List.set_cons_succ]
      refine wpAnyH_take (i := 2) (v := ?_) rfl (by kernel_rfl) (by kernel_rfl) (by kernel_rfl) (fun _ _ _ h => h) (Or.inl ⟨by kernel_rfl, ?_⟩) (by assumption) ?_
      rotate_left
      · intro w hSw; (try dsimp only at hSw); obtain ⟨k0, k1⟩ := k_cells (G.heap hSw HK.out); go_simp; try with_reducible rfl
      try simp only [List.getElem_toArray, List.getElem_cons_succ, List.getElem_cons_zero, Act.put, List.setIfInBounds_toArray, List.set_cons_zero, List.set_cons_succ]
      refine wpAnyH_take (i := 4) (v := ?_) rfl (by kernel_rfl) (by kernel_rfl) (by kernel_rfl) (fun _ _ _ h => h) (Or.inl ⟨by kernel_rfl, ?_⟩) (by assumption) ?_
      rotate_left
      · intro w hSw; (try dsimp only at hSw); go_simp; try with_reducible rfl
      try simp only [List.getElem_toArray, List.getElem_cons_succ, List.getElem_cons_zero, Act.put, List.setIfInBounds_toArray, List.set_cons_zero, List.set_cons_succ]
      refine wpAnyH_take (i := 5) (v := ?_) rfl (by kernel_rfl) (by kernel_rfl) (by kernel_rfl) (fun _ _ _ h => h) (Or.inl ⟨by kernel_rfl, ?_⟩) (by assumption) ?_
      rotate_left
      · intro w hSw; (try dsimp only at hSw); go_simp; try with_reducible rfl
      try simp only [List.getElem_toArray, List.getElem_cons_succ, List.getElem_cons_zero, Act.put, List.setIfInBounds_toArray, List.set_cons_zero, List.set_cons_succ]
      refine wpAnyH_take (i := 6) (v := ?_) rfl (by kernel_rfl) (by kernel_rfl) (by kernel_rfl) (fun _ _ _ h => h) (Or.inl ⟨by kernel_rfl, ?_⟩) (by assumption) ?_
      rotate_left
      · intro w hSw; (try dsimp only at hSw); obtain ⟨k0, k1⟩ := k_cells (G.heap hSw HK.out); go_simp; try with_reducible rfl
      try simp only [List.getElem_toArray, List.getElem_cons_succ, List.getElem_cons_zero, Act.put, List.setIfInBounds_toArray, List.set_cons_zero, List.set_cons_succ]
      refine wpAnyH_ready (rs := [3]) (by kernel_rfl) (by simp) ?_
      refine AllReadyH.cons rfl (fun JJ hJJ => ?_) AllReadyH.nil
      go_simp
      ((try clear hb); go_at_call 108; refine (atCalls okr A1 c1 a k.col _ (HR.out.1.grown hHeld)).mono ?_; rintro e w5 ⟨rfl, hg⟩; have hb := G.trans hHeld hg; clear hg)
      refine hJJ.out _ _ ?_ (fun hHeld2 => ?_)
      · exact hb
      clear hJJ JJ hHeld
      have hHeld := hHeld2
      clear hHeld2
      try simp only [List.getElem_toArray, List.getElem_cons_succ, List.getElem_cons_zero, Act.put, List.setIfInBounds_toArray, List.set_cons_zero, List.set_cons_succ]
      refine wpAnyH_ready (rs := [7]) (by kernel_rfl) (by simp) ?_
      refine AllReadyH.cons rfl (fun JJ hJJ => ?_) AllReadyH.nil
      go_simp
      ((try clear hb); go_at_call 108; refine (atCalls oks A2 c2 b k.col _ (HR.out.2.grown hHeld)).mono ?_; rintro e w6 ⟨rfl, hg⟩; have hb := G.trans hHeld hg; clear hg)
      refine hJJ.out _ _ ?_ (fun hHeld2 => ?_)
      · exact hb
      clear hJJ JJ hHeld
      have hHeld := hHeld2
      clear hHeld2
      try simp only [List.getElem_toArray, List.getElem_cons_succ, List.getElem_cons_zero, Act.put, List.setIfInBounds_toArray, List.set_cons_zero, List.set_cons_succ]
      refine wpAnyH_ready (rs := [8]) (by kernel_rfl) (by simp) ?_
      refine AllReadyH.cons rfl (fun JJ hJJ => ?_) AllReadyH.nil
      go_simp
      ((try clear hb); go_at_call 107; refine (ordCalls (atV a k.col) (atV b k.col) _).mono ?_; rintro e w7 ⟨rfl, hg⟩; have hb := G.trans hHeld hg; clear hg)
      refine hJJ.out _ _ ?_ (fun hHeld2 => ?_)
      · exact hb
      clear hJJ JJ hHeld
      have hHeld := hHeld2
      clear hHeld2
      try simp only [List.getElem_toArray, List.getElem_cons_succ, List.getElem_cons_zero, Act.put, List.setIfInBounds_toArray, List.set_cons_zero, List.set_cons_succ]
      refine wpAnyH_take (i := 9) (v := ?_) rfl (by kernel_rfl) (by kernel_rfl) (by kernel_rfl) (fun _ _ _ h => h) (Or.inl ⟨by kernel_rfl, ?_⟩) (by assumption) ?_
      rotate_left
      · intro w hSw; (try dsimp only at hSw); go_simp; try with_reducible rfl
      try simp only [List.getElem_toArray, List.getElem_cons_succ, List.getElem_cons_zero, Act.put, List.setIfInBounds_toArray, List.set_cons_zero, List.set_cons_succ]
      refine wpAnyH_done (by kernel_rfl) ?_ _
      refine NoPanic.normal ?_
      have HW := put hHeld
      clear hHeld
      have hK7 := G.heap HW.out HK.out
      obtain ⟨q0, q1⟩ := k_cells hK7
      clear hK7
      obtain ⟨N, hN⟩ : ∃ N, N = ord (atV a k.col) (atV b k.col) := ⟨_, rfl⟩
      rw [← hN]
      have hr := ord_range (atV a k.col) (atV b k.col)
      rw [← hN] at hr
      have HN2 := put hN
      clear hN
      have hw : IntKind.i64.wrap (-N) = -N := by rw [IntKind.wrap_i64]; omega
      by_cases hz : N = 0
      · have z1 : (N != 0) = false := by simp [hz]
        have z2 : (-N != 0) = false := by simp [hz]
        have HC2 : Kp (cmpR (ks.drop (i + 1)) a b = cmpR ks a b) := put (by rw [← HC.out, HD.out, cmpR, ← HN2.out, hz]; cases k.down <;> simp)
        clear hz hr
        cases hdn : k.down with
        | true =>
          rw [hdn] at q1
          go_wp2_with fail
          go_roundg (n - (i + 1))
          case measure => omega
          case rel => exact ⟨i + 1, by go_num, by omega, Nat.le_refl _, HC2, put (HGK.out.trans HW.out)⟩
        | false =>
          rw [hdn] at q1
          go_wp2_with fail
          go_roundg (n - (i + 1))
          case measure => omega
          case rel => exact ⟨i + 1, by go_num, by omega, Nat.le_refl _, HC2, put (HGK.out.trans HW.out)⟩
      · have z1 : (N != 0) = true := by simp [hz]
        have z2 : (-N != 0) = true := by simp; omega
        cases hdn : k.down with
        | true =>
          have E : Kp (cmpR ks a b = -N) := put (by rw [← HC.out, HD.out, cmpR, ← HN2.out, hdn]; simp; omega)
          rw [hdn] at q1
          clear hz hr
          go_wp2_with fail
          go_ret
          exact ⟨by rw [E.out]; rfl, HGK.out.trans HW.out⟩
        | false =>
          have E : Kp (cmpR ks a b = N) := put (by rw [← HC.out, HD.out, cmpR, ← HN2.out, hdn]; simp; omega)
          rw [hdn] at q1
          clear hz hr
          go_wp2_with fail
          go_ret
          exact ⟨by rw [E.out]; rfl, HGK.out.trans HW.out⟩
    · have hlz : ¬ (i : Int) < (n : Int) := by omega
      have E : Kp (cmpR ks a b = 0) := put (by rw [← HC.out, List.drop_of_length_le (by rw [← HN.out]; omega)]; rfl)
      go_wp2_with fail
      go_ret
      exact ⟨by rw [E.out]; rfl, KG.out⟩
end Go.Proofs.Ytkfoknjflpklpaa.P
