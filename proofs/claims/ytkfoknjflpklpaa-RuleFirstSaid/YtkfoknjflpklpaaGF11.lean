/- tripwirelaw13.Plain: what comes out reads as a statement does. -/
import Derived.Test.YtkfoknjflpklpaaGF10
import Derived.Test.YtkfoknjflpklpaaGF4
import Derived.Test.YtkfoknjflpklpaaGF5

namespace Go.Proofs.Ytkfoknjflpklpaa.D
open Go Go.RowKit Go.Proofs.Ytkfoknjflpklpaa.Mem

theorem infoSet (d : Nat) : (Try.prog.info? 173).map (fun i => (i.zero, i.size, i.bytes)) = some (some (.agg #[.string ⟨#[]⟩, .string ⟨#[]⟩, .int .i64 0, .int .i64 0, .string ⟨#[]⟩, .string ⟨#[]⟩, .string ⟨#[]⟩, .slice none 0 0]), (tSet d).sz, 120) := by
  show _ = some (_, 8, 120)
  kernel_rfl
theorem infoSrc : (Try.prog.info? 178).map (fun i => (i.zero, i.size, i.bytes)) = some (some (.agg #[.int .i64 0, .string ⟨#[]⟩, .string ⟨#[]⟩]), tSrc.sz, 40) := by kernel_rfl
theorem infoSt (d : Nat) : (Try.prog.info? 127).map (fun i => (i.zero, i.size, i.bytes)) = some (some (.agg #[.int .i64 0, .string { data := #[] }, .string { data := #[] }, .string { data := #[] }, .slice none 0 0, .slice none 0 0, .slice none 0 0, .slice none 0 0, .slice none 0 0, .slice none 0 0, .int .i64 0, .int .i64 0, .bool false, .bool false, .slice none 0 0]), (tSt d).sz, 248) := by rw [tSt_sz]; kernel_rfl

section
variable {w : World} {X : Nat} {a0 a1 a2 a3 a4 a5 a6 a7 a8 a9 a10 a11 a12 a13 a14 : Value} {t : TypeId}
theorem st_set8 (h : w.heap[X]? = some (.cells #[a0, a1, a2, a3, a4, a5, a6, a7, a8, a9, a10, a11, a12, a13, a14] t (0, 0))) (u : Value) : (w.setCell ⟨X, 8, none⟩ u).heap[X]? = some (.cells #[a0, a1, a2, a3, a4, a5, a6, a7, u, a9, a10, a11, a12, a13, a14] t (0, 0)) := by
  simp [World.setCell, Array.getElem?_modify, h]
theorem st_set9 (h : w.heap[X]? = some (.cells #[a0, a1, a2, a3, a4, a5, a6, a7, a8, a9, a10, a11, a12, a13, a14] t (0, 0))) (u : Value) : (w.setCell ⟨X, 9, none⟩ u).heap[X]? = some (.cells #[a0, a1, a2, a3, a4, a5, a6, a7, a8, u, a10, a11, a12, a13, a14] t (0, 0)) := by
  simp [World.setCell, Array.getElem?_modify, h]
theorem st_set14 (h : w.heap[X]? = some (.cells #[a0, a1, a2, a3, a4, a5, a6, a7, a8, a9, a10, a11, a12, a13, a14] t (0, 0))) (u : Value) : (w.setCell ⟨X, 14, none⟩ u).heap[X]? = some (.cells #[a0, a1, a2, a3, a4, a5, a6, a7, a8, a9, a10, a11, a12, a13, u] t (0, 0)) := by
  simp [World.setCell, Array.getElem?_modify, h]
end

theorem src_at {ok : Nat → Prop} {w : World} {A : Option Addr} {xs : List Unit} (h : Row tSrc ok w A xs) (i : Nat) (hi : i < xs.length) :
    ∃ ad a b c, A = some ad ∧ w.cell? (ad.add (i * 3)) = some (.int .i64 a) ∧ w.cell? ⟨(ad.add (i * 3)).block, (ad.add (i * 3)).off + 1, none⟩ = some (.string b) ∧ w.cell? ⟨(ad.add (i * 3)).block, (ad.add (i * 3)).off + 2, none⟩ = some (.string c) := by
  obtain ⟨ad, cs, rfl, _, _, hr, ha⟩ := h.get i hi
  obtain ⟨a, b, c, rfl⟩ := hr
  exact ⟨ad, a, b, c, rfl, At.c0 ha rfl, At.cj ha 1 (by omega) rfl, At.cj ha 2 (by omega) rfl⟩
theorem st_name {d : Nat} {ok : Nat → Prop} {w : World} {x : Rl} {cs : List Value} (h : (tSt d).R ok w x cs) : x.name.size ≤ 9223372036854775807 := by
  cases d with
  | zero => exact h.elim
  | succ d =>
    obtain ⟨kd, col, rl, vc, v1, v2, v3, v4, v5, v6, x1, x2, x3, x4, x5, x6, rfl, hn, _⟩ := h
    exact hn
theorem But.refl (B : Nat → Prop) (w : World) : But B w w := ⟨rfl, rfl, rfl, Nat.le_refl _, fun _ _ _ => rfl⟩
theorem grown_below {w w' : World} {row : Option Nat} (h : Below w.heap.size w w') : w.grownBy w' row := ⟨h.os, h.tape, h.output, h.size, fun k hk _ => h.block k hk⟩
/-- One round's writes: an append, a store at X. -/
theorem But.round {X : Nat} {w9 wr w7 : World} {v u : Value} {o : Nat} (h : But (fun k => k = X) w9 wr) (hg : wr.grownBy w7 v.ownBlock) (hv : ∀ k, v.ownBlock = some k → w9.heap.size ≤ k) : But (fun k => k = X) w9 (w7.setCell ⟨X, o, none⟩ u) :=
  ⟨hg.os.trans h.os, hg.tape.trans h.tape, hg.output.trans h.output, Nat.le_trans h.size (by simpa [World.setCell] using hg.size), fun k hk hne =>
    (Below.heap_setCell _ ⟨X, o, none⟩ u k hne).trans ((hg.block k (Nat.lt_of_lt_of_le hk h.size) (fun e => by have := hv k e.symm; omega)).trans (h.block k hk hne))⟩
theorem Own.stored {α : Type} {d : Ty α} {E base : Nat} {w7 : World} {v u : Value} {xs : List α} {X o N : Nat} (ho : Own d E (fun q => N ≤ q ∧ q ≠ X) w7 base v xs) (hX : X < base) : Own d E (fun q => N ≤ q ∧ q ≠ X) (w7.setCell ⟨X, o, none⟩ u) base v xs :=
  Own.far ho (p := ⟨X, o, none⟩) (fun k hk e => by have h1 := (ho.lt k hk).1; have h2 : k = X := e; omega) (fun k hk => hk.2) u


set_option maxHeartbeats 16000000 in
set_option maxRecDepth 100000 in
theorem plainStCalls : ∀ (d : Nat) (ok : Nat → Prop) (x : Rl) (cs : List Value) (w : World), (tSt d).R ok w x cs →
    Calls Try.prog 63 #[.agg cs.toArray] w fun e w' => ∃ cs', e = .returned (.agg cs'.toArray) ∧ (tSt d).R (fun q => w.heap.size ≤ q) w' x cs' ∧ Below w.heap.size w w' := by
  intro d
  induction d with
  | zero => intro ok x cs w h; exact h.elim
  | succ d ih =>
    intro ok x cs w h
    have HNM := put (st_name h)
    obtain ⟨d', kd, col, rl, Ac, nc, cc, A1, n1, c1, A2, n2, c2, A3, n3, c3, A4, n4, c4, A5, n5, c5, A6, n6, c6, ed, ⟨rfl, bc, b1, b2, b3, b4, b5, b6⟩, P⟩ := st_parts h
    obtain rfl : d = d' := by omega
    have IH := put ih
    have PP := put P
    have BC := put (And.intro bc (And.intro b1 (And.intro b2 b3)))
    clear ih P h ed bc b1 b2 b3
    obtain ⟨l4, m4, q4⟩ := b4
    obtain ⟨l5, m5, q5⟩ := b5
    obtain ⟨l6, m6, q6⟩ := b6
    go_enter Try.func63, Try.ntmps63
    go_wp2_with fail
    obtain ⟨w2, hw2⟩ : ∃ w2, w2 = (w.alloc (.cells #[.int .i64 kd, .string x.name, .string x.table, .string col, .slice Ac nc cc, .slice A1 n1 c1, .slice A2 n2 c2, .slice A3 n3 c3, .slice A4 n4 c4, .slice A5 n5 c5, .int .i64 x.prio, .int .i64 x.event, .bool x.deferred, .bool rl, .slice A6 n6 c6] 67)).alloc (.cells #[.int .i64 0, .string { data := #[] }, .string { data := #[] }, .string { data := #[] }, .slice none 0 0, .slice none 0 0, .slice none 0 0, .slice none 0 0, .slice none 0 0, .slice none 0 0, .int .i64 0, .int .i64 0, .bool false, .bool false, .slice none 0 0] 127) := ⟨_, rfl⟩
    have hBb : w2.heap[w.heap.size]? = some (.cells #[.int .i64 kd, .string x.name, .string x.table, .string col, .slice Ac nc cc, .slice A1 n1 c1, .slice A2 n2 c2, .slice A3 n3 c3, .slice A4 n4 c4, .slice A5 n5 c5, .int .i64 x.prio, .int .i64 x.event, .bool x.deferred, .bool rl, .slice A6 n6 c6] 67 (0, 0)) := by rw [hw2]; simp only [heap_alloc_get]; simp
    have hRb : w2.heap[w.heap.size + 1]? = some (.cells #[.int .i64 0, .string { data := #[] }, .string { data := #[] }, .string { data := #[] }, .slice none 0 0, .slice none 0 0, .slice none 0 0, .slice none 0 0, .slice none 0 0, .slice none 0 0, .int .i64 0, .int .i64 0, .bool false, .bool false, .slice none 0 0] 127 (0, 0)) := by rw [hw2]; simp only [heap_alloc_get]; simp
    have hB2 : Below w.heap.size w w2 := by rw [hw2]; exact below_alloc (below_alloc (Below.refl _ _) _) _
    rw [← hw2]
    clear hw2
    obtain ⟨B, hB⟩ : ∃ B, B = w.heap.size := ⟨_, rfl⟩
    rw [← hB] at hBb hRb ⊢
    have HB := put hB
    have HB2 := put hB2
    have HBb := put hBb
    have HRb := put hRb
    clear hB hB2 hBb hRb
    have P2 : Kp (StParts d (fun k => k < w2.heap.size) w2 (.slice A1 n1 c1) (.slice A2 n2 c2) (.slice A3 n3 c3) (.slice A4 n4 c4) (.slice A5 n5 c5) (.slice A6 n6 c6) n1 n2 n3 n4 n5 n6) := put (PP.out.later HB2.out)
    clear PP
    obtain ⟨x1, hx1, hn1⟩ := P2.out.s1
    obtain ⟨x2, hx2, hn2⟩ := P2.out.s2
    obtain ⟨x3, hx3, hn3⟩ := P2.out.s3
    have LX := put (And.intro hx1.2 (And.intro hx2.2 hx3.2))
    have C1 : Kp (∀ W, Below w2.heap.size w2 W → Calls Try.prog 91 #[.slice A1 n1 c1] W fun e w' => ∃ vo, e = .returned vo ∧ Own (tEx d) 171 (fun k => W.heap.size ≤ k) w' W.heap.size vo x1 ∧ Below W.heap.size W w') := ⟨fun W hb => plainExprsCalls d (plainExprCalls d) _ _ x1 W (hx1.1.below hb) hx1.2⟩
    have C2 : Kp (∀ W, Below w2.heap.size w2 W → Calls Try.prog 91 #[.slice A2 n2 c2] W fun e w' => ∃ vo, e = .returned vo ∧ Own (tEx d) 171 (fun k => W.heap.size ≤ k) w' W.heap.size vo x2 ∧ Below W.heap.size W w') := ⟨fun W hb => plainExprsCalls d (plainExprCalls d) _ _ x2 W (hx2.1.below hb) hx2.2⟩
    have C3 : Kp (∀ W, Below w2.heap.size w2 W → Calls Try.prog 91 #[.slice A3 n3 c3] W fun e w' => ∃ vo, e = .returned vo ∧ Own (tEx d) 171 (fun k => W.heap.size ≤ k) w' W.heap.size vo x3 ∧ Below W.heap.size W w') := ⟨fun W hb => plainExprsCalls d (plainExprCalls d) _ _ x3 W (hx3.1.below hb) hx3.2⟩
    have N1 : Kp (n1 = x1.length) := put hn1.symm
    have N2 : Kp (n2 = x2.length) := put hn2.symm
    have N3 : Kp (n3 = x3.length) := put hn3.symm
    clear hx1 hx2 hx3 hn1 hn2 hn3
    refine plainHead _ _ _ _ _ _ _ _ _ _ _ _ _ _ _ _ _ _ _ _ _ _ _ _ _ _ _ _ _ _ _ _ _ _ _ _ _ _ _ _ _ _ _ _ _ _ _ _ _ _ _ _ _ _ _ _ _ _ _ _ _ _ _ _ _ _ _ _ _ _ _ _ _ _ _ _ _ _ _ _ _ _ _ _ _ _ d B kd x.prio x.event x.name x.table col x.deferred rl Ac A1 A2 A3 nc cc n1 c1 n2 c2 n3 c3 _ _ _ x1 x2 x3 w2 _ HBb.out C1 N1 (by have := LX.out.1; omega) C2 N2 (by have := LX.out.2.1; omega) C3 N3 (by have := LX.out.2.2; omega) ?_ _ rfl
    intro r10 r11 r12 r13 r14 r15 r16 r17 r18 r19 r20 r21 r22 r23 r24 r25 r26 r27 r28 r29 r30 r31 r32 r33 r34 r35 r36 r37 X V1 V2 V3 e1 e2 e3 w9 hX9 hge hs1 hs2 hs3 hb9
    have HX9 := put hX9
    have HGE := put hge
    have HS := put (And.intro hs1 (And.intro hs2 hs3))
    have HB9 := put hb9
    have f8 := (hb9.cell (p := ⟨B, 8, none⟩) (Array.getElem?_eq_some_iff.1 HBb.out).1).trans (st_c8 HBb.out)
    clear hX9 hge hs1 hs2 hs3 hb9 C1 C2 C3
    go_wp2_with fail
    clear f8
    obtain ⟨ys1, hys, hyn⟩ := P2.out.s4
    have KS1 := put hys
    have HLB1 := put (And.intro hyn hys.2)
    have HXW1 : Kp (X < w9.heap.size) := put (Array.getElem?_eq_some_iff.1 HX9.out).1
    clear hys hyn
    go_loopg [41] n4 (fun kx s wr1 => ∃ (i : Nat) (Aw1 : Option Addr) (p1 : Nat), s = .int .i64 i ∧ i ≤ n4 ∧ n4 - i ≤ kx ∧ Kp (wr1.heap[X]? = some (.cells #[.int .i64 kd, .string x.name, .string x.table, .string col, .slice Ac nc cc, .slice V1 n1 e1, .slice V2 n2 e2, .slice V3 n3 e3, .slice Aw1 i p1, .slice none 0 0, .int .i64 x.prio, .int .i64 x.event, .bool x.deferred, .bool rl, .slice none 0 0] 127 (0, 0))) ∧ Kp (Own (tSet d) 173 (fun q => w9.heap.size ≤ q ∧ q ≠ X) wr1 w9.heap.size (.slice Aw1 i p1) (ys1.take i)) ∧ Kp (But (fun k => k = X) w9 wr1))
    case atStart => exact ⟨0, none, 0, rfl, Nat.zero_le _, Nat.le_refl _, HX9, put (Own.nil _ _ _ _ _), put (But.refl _ _)⟩
    case round =>
      rename World => wr1
      obtain ⟨i, Aw1, p1, rfl, hi, hkx, HXR1, KO1, KB1⟩ := hrel
      have HWR1 : Kp (Below w2.heap.size w2 wr1) := put (HB9.out.trans (KB1.out.below HB9.out.size (fun k hk => by rw [hk]; exact HGE.out)))
      by_cases hlt : i < n4
      · have hlz : (i : Int) < (n4 : Int) := by omega
        have i0 : (0 : Int) ≤ (i : Int) := by omega
        have hx : ys1[i]? = some (ys1[i]'(by rw [HLB1.out.1]; exact hlt)) := List.getElem?_eq_getElem _
        have KX1 := put hx
        clear hx
        have HXs1 : Kp (X < wr1.heap.size) := put (Array.getElem?_eq_some_iff.1 HXR1.out).1
        have HNX1 : Kp (some X ≠ (Value.slice Aw1 i p1).ownBlock) := put (fun e => by have h1 := (KO1.out.lt X e.symm).1; have h2 := HXW1.out; omega)
        obtain ⟨d', ad, z0, y0, y1, y2, y3, y4, y5, BB, kk, j, rfl, rfl, u0, u1, u2, u3, u4, u5, u6, u7, l1, l2, l3, hr⟩ := sets_at (KS1.out.1.elder HWR1.out).row.1 i (by rw [HLB1.out.1]; exact hlt)
        have KR := put hr
        clear hr
        go_wp2_with fail
        obtain ⟨wk, hwk⟩ : ∃ wk, wk = wr1.alloc (.cells #[.string z0, .string y0, .int .i64 y1, .int .i64 y2, .string y3, .string y4, .string y5, .slice BB kk j] 167) := ⟨_, rfl⟩
        have k0 : wk.cell? ⟨wr1.heap.size, 0, none⟩ = some (.string z0) := by rw [hwk]; simp
        have k1 : wk.cell? ⟨wr1.heap.size, 1, none⟩ = some (.string y0) := by rw [hwk]; simp
        have k2 : wk.cell? ⟨wr1.heap.size, 2, none⟩ = some (.int .i64 y1) := by rw [hwk]; simp
        have k3 : wk.cell? ⟨wr1.heap.size, 3, none⟩ = some (.int .i64 y2) := by rw [hwk]; simp
        have k4 : wk.cell? ⟨wr1.heap.size, 4, none⟩ = some (.string y3) := by rw [hwk]; simp
        have k5 : wk.cell? ⟨wr1.heap.size, 5, none⟩ = some (.string y4) := by rw [hwk]; simp
        have k6 : wk.cell? ⟨wr1.heap.size, 6, none⟩ = some (.string y5) := by rw [hwk]; simp
        have k7 : wk.cell? ⟨wr1.heap.size, 7, none⟩ = some (.slice BB kk j) := by rw [hwk]; simp
        have hbk : Below wr1.heap.size wr1 wk := by rw [hwk]; exact balloc (Below.refl _ _) _
        have hK : wr1.heap.size < wk.heap.size := by rw [hwk]; simp
        rw [← hwk]
        clear hwk
        obtain ⟨K, hKe⟩ : ∃ K, K = wr1.heap.size := ⟨_, rfl⟩
        rw [← hKe] at k0 k1 k2 k3 k4 k5 k6 k7 hK ⊢
        have hXK1 : X ≠ K := by have := HXs1.out; omega
        have hXK2 : K ≠ X := hXK1.symm
        have HKE := put hKe
        clear hKe
        have hXk : wk.heap[X]? = some (.cells #[.int .i64 kd, .string x.name, .string x.table, .string col, .slice Ac nc cc, .slice V1 n1 e1, .slice V2 n2 e2, .slice V3 n3 e3, .slice Aw1 i p1, .slice none 0 0, .int .i64 x.prio, .int .i64 x.event, .bool x.deferred, .bool rl, .slice none 0 0] 127 (0, 0)) := (hbk.block X HXs1.out).trans HXR1.out
        have tk := st_c8 hXk
        have fk := st_f hXk 8
        have HXK := put hXk
        have HBK := put hbk
        clear hXk hbk u0 u1 u2 u3 u4 u5 u6 u7
        refine wp_region_noPanic ?_
        refine wp_region_held_drew (S := (fun w' => w'.cell? ⟨K, 0, none⟩ = some (.string z0) ∧ w'.cell? ⟨K, 1, none⟩ = some (.string y0) ∧ w'.cell? ⟨K, 2, none⟩ = some (.int .i64 y1) ∧ w'.cell? ⟨K, 3, none⟩ = some (.int .i64 y2) ∧ w'.cell? ⟨K, 4, none⟩ = some (.string y3) ∧ w'.cell? ⟨K, 5, none⟩ = some (.string y4) ∧ w'.cell? ⟨K, 6, none⟩ = some (.string y5) ∧ w'.cell? ⟨K, 7, none⟩ = some (.slice BB kk j))) (by kernel_rfl) ⟨k0, k1, k2, k3, k4, k5, k6, k7⟩ (fun hHeld => ?_)
        refine wpAnyH_take (i := 0) (v := ?_) rfl (by kernel_rfl) (by kernel_rfl) (by kernel_rfl) (fun _ _ _ h => h) (Or.inl ⟨by kernel_rfl, ?_⟩) (by assumption) ?_
        rotate_left
        · intro w hSw; (try dsimp only at hSw); go_simp; try with_reducible rfl
        try simp only [List.getElem_toArray, List.getElem_cons_zero, Act.put, List.setIfInBounds_toArray, List.set_cons_zero, List.set_cons_succ]
        refine wpAnyH_take (i := 2) (v := ?_) rfl (by kernel_rfl) (by kernel_rfl) (by kernel_rfl) (fun _ _ _ h => h) (Or.inl ⟨by kernel_rfl, ?_⟩) (by assumption) ?_
        rotate_left
        · intro w hSw; (try dsimp only at hSw); go_simp; try with_reducible rfl
        try simp only [List.getElem_toArray, List.getElem_cons_succ, List.getElem_cons_zero, Act.put, List.setIfInBounds_toArray, List.set_cons_zero, List.set_cons_succ]
        refine wpAnyH_take (i := 3) (v := ?_) rfl (by kernel_rfl) (by kernel_rfl) (by kernel_rfl) (fun _ _ _ h => h) (Or.inl ⟨by kernel_rfl, ?_⟩) (by assumption) ?_
        rotate_left
        · intro w hSw; (try dsimp only at hSw); go_simp; try with_reducible rfl
        try simp only [List.getElem_toArray, List.getElem_cons_succ, List.getElem_cons_zero, Act.put, List.setIfInBounds_toArray, List.set_cons_zero, List.set_cons_succ]
        refine wpAnyH_take (i := 4) (v := ?_) rfl (by kernel_rfl) (by kernel_rfl) (by kernel_rfl) (fun _ _ _ h => h) (Or.inl ⟨by kernel_rfl, ?_⟩) (by assumption) ?_
        rotate_left
        · intro w hSw; (try dsimp only at hSw); go_simp; try with_reducible rfl
        try simp only [List.getElem_toArray, List.getElem_cons_succ, List.getElem_cons_zero, Act.put, List.setIfInBounds_toArray, List.set_cons_zero, List.set_cons_succ]
        refine wpAnyH_take (i := 5) (v := ?_) rfl (by kernel_rfl) (by kernel_rfl) (by kernel_rfl) (fun _ _ _ h => h) (Or.inl ⟨by kernel_rfl, ?_⟩) (by assumption) ?_
        rotate_left
        · intro w hSw; (try dsimp only at hSw); go_simp; try with_reducible rfl
        try simp only [List.getElem_toArray, List.getElem_cons_succ, List.getElem_cons_zero, Act.put, List.setIfInBounds_toArray, List.set_cons_zero, List.set_cons_succ]
        refine wpAnyH_ready (rs := [1, 6]) (by kernel_rfl) (by simp) ?_
        refine AllReadyH.cons rfl (fun JJ hJJ => ?_) ?_
        · go_simp
          refine hJJ.out _ _ ?_ (fun hHeld2 => ?_)
          · first | go_keep | exact ⟨q0, q1, q2, q3, q4, q5, q6, q7⟩ | exact ⟨m0, m1, m2, m3, m4, m5, m6, m7⟩
          clear hJJ JJ hHeld
          have hHeld := hHeld2
          clear hHeld2
          try simp only [List.getElem_toArray, List.getElem_cons_succ, List.getElem_cons_zero, Act.put, List.setIfInBounds_toArray, List.set_cons_zero, List.set_cons_succ]
          refine wpAnyH_ready (rs := [6]) (by kernel_rfl) (by simp) ?_
          refine AllReadyH.cons rfl (fun JJ hJJ => ?_) AllReadyH.nil
          go_simp
          (go_at_call 92; refine (plainExprCalls _ _ y0 y1 y2 y3 y4 y5 BB kk j _ (Ty.below KR.out (by (repeat (first | with_reducible exact (Below.refl _ _) | with_reducible exact HBK.out | with_reducible apply Below.drew | with_reducible refine balloc ?_ _))))).mono ?_; rintro e w6 ⟨A', n', c', rfl, hr6, hb6⟩; have hbb : Below wk.heap.size wk w6 := Below.trans (by (repeat (first | with_reducible exact (Below.refl _ _) | with_reducible apply Below.drew | with_reducible refine balloc ?_ _))) (hb6.mono (bsize (w := wk) (by (repeat (first | with_reducible exact (Below.refl _ _) | with_reducible apply Below.drew | with_reducible refine balloc ?_ _))))); have h6 := (hbb.block X (Nat.lt_of_lt_of_le HXs1.out HBK.out.size)).trans HXK.out; have t6 := st_c8 h6; have f6 := st_f h6 8; have al6 : ∀ o, (w6.alloc o).cell? ⟨X, 8, none⟩ = some (.slice Aw1 i p1) := fun o => (World.cell?_alloc_some _ _ _ (by rw [t6]; rfl)).trans t6; have nw6 := World.new_ne w6 _ t6; have hK6 : K < w6.heap.size := Nat.lt_of_lt_of_le hK hbb.size; have m0 := (hbb.cell (p := ⟨K, 0, none⟩) hK).trans k0; have m1 := (hbb.cell (p := ⟨K, 1, none⟩) hK).trans k1; have m2 := (hbb.cell (p := ⟨K, 2, none⟩) hK).trans k2; have m3 := (hbb.cell (p := ⟨K, 3, none⟩) hK).trans k3; have m4 := (hbb.cell (p := ⟨K, 4, none⟩) hK).trans k4; have m5 := (hbb.cell (p := ⟨K, 5, none⟩) hK).trans k5; have m6 := (hbb.cell (p := ⟨K, 6, none⟩) hK).trans k6; have m7 := (hbb.cell (p := ⟨K, 7, none⟩) hK).trans k7; have HB6 : Kp (Below wr1.heap.size wr1 w6) := put (HBK.out.trans (hbb.mono HBK.out.size)); have HR6 := put hr6; clear h6 hbb hb6 hr6)
          refine hJJ.out _ _ ?_ (fun hHeld2 => ?_)
          · first | go_keep | exact ⟨q0, q1, q2, q3, q4, q5, q6, q7⟩ | exact ⟨m0, m1, m2, m3, m4, m5, m6, m7⟩
          clear hJJ JJ hHeld
          have hHeld := hHeld2
          clear hHeld2
          try simp only [List.getElem_toArray, List.getElem_cons_succ, List.getElem_cons_zero, Act.put, List.setIfInBounds_toArray, List.set_cons_zero, List.set_cons_succ]
          refine wpAnyH_take (i := 7) (v := ?_) rfl (by kernel_rfl) (by kernel_rfl) (by kernel_rfl) (fun _ _ _ h => h) (Or.inl ⟨by kernel_rfl, ?_⟩) (by assumption) ?_
          rotate_left
          · intro w hSw; (try dsimp only at hSw); go_simp; try with_reducible rfl
          try simp only [List.getElem_toArray, List.getElem_cons_succ, List.getElem_cons_zero, Act.put, List.setIfInBounds_toArray, List.set_cons_zero, List.set_cons_succ]
          refine wpAnyH_ready (rs := [8]) (by kernel_rfl) (by simp) ?_
          refine AllReadyH.cons rfl (fun JJ hJJ => ?_) AllReadyH.nil
          go_simp
          refine hJJ.out _ _ ?_ (fun hHeld2 => ?_)
          · first | go_keep | exact ⟨q0, q1, q2, q3, q4, q5, q6, q7⟩ | exact ⟨m0, m1, m2, m3, m4, m5, m6, m7⟩
          clear hJJ JJ hHeld
          have hHeld := hHeld2
          clear hHeld2
          try simp only [List.getElem_toArray, List.getElem_cons_succ, List.getElem_cons_zero, Act.put, List.setIfInBounds_toArray, List.set_cons_zero, List.set_cons_succ]
          refine wpAnyH_ready (rs := [9]) (by kernel_rfl) (by simp) ?_
          refine AllReadyH.cons rfl (fun JJ hJJ => ?_) AllReadyH.nil
          (refine step_push1 (tSet (d' + 1)) w9.heap.size rfl _ _ 123 173 _ 120 rfl Try.underlying123 (infoSet _) rfl (Nat.succ_pos 7) (by decide) (.slice Aw1 i p1) _ (ys1.take i) () [.string z0, .string y0, .int .i64 y1, .int .i64 y2, .string y3, .string y4, .string y5, .slice A' n' c'] (fun q => w9.heap.size ≤ q ∧ q ≠ X) rfl rfl (by simp only [heap_alloc_get] <;> simp <;> done) (⟨z0, _, rfl, (tEx _).mono (fun q hq => by have h1 := HBK.out.size; have h2 := KB1.out.size; have h3 := HXs1.out; have h4 := hK; simp at hq; exact ⟨⟨by omega, by omega⟩, fun e => by have := (KO1.out.lt q e.symm).2; omega⟩) (Ty.below HR6.out (by (repeat (first | with_reducible exact (Below.refl _ _) | with_reducible apply Below.drew | with_reducible refine balloc ?_ _)))), rfl⟩) (KO1.out.below (by (repeat (first | with_reducible exact (Below.refl _ _) | with_reducible exact HB6.out | with_reducible apply Below.drew | with_reducible refine balloc ?_ _)))) (Nat.le_trans KB1.out.size (bsize (w := wr1) (by (repeat (first | with_reducible exact (Below.refl _ _) | with_reducible exact HB6.out | with_reducible apply Below.drew | with_reducible refine balloc ?_ _))))) (by rw [List.length_take]; have := HLB1.out; omega) ?_; intro v1 w7 ho hg hat; have hK7 := (World.grownBy.trans (grown_below (w := w6) (by (repeat (first | with_reducible exact (Below.refl _ _) | with_reducible apply Below.drew | with_reducible refine balloc ?_ _)))) hg).block K hK6 (fun e => by have h1 := (KO1.out.lt K e.symm).2; have h2 := HKE.out; omega); have q0 := (World.cell?_of_block (a := ⟨K, 0, none⟩) hK7).trans m0; have q1 := (World.cell?_of_block (a := ⟨K, 1, none⟩) hK7).trans m1; have q2 := (World.cell?_of_block (a := ⟨K, 2, none⟩) hK7).trans m2; have q3 := (World.cell?_of_block (a := ⟨K, 3, none⟩) hK7).trans m3; have q4 := (World.cell?_of_block (a := ⟨K, 4, none⟩) hK7).trans m4; have q5 := (World.cell?_of_block (a := ⟨K, 5, none⟩) hK7).trans m5; have q6 := (World.cell?_of_block (a := ⟨K, 6, none⟩) hK7).trans m6; have q7 := (World.cell?_of_block (a := ⟨K, 7, none⟩) hK7).trans m7; clear hK7; obtain ⟨V9, c9, e9, _, _⟩ := ho.form; rw [show (ys1.take i ++ [()]).length = i + 1 by rw [List.length_append, List.length_take, List.length_singleton]; have := HLB1.out.1; omega] at e9; subst e9; have hg7 : wr1.grownBy w7 (Value.slice Aw1 i p1).ownBlock := World.grownBy.trans (grown_below (by (repeat (first | with_reducible exact (Below.refl _ _) | with_reducible exact HB6.out | with_reducible apply Below.drew | with_reducible refine balloc ?_ _)))) hg; have h7 := (hg7.block X HXs1.out HNX1.out).trans HXR1.out; have t7 := st_c8 h7; have f7 := st_f h7 8; have H7 := put h7; have HO7 := put ho; have HG7 := put hg7; clear ho hg hat hg7 h7)
          refine hJJ.out _ _ ?_ (fun hHeld2 => ?_)
          · first | go_keep | exact ⟨q0, q1, q2, q3, q4, q5, q6, q7⟩ | exact ⟨m0, m1, m2, m3, m4, m5, m6, m7⟩
          clear hJJ JJ hHeld
          have hHeld := hHeld2
          clear hHeld2
          try simp only [List.getElem_toArray, List.getElem_cons_succ, List.getElem_cons_zero, Act.put, List.setIfInBounds_toArray, List.set_cons_zero, List.set_cons_succ]
          refine wpAnyH_take (i := 10) (v := ?_) rfl (by kernel_rfl) (by kernel_rfl) (by kernel_rfl) (fun _ _ _ h => h) (Or.inl ⟨by kernel_rfl, ?_⟩) (by assumption) ?_
          rotate_left
          · intro w hSw; (try dsimp only at hSw); go_simp; try with_reducible rfl
          try simp only [List.getElem_toArray, List.getElem_cons_succ, List.getElem_cons_zero, Act.put, List.setIfInBounds_toArray, List.set_cons_zero, List.set_cons_succ]
          refine wpAnyH_ready (rs := [11]) (by kernel_rfl) (by simp) ?_
          refine AllReadyH.cons rfl (fun JJ hJJ => ?_) AllReadyH.nil
          go_simp
          refine hJJ.out _ _ ?_ (fun hHeld2 => ?_)
          · first | go_keep | exact ⟨q0, q1, q2, q3, q4, q5, q6, q7⟩ | exact ⟨m0, m1, m2, m3, m4, m5, m6, m7⟩
          clear hJJ JJ hHeld
          have hHeld := hHeld2
          clear hHeld2
          try simp only [List.getElem_toArray, List.getElem_cons_succ, List.getElem_cons_zero, Act.put, List.setIfInBounds_toArray, List.set_cons_zero, List.set_cons_succ]
          refine wpAnyH_done (by kernel_rfl) ?_ _
          refine NoPanic.normal ?_
          go_wp2_with fail
          go_roundg (n4 - (i + 1))
          case measure => omega
          case rel => exact ⟨i + 1, V9, c9, by go_num, by omega, Nat.le_refl _, put (st_set8 H7.out _), put (by rw [take_one_more KX1.out]; exact Own.stored HO7.out HXW1.out), put (KB1.out.round HG7.out (fun k hk => (KO1.out.lt k hk).1))⟩
        refine AllReadyH.cons rfl (fun JJ hJJ => ?_) AllReadyH.nil
        go_simp
        (go_at_call 92; refine (plainExprCalls _ _ y0 y1 y2 y3 y4 y5 BB kk j _ (Ty.below KR.out (by (repeat (first | with_reducible exact (Below.refl _ _) | with_reducible exact HBK.out | with_reducible apply Below.drew | with_reducible refine balloc ?_ _))))).mono ?_; rintro e w6 ⟨A', n', c', rfl, hr6, hb6⟩; have hbb : Below wk.heap.size wk w6 := Below.trans (by (repeat (first | with_reducible exact (Below.refl _ _) | with_reducible apply Below.drew | with_reducible refine balloc ?_ _))) (hb6.mono (bsize (w := wk) (by (repeat (first | with_reducible exact (Below.refl _ _) | with_reducible apply Below.drew | with_reducible refine balloc ?_ _))))); have h6 := (hbb.block X (Nat.lt_of_lt_of_le HXs1.out HBK.out.size)).trans HXK.out; have t6 := st_c8 h6; have f6 := st_f h6 8; have al6 : ∀ o, (w6.alloc o).cell? ⟨X, 8, none⟩ = some (.slice Aw1 i p1) := fun o => (World.cell?_alloc_some _ _ _ (by rw [t6]; rfl)).trans t6; have nw6 := World.new_ne w6 _ t6; have hK6 : K < w6.heap.size := Nat.lt_of_lt_of_le hK hbb.size; have m0 := (hbb.cell (p := ⟨K, 0, none⟩) hK).trans k0; have m1 := (hbb.cell (p := ⟨K, 1, none⟩) hK).trans k1; have m2 := (hbb.cell (p := ⟨K, 2, none⟩) hK).trans k2; have m3 := (hbb.cell (p := ⟨K, 3, none⟩) hK).trans k3; have m4 := (hbb.cell (p := ⟨K, 4, none⟩) hK).trans k4; have m5 := (hbb.cell (p := ⟨K, 5, none⟩) hK).trans k5; have m6 := (hbb.cell (p := ⟨K, 6, none⟩) hK).trans k6; have m7 := (hbb.cell (p := ⟨K, 7, none⟩) hK).trans k7; have HB6 : Kp (Below wr1.heap.size wr1 w6) := put (HBK.out.trans (hbb.mono HBK.out.size)); have HR6 := put hr6; clear h6 hbb hb6 hr6)
        refine hJJ.out _ _ ?_ (fun hHeld2 => ?_)
        · first | go_keep | exact ⟨q0, q1, q2, q3, q4, q5, q6, q7⟩ | exact ⟨m0, m1, m2, m3, m4, m5, m6, m7⟩
        clear hJJ JJ hHeld
        have hHeld := hHeld2
        clear hHeld2
        try simp only [List.getElem_toArray, List.getElem_cons_succ, List.getElem_cons_zero, Act.put, List.setIfInBounds_toArray, List.set_cons_zero, List.set_cons_succ]
        refine wpAnyH_take (i := 7) (v := ?_) rfl (by kernel_rfl) (by kernel_rfl) (by kernel_rfl) (fun _ _ _ h => h) (Or.inl ⟨by kernel_rfl, ?_⟩) (by assumption) ?_
        rotate_left
        · intro w hSw; (try dsimp only at hSw); go_simp; try with_reducible rfl
        try simp only [List.getElem_toArray, List.getElem_cons_succ, List.getElem_cons_zero, Act.put, List.setIfInBounds_toArray, List.set_cons_zero, List.set_cons_succ]
        refine wpAnyH_ready (rs := [1, 8]) (by kernel_rfl) (by simp) ?_
        refine AllReadyH.cons rfl (fun JJ hJJ => ?_) ?_
        · go_simp
          refine hJJ.out _ _ ?_ (fun hHeld2 => ?_)
          · first | go_keep | exact ⟨q0, q1, q2, q3, q4, q5, q6, q7⟩ | exact ⟨m0, m1, m2, m3, m4, m5, m6, m7⟩
          clear hJJ JJ hHeld
          have hHeld := hHeld2
          clear hHeld2
          try simp only [List.getElem_toArray, List.getElem_cons_succ, List.getElem_cons_zero, Act.put, List.setIfInBounds_toArray, List.set_cons_zero, List.set_cons_succ]
          refine wpAnyH_ready (rs := [8]) (by kernel_rfl) (by simp) ?_
          refine AllReadyH.cons rfl (fun JJ hJJ => ?_) AllReadyH.nil
          go_simp
          refine hJJ.out _ _ ?_ (fun hHeld2 => ?_)
          · first | go_keep | exact ⟨q0, q1, q2, q3, q4, q5, q6, q7⟩ | exact ⟨m0, m1, m2, m3, m4, m5, m6, m7⟩
          clear hJJ JJ hHeld
          have hHeld := hHeld2
          clear hHeld2
          try simp only [List.getElem_toArray, List.getElem_cons_succ, List.getElem_cons_zero, Act.put, List.setIfInBounds_toArray, List.set_cons_zero, List.set_cons_succ]
          refine wpAnyH_ready (rs := [9]) (by kernel_rfl) (by simp) ?_
          refine AllReadyH.cons rfl (fun JJ hJJ => ?_) AllReadyH.nil
          (refine step_push1 (tSet (d' + 1)) w9.heap.size rfl _ _ 123 173 _ 120 rfl Try.underlying123 (infoSet _) rfl (Nat.succ_pos 7) (by decide) (.slice Aw1 i p1) _ (ys1.take i) () [.string z0, .string y0, .int .i64 y1, .int .i64 y2, .string y3, .string y4, .string y5, .slice A' n' c'] (fun q => w9.heap.size ≤ q ∧ q ≠ X) rfl rfl (by simp only [heap_alloc_get] <;> simp <;> done) (⟨z0, _, rfl, (tEx _).mono (fun q hq => by have h1 := HBK.out.size; have h2 := KB1.out.size; have h3 := HXs1.out; have h4 := hK; simp at hq; exact ⟨⟨by omega, by omega⟩, fun e => by have := (KO1.out.lt q e.symm).2; omega⟩) (Ty.below HR6.out (by (repeat (first | with_reducible exact (Below.refl _ _) | with_reducible apply Below.drew | with_reducible refine balloc ?_ _)))), rfl⟩) (KO1.out.below (by (repeat (first | with_reducible exact (Below.refl _ _) | with_reducible exact HB6.out | with_reducible apply Below.drew | with_reducible refine balloc ?_ _)))) (Nat.le_trans KB1.out.size (bsize (w := wr1) (by (repeat (first | with_reducible exact (Below.refl _ _) | with_reducible exact HB6.out | with_reducible apply Below.drew | with_reducible refine balloc ?_ _))))) (by rw [List.length_take]; have := HLB1.out; omega) ?_; intro v1 w7 ho hg hat; have hK7 := (World.grownBy.trans (grown_below (w := w6) (by (repeat (first | with_reducible exact (Below.refl _ _) | with_reducible apply Below.drew | with_reducible refine balloc ?_ _)))) hg).block K hK6 (fun e => by have h1 := (KO1.out.lt K e.symm).2; have h2 := HKE.out; omega); have q0 := (World.cell?_of_block (a := ⟨K, 0, none⟩) hK7).trans m0; have q1 := (World.cell?_of_block (a := ⟨K, 1, none⟩) hK7).trans m1; have q2 := (World.cell?_of_block (a := ⟨K, 2, none⟩) hK7).trans m2; have q3 := (World.cell?_of_block (a := ⟨K, 3, none⟩) hK7).trans m3; have q4 := (World.cell?_of_block (a := ⟨K, 4, none⟩) hK7).trans m4; have q5 := (World.cell?_of_block (a := ⟨K, 5, none⟩) hK7).trans m5; have q6 := (World.cell?_of_block (a := ⟨K, 6, none⟩) hK7).trans m6; have q7 := (World.cell?_of_block (a := ⟨K, 7, none⟩) hK7).trans m7; clear hK7; obtain ⟨V9, c9, e9, _, _⟩ := ho.form; rw [show (ys1.take i ++ [()]).length = i + 1 by rw [List.length_append, List.length_take, List.length_singleton]; have := HLB1.out.1; omega] at e9; subst e9; have hg7 : wr1.grownBy w7 (Value.slice Aw1 i p1).ownBlock := World.grownBy.trans (grown_below (by (repeat (first | with_reducible exact (Below.refl _ _) | with_reducible exact HB6.out | with_reducible apply Below.drew | with_reducible refine balloc ?_ _)))) hg; have h7 := (hg7.block X HXs1.out HNX1.out).trans HXR1.out; have t7 := st_c8 h7; have f7 := st_f h7 8; have H7 := put h7; have HO7 := put ho; have HG7 := put hg7; clear ho hg hat hg7 h7)
          refine hJJ.out _ _ ?_ (fun hHeld2 => ?_)
          · first | go_keep | exact ⟨q0, q1, q2, q3, q4, q5, q6, q7⟩ | exact ⟨m0, m1, m2, m3, m4, m5, m6, m7⟩
          clear hJJ JJ hHeld
          have hHeld := hHeld2
          clear hHeld2
          try simp only [List.getElem_toArray, List.getElem_cons_succ, List.getElem_cons_zero, Act.put, List.setIfInBounds_toArray, List.set_cons_zero, List.set_cons_succ]
          refine wpAnyH_take (i := 10) (v := ?_) rfl (by kernel_rfl) (by kernel_rfl) (by kernel_rfl) (fun _ _ _ h => h) (Or.inl ⟨by kernel_rfl, ?_⟩) (by assumption) ?_
          rotate_left
          · intro w hSw; (try dsimp only at hSw); go_simp; try with_reducible rfl
          try simp only [List.getElem_toArray, List.getElem_cons_succ, List.getElem_cons_zero, Act.put, List.setIfInBounds_toArray, List.set_cons_zero, List.set_cons_succ]
          refine wpAnyH_ready (rs := [11]) (by kernel_rfl) (by simp) ?_
          refine AllReadyH.cons rfl (fun JJ hJJ => ?_) AllReadyH.nil
          go_simp
          refine hJJ.out _ _ ?_ (fun hHeld2 => ?_)
          · first | go_keep | exact ⟨q0, q1, q2, q3, q4, q5, q6, q7⟩ | exact ⟨m0, m1, m2, m3, m4, m5, m6, m7⟩
          clear hJJ JJ hHeld
          have hHeld := hHeld2
          clear hHeld2
          try simp only [List.getElem_toArray, List.getElem_cons_succ, List.getElem_cons_zero, Act.put, List.setIfInBounds_toArray, List.set_cons_zero, List.set_cons_succ]
          refine wpAnyH_done (by kernel_rfl) ?_ _
          refine NoPanic.normal ?_
          go_wp2_with fail
          go_roundg (n4 - (i + 1))
          case measure => omega
          case rel => exact ⟨i + 1, V9, c9, by go_num, by omega, Nat.le_refl _, put (st_set8 H7.out _), put (by rw [take_one_more KX1.out]; exact Own.stored HO7.out HXW1.out), put (KB1.out.round HG7.out (fun k hk => (KO1.out.lt k hk).1))⟩
        refine AllReadyH.cons rfl (fun JJ hJJ => ?_) AllReadyH.nil
        go_simp
        refine hJJ.out _ _ ?_ (fun hHeld2 => ?_)
        · first | go_keep | exact ⟨q0, q1, q2, q3, q4, q5, q6, q7⟩ | exact ⟨m0, m1, m2, m3, m4, m5, m6, m7⟩
        clear hJJ JJ hHeld
        have hHeld := hHeld2
        clear hHeld2
        try simp only [List.getElem_toArray, List.getElem_cons_succ, List.getElem_cons_zero, Act.put, List.setIfInBounds_toArray, List.set_cons_zero, List.set_cons_succ]
        refine wpAnyH_ready (rs := [1]) (by kernel_rfl) (by simp) ?_
        refine AllReadyH.cons rfl (fun JJ hJJ => ?_) AllReadyH.nil
        go_simp
        refine hJJ.out _ _ ?_ (fun hHeld2 => ?_)
        · first | go_keep | exact ⟨q0, q1, q2, q3, q4, q5, q6, q7⟩ | exact ⟨m0, m1, m2, m3, m4, m5, m6, m7⟩
        clear hJJ JJ hHeld
        have hHeld := hHeld2
        clear hHeld2
        try simp only [List.getElem_toArray, List.getElem_cons_succ, List.getElem_cons_zero, Act.put, List.setIfInBounds_toArray, List.set_cons_zero, List.set_cons_succ]
        refine wpAnyH_ready (rs := [9]) (by kernel_rfl) (by simp) ?_
        refine AllReadyH.cons rfl (fun JJ hJJ => ?_) AllReadyH.nil
        (refine step_push1 (tSet (d' + 1)) w9.heap.size rfl _ _ 123 173 _ 120 rfl Try.underlying123 (infoSet _) rfl (Nat.succ_pos 7) (by decide) (.slice Aw1 i p1) _ (ys1.take i) () [.string z0, .string y0, .int .i64 y1, .int .i64 y2, .string y3, .string y4, .string y5, .slice A' n' c'] (fun q => w9.heap.size ≤ q ∧ q ≠ X) rfl rfl (by simp only [heap_alloc_get] <;> simp <;> done) (⟨z0, _, rfl, (tEx _).mono (fun q hq => by have h1 := HBK.out.size; have h2 := KB1.out.size; have h3 := HXs1.out; have h4 := hK; simp at hq; exact ⟨⟨by omega, by omega⟩, fun e => by have := (KO1.out.lt q e.symm).2; omega⟩) (Ty.below HR6.out (by (repeat (first | with_reducible exact (Below.refl _ _) | with_reducible apply Below.drew | with_reducible refine balloc ?_ _)))), rfl⟩) (KO1.out.below (by (repeat (first | with_reducible exact (Below.refl _ _) | with_reducible exact HB6.out | with_reducible apply Below.drew | with_reducible refine balloc ?_ _)))) (Nat.le_trans KB1.out.size (bsize (w := wr1) (by (repeat (first | with_reducible exact (Below.refl _ _) | with_reducible exact HB6.out | with_reducible apply Below.drew | with_reducible refine balloc ?_ _))))) (by rw [List.length_take]; have := HLB1.out; omega) ?_; intro v1 w7 ho hg hat; have hK7 := (World.grownBy.trans (grown_below (w := w6) (by (repeat (first | with_reducible exact (Below.refl _ _) | with_reducible apply Below.drew | with_reducible refine balloc ?_ _)))) hg).block K hK6 (fun e => by have h1 := (KO1.out.lt K e.symm).2; have h2 := HKE.out; omega); have q0 := (World.cell?_of_block (a := ⟨K, 0, none⟩) hK7).trans m0; have q1 := (World.cell?_of_block (a := ⟨K, 1, none⟩) hK7).trans m1; have q2 := (World.cell?_of_block (a := ⟨K, 2, none⟩) hK7).trans m2; have q3 := (World.cell?_of_block (a := ⟨K, 3, none⟩) hK7).trans m3; have q4 := (World.cell?_of_block (a := ⟨K, 4, none⟩) hK7).trans m4; have q5 := (World.cell?_of_block (a := ⟨K, 5, none⟩) hK7).trans m5; have q6 := (World.cell?_of_block (a := ⟨K, 6, none⟩) hK7).trans m6; have q7 := (World.cell?_of_block (a := ⟨K, 7, none⟩) hK7).trans m7; clear hK7; obtain ⟨V9, c9, e9, _, _⟩ := ho.form; rw [show (ys1.take i ++ [()]).length = i + 1 by rw [List.length_append, List.length_take, List.length_singleton]; have := HLB1.out.1; omega] at e9; subst e9; have hg7 : wr1.grownBy w7 (Value.slice Aw1 i p1).ownBlock := World.grownBy.trans (grown_below (by (repeat (first | with_reducible exact (Below.refl _ _) | with_reducible exact HB6.out | with_reducible apply Below.drew | with_reducible refine balloc ?_ _)))) hg; have h7 := (hg7.block X HXs1.out HNX1.out).trans HXR1.out; have t7 := st_c8 h7; have f7 := st_f h7 8; have H7 := put h7; have HO7 := put ho; have HG7 := put hg7; clear ho hg hat hg7 h7)
        refine hJJ.out _ _ ?_ (fun hHeld2 => ?_)
        · first | go_keep | exact ⟨q0, q1, q2, q3, q4, q5, q6, q7⟩ | exact ⟨m0, m1, m2, m3, m4, m5, m6, m7⟩
        clear hJJ JJ hHeld
        have hHeld := hHeld2
        clear hHeld2
        try simp only [List.getElem_toArray, List.getElem_cons_succ, List.getElem_cons_zero, Act.put, List.setIfInBounds_toArray, List.set_cons_zero, List.set_cons_succ]
        refine wpAnyH_take (i := 10) (v := ?_) rfl (by kernel_rfl) (by kernel_rfl) (by kernel_rfl) (fun _ _ _ h => h) (Or.inl ⟨by kernel_rfl, ?_⟩) (by assumption) ?_
        rotate_left
        · intro w hSw; (try dsimp only at hSw); go_simp; try with_reducible rfl
        try simp only [List.getElem_toArray, List.getElem_cons_succ, List.getElem_cons_zero, Act.put, List.setIfInBounds_toArray, List.set_cons_zero, List.set_cons_succ]
        refine wpAnyH_ready (rs := [11]) (by kernel_rfl) (by simp) ?_
        refine AllReadyH.cons rfl (fun JJ hJJ => ?_) AllReadyH.nil
        go_simp
        refine hJJ.out _ _ ?_ (fun hHeld2 => ?_)
        · first | go_keep | exact ⟨q0, q1, q2, q3, q4, q5, q6, q7⟩ | exact ⟨m0, m1, m2, m3, m4, m5, m6, m7⟩
        clear hJJ JJ hHeld
        have hHeld := hHeld2
        clear hHeld2
        try simp only [List.getElem_toArray, List.getElem_cons_succ, List.getElem_cons_zero, Act.put, List.setIfInBounds_toArray, List.set_cons_zero, List.set_cons_succ]
        refine wpAnyH_done (by kernel_rfl) ?_ _
        refine NoPanic.normal ?_
        go_wp2_with fail
        go_roundg (n4 - (i + 1))
        case measure => omega
        case rel => exact ⟨i + 1, V9, c9, by go_num, by omega, Nat.le_refl _, put (st_set8 H7.out _), put (by rw [take_one_more KX1.out]; exact Own.stored HO7.out HXW1.out), put (KB1.out.round HG7.out (fun k hk => (KO1.out.lt k hk).1))⟩

      · have hlz : ¬ (i : Int) < (n4 : Int) := by omega
        obtain rfl : n4 = i := by omega
        have ko := KO1.out
        rw [List.take_of_length_le (by rw [HLB1.out.1]; exact Nat.le_refl _)] at ko
        have HQ1 : Kp (Sl (tSet d) (fun q => w2.heap.size ≤ q ∧ q ≠ X) wr1 (.slice Aw1 n4 p1) ys1) := put (ko.sl (ok' := fun q => w2.heap.size ≤ q ∧ q ≠ X) (fun k hk => ⟨Nat.le_trans HB9.out.size (KO1.out.lt k hk).1, fun e => by have h1 := (KO1.out.lt k hk).1; have h2 := HXW1.out; omega⟩) (fun k hk => ⟨Nat.le_trans HB9.out.size hk.1, hk.2⟩) (by have := HLB1.out; omega))
        have HV1 := put (And.intro (HS.out.1.move (w' := wr1) (fun k hk hlt => KB1.out.block k hlt hk.2)) (And.intro (HS.out.2.1.move (w' := wr1) (fun k hk hlt => KB1.out.block k hlt hk.2)) (And.intro (HS.out.2.2.move (w' := wr1) (fun k hk hlt => KB1.out.block k hlt hk.2)) HQ1.out)))
        clear ko
        have yy := (HWR1.out.cell (p := ⟨B, 9, none⟩) (Array.getElem?_eq_some_iff.1 HBb.out).1).trans (st_c9 HBb.out)
        go_wp2_with fail
        clear yy
        obtain ⟨ys2, hys, hyn⟩ := P2.out.s5
        have KS2 := put hys
        have HLB2 := put (And.intro hyn hys.2)
        have HXW2 : Kp (X < wr1.heap.size) := put (Array.getElem?_eq_some_iff.1 HXR1.out).1
        clear hys hyn
        go_loopg [60] n5 (fun kx s wr2 => ∃ (i : Nat) (Aw2 : Option Addr) (p2 : Nat), s = .int .i64 i ∧ i ≤ n5 ∧ n5 - i ≤ kx ∧ Kp (wr2.heap[X]? = some (.cells #[.int .i64 kd, .string x.name, .string x.table, .string col, .slice Ac nc cc, .slice V1 n1 e1, .slice V2 n2 e2, .slice V3 n3 e3, .slice Aw1 n4 p1, .slice Aw2 i p2, .int .i64 x.prio, .int .i64 x.event, .bool x.deferred, .bool rl, .slice none 0 0] 127 (0, 0))) ∧ Kp (Own (tSrc) 178 (fun q => wr1.heap.size ≤ q ∧ q ≠ X) wr2 wr1.heap.size (.slice Aw2 i p2) (ys2.take i)) ∧ Kp (But (fun k => k = X) wr1 wr2))
        case atStart => exact ⟨0, none, 0, rfl, Nat.zero_le _, Nat.le_refl _, HXR1, put (Own.nil _ _ _ _ _), put (But.refl _ _)⟩
        case round =>
          rename World => wr2
          obtain ⟨i, Aw2, p2, rfl, hi, hkx, HXR2, KO2, KB2⟩ := hrel
          have HWR2 : Kp (Below w2.heap.size w2 wr2) := put (HWR1.out.trans (KB2.out.below HWR1.out.size (fun k hk => by rw [hk]; exact HGE.out)))
          by_cases hlt : i < n5
          · have hlz : (i : Int) < (n5 : Int) := by omega
            have i0 : (0 : Int) ≤ (i : Int) := by omega
            have hx : ys2[i]? = some (ys2[i]'(by rw [HLB2.out.1]; exact hlt)) := List.getElem?_eq_getElem _
            have KX2 := put hx
            clear hx
            have HXs2 : Kp (X < wr2.heap.size) := put (Array.getElem?_eq_some_iff.1 HXR2.out).1
            have HNX2 : Kp (some X ≠ (Value.slice Aw2 i p2).ownBlock) := put (fun e => by have h1 := (KO2.out.lt X e.symm).1; have h2 := HXW2.out; omega)
            obtain ⟨ad, y0, y1, y2, rfl, u0, u1, u2⟩ := src_at (KS2.out.1.elder HWR2.out).row.1 i (by rw [HLB2.out.1]; exact hlt)
            have tk := st_c9 HXR2.out
            have fk := st_f HXR2.out 9
            have al : ∀ o, (wr2.alloc o).cell? ⟨X, 9, none⟩ = some (.slice Aw2 i p2) := fun o => (World.cell?_alloc_some _ _ _ (by rw [tk]; rfl)).trans tk
            have al2 : ∀ o o', ((wr2.alloc o).alloc o').cell? ⟨X, 9, none⟩ = some (.slice Aw2 i p2) := fun o o' => (World.cell?_alloc_some _ _ _ (by rw [al o]; rfl)).trans (al o)
            clear tk
            have HB6 : Kp (∀ o, Below wr2.heap.size wr2 (wr2.alloc o)) := put (fun o => balloc (Below.refl _ _) o)
            go_wp2_with (at_builtin; (refine wpList_push (W := wr2.alloc (.cells #[.int .i64 y0, .string y1, .string y2] 177)) tSrc wr1.heap.size rfl _ _ 124 178 _ 40 rfl Try.underlying124 infoSrc rfl (by decide) (by decide) (.slice Aw2 i p2) (ys2.take i) () [.int .i64 y0, .string y1, .string y2] (fun q => wr1.heap.size ≤ q ∧ q ≠ X) rfl (by simp; rfl) ⟨y0, y1, y2, rfl⟩ (KO2.out.below (balloc (Below.refl _ _) _)) (Nat.le_trans KB2.out.size (by simp)) (by rw [List.length_take]; have := HLB2.out; omega) ?_; intro v1 w7 ho hg hat; obtain ⟨V9, c9, e9, _, _⟩ := ho.form; rw [show (ys2.take i ++ [()]).length = i + 1 by rw [List.length_append, List.length_take, List.length_singleton]; have := HLB2.out.1; omega] at e9; subst e9; have hg7 : wr2.grownBy w7 (Value.slice Aw2 i p2).ownBlock := World.grownBy.trans (grown_below (by (repeat (first | with_reducible exact (Below.refl _ _) | with_reducible exact HB6.out | with_reducible apply Below.drew | with_reducible refine balloc ?_ _)))) hg; have h7 := (hg7.block X HXs2.out HNX2.out).trans HXR2.out; have t7 := st_c9 h7; have f7 := st_f h7 9; have H7 := put h7; have HO7 := put ho; have HG7 := put hg7; clear ho hg hat hg7 h7))
            go_roundg (n5 - (i + 1))
            case measure => omega
            case rel => exact ⟨i + 1, V9, c9, by go_num, by omega, Nat.le_refl _, put (st_set9 H7.out _), put (by rw [take_one_more KX2.out]; exact Own.stored HO7.out HXW2.out), put (KB2.out.round HG7.out (fun k hk => (KO2.out.lt k hk).1))⟩
          · have hlz : ¬ (i : Int) < (n5 : Int) := by omega
            obtain rfl : n5 = i := by omega
            have ko := KO2.out
            rw [List.take_of_length_le (by rw [HLB2.out.1]; exact Nat.le_refl _)] at ko
            have HQ2 : Kp (Sl (tSrc) (fun q => w2.heap.size ≤ q ∧ q ≠ X) wr2 (.slice Aw2 n5 p2) ys2) := put (ko.sl (ok' := fun q => w2.heap.size ≤ q ∧ q ≠ X) (fun k hk => ⟨Nat.le_trans HWR1.out.size (KO2.out.lt k hk).1, fun e => by have h1 := (KO2.out.lt k hk).1; have h2 := HXW2.out; omega⟩) (fun k hk => ⟨Nat.le_trans HWR1.out.size hk.1, hk.2⟩) (by have := HLB2.out; omega))
            have HV2 := put (And.intro (HV1.out.1.move (w' := wr2) (fun k hk hlt => KB2.out.block k hlt hk.2)) (And.intro (HV1.out.2.1.move (w' := wr2) (fun k hk hlt => KB2.out.block k hlt hk.2)) (And.intro (HV1.out.2.2.1.move (w' := wr2) (fun k hk hlt => KB2.out.block k hlt hk.2)) (And.intro (HV1.out.2.2.2.move (w' := wr2) (fun k hk hlt => KB2.out.block k hlt hk.2)) HQ2.out))))
            clear ko
            have yy := (HWR2.out.cell (p := ⟨B, 14, none⟩) (Array.getElem?_eq_some_iff.1 HBb.out).1).trans (st_c14 HBb.out)
            go_wp2_with fail
            clear yy
            obtain ⟨ys3, hys, hyn⟩ := P2.out.s6
            have KS3 := put hys
            have HLB3 := put (And.intro hyn hys.2)
            have HXW3 : Kp (X < wr2.heap.size) := put (Array.getElem?_eq_some_iff.1 HXR2.out).1
            clear hys hyn
            go_loopg [74] n6 (fun kx s wr3 => ∃ (i : Nat) (Aw3 : Option Addr) (p3 : Nat), s = .int .i64 i ∧ i ≤ n6 ∧ n6 - i ≤ kx ∧ Kp (wr3.heap[X]? = some (.cells #[.int .i64 kd, .string x.name, .string x.table, .string col, .slice Ac nc cc, .slice V1 n1 e1, .slice V2 n2 e2, .slice V3 n3 e3, .slice Aw1 n4 p1, .slice Aw2 n5 p2, .int .i64 x.prio, .int .i64 x.event, .bool x.deferred, .bool rl, .slice Aw3 i p3] 127 (0, 0))) ∧ Kp (Own (tSt d) 127 (fun q => wr2.heap.size ≤ q ∧ q ≠ X) wr3 wr2.heap.size (.slice Aw3 i p3) (ys3.take i)) ∧ Kp (But (fun k => k = X) wr2 wr3))
            case atStart => exact ⟨0, none, 0, rfl, Nat.zero_le _, Nat.le_refl _, HXR2, put (Own.nil _ _ _ _ _), put (But.refl _ _)⟩
            case round =>
              rename World => wr3
              obtain ⟨i, Aw3, p3, rfl, hi, hkx, HXR3, KO3, KB3⟩ := hrel
              have HWR3 : Kp (Below w2.heap.size w2 wr3) := put (HWR2.out.trans (KB3.out.below HWR2.out.size (fun k hk => by rw [hk]; exact HGE.out)))
              by_cases hlt : i < n6
              · have hlz : (i : Int) < (n6 : Int) := by omega
                have i0 : (0 : Int) ≤ (i : Int) := by omega
                have hx : ys3[i]? = some (ys3[i]'(by rw [HLB3.out.1]; exact hlt)) := List.getElem?_eq_getElem _
                have KX3 := put hx
                clear hx
                have HXs3 : Kp (X < wr3.heap.size) := put (Array.getElem?_eq_some_iff.1 HXR3.out).1
                have HNX3 : Kp (some X ≠ (Value.slice Aw3 i p3).ownBlock) := put (fun e => by have h1 := (KO3.out.lt X e.symm).1; have h2 := HXW3.out; omega)
                obtain ⟨ad, kd', x', col', rl', Ac', nc', cc', A1', n1', c1', A2', n2', c2', A3', n3', c3', A4', n4', c4', A5', n5', c5', A6', n6', c6', rfl, hx', u0, u1, u2, u3, u4, u5, u6, u7, u8, u9, u10, u11, u12, u13, u14, hr⟩ := sts_at (KS3.out.1.elder HWR3.out).row.1 i (by rw [HLB3.out.1]; exact hlt)
                have KR := put hr
                have KX_ := put hx'
                clear hr hx'
                go_wp2_with fail
                obtain ⟨wk, hwk⟩ : ∃ wk, wk = wr3.alloc (.cells #[.int .i64 kd', .string x'.name, .string x'.table, .string col', .slice Ac' nc' cc', .slice A1' n1' c1', .slice A2' n2' c2', .slice A3' n3' c3', .slice A4' n4' c4', .slice A5' n5' c5', .int .i64 x'.prio, .int .i64 x'.event, .bool x'.deferred, .bool rl', .slice A6' n6' c6'] 67) := ⟨_, rfl⟩
                have k0 : wk.cell? ⟨wr3.heap.size, 0, none⟩ = some (.int .i64 kd') := by rw [hwk]; simp
                have k1 : wk.cell? ⟨wr3.heap.size, 1, none⟩ = some (.string x'.name) := by rw [hwk]; simp
                have k2 : wk.cell? ⟨wr3.heap.size, 2, none⟩ = some (.string x'.table) := by rw [hwk]; simp
                have k3 : wk.cell? ⟨wr3.heap.size, 3, none⟩ = some (.string col') := by rw [hwk]; simp
                have k4 : wk.cell? ⟨wr3.heap.size, 4, none⟩ = some (.slice Ac' nc' cc') := by rw [hwk]; simp
                have k5 : wk.cell? ⟨wr3.heap.size, 5, none⟩ = some (.slice A1' n1' c1') := by rw [hwk]; simp
                have k6 : wk.cell? ⟨wr3.heap.size, 6, none⟩ = some (.slice A2' n2' c2') := by rw [hwk]; simp
                have k7 : wk.cell? ⟨wr3.heap.size, 7, none⟩ = some (.slice A3' n3' c3') := by rw [hwk]; simp
                have k8 : wk.cell? ⟨wr3.heap.size, 8, none⟩ = some (.slice A4' n4' c4') := by rw [hwk]; simp
                have k9 : wk.cell? ⟨wr3.heap.size, 9, none⟩ = some (.slice A5' n5' c5') := by rw [hwk]; simp
                have k10 : wk.cell? ⟨wr3.heap.size, 10, none⟩ = some (.int .i64 x'.prio) := by rw [hwk]; simp
                have k11 : wk.cell? ⟨wr3.heap.size, 11, none⟩ = some (.int .i64 x'.event) := by rw [hwk]; simp
                have k12 : wk.cell? ⟨wr3.heap.size, 12, none⟩ = some (.bool x'.deferred) := by rw [hwk]; simp
                have k13 : wk.cell? ⟨wr3.heap.size, 13, none⟩ = some (.bool rl') := by rw [hwk]; simp
                have k14 : wk.cell? ⟨wr3.heap.size, 14, none⟩ = some (.slice A6' n6' c6') := by rw [hwk]; simp
                have hbk : Below wr3.heap.size wr3 wk := by rw [hwk]; exact balloc (Below.refl _ _) _
                have hK : wr3.heap.size < wk.heap.size := by rw [hwk]; simp
                rw [← hwk]
                clear hwk
                obtain ⟨K, hKe⟩ : ∃ K, K = wr3.heap.size := ⟨_, rfl⟩
                rw [← hKe] at k0 k1 k2 k3 k4 k5 k6 k7 k8 k9 k10 k11 k12 k13 k14 hK ⊢
                have hXK1 : X ≠ K := by have := HXs3.out; omega
                have hXK2 : K ≠ X := hXK1.symm
                have HKE := put hKe
                clear hKe
                have hXk : wk.heap[X]? = some (.cells #[.int .i64 kd, .string x.name, .string x.table, .string col, .slice Ac nc cc, .slice V1 n1 e1, .slice V2 n2 e2, .slice V3 n3 e3, .slice Aw1 n4 p1, .slice Aw2 n5 p2, .int .i64 x.prio, .int .i64 x.event, .bool x.deferred, .bool rl, .slice Aw3 i p3] 127 (0, 0)) := (hbk.block X HXs3.out).trans HXR3.out
                have tk := st_c14 hXk
                have fk := st_f hXk 14
                have HXK := put hXk
                have HBK := put hbk
                clear hXk hbk u0 u1 u2 u3 u4 u5 u6 u7 u8 u9 u10 u11 u12 u13 u14
                refine wp_region_noPanic ?_
                refine wp_region_held_drew (S := (fun w' => w'.cell? ⟨K, 0, none⟩ = some (.int .i64 kd') ∧ w'.cell? ⟨K, 1, none⟩ = some (.string x'.name) ∧ w'.cell? ⟨K, 2, none⟩ = some (.string x'.table) ∧ w'.cell? ⟨K, 3, none⟩ = some (.string col') ∧ w'.cell? ⟨K, 4, none⟩ = some (.slice Ac' nc' cc') ∧ w'.cell? ⟨K, 5, none⟩ = some (.slice A1' n1' c1') ∧ w'.cell? ⟨K, 6, none⟩ = some (.slice A2' n2' c2') ∧ w'.cell? ⟨K, 7, none⟩ = some (.slice A3' n3' c3') ∧ w'.cell? ⟨K, 8, none⟩ = some (.slice A4' n4' c4') ∧ w'.cell? ⟨K, 9, none⟩ = some (.slice A5' n5' c5') ∧ w'.cell? ⟨K, 10, none⟩ = some (.int .i64 x'.prio) ∧ w'.cell? ⟨K, 11, none⟩ = some (.int .i64 x'.event) ∧ w'.cell? ⟨K, 12, none⟩ = some (.bool x'.deferred) ∧ w'.cell? ⟨K, 13, none⟩ = some (.bool rl') ∧ w'.cell? ⟨K, 14, none⟩ = some (.slice A6' n6' c6'))) (by kernel_rfl) ⟨k0, k1, k2, k3, k4, k5, k6, k7, k8, k9, k10, k11, k12, k13, k14⟩ (fun hHeld => ?_)
                refine wpAnyH_take (i := 0) (v := ?_) rfl (by kernel_rfl) (by kernel_rfl) (by kernel_rfl) (fun _ _ _ h => h) (Or.inl ⟨by kernel_rfl, ?_⟩) (by assumption) ?_
                rotate_left
                · intro w hSw; (try dsimp only at hSw); go_simp; try with_reducible rfl
                try simp only [List.getElem_toArray, List.getElem_cons_zero, Act.put, List.setIfInBounds_toArray, List.set_cons_zero, List.set_cons_succ]
                refine wpAnyH_take (i := 2) (v := ?_) rfl (by kernel_rfl) (by kernel_rfl) (by kernel_rfl) (fun _ _ _ h => h) (Or.inl ⟨by kernel_rfl, ?_⟩) (by assumption) ?_
                rotate_left
                · intro w hSw; (try dsimp only at hSw); go_simp; try with_reducible rfl
                try simp only [List.getElem_toArray, List.getElem_cons_succ, List.getElem_cons_zero, Act.put, List.setIfInBounds_toArray, List.set_cons_zero, List.set_cons_succ]
                refine wpAnyH_ready (rs := [1, 3]) (by kernel_rfl) (by simp) ?_
                refine AllReadyH.cons rfl (fun JJ hJJ => ?_) ?_
                · go_simp
                  refine hJJ.out _ _ ?_ (fun hHeld2 => ?_)
                  · first | go_keep | exact ⟨q0, q1, q2, q3, q4, q5, q6, q7, q8, q9, q10, q11, q12, q13, q14⟩ | exact ⟨m0, m1, m2, m3, m4, m5, m6, m7, m8, m9, m10, m11, m12, m13, m14⟩
                  clear hJJ JJ hHeld
                  have hHeld := hHeld2
                  clear hHeld2
                  try simp only [List.getElem_toArray, List.getElem_cons_succ, List.getElem_cons_zero, Act.put, List.setIfInBounds_toArray, List.set_cons_zero, List.set_cons_succ]
                  refine wpAnyH_ready (rs := [3]) (by kernel_rfl) (by simp) ?_
                  refine AllReadyH.cons rfl (fun JJ hJJ => ?_) AllReadyH.nil
                  go_simp
                  (go_at_call 63; refine (IH.out _ x' _ _ (Ty.below KR.out (by (repeat (first | with_reducible exact (Below.refl _ _) | with_reducible exact HBK.out | with_reducible apply Below.drew | with_reducible refine balloc ?_ _))))).mono ?_; rintro e w6 ⟨cs6, rfl, hr6, hb6⟩; obtain ⟨d6, kd6, col6, rl6, Ac6, nc6, cc6, A16, n16, c16, A26, n26, c26, A36, n36, c36, A46, n46, c46, A56, n56, c56, A66, n66, c66, _, hce, _⟩ := st_parts hr6; obtain rfl := hce.eq; clear hce; have hbb : Below wk.heap.size wk w6 := Below.trans (by (repeat (first | with_reducible exact (Below.refl _ _) | with_reducible apply Below.drew | with_reducible refine balloc ?_ _))) (hb6.mono (bsize (w := wk) (by (repeat (first | with_reducible exact (Below.refl _ _) | with_reducible apply Below.drew | with_reducible refine balloc ?_ _))))); have h6 := (hbb.block X (Nat.lt_of_lt_of_le HXs3.out HBK.out.size)).trans HXK.out; have t6 := st_c14 h6; have f6 := st_f h6 14; have al6 : ∀ o, (w6.alloc o).cell? ⟨X, 14, none⟩ = some (.slice Aw3 i p3) := fun o => (World.cell?_alloc_some _ _ _ (by rw [t6]; rfl)).trans t6; have nw6 := World.new_ne w6 _ t6; have hK6 : K < w6.heap.size := Nat.lt_of_lt_of_le hK hbb.size; have m0 := (hbb.cell (p := ⟨K, 0, none⟩) hK).trans k0; have m1 := (hbb.cell (p := ⟨K, 1, none⟩) hK).trans k1; have m2 := (hbb.cell (p := ⟨K, 2, none⟩) hK).trans k2; have m3 := (hbb.cell (p := ⟨K, 3, none⟩) hK).trans k3; have m4 := (hbb.cell (p := ⟨K, 4, none⟩) hK).trans k4; have m5 := (hbb.cell (p := ⟨K, 5, none⟩) hK).trans k5; have m6 := (hbb.cell (p := ⟨K, 6, none⟩) hK).trans k6; have m7 := (hbb.cell (p := ⟨K, 7, none⟩) hK).trans k7; have m8 := (hbb.cell (p := ⟨K, 8, none⟩) hK).trans k8; have m9 := (hbb.cell (p := ⟨K, 9, none⟩) hK).trans k9; have m10 := (hbb.cell (p := ⟨K, 10, none⟩) hK).trans k10; have m11 := (hbb.cell (p := ⟨K, 11, none⟩) hK).trans k11; have m12 := (hbb.cell (p := ⟨K, 12, none⟩) hK).trans k12; have m13 := (hbb.cell (p := ⟨K, 13, none⟩) hK).trans k13; have m14 := (hbb.cell (p := ⟨K, 14, none⟩) hK).trans k14; have HB6 : Kp (Below wr3.heap.size wr3 w6) := put (HBK.out.trans (hbb.mono HBK.out.size)); have HR6 := put hr6; clear h6 hbb hb6 hr6)
                  refine hJJ.out _ _ ?_ (fun hHeld2 => ?_)
                  · first | go_keep | exact ⟨q0, q1, q2, q3, q4, q5, q6, q7, q8, q9, q10, q11, q12, q13, q14⟩ | exact ⟨m0, m1, m2, m3, m4, m5, m6, m7, m8, m9, m10, m11, m12, m13, m14⟩
                  clear hJJ JJ hHeld
                  have hHeld := hHeld2
                  clear hHeld2
                  try simp only [List.getElem_toArray, List.getElem_cons_succ, List.getElem_cons_zero, Act.put, List.setIfInBounds_toArray, List.set_cons_zero, List.set_cons_succ]
                  refine wpAnyH_ready (rs := [4]) (by kernel_rfl) (by simp) ?_
                  refine AllReadyH.cons rfl (fun JJ hJJ => ?_) AllReadyH.nil
                  go_simp
                  refine hJJ.out _ _ ?_ (fun hHeld2 => ?_)
                  · first | go_keep | exact ⟨q0, q1, q2, q3, q4, q5, q6, q7, q8, q9, q10, q11, q12, q13, q14⟩ | exact ⟨m0, m1, m2, m3, m4, m5, m6, m7, m8, m9, m10, m11, m12, m13, m14⟩
                  clear hJJ JJ hHeld
                  have hHeld := hHeld2
                  clear hHeld2
                  try simp only [List.getElem_toArray, List.getElem_cons_succ, List.getElem_cons_zero, Act.put, List.setIfInBounds_toArray, List.set_cons_zero, List.set_cons_succ]
                  refine wpAnyH_ready (rs := [5]) (by kernel_rfl) (by simp) ?_
                  refine AllReadyH.cons rfl (fun JJ hJJ => ?_) AllReadyH.nil
                  (refine step_push1 (tSt d) wr2.heap.size rfl _ _ 125 127 _ 248 rfl Try.underlying125 (infoSt _) (by rw [tSt_sz]; rfl) (by rw [tSt_sz]; decide) (by decide) (.slice Aw3 i p3) _ (ys3.take i) x' [.int .i64 kd6, .string x'.name, .string x'.table, .string col6, .slice Ac6 nc6 cc6, .slice A16 n16 c16, .slice A26 n26 c26, .slice A36 n36 c36, .slice A46 n46 c46, .slice A56 n56 c56, .int .i64 x'.prio, .int .i64 x'.event, .bool x'.deferred, .bool rl6, .slice A66 n66 c66] (fun q => wr2.heap.size ≤ q ∧ q ≠ X) rfl rfl (by simp only [heap_alloc_get] <;> simp <;> done) ((tSt _).mono (fun q hq => by have h1 := HBK.out.size; have h2 := KB3.out.size; have h3 := HXs3.out; have h4 := hK; simp at hq; exact ⟨⟨by omega, by omega⟩, fun e => by have := (KO3.out.lt q e.symm).2; omega⟩) (Ty.below HR6.out (by (repeat (first | with_reducible exact (Below.refl _ _) | with_reducible apply Below.drew | with_reducible refine balloc ?_ _))))) (KO3.out.below (by (repeat (first | with_reducible exact (Below.refl _ _) | with_reducible exact HB6.out | with_reducible apply Below.drew | with_reducible refine balloc ?_ _)))) (Nat.le_trans KB3.out.size (bsize (w := wr3) (by (repeat (first | with_reducible exact (Below.refl _ _) | with_reducible exact HB6.out | with_reducible apply Below.drew | with_reducible refine balloc ?_ _))))) (by rw [List.length_take]; have := HLB3.out; omega) ?_; intro v1 w7 ho hg hat; have hK7 := (World.grownBy.trans (grown_below (w := w6) (by (repeat (first | with_reducible exact (Below.refl _ _) | with_reducible apply Below.drew | with_reducible refine balloc ?_ _)))) hg).block K hK6 (fun e => by have h1 := (KO3.out.lt K e.symm).2; have h2 := HKE.out; omega); have q0 := (World.cell?_of_block (a := ⟨K, 0, none⟩) hK7).trans m0; have q1 := (World.cell?_of_block (a := ⟨K, 1, none⟩) hK7).trans m1; have q2 := (World.cell?_of_block (a := ⟨K, 2, none⟩) hK7).trans m2; have q3 := (World.cell?_of_block (a := ⟨K, 3, none⟩) hK7).trans m3; have q4 := (World.cell?_of_block (a := ⟨K, 4, none⟩) hK7).trans m4; have q5 := (World.cell?_of_block (a := ⟨K, 5, none⟩) hK7).trans m5; have q6 := (World.cell?_of_block (a := ⟨K, 6, none⟩) hK7).trans m6; have q7 := (World.cell?_of_block (a := ⟨K, 7, none⟩) hK7).trans m7; have q8 := (World.cell?_of_block (a := ⟨K, 8, none⟩) hK7).trans m8; have q9 := (World.cell?_of_block (a := ⟨K, 9, none⟩) hK7).trans m9; have q10 := (World.cell?_of_block (a := ⟨K, 10, none⟩) hK7).trans m10; have q11 := (World.cell?_of_block (a := ⟨K, 11, none⟩) hK7).trans m11; have q12 := (World.cell?_of_block (a := ⟨K, 12, none⟩) hK7).trans m12; have q13 := (World.cell?_of_block (a := ⟨K, 13, none⟩) hK7).trans m13; have q14 := (World.cell?_of_block (a := ⟨K, 14, none⟩) hK7).trans m14; clear hK7; obtain ⟨V9, c9, e9, _, _⟩ := ho.form; rw [show (ys3.take i ++ [x']).length = i + 1 by rw [List.length_append, List.length_take, List.length_singleton]; have := HLB3.out.1; omega] at e9; subst e9; have hg7 : wr3.grownBy w7 (Value.slice Aw3 i p3).ownBlock := World.grownBy.trans (grown_below (by (repeat (first | with_reducible exact (Below.refl _ _) | with_reducible exact HB6.out | with_reducible apply Below.drew | with_reducible refine balloc ?_ _)))) hg; have h7 := (hg7.block X HXs3.out HNX3.out).trans HXR3.out; have t7 := st_c14 h7; have f7 := st_f h7 14; have H7 := put h7; have HO7 := put ho; have HG7 := put hg7; clear ho hg hat hg7 h7)
                  refine hJJ.out _ _ ?_ (fun hHeld2 => ?_)
                  · first | go_keep | exact ⟨q0, q1, q2, q3, q4, q5, q6, q7, q8, q9, q10, q11, q12, q13, q14⟩ | exact ⟨m0, m1, m2, m3, m4, m5, m6, m7, m8, m9, m10, m11, m12, m13, m14⟩
                  clear hJJ JJ hHeld
                  have hHeld := hHeld2
                  clear hHeld2
                  try simp only [List.getElem_toArray, List.getElem_cons_succ, List.getElem_cons_zero, Act.put, List.setIfInBounds_toArray, List.set_cons_zero, List.set_cons_succ]
                  refine wpAnyH_take (i := 6) (v := ?_) rfl (by kernel_rfl) (by kernel_rfl) (by kernel_rfl) (fun _ _ _ h => h) (Or.inl ⟨by kernel_rfl, ?_⟩) (by assumption) ?_
                  rotate_left
                  · intro w hSw; (try dsimp only at hSw); go_simp; try with_reducible rfl
                  try simp only [List.getElem_toArray, List.getElem_cons_succ, List.getElem_cons_zero, Act.put, List.setIfInBounds_toArray, List.set_cons_zero, List.set_cons_succ]
                  refine wpAnyH_ready (rs := [7]) (by kernel_rfl) (by simp) ?_
                  refine AllReadyH.cons rfl (fun JJ hJJ => ?_) AllReadyH.nil
                  go_simp
                  refine hJJ.out _ _ ?_ (fun hHeld2 => ?_)
                  · first | go_keep | exact ⟨q0, q1, q2, q3, q4, q5, q6, q7, q8, q9, q10, q11, q12, q13, q14⟩ | exact ⟨m0, m1, m2, m3, m4, m5, m6, m7, m8, m9, m10, m11, m12, m13, m14⟩
                  clear hJJ JJ hHeld
                  have hHeld := hHeld2
                  clear hHeld2
                  try simp only [List.getElem_toArray, List.getElem_cons_succ, List.getElem_cons_zero, Act.put, List.setIfInBounds_toArray, List.set_cons_zero, List.set_cons_succ]
                  refine wpAnyH_done (by kernel_rfl) ?_ _
                  refine NoPanic.normal ?_
                  go_wp2_with fail
                  go_roundg (n6 - (i + 1))
                  case measure => omega
                  case rel => exact ⟨i + 1, V9, c9, by go_num, by omega, Nat.le_refl _, put (st_set14 H7.out _), put (by rw [take_one_more KX_.out]; exact Own.stored HO7.out HXW3.out), put (KB3.out.round HG7.out (fun k hk => (KO3.out.lt k hk).1))⟩
                refine AllReadyH.cons rfl (fun JJ hJJ => ?_) AllReadyH.nil
                go_simp
                (go_at_call 63; refine (IH.out _ x' _ _ (Ty.below KR.out (by (repeat (first | with_reducible exact (Below.refl _ _) | with_reducible exact HBK.out | with_reducible apply Below.drew | with_reducible refine balloc ?_ _))))).mono ?_; rintro e w6 ⟨cs6, rfl, hr6, hb6⟩; obtain ⟨d6, kd6, col6, rl6, Ac6, nc6, cc6, A16, n16, c16, A26, n26, c26, A36, n36, c36, A46, n46, c46, A56, n56, c56, A66, n66, c66, _, hce, _⟩ := st_parts hr6; obtain rfl := hce.eq; clear hce; have hbb : Below wk.heap.size wk w6 := Below.trans (by (repeat (first | with_reducible exact (Below.refl _ _) | with_reducible apply Below.drew | with_reducible refine balloc ?_ _))) (hb6.mono (bsize (w := wk) (by (repeat (first | with_reducible exact (Below.refl _ _) | with_reducible apply Below.drew | with_reducible refine balloc ?_ _))))); have h6 := (hbb.block X (Nat.lt_of_lt_of_le HXs3.out HBK.out.size)).trans HXK.out; have t6 := st_c14 h6; have f6 := st_f h6 14; have al6 : ∀ o, (w6.alloc o).cell? ⟨X, 14, none⟩ = some (.slice Aw3 i p3) := fun o => (World.cell?_alloc_some _ _ _ (by rw [t6]; rfl)).trans t6; have nw6 := World.new_ne w6 _ t6; have hK6 : K < w6.heap.size := Nat.lt_of_lt_of_le hK hbb.size; have m0 := (hbb.cell (p := ⟨K, 0, none⟩) hK).trans k0; have m1 := (hbb.cell (p := ⟨K, 1, none⟩) hK).trans k1; have m2 := (hbb.cell (p := ⟨K, 2, none⟩) hK).trans k2; have m3 := (hbb.cell (p := ⟨K, 3, none⟩) hK).trans k3; have m4 := (hbb.cell (p := ⟨K, 4, none⟩) hK).trans k4; have m5 := (hbb.cell (p := ⟨K, 5, none⟩) hK).trans k5; have m6 := (hbb.cell (p := ⟨K, 6, none⟩) hK).trans k6; have m7 := (hbb.cell (p := ⟨K, 7, none⟩) hK).trans k7; have m8 := (hbb.cell (p := ⟨K, 8, none⟩) hK).trans k8; have m9 := (hbb.cell (p := ⟨K, 9, none⟩) hK).trans k9; have m10 := (hbb.cell (p := ⟨K, 10, none⟩) hK).trans k10; have m11 := (hbb.cell (p := ⟨K, 11, none⟩) hK).trans k11; have m12 := (hbb.cell (p := ⟨K, 12, none⟩) hK).trans k12; have m13 := (hbb.cell (p := ⟨K, 13, none⟩) hK).trans k13; have m14 := (hbb.cell (p := ⟨K, 14, none⟩) hK).trans k14; have HB6 : Kp (Below wr3.heap.size wr3 w6) := put (HBK.out.trans (hbb.mono HBK.out.size)); have HR6 := put hr6; clear h6 hbb hb6 hr6)
                refine hJJ.out _ _ ?_ (fun hHeld2 => ?_)
                · first | go_keep | exact ⟨q0, q1, q2, q3, q4, q5, q6, q7, q8, q9, q10, q11, q12, q13, q14⟩ | exact ⟨m0, m1, m2, m3, m4, m5, m6, m7, m8, m9, m10, m11, m12, m13, m14⟩
                clear hJJ JJ hHeld
                have hHeld := hHeld2
                clear hHeld2
                try simp only [List.getElem_toArray, List.getElem_cons_succ, List.getElem_cons_zero, Act.put, List.setIfInBounds_toArray, List.set_cons_zero, List.set_cons_succ]
                refine wpAnyH_ready (rs := [1, 4]) (by kernel_rfl) (by simp) ?_
                refine AllReadyH.cons rfl (fun JJ hJJ => ?_) ?_
                · go_simp
                  refine hJJ.out _ _ ?_ (fun hHeld2 => ?_)
                  · first | go_keep | exact ⟨q0, q1, q2, q3, q4, q5, q6, q7, q8, q9, q10, q11, q12, q13, q14⟩ | exact ⟨m0, m1, m2, m3, m4, m5, m6, m7, m8, m9, m10, m11, m12, m13, m14⟩
                  clear hJJ JJ hHeld
                  have hHeld := hHeld2
                  clear hHeld2
                  try simp only [List.getElem_toArray, List.getElem_cons_succ, List.getElem_cons_zero, Act.put, List.setIfInBounds_toArray, List.set_cons_zero, List.set_cons_succ]
                  refine wpAnyH_ready (rs := [4]) (by kernel_rfl) (by simp) ?_
                  refine AllReadyH.cons rfl (fun JJ hJJ => ?_) AllReadyH.nil
                  go_simp
                  refine hJJ.out _ _ ?_ (fun hHeld2 => ?_)
                  · first | go_keep | exact ⟨q0, q1, q2, q3, q4, q5, q6, q7, q8, q9, q10, q11, q12, q13, q14⟩ | exact ⟨m0, m1, m2, m3, m4, m5, m6, m7, m8, m9, m10, m11, m12, m13, m14⟩
                  clear hJJ JJ hHeld
                  have hHeld := hHeld2
                  clear hHeld2
                  try simp only [List.getElem_toArray, List.getElem_cons_succ, List.getElem_cons_zero, Act.put, List.setIfInBounds_toArray, List.set_cons_zero, List.set_cons_succ]
                  refine wpAnyH_ready (rs := [5]) (by kernel_rfl) (by simp) ?_
                  refine AllReadyH.cons rfl (fun JJ hJJ => ?_) AllReadyH.nil
                  (refine step_push1 (tSt d) wr2.heap.size rfl _ _ 125 127 _ 248 rfl Try.underlying125 (infoSt _) (by rw [tSt_sz]; rfl) (by rw [tSt_sz]; decide) (by decide) (.slice Aw3 i p3) _ (ys3.take i) x' [.int .i64 kd6, .string x'.name, .string x'.table, .string col6, .slice Ac6 nc6 cc6, .slice A16 n16 c16, .slice A26 n26 c26, .slice A36 n36 c36, .slice A46 n46 c46, .slice A56 n56 c56, .int .i64 x'.prio, .int .i64 x'.event, .bool x'.deferred, .bool rl6, .slice A66 n66 c66] (fun q => wr2.heap.size ≤ q ∧ q ≠ X) rfl rfl (by simp only [heap_alloc_get] <;> simp <;> done) ((tSt _).mono (fun q hq => by have h1 := HBK.out.size; have h2 := KB3.out.size; have h3 := HXs3.out; have h4 := hK; simp at hq; exact ⟨⟨by omega, by omega⟩, fun e => by have := (KO3.out.lt q e.symm).2; omega⟩) (Ty.below HR6.out (by (repeat (first | with_reducible exact (Below.refl _ _) | with_reducible apply Below.drew | with_reducible refine balloc ?_ _))))) (KO3.out.below (by (repeat (first | with_reducible exact (Below.refl _ _) | with_reducible exact HB6.out | with_reducible apply Below.drew | with_reducible refine balloc ?_ _)))) (Nat.le_trans KB3.out.size (bsize (w := wr3) (by (repeat (first | with_reducible exact (Below.refl _ _) | with_reducible exact HB6.out | with_reducible apply Below.drew | with_reducible refine balloc ?_ _))))) (by rw [List.length_take]; have := HLB3.out; omega) ?_; intro v1 w7 ho hg hat; have hK7 := (World.grownBy.trans (grown_below (w := w6) (by (repeat (first | with_reducible exact (Below.refl _ _) | with_reducible apply Below.drew | with_reducible refine balloc ?_ _)))) hg).block K hK6 (fun e => by have h1 := (KO3.out.lt K e.symm).2; have h2 := HKE.out; omega); have q0 := (World.cell?_of_block (a := ⟨K, 0, none⟩) hK7).trans m0; have q1 := (World.cell?_of_block (a := ⟨K, 1, none⟩) hK7).trans m1; have q2 := (World.cell?_of_block (a := ⟨K, 2, none⟩) hK7).trans m2; have q3 := (World.cell?_of_block (a := ⟨K, 3, none⟩) hK7).trans m3; have q4 := (World.cell?_of_block (a := ⟨K, 4, none⟩) hK7).trans m4; have q5 := (World.cell?_of_block (a := ⟨K, 5, none⟩) hK7).trans m5; have q6 := (World.cell?_of_block (a := ⟨K, 6, none⟩) hK7).trans m6; have q7 := (World.cell?_of_block (a := ⟨K, 7, none⟩) hK7).trans m7; have q8 := (World.cell?_of_block (a := ⟨K, 8, none⟩) hK7).trans m8; have q9 := (World.cell?_of_block (a := ⟨K, 9, none⟩) hK7).trans m9; have q10 := (World.cell?_of_block (a := ⟨K, 10, none⟩) hK7).trans m10; have q11 := (World.cell?_of_block (a := ⟨K, 11, none⟩) hK7).trans m11; have q12 := (World.cell?_of_block (a := ⟨K, 12, none⟩) hK7).trans m12; have q13 := (World.cell?_of_block (a := ⟨K, 13, none⟩) hK7).trans m13; have q14 := (World.cell?_of_block (a := ⟨K, 14, none⟩) hK7).trans m14; clear hK7; obtain ⟨V9, c9, e9, _, _⟩ := ho.form; rw [show (ys3.take i ++ [x']).length = i + 1 by rw [List.length_append, List.length_take, List.length_singleton]; have := HLB3.out.1; omega] at e9; subst e9; have hg7 : wr3.grownBy w7 (Value.slice Aw3 i p3).ownBlock := World.grownBy.trans (grown_below (by (repeat (first | with_reducible exact (Below.refl _ _) | with_reducible exact HB6.out | with_reducible apply Below.drew | with_reducible refine balloc ?_ _)))) hg; have h7 := (hg7.block X HXs3.out HNX3.out).trans HXR3.out; have t7 := st_c14 h7; have f7 := st_f h7 14; have H7 := put h7; have HO7 := put ho; have HG7 := put hg7; clear ho hg hat hg7 h7)
                  refine hJJ.out _ _ ?_ (fun hHeld2 => ?_)
                  · first | go_keep | exact ⟨q0, q1, q2, q3, q4, q5, q6, q7, q8, q9, q10, q11, q12, q13, q14⟩ | exact ⟨m0, m1, m2, m3, m4, m5, m6, m7, m8, m9, m10, m11, m12, m13, m14⟩
                  clear hJJ JJ hHeld
                  have hHeld := hHeld2
                  clear hHeld2
                  try simp only [List.getElem_toArray, List.getElem_cons_succ, List.getElem_cons_zero, Act.put, List.setIfInBounds_toArray, List.set_cons_zero, List.set_cons_succ]
                  refine wpAnyH_take (i := 6) (v := ?_) rfl (by kernel_rfl) (by kernel_rfl) (by kernel_rfl) (fun _ _ _ h => h) (Or.inl ⟨by kernel_rfl, ?_⟩) (by assumption) ?_
                  rotate_left
                  · intro w hSw; (try dsimp only at hSw); go_simp; try with_reducible rfl
                  try simp only [List.getElem_toArray, List.getElem_cons_succ, List.getElem_cons_zero, Act.put, List.setIfInBounds_toArray, List.set_cons_zero, List.set_cons_succ]
                  refine wpAnyH_ready (rs := [7]) (by kernel_rfl) (by simp) ?_
                  refine AllReadyH.cons rfl (fun JJ hJJ => ?_) AllReadyH.nil
                  go_simp
                  refine hJJ.out _ _ ?_ (fun hHeld2 => ?_)
                  · first | go_keep | exact ⟨q0, q1, q2, q3, q4, q5, q6, q7, q8, q9, q10, q11, q12, q13, q14⟩ | exact ⟨m0, m1, m2, m3, m4, m5, m6, m7, m8, m9, m10, m11, m12, m13, m14⟩
                  clear hJJ JJ hHeld
                  have hHeld := hHeld2
                  clear hHeld2
                  try simp only [List.getElem_toArray, List.getElem_cons_succ, List.getElem_cons_zero, Act.put, List.setIfInBounds_toArray, List.set_cons_zero, List.set_cons_succ]
                  refine wpAnyH_done (by kernel_rfl) ?_ _
                  refine NoPanic.normal ?_
                  go_wp2_with fail
                  go_roundg (n6 - (i + 1))
                  case measure => omega
                  case rel => exact ⟨i + 1, V9, c9, by go_num, by omega, Nat.le_refl _, put (st_set14 H7.out _), put (by rw [take_one_more KX_.out]; exact Own.stored HO7.out HXW3.out), put (KB3.out.round HG7.out (fun k hk => (KO3.out.lt k hk).1))⟩
                refine AllReadyH.cons rfl (fun JJ hJJ => ?_) AllReadyH.nil
                go_simp
                refine hJJ.out _ _ ?_ (fun hHeld2 => ?_)
                · first | go_keep | exact ⟨q0, q1, q2, q3, q4, q5, q6, q7, q8, q9, q10, q11, q12, q13, q14⟩ | exact ⟨m0, m1, m2, m3, m4, m5, m6, m7, m8, m9, m10, m11, m12, m13, m14⟩
                clear hJJ JJ hHeld
                have hHeld := hHeld2
                clear hHeld2
                try simp only [List.getElem_toArray, List.getElem_cons_succ, List.getElem_cons_zero, Act.put, List.setIfInBounds_toArray, List.set_cons_zero, List.set_cons_succ]
                refine wpAnyH_ready (rs := [1]) (by kernel_rfl) (by simp) ?_
                refine AllReadyH.cons rfl (fun JJ hJJ => ?_) AllReadyH.nil
                go_simp
                refine hJJ.out _ _ ?_ (fun hHeld2 => ?_)
                · first | go_keep | exact ⟨q0, q1, q2, q3, q4, q5, q6, q7, q8, q9, q10, q11, q12, q13, q14⟩ | exact ⟨m0, m1, m2, m3, m4, m5, m6, m7, m8, m9, m10, m11, m12, m13, m14⟩
                clear hJJ JJ hHeld
                have hHeld := hHeld2
                clear hHeld2
                try simp only [List.getElem_toArray, List.getElem_cons_succ, List.getElem_cons_zero, Act.put, List.setIfInBounds_toArray, List.set_cons_zero, List.set_cons_succ]
                refine wpAnyH_ready (rs := [5]) (by kernel_rfl) (by simp) ?_
                refine AllReadyH.cons rfl (fun JJ hJJ => ?_) AllReadyH.nil
                (refine step_push1 (tSt d) wr2.heap.size rfl _ _ 125 127 _ 248 rfl Try.underlying125 (infoSt _) (by rw [tSt_sz]; rfl) (by rw [tSt_sz]; decide) (by decide) (.slice Aw3 i p3) _ (ys3.take i) x' [.int .i64 kd6, .string x'.name, .string x'.table, .string col6, .slice Ac6 nc6 cc6, .slice A16 n16 c16, .slice A26 n26 c26, .slice A36 n36 c36, .slice A46 n46 c46, .slice A56 n56 c56, .int .i64 x'.prio, .int .i64 x'.event, .bool x'.deferred, .bool rl6, .slice A66 n66 c66] (fun q => wr2.heap.size ≤ q ∧ q ≠ X) rfl rfl (by simp only [heap_alloc_get] <;> simp <;> done) ((tSt _).mono (fun q hq => by have h1 := HBK.out.size; have h2 := KB3.out.size; have h3 := HXs3.out; have h4 := hK; simp at hq; exact ⟨⟨by omega, by omega⟩, fun e => by have := (KO3.out.lt q e.symm).2; omega⟩) (Ty.below HR6.out (by (repeat (first | with_reducible exact (Below.refl _ _) | with_reducible apply Below.drew | with_reducible refine balloc ?_ _))))) (KO3.out.below (by (repeat (first | with_reducible exact (Below.refl _ _) | with_reducible exact HB6.out | with_reducible apply Below.drew | with_reducible refine balloc ?_ _)))) (Nat.le_trans KB3.out.size (bsize (w := wr3) (by (repeat (first | with_reducible exact (Below.refl _ _) | with_reducible exact HB6.out | with_reducible apply Below.drew | with_reducible refine balloc ?_ _))))) (by rw [List.length_take]; have := HLB3.out; omega) ?_; intro v1 w7 ho hg hat; have hK7 := (World.grownBy.trans (grown_below (w := w6) (by (repeat (first | with_reducible exact (Below.refl _ _) | with_reducible apply Below.drew | with_reducible refine balloc ?_ _)))) hg).block K hK6 (fun e => by have h1 := (KO3.out.lt K e.symm).2; have h2 := HKE.out; omega); have q0 := (World.cell?_of_block (a := ⟨K, 0, none⟩) hK7).trans m0; have q1 := (World.cell?_of_block (a := ⟨K, 1, none⟩) hK7).trans m1; have q2 := (World.cell?_of_block (a := ⟨K, 2, none⟩) hK7).trans m2; have q3 := (World.cell?_of_block (a := ⟨K, 3, none⟩) hK7).trans m3; have q4 := (World.cell?_of_block (a := ⟨K, 4, none⟩) hK7).trans m4; have q5 := (World.cell?_of_block (a := ⟨K, 5, none⟩) hK7).trans m5; have q6 := (World.cell?_of_block (a := ⟨K, 6, none⟩) hK7).trans m6; have q7 := (World.cell?_of_block (a := ⟨K, 7, none⟩) hK7).trans m7; have q8 := (World.cell?_of_block (a := ⟨K, 8, none⟩) hK7).trans m8; have q9 := (World.cell?_of_block (a := ⟨K, 9, none⟩) hK7).trans m9; have q10 := (World.cell?_of_block (a := ⟨K, 10, none⟩) hK7).trans m10; have q11 := (World.cell?_of_block (a := ⟨K, 11, none⟩) hK7).trans m11; have q12 := (World.cell?_of_block (a := ⟨K, 12, none⟩) hK7).trans m12; have q13 := (World.cell?_of_block (a := ⟨K, 13, none⟩) hK7).trans m13; have q14 := (World.cell?_of_block (a := ⟨K, 14, none⟩) hK7).trans m14; clear hK7; obtain ⟨V9, c9, e9, _, _⟩ := ho.form; rw [show (ys3.take i ++ [x']).length = i + 1 by rw [List.length_append, List.length_take, List.length_singleton]; have := HLB3.out.1; omega] at e9; subst e9; have hg7 : wr3.grownBy w7 (Value.slice Aw3 i p3).ownBlock := World.grownBy.trans (grown_below (by (repeat (first | with_reducible exact (Below.refl _ _) | with_reducible exact HB6.out | with_reducible apply Below.drew | with_reducible refine balloc ?_ _)))) hg; have h7 := (hg7.block X HXs3.out HNX3.out).trans HXR3.out; have t7 := st_c14 h7; have f7 := st_f h7 14; have H7 := put h7; have HO7 := put ho; have HG7 := put hg7; clear ho hg hat hg7 h7)
                refine hJJ.out _ _ ?_ (fun hHeld2 => ?_)
                · first | go_keep | exact ⟨q0, q1, q2, q3, q4, q5, q6, q7, q8, q9, q10, q11, q12, q13, q14⟩ | exact ⟨m0, m1, m2, m3, m4, m5, m6, m7, m8, m9, m10, m11, m12, m13, m14⟩
                clear hJJ JJ hHeld
                have hHeld := hHeld2
                clear hHeld2
                try simp only [List.getElem_toArray, List.getElem_cons_succ, List.getElem_cons_zero, Act.put, List.setIfInBounds_toArray, List.set_cons_zero, List.set_cons_succ]
                refine wpAnyH_take (i := 6) (v := ?_) rfl (by kernel_rfl) (by kernel_rfl) (by kernel_rfl) (fun _ _ _ h => h) (Or.inl ⟨by kernel_rfl, ?_⟩) (by assumption) ?_
                rotate_left
                · intro w hSw; (try dsimp only at hSw); go_simp; try with_reducible rfl
                try simp only [List.getElem_toArray, List.getElem_cons_succ, List.getElem_cons_zero, Act.put, List.setIfInBounds_toArray, List.set_cons_zero, List.set_cons_succ]
                refine wpAnyH_ready (rs := [7]) (by kernel_rfl) (by simp) ?_
                refine AllReadyH.cons rfl (fun JJ hJJ => ?_) AllReadyH.nil
                go_simp
                refine hJJ.out _ _ ?_ (fun hHeld2 => ?_)
                · first | go_keep | exact ⟨q0, q1, q2, q3, q4, q5, q6, q7, q8, q9, q10, q11, q12, q13, q14⟩ | exact ⟨m0, m1, m2, m3, m4, m5, m6, m7, m8, m9, m10, m11, m12, m13, m14⟩
                clear hJJ JJ hHeld
                have hHeld := hHeld2
                clear hHeld2
                try simp only [List.getElem_toArray, List.getElem_cons_succ, List.getElem_cons_zero, Act.put, List.setIfInBounds_toArray, List.set_cons_zero, List.set_cons_succ]
                refine wpAnyH_done (by kernel_rfl) ?_ _
                refine NoPanic.normal ?_
                go_wp2_with fail
                go_roundg (n6 - (i + 1))
                case measure => omega
                case rel => exact ⟨i + 1, V9, c9, by go_num, by omega, Nat.le_refl _, put (st_set14 H7.out _), put (by rw [take_one_more KX_.out]; exact Own.stored HO7.out HXW3.out), put (KB3.out.round HG7.out (fun k hk => (KO3.out.lt k hk).1))⟩

              · have hlz : ¬ (i : Int) < (n6 : Int) := by omega
                obtain rfl : n6 = i := by omega
                have ko := KO3.out
                rw [List.take_of_length_le (by rw [HLB3.out.1]; exact Nat.le_refl _)] at ko
                have HQ3 : Kp (Sl (tSt d) (fun q => w2.heap.size ≤ q ∧ q ≠ X) wr3 (.slice Aw3 n6 p3) ys3) := put (ko.sl (ok' := fun q => w2.heap.size ≤ q ∧ q ≠ X) (fun k hk => ⟨Nat.le_trans HWR2.out.size (KO3.out.lt k hk).1, fun e => by have h1 := (KO3.out.lt k hk).1; have h2 := HXW3.out; omega⟩) (fun k hk => ⟨Nat.le_trans HWR2.out.size hk.1, hk.2⟩) (by have := HLB3.out; omega))
                have HV3 := put (And.intro (HV2.out.1.move (w' := wr3) (fun k hk hlt => KB3.out.block k hlt hk.2)) (And.intro (HV2.out.2.1.move (w' := wr3) (fun k hk hlt => KB3.out.block k hlt hk.2)) (And.intro (HV2.out.2.2.1.move (w' := wr3) (fun k hk hlt => KB3.out.block k hlt hk.2)) (And.intro (HV2.out.2.2.2.1.move (w' := wr3) (fun k hk hlt => KB3.out.block k hlt hk.2)) (And.intro (HV2.out.2.2.2.2.move (w' := wr3) (fun k hk hlt => KB3.out.block k hlt hk.2)) HQ3.out)))))
                clear ko
                obtain ⟨z0, z1, z2, z3, z4, z5, z6, z7, z8, z9, z10, z11, z12, z13, z14⟩ := st_all HXR3.out
                have hR3 := (HWR3.out.block (B + 1) (Array.getElem?_eq_some_iff.1 HRb.out).1).trans HRb.out
                obtain ⟨g0, g1, g2, g3, g4, g5, g6, g7, g8, g9, g10, g11, g12, g13, g14⟩ := st_all hR3
                have gf := st_f hR3
                have f0 := gf 0
                have f1 := gf 1
                have f2 := gf 2
                have f3 := gf 3
                have f4 := gf 4
                have f5 := gf 5
                have f6 := gf 6
                have f7 := gf 7
                have f8 := gf 8
                have f9 := gf 9
                have f10 := gf 10
                have f11 := gf 11
                have f12 := gf 12
                have f13 := gf 13
                have f14 := gf 14
                clear gf hR3
                go_wp2
                have hsB := (Array.getElem?_eq_some_iff.1 HRb.out).1
                have hbe := HB.out
                have hs2 := HB2.out.size
                have hm : ∀ k, (w2.heap.size ≤ k ∧ k ≠ X) → w.heap.size ≤ k := fun k hk => Nat.le_trans hs2 hk.1
                have hn : ∀ k, (w2.heap.size ≤ k ∧ k ≠ X) → k ≠ B + 1 := fun k hk e => by omega
                refine bodyPost_ret (v := .agg #[.int .i64 kd, .string x.name, .string x.table, .string col, .slice Ac nc cc, .slice V1 n1 e1, .slice V2 n2 e2, .slice V3 n3 e3, .slice Aw1 n4 p1, .slice Aw2 n5 p2, .int .i64 x.prio, .int .i64 x.event, .bool x.deferred, .bool rl, .slice Aw3 n6 p3]) (by simp [results, Try.results63, go_sem, g0, g1, g2, g3, g4, g5, g6, g7, g8, g9, g10, g11, g12, g13, g14]) rfl ⟨[.int .i64 kd, .string x.name, .string x.table, .string col, .slice Ac nc cc, .slice V1 n1 e1, .slice V2 n2 e2, .slice V3 n3 e3, .slice Aw1 n4 p1, .slice Aw2 n5 p2, .int .i64 x.prio, .int .i64 x.event, .bool x.deferred, .bool rl, .slice Aw3 n6 p3], rfl, ?_, ?_⟩
                · exact ⟨kd, col, rl, _, _, _, _, _, _, _, x1, x2, x3, ys1, ys2, ys3, rfl, HNM.out, ⟨Ac, nc, cc, rfl, BC.out.1⟩, ⟨(HV3.out.1.move (fun k hk _ => st_other (hn k hk) _ _ _ _ _ _ _ _ _ _ _ _ _ _ _)).mono hm, LX.out.1⟩, ⟨(HV3.out.2.1.move (fun k hk _ => st_other (hn k hk) _ _ _ _ _ _ _ _ _ _ _ _ _ _ _)).mono hm, LX.out.2.1⟩, ⟨(HV3.out.2.2.1.move (fun k hk _ => st_other (hn k hk) _ _ _ _ _ _ _ _ _ _ _ _ _ _ _)).mono hm, LX.out.2.2⟩, ⟨(HV3.out.2.2.2.1.move (fun k hk _ => st_other (hn k hk) _ _ _ _ _ _ _ _ _ _ _ _ _ _ _)).mono hm, HLB1.out.2⟩, ⟨(HV3.out.2.2.2.2.1.move (fun k hk _ => st_other (hn k hk) _ _ _ _ _ _ _ _ _ _ _ _ _ _ _)).mono hm, HLB2.out.2⟩, ⟨(HV3.out.2.2.2.2.2.move (fun k hk _ => st_other (hn k hk) _ _ _ _ _ _ _ _ _ _ _ _ _ _ _)).mono hm, HLB3.out.2⟩⟩
                · exact st_below (HB2.out.trans (HWR3.out.mono hs2)) (by omega) _ _ _ _ _ _ _ _ _ _ _ _ _ _ _
end Go.Proofs.Ytkfoknjflpklpaa.D
