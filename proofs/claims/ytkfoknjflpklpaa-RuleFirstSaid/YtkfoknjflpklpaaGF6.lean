/- Is a statement deep? It is told so, or not; no memory that was there is touched. rule.New, Mark, Saw, Triggered. slices.swapRangeCmpFunc at tripwire/ast.Stmt: it exchanges two ranges. slices.insertionSortCmpFunc at tripwire/ast.Stmt. slices.rotateCmpFunc at tripwire/ast.Stmt: it exchanges two neighbouring parts. slices.symMergeCmpFunc at tripwire/ast.Stmt, where the left part is one element. -/
import Derived.Test.YtkfoknjflpklpaaGF5
import Derived.Test.YtkfoknjflpklpaaProg
import Derived.Test.YtkfoknjflpklpaaGF1
import Derived.Shelf.SlSortCmp.KitK
import Derived.Sort.WalkB2
import Derived.Sort.WalkB12
import Derived.Deep.LoopGhost

namespace Go.Proofs.Ytkfoknjflpklpaa.D
open Go Go.RowKit Go.Proofs.Ytkfoknjflpklpaa.Mem

theorem below_alloc {w wr : World} (h : Below w.heap.size w wr) (o : Obj) : Below w.heap.size w (wr.alloc o) := h.alloc h.size o
theorem below_call {w wr w5 : World} (h : Below w.heap.size w wr) (h5 : Below wr.heap.size wr w5) : Below w.heap.size w w5 := h.trans (h5.mono h.size)

set_option maxHeartbeats 8000000 in
set_option maxRecDepth 100000 in
theorem deepExprCalls : ∀ (d : Nat) (ok : Nat → Prop) (cs : List Value) (n : Int) (w : World), (tEx d).R ok w () cs →
    Calls Try.prog 89 #[.agg cs.toArray, .int .i64 n] w fun e w' => Said (fun _ => True) e ∧ Below w.heap.size w w' := by
  intro d
  induction d with
  | zero => intro ok cs n w h; exact h.elim
  | succ d ih =>
    intro ok cs n w h
    obtain ⟨s0, i1, i2, s3, s4, s5, v, xs, rfl, hs, _⟩ := h
    obtain ⟨A, c, rfl, l1, l2, l3⟩ := hs.shape
    have IH := put ih
    have KS := put hs
    clear ih hs
    obtain ⟨m, hm⟩ : ∃ m, m = xs.length := ⟨_, rfl⟩
    rw [← hm] at l1 l3 KS ⊢
    have HM := put hm
    clear hm
    by_cases hn : n = 0
    · have h1 : (n == 0) = true := by simp [hn]
      clear hn
      go_enter Try.func89, Try.ntmps89
      go_wp2_with fail
      go_ret
      exact ⟨⟨true, rfl, trivial⟩, below_alloc (Below.refl _ _) _⟩
    · have h1 : (n == 0) = false := by simp [hn]
      clear hn
      go_enter Try.func89, Try.ntmps89
      go_wp2_with fail
      go_loopg [12] m (fun kx s12 wr => ∃ (i : Nat), s12 = .int .i64 i ∧ i ≤ m ∧ m - i ≤ kx ∧ Kp (Below w.heap.size w wr))
      case atStart => exact ⟨0, rfl, Nat.zero_le _, Nat.le_refl _, put (below_alloc (Below.refl _ _) _)⟩
      case round =>
        obtain ⟨i, rfl, hi, hkx, KB⟩ := hrel
        by_cases hlt : i < m
        · have hlz : (i : Int) < (m : Int) := by omega
          have i0 : (0 : Int) ≤ (i : Int) := by omega
          obtain ⟨d', ad, y0, y1, y2, y3, y4, y5, B, k, j, rfl, rfl, x0, x1, x2, x3, x4, x5, x6, k1, k2, k3, hr⟩ := exs_at (KS.out.elder KB.out).row.1 i (by rw [← HM.out]; exact hlt)
          have KR := put hr
          clear hr
          go_wp2_with fail
          refine (IH.out _ [.string y0, .int .i64 y1, .int .i64 y2, .string y3, .string y4, .string y5, .slice B k j] _ _ (Ty.below KR.out (below_alloc (Below.refl _ _) _))).mono ?_
          rintro e w5 ⟨⟨b, rfl, _⟩, hb⟩
          have KB5 := put (below_call (below_alloc KB.out _) hb)
          clear hb
          cases b with
          | true =>
            go_wp2_with fail
            go_ret
            exact ⟨⟨true, rfl, trivial⟩, KB5.out⟩
          | false =>
            go_wp2_with fail
            go_roundg (m - (i + 1))
            case measure => omega
            case rel => exact ⟨i + 1, by go_num, by omega, Nat.le_refl _, KB5⟩
        · have hlz : ¬ (i : Int) < (m : Int) := by omega
          go_wp2
          go_ret
          exact ⟨⟨false, rfl, trivial⟩, KB.out⟩

/-- Element i of a slice of assignments. -/
theorem sets_at {n : Nat} {ok : Nat → Prop} {w : World} {A : Option Addr} {xs : List Unit} (h : Row (tSet n) ok w A xs) (i : Nat) (hi : i < xs.length) :
    ∃ m ad z a b c d e f B k j, n = m + 1 ∧ A = some ad ∧ w.cell? (ad.add (i * 8)) = some (.string z) ∧ w.cell? ⟨(ad.add (i * 8)).block, (ad.add (i * 8)).off + 1, none⟩ = some (.string a) ∧ w.cell? ⟨(ad.add (i * 8)).block, (ad.add (i * 8)).off + 2, none⟩ = some (.int .i64 b) ∧ w.cell? ⟨(ad.add (i * 8)).block, (ad.add (i * 8)).off + 3, none⟩ = some (.int .i64 c) ∧ w.cell? ⟨(ad.add (i * 8)).block, (ad.add (i * 8)).off + 4, none⟩ = some (.string d) ∧ w.cell? ⟨(ad.add (i * 8)).block, (ad.add (i * 8)).off + 5, none⟩ = some (.string e) ∧ w.cell? ⟨(ad.add (i * 8)).block, (ad.add (i * 8)).off + 6, none⟩ = some (.string f) ∧ w.cell? ⟨(ad.add (i * 8)).block, (ad.add (i * 8)).off + 7, none⟩ = some (.slice B k j) ∧
      k ≤ j ∧ j ≤ 9223372036854775807 ∧ k ≤ 140737488355328 ∧ (tEx n).R ok w () [.string a, .int .i64 b, .int .i64 c, .string d, .string e, .string f, .slice B k j] := by
  obtain ⟨ad, cs, rfl, _, _, hr, ha⟩ := h.get i hi
  replace ha : At w ad (i * 8) cs := ha
  obtain ⟨z, es, rfl, hr, _⟩ := hr
  cases n with
  | zero => exact hr.elim
  | succ m =>
    have hr0 := hr
    obtain ⟨a, b, c, d, e, f, v, ys, rfl, hs, _⟩ := hr
    obtain ⟨B, j, rfl, l1, l2, l3⟩ := hs.shape
    exact ⟨m, ad, z, a, b, c, d, e, f, B, _, j, rfl, rfl, At.c0 ha rfl, At.cj ha 1 (by omega) rfl, At.cj ha 2 (by omega) rfl, At.cj ha 3 (by omega) rfl, At.cj ha 4 (by omega) rfl, At.cj ha 5 (by omega) rfl, At.cj ha 6 (by omega) rfl, At.cj ha 7 (by omega) rfl, l1, l2, l3, hr0⟩

/-- A statement's cells. -/
structure StCells (x : Rl) (cs : List Value) (kd : Int) (col : ByteArray) (rl : Bool) (Ac : Option Addr) (nc cc : Nat) (A1 : Option Addr) (n1 c1 : Nat) (A2 : Option Addr) (n2 c2 : Nat) (A3 : Option Addr) (n3 c3 : Nat) (A4 : Option Addr) (n4 c4 : Nat) (A5 : Option Addr) (n5 c5 : Nat) (A6 : Option Addr) (n6 c6 : Nat) : Prop where
  eq : cs = [.int .i64 kd, .string x.name, .string x.table, .string col, .slice Ac nc cc, .slice A1 n1 c1, .slice A2 n2 c2, .slice A3 n3 c3, .slice A4 n4 c4, .slice A5 n5 c5, .int .i64 x.prio, .int .i64 x.event, .bool x.deferred, .bool rl, .slice A6 n6 c6]
  bc : nc ≤ cc ∧ cc ≤ 9223372036854775807 ∧ nc ≤ 140737488355328
  b1 : n1 ≤ c1 ∧ c1 ≤ 9223372036854775807 ∧ n1 ≤ 140737488355328
  b2 : n2 ≤ c2 ∧ c2 ≤ 9223372036854775807 ∧ n2 ≤ 140737488355328
  b3 : n3 ≤ c3 ∧ c3 ≤ 9223372036854775807 ∧ n3 ≤ 140737488355328
  b4 : n4 ≤ c4 ∧ c4 ≤ 9223372036854775807 ∧ n4 ≤ 140737488355328
  b5 : n5 ≤ c5 ∧ c5 ≤ 9223372036854775807 ∧ n5 ≤ 140737488355328
  b6 : n6 ≤ c6 ∧ c6 ≤ 9223372036854775807 ∧ n6 ≤ 140737488355328
structure StParts (d : Nat) (ok : Nat → Prop) (w : World) (v1 v2 v3 v4 v5 v6 : Value) (n1 n2 n3 n4 n5 n6 : Nat) : Prop where
  s1 : ∃ xs : List Unit, SlB (tEx d) 104 ok w v1 xs ∧ xs.length = n1
  s2 : ∃ xs : List Unit, SlB (tEx d) 104 ok w v2 xs ∧ xs.length = n2
  s3 : ∃ xs : List Unit, SlB (tEx d) 104 ok w v3 xs ∧ xs.length = n3
  s4 : ∃ xs : List Unit, SlB (tSet d) 120 ok w v4 xs ∧ xs.length = n4
  s5 : ∃ xs : List Unit, SlB tSrc 40 ok w v5 xs ∧ xs.length = n5
  s6 : ∃ xs : List Rl, SlB (tSt d) 248 ok w v6 xs ∧ xs.length = n6

theorem st_parts {d : Nat} {ok : Nat → Prop} {w : World} {x : Rl} {cs : List Value} (h : (tSt d).R ok w x cs) :
    ∃ d' kd col rl Ac nc cc A1 n1 c1 A2 n2 c2 A3 n3 c3 A4 n4 c4 A5 n5 c5 A6 n6 c6, d = d' + 1 ∧ StCells x cs kd col rl Ac nc cc A1 n1 c1 A2 n2 c2 A3 n3 c3 A4 n4 c4 A5 n5 c5 A6 n6 c6 ∧ StParts d' ok w (.slice A1 n1 c1) (.slice A2 n2 c2) (.slice A3 n3 c3) (.slice A4 n4 c4) (.slice A5 n5 c5) (.slice A6 n6 c6) n1 n2 n3 n4 n5 n6 := by
  cases d with
  | zero => exact h.elim
  | succ d =>
    obtain ⟨kd, col, rl, vc, v1, v2, v3, v4, v5, v6, x1, x2, x3, x4, x5, x6, rfl, _, h0, h1, h2, h3, h4, h5, h6⟩ := h
    obtain ⟨Ac, nc, cc, rfl, bc⟩ := h0
    obtain ⟨A1, c1, rfl, b1⟩ := h1.1.shape
    obtain ⟨A2, c2, rfl, b2⟩ := h2.1.shape
    obtain ⟨A3, c3, rfl, b3⟩ := h3.1.shape
    obtain ⟨A4, c4, rfl, b4⟩ := h4.1.shape
    obtain ⟨A5, c5, rfl, b5⟩ := h5.1.shape
    obtain ⟨A6, c6, rfl, b6⟩ := h6.1.shape
    exact ⟨d, kd, col, rl, Ac, nc, cc, A1, _, c1, A2, _, c2, A3, _, c3, A4, _, c4, A5, _, c5, A6, _, c6, rfl, ⟨rfl, bc, b1, b2, b3, b4, b5, b6⟩, ⟨⟨_, h1, rfl⟩, ⟨_, h2, rfl⟩, ⟨_, h3, rfl⟩, ⟨_, h4, rfl⟩, ⟨_, h5, rfl⟩, ⟨_, h6, rfl⟩⟩⟩


theorem StParts.later {d : Nat} {ok : Nat → Prop} {w w2 : World} {v1 v2 v3 v4 v5 v6 : Value} {n1 n2 n3 n4 n5 n6 : Nat} (h : StParts d ok w v1 v2 v3 v4 v5 v6 n1 n2 n3 n4 n5 n6) (hb : Below w.heap.size w w2) : StParts d (fun k => k < w2.heap.size) w2 v1 v2 v3 v4 v5 v6 n1 n2 n3 n4 n5 n6 := by
  have key : ∀ {α : Type} {t : Ty α} {v : Value} {B n : Nat}, (∃ xs : List α, SlB t B ok w v xs ∧ xs.length = n) → ∃ xs : List α, SlB t B (fun k => k < w2.heap.size) w2 v xs ∧ xs.length = n := fun ⟨xs, h1, h2⟩ => ⟨xs, ⟨(h1.1.elder hb).mono (fun k hk => by have := hb.size; omega), h1.2⟩, h2⟩
  exact ⟨key h.s1, key h.s2, key h.s3, key h.s4, key h.s5, key h.s6⟩

/-- Element i of a slice of statements. -/
theorem sts_at {d : Nat} {ok : Nat → Prop} {w : World} {A : Option Addr} {xs : List Rl} (h : Row (tSt d) ok w A xs) (i : Nat) (hi : i < xs.length) :
    ∃ ad kd x col rl Ac nc cc A1 n1 c1 A2 n2 c2 A3 n3 c3 A4 n4 c4 A5 n5 c5 A6 n6 c6, A = some ad ∧ xs[i]? = some x ∧
      w.cell? (ad.add (i * 15)) = some (.int .i64 kd) ∧ w.cell? ⟨(ad.add (i * 15)).block, (ad.add (i * 15)).off + 1, none⟩ = some (.string x.name) ∧ w.cell? ⟨(ad.add (i * 15)).block, (ad.add (i * 15)).off + 2, none⟩ = some (.string x.table) ∧ w.cell? ⟨(ad.add (i * 15)).block, (ad.add (i * 15)).off + 3, none⟩ = some (.string col) ∧
      w.cell? ⟨(ad.add (i * 15)).block, (ad.add (i * 15)).off + 4, none⟩ = some (.slice Ac nc cc) ∧ w.cell? ⟨(ad.add (i * 15)).block, (ad.add (i * 15)).off + 5, none⟩ = some (.slice A1 n1 c1) ∧ w.cell? ⟨(ad.add (i * 15)).block, (ad.add (i * 15)).off + 6, none⟩ = some (.slice A2 n2 c2) ∧ w.cell? ⟨(ad.add (i * 15)).block, (ad.add (i * 15)).off + 7, none⟩ = some (.slice A3 n3 c3) ∧
      w.cell? ⟨(ad.add (i * 15)).block, (ad.add (i * 15)).off + 8, none⟩ = some (.slice A4 n4 c4) ∧ w.cell? ⟨(ad.add (i * 15)).block, (ad.add (i * 15)).off + 9, none⟩ = some (.slice A5 n5 c5) ∧ w.cell? ⟨(ad.add (i * 15)).block, (ad.add (i * 15)).off + 10, none⟩ = some (.int .i64 x.prio) ∧ w.cell? ⟨(ad.add (i * 15)).block, (ad.add (i * 15)).off + 11, none⟩ = some (.int .i64 x.event) ∧
      w.cell? ⟨(ad.add (i * 15)).block, (ad.add (i * 15)).off + 12, none⟩ = some (.bool x.deferred) ∧ w.cell? ⟨(ad.add (i * 15)).block, (ad.add (i * 15)).off + 13, none⟩ = some (.bool rl) ∧ w.cell? ⟨(ad.add (i * 15)).block, (ad.add (i * 15)).off + 14, none⟩ = some (.slice A6 n6 c6) ∧
      (tSt d).R ok w x [.int .i64 kd, .string x.name, .string x.table, .string col, .slice Ac nc cc, .slice A1 n1 c1, .slice A2 n2 c2, .slice A3 n3 c3, .slice A4 n4 c4, .slice A5 n5 c5, .int .i64 x.prio, .int .i64 x.event, .bool x.deferred, .bool rl, .slice A6 n6 c6] := by
  obtain ⟨ad, cs, rfl, _, _, hr, ha⟩ := h.get i hi
  rw [tSt_sz] at ha
  obtain ⟨d', kd, col, rl, Ac, nc, cc, A1, n1, c1, A2, n2, c2, A3, n3, c3, A4, n4, c4, A5, n5, c5, A6, n6, c6, rfl, hc, _⟩ := st_parts hr
  obtain rfl := hc.eq
  exact ⟨ad, kd, xs[i], col, rl, Ac, nc, cc, A1, n1, c1, A2, n2, c2, A3, n3, c3, A4, n4, c4, A5, n5, c5, A6, n6, c6, rfl, List.getElem?_eq_getElem hi, At.c0 ha rfl, At.cj ha 1 (by omega) rfl, At.cj ha 2 (by omega) rfl, At.cj ha 3 (by omega) rfl, At.cj ha 4 (by omega) rfl, At.cj ha 5 (by omega) rfl, At.cj ha 6 (by omega) rfl, At.cj ha 7 (by omega) rfl, At.cj ha 8 (by omega) rfl, At.cj ha 9 (by omega) rfl, At.cj ha 10 (by omega) rfl, At.cj ha 11 (by omega) rfl, At.cj ha 12 (by omega) rfl, At.cj ha 13 (by omega) rfl, At.cj ha 14 (by omega) rfl, hr⟩

set_option maxHeartbeats 16000000 in
set_option maxRecDepth 100000 in
theorem deepCalls : ∀ (d : Nat) (ok : Nat → Prop) (x : Rl) (cs : List Value) (n : Int) (w : World), (tSt d).R ok w x cs →
    Calls Try.prog 61 #[.agg cs.toArray, .int .i64 n] w fun e w' => Said (fun _ => True) e ∧ Below w.heap.size w w' := by
  intro d
  induction d with
  | zero => intro ok x cs n w h; exact h.elim
  | succ d ih =>
    intro ok x cs n w h
    obtain ⟨d', kd, col, rl, Ac, nc, cc, A1, n1, c1, A2, n2, c2, A3, n3, c3, A4, n4, c4, A5, n5, c5, A6, n6, c6, ed, ⟨rfl, bc, b1, b2, b3, b4, b5, b6⟩, P⟩ := st_parts h
    obtain rfl : d = d' := by omega
    have IH := put ih
    have PP := put P
    clear ih P h ed
    obtain ⟨l1, m1, q1⟩ := b1
    obtain ⟨l2, m2, q2⟩ := b2
    obtain ⟨l3, m3, q3⟩ := b3
    obtain ⟨l4, m4, q4⟩ := b4
    obtain ⟨l6, m6, q6⟩ := b6
    clear bc b5
    by_cases h0 : n = 0
    · have h0' : (n == 0) = true := by simp [h0]
      clear h0
      go_enter Try.func61, Try.ntmps61
      go_wp2_with fail
      go_ret
      exact ⟨⟨true, rfl, trivial⟩, below_alloc (Below.refl _ _) _⟩
    have h0' : (n == 0) = false := by simp [h0]
    clear h0
    by_cases h1 : (x.name.size : Int) > 500
    · go_enter Try.func61, Try.ntmps61
      go_wp2_with fail
      go_ret
      exact ⟨⟨true, rfl, trivial⟩, below_alloc (Below.refl _ _) _⟩
    by_cases h2 : (x.table.size : Int) > 500
    · go_enter Try.func61, Try.ntmps61
      go_wp2_with fail
      go_ret
      exact ⟨⟨true, rfl, trivial⟩, below_alloc (Below.refl _ _) _⟩
    by_cases h3 : (col.size : Int) > 500
    · go_enter Try.func61, Try.ntmps61
      go_wp2_with fail
      go_ret
      exact ⟨⟨true, rfl, trivial⟩, below_alloc (Below.refl _ _) _⟩
    go_enter Try.func61, Try.ntmps61
    go_wp2_with fail
    obtain ⟨w2, hw2⟩ : ∃ w2, w2 = (w.alloc (.cells #[.int .i64 kd, .string x.name, .string x.table, .string col, .slice Ac nc cc, .slice A1 n1 c1, .slice A2 n2 c2, .slice A3 n3 c3, .slice A4 n4 c4, .slice A5 n5 c5, .int .i64 x.prio, .int .i64 x.event, .bool x.deferred, .bool rl, .slice A6 n6 c6] 67)).alloc (.cells #[.slice A1 n1 c1, .slice A2 n2 c2, .slice A3 n3 c3] 63) := ⟨_, rfl⟩
    have f8 : w2.cell? ⟨w.heap.size, 8, none⟩ = some (.slice A4 n4 c4) := by rw [hw2]; simp
    have f14 : w2.cell? ⟨w.heap.size, 14, none⟩ = some (.slice A6 n6 c6) := by rw [hw2]; simp
    have g0 : w2.cell? ⟨w.heap.size + 1, 0, none⟩ = some (.slice A1 n1 c1) := by rw [hw2]; simp
    have g1 : w2.cell? ⟨w.heap.size + 1, 1, none⟩ = some (.slice A2 n2 c2) := by rw [hw2]; simp
    have g2 : w2.cell? ⟨w.heap.size + 1, 2, none⟩ = some (.slice A3 n3 c3) := by rw [hw2]; simp
    have hB2 : Below w.heap.size w w2 := by rw [hw2]; exact (below_alloc (below_alloc (Below.refl _ _) _) _)
    have s2 : w.heap.size + 1 < w2.heap.size := by rw [hw2]; simp
    rw [← hw2]
    clear hw2 h0' h1 h2 h3
    obtain ⟨B, hB⟩ : ∃ B, B = w.heap.size := ⟨_, rfl⟩
    rw [← hB] at f8 f14 g0 g1 g2 s2 ⊢
    have HB2 := put hB2
    have HB := put hB
    clear hB hB2
    have P2 : Kp (StParts d (fun k => k < w2.heap.size) w2 (.slice A1 n1 c1) (.slice A2 n2 c2) (.slice A3 n3 c3) (.slice A4 n4 c4) (.slice A5 n5 c5) (.slice A6 n6 c6) n1 n2 n3 n4 n5 n6) := put (PP.out.later HB2.out)
    clear PP
    have K3 : Kp (∀ k : Nat, k < 3 → ∃ A n c ys, w2.cell? ⟨B + 1, k, none⟩ = some (.slice A n c) ∧ n ≤ c ∧ c ≤ 9223372036854775807 ∧ n ≤ 140737488355328 ∧ ys.length = n ∧ Sl (tEx d) (fun k => k < w2.heap.size) w2 (.slice A n c) ys) := ⟨fun k hk => by
      rcases k with _ | _ | _ | k
      · obtain ⟨ys, h1, h2⟩ := P2.out.s1
        exact ⟨_, _, _, ys, g0, l1, m1, q1, h2, h1.1⟩
      · obtain ⟨ys, h1, h2⟩ := P2.out.s2
        exact ⟨_, _, _, ys, g1, l2, m2, q2, h2, h1.1⟩
      · obtain ⟨ys, h1, h2⟩ := P2.out.s3
        exact ⟨_, _, _, ys, g2, l3, m3, q3, h2, h1.1⟩
      · omega⟩
    clear g0 g1 g2 l1 m1 q1 l2 m2 q2 l3 m3 q3
    go_loopg [41] 3 (fun kx s41 wr => ∃ (i : Nat), s41 = .int .i64 i ∧ i ≤ 3 ∧ 3 - i ≤ kx ∧ Kp (Below w2.heap.size w2 wr))
    case atStart => exact ⟨0, rfl, Nat.zero_le _, Nat.le_refl _, put (Below.refl _ _)⟩
    case round =>
      obtain ⟨i, rfl, hi, hkx, KB⟩ := hrel
      by_cases hlt : i < 3
      · have hlz : (i : Int) < 3 := by omega
        have i0 : (0 : Int) ≤ (i : Int) := by omega
        obtain ⟨A, m, c, ys, hc0, hmc, hc9, hm9, hmy, hys⟩ := K3.out i hlt
        have hcr := (KB.out.cell (p := ⟨B + 1, i, none⟩) s2).trans hc0
        have KS := put hys
        have HM := put hmy
        clear hc0 hys hmy
        go_wp2_with fail
        go_loopg [47] m (fun kx s47 wi => ∃ (k : Nat), s47 = .int .i64 k ∧ k ≤ m ∧ m - k ≤ kx ∧ Kp (Below w2.heap.size w2 wi))
        case atStart => exact ⟨0, rfl, Nat.zero_le _, Nat.le_refl _, KB⟩
        case round =>
          obtain ⟨k, rfl, hk, hkx2, KBI⟩ := hrel
          by_cases hlt2 : k < m
          · have hlz2 : (k : Int) < (m : Int) := by omega
            have k0 : (0 : Int) ≤ (k : Int) := by omega
            obtain ⟨d', ad, y0, y1, y2, y3, y4, y5, BB, kk, j, rfl, rfl, x0, x1, x2, x3, x4, x5, x6, k1, k2, k3, hr⟩ := exs_at (KS.out.elder KBI.out).row.1 k (by rw [HM.out]; exact hlt2)
            have KR := put hr
            clear hr
            go_wp2_with fail
            refine (deepExprCalls _ _ [.string y0, .int .i64 y1, .int .i64 y2, .string y3, .string y4, .string y5, .slice BB kk j] _ _ (Ty.below KR.out (below_alloc (Below.refl _ _) _))).mono ?_
            rintro e w5 ⟨⟨b, rfl, _⟩, hb⟩
            have KB5 := put (below_call (below_alloc KBI.out _) hb)
            clear hb
            cases b with
            | true =>
              go_wp2_with fail
              go_ret
              exact ⟨⟨true, rfl, trivial⟩, below_call HB2.out KB5.out⟩
            | false =>
              go_wp2_with fail
              go_roundg (m - (k + 1))
              case measure => omega
              case rel => exact ⟨k + 1, by go_num, by omega, Nat.le_refl _, KB5⟩
          · have hlz2 : ¬ (k : Int) < (m : Int) := by omega
            go_wp2_with fail
            go_roundg (3 - (i + 1))
            case measure => omega
            case rel => exact ⟨i + 1, by go_num, by omega, Nat.le_refl _, KBI⟩
      · have hlz : ¬ (i : Int) < 3 := by omega
        have y8 := (KB.out.cell (p := ⟨B, 8, none⟩) (by show B < _; omega)).trans f8
        have y14 := (KB.out.cell (p := ⟨B, 14, none⟩) (by show B < _; omega)).trans f14
        clear K3
        go_wp2_with fail
        clear y8 y14
        go_loopg [58] n4 (fun kx s58 wi => ∃ (k : Nat), s58 = .int .i64 k ∧ k ≤ n4 ∧ n4 - k ≤ kx ∧ Kp (Below w2.heap.size w2 wi))
        case atStart => exact ⟨0, rfl, Nat.zero_le _, Nat.le_refl _, KB⟩
        case round =>
          obtain ⟨k, rfl, hk, hkx2, KBI⟩ := hrel
          by_cases hlt2 : k < n4
          · have hlz2 : (k : Int) < (n4 : Int) := by omega
            have k0 : (0 : Int) ≤ (k : Int) := by omega
            obtain ⟨ys, hys, hmy⟩ := P2.out.s4
            obtain ⟨d', ad, z0, y0, y1, y2, y3, y4, y5, BB, kk, j, rfl, rfl, x0, x1, x2, x3, x4, x5, x6, x7, k1, k2, k3, hr⟩ := sets_at (hys.1.elder KBI.out).row.1 k (by rw [hmy]; exact hlt2)
            have KR := put hr
            clear hr hys hmy
            go_wp2_with fail
            refine (deepExprCalls _ _ [.string y0, .int .i64 y1, .int .i64 y2, .string y3, .string y4, .string y5, .slice BB kk j] _ _ (Ty.below KR.out (below_alloc (Below.refl _ _) _))).mono ?_
            rintro e w5 ⟨⟨b, rfl, _⟩, hb⟩
            have KB5 := put (below_call (below_alloc KBI.out _) hb)
            clear hb
            cases b with
            | true =>
              go_wp2_with fail
              go_ret
              exact ⟨⟨true, rfl, trivial⟩, below_call HB2.out KB5.out⟩
            | false =>
              go_wp2_with fail
              go_roundg (n4 - (k + 1))
              case measure => omega
              case rel => exact ⟨k + 1, by go_num, by omega, Nat.le_refl _, KB5⟩
          · have hlz2 : ¬ (k : Int) < (n4 : Int) := by omega
            have y14 := (KBI.out.cell (p := ⟨B, 14, none⟩) (by show B < _; omega)).trans f14
            go_wp2_with fail
            clear y14
            go_loopg [69] n6 (fun kx s69 wi => ∃ (k : Nat), s69 = .int .i64 k ∧ k ≤ n6 ∧ n6 - k ≤ kx ∧ Kp (Below w2.heap.size w2 wi))
            case atStart => exact ⟨0, rfl, Nat.zero_le _, Nat.le_refl _, KBI⟩
            case round =>
              obtain ⟨p, rfl, hp, hkx3, KBJ⟩ := hrel
              by_cases hlt3 : p < n6
              · have hlz3 : (p : Int) < (n6 : Int) := by omega
                have p0 : (0 : Int) ≤ (p : Int) := by omega
                obtain ⟨ys, hys, hmy⟩ := P2.out.s6
                obtain ⟨ad, kd', x', col', rl', Ac', nc', cc', A1', n1', c1', A2', n2', c2', A3', n3', c3', A4', n4', c4', A5', n5', c5', A6', n6', c6', rfl, _, u0, u1, u2, u3, u4, u5, u6, u7, u8, u9, u10, u11, u12, u13, u14, hr⟩ := sts_at (hys.1.elder KBJ.out).row.1 p (by rw [hmy]; exact hlt3)
                have KR := put hr
                clear hr hys hmy
                go_wp2_with fail
                refine (IH.out _ x' _ _ _ (Ty.below KR.out (below_alloc (Below.refl _ _) _))).mono ?_
                rintro e w5 ⟨⟨b, rfl, _⟩, hb⟩
                have KB5 := put (below_call (below_alloc KBJ.out _) hb)
                clear hb
                cases b with
                | true =>
                  go_wp2_with fail
                  go_ret
                  exact ⟨⟨true, rfl, trivial⟩, below_call HB2.out KB5.out⟩
                | false =>
                  go_wp2_with fail
                  go_roundg (n6 - (p + 1))
                  case measure => omega
                  case rel => exact ⟨p + 1, by go_num, by omega, Nat.le_refl _, KB5⟩
              · have hlz3 : ¬ (p : Int) < (n6 : Int) := by omega
                go_wp2
                go_ret
                exact ⟨⟨false, rfl, trivial⟩, below_call HB2.out KBJ.out⟩

end Go.Proofs.Ytkfoknjflpklpaa.D

namespace Go.Proofs.Ytkfoknjflpklpaa.D
open Go Go.RowKit Go.Proofs.Ytkfoknjflpklpaa.Mem

/-- An agenda's two cells. -/
def AgAt (w : World) (a : Nat) (v : Value) (mb : Nat) : Prop := w.heap[a]? = some (.cells #[v, .map (some mb)] 131 (0, 0))
theorem AgAt.c0 {w : World} {a mb : Nat} {v : Value} (h : AgAt w a v mb) : w.cell? ⟨a, 0, none⟩ = some v := by simp [World.cell?, show w.heap[a]? = _ from h]
theorem AgAt.c1 {w : World} {a mb : Nat} {v : Value} (h : AgAt w a v mb) : w.cell? ⟨a, 1, none⟩ = some (.map (some mb)) := by simp [World.cell?, show w.heap[a]? = _ from h]
theorem AgAt.fr {w : World} {a mb : Nat} {v : Value} (h : AgAt w a v mb) (o : Nat) : w.frozen? ⟨a, o, none⟩ = false := by simp [World.frozen?, show w.heap[a]? = _ from h]
theorem AgAt.lt {w : World} {a mb : Nat} {v : Value} (h : AgAt w a v mb) : a < w.heap.size := (Array.getElem?_eq_some_iff.1 h).1
theorem AgAt.kept {w w' : World} {a mb : Nat} {v : Value} (h : AgAt w a v mb) (hk : w'.heap[a]? = w.heap[a]?) : AgAt w' a v mb := hk.trans h
theorem AgAt.below {w w' : World} {a mb : Nat} {v : Value} (h : AgAt w a v mb) (hb : Below w.heap.size w w') : AgAt w' a v mb := h.kept (hb.block a h.lt)
theorem AgAt.set0 {w : World} {a mb : Nat} {v : Value} (h : AgAt w a v mb) (u : Value) : AgAt (w.setCell ⟨a, 0, none⟩ u) a u mb := by
  have h' : w.heap[a]? = _ := h
  show (w.setCell ⟨a, 0, none⟩ u).heap[a]? = _
  simp [World.setCell, Array.getElem?_modify, h']
theorem AgAt.set1 {w : World} {a mb : Nat} {v : Value} (h : AgAt w a v mb) (m2 : Nat) : AgAt (w.setCell ⟨a, 1, none⟩ (.map (some m2))) a v m2 := by
  have h' : w.heap[a]? = _ := h
  show (w.setCell ⟨a, 1, none⟩ (.map (some m2))).heap[a]? = _
  simp [World.setCell, Array.getElem?_modify, h']

set_option maxHeartbeats 2000000 in
set_option maxRecDepth 100000 in
theorem agNewCalls (w : World) : Calls Try.prog 34 #[] w fun e w' => e = .returned (.pointer (some ⟨w.heap.size + 1, 0, none⟩)) ∧ w' = (w.alloc (.map #[] 0)).alloc (.cells #[.slice none 0 0, .map (some w.heap.size)] 131) := by
  have hmm := @run_makeMap Try.prog
  go_enter Try.func34, Try.ntmps34
  go_wp2
  go_ret
  exact ⟨rfl, rfl⟩

set_option maxHeartbeats 2000000 in
set_option maxRecDepth 100000 in
theorem agMarkCalls (w : World) (a mb n : Nat) (v : Value) (f : ByteArray → Option Int) (s : ByteArray) (h : AgAt w a v mb) (hm : Marks w mb n f) (hs : s.size ≤ 9223372036854775807) :
    Calls Try.prog 39 #[.pointer (some ⟨a, 0, none⟩), .string s] w fun e w' => e = .returned (.int .i64 ((f s).getD 0)) ∧ w' = w := by
  have c1 := h.c1
  have hl := hm.look hs
  clear h hm
  go_enter Try.func39, Try.ntmps39
  go_wp2_with fail
  go_ret
  exact ⟨rfl, rfl⟩

/-- What Saw makes of the marks. -/
def sawM (f : ByteArray → Option Int) (s : ByteArray) (v : Int) : ByteArray → Option Int := if (f s).isSome then putM f s v else f

set_option maxHeartbeats 2000000 in
set_option maxRecDepth 100000 in
theorem agSawCalls (w : World) (a mb n : Nat) (v : Value) (f : ByteArray → Option Int) (s : ByteArray) (k : Int) (h : AgAt w a v mb) (hm : Marks w mb n f) (hs : s.size ≤ 9223372036854775807) (hn : n < 1000) :
    Calls Try.prog 36 #[.pointer (some ⟨a, 0, none⟩), .string s, .int .i64 k] w fun e w' => (∃ r, e = .returned r) ∧ Marks w' mb (n + 1) (sawM f s k) ∧ w.grownBy w' (some mb) := by
  have c1 := h.c1
  have hl := hm.look_ok hs
  have KM := put hm
  have HN : Kp (n < maxLen) := put (by show n < 9223372036854775807; omega)
  clear h hm hn
  cases hb : (f s).isSome with
  | true =>
    rw [hb] at hl
    have HB := put hb
    clear hb
    go_enter Try.func36, Try.ntmps36
    go_wp2_with (refine wpList_mark rfl _ _ _ rfl rfl KM.out HN.out rfl rfl hs ?_; intro w1 hm1 hg1; have HM1 := put hm1; have HG1 := put hg1; clear hm1 hg1)
    exact bodyPost_end (results_none rfl _ _ _) rfl ⟨⟨_, rfl⟩, by unfold sawM; rw [if_pos HB.out]; exact HM1.out, HG1.out⟩
  | false =>
    rw [hb] at hl
    have HB := put hb
    clear hb
    go_enter Try.func36, Try.ntmps36
    go_wp2_with fail
    exact bodyPost_end (results_none rfl _ _ _) rfl ⟨⟨_, rfl⟩, by unfold sawM; rw [if_neg (by rw [HB.out]; simp)]; exact KM.out.mono (Nat.le_succ _), ⟨rfl, rfl, rfl, Nat.le_refl _, fun _ _ _ => rfl⟩⟩

set_option maxHeartbeats 8000000 in
set_option maxRecDepth 100000 in
theorem trigCalls (d : Nat) (ok okn : Nat → Prop) (x : Rl) (cs : List Value) (vn : Value) (xs : List Chg) (w : World) (h : (tSt d).R ok w x cs) (hn : Sl tChg okn w vn xs) (hl : xs.length ≤ 1000) (hb : ∀ c ∈ xs, c.old.length ≤ 1000 ∧ c.new.length ≤ 1000) :
    Calls Try.prog 38 #[.agg cs.toArray, vn] w fun e w' => e = .returned (.bool (decide (0 < x.event) && decide (0 < (xs.filter (Chg.isOf x.table x.event)).length))) ∧ Below w.heap.size w w' := by
  obtain ⟨d', kd, col, rl, Ac, nc, cc, A1, n1, c1, A2, n2, c2, A3, n3, c3, A4, n4, c4, A5, n5, c5, A6, n6, c6, rfl, ⟨rfl, _, _, _, _, _, _, _⟩, _⟩ := st_parts h
  obtain ⟨A, c, rfl, l1, l2, l3⟩ := hn.shape
  have C : Kp (∀ W, Below w.heap.size w W → Calls Try.prog 24 #[.slice A xs.length c, .string x.table, .int .i64 x.event] W fun e w' => ∃ vo, e = .returned vo ∧ Own tChg 40 (fun k => W.heap.size ≤ k) w' W.heap.size vo (xs.filter (Chg.isOf x.table x.event)) ∧ Below W.heap.size W w') := ⟨fun W hB => ofCalls okn _ xs x.table x.event W (hn.below hB) hl hb⟩
  clear h hn hl hb
  by_cases he : x.event > 0
  · have HE := put he
    go_enter Try.func38, Try.ntmps38
    go_wp2_with fail
    refine (C.out _ (below_alloc (Below.refl _ _) _)).mono ?_
    rintro e w5 ⟨vo, rfl, ho, hb5⟩
    obtain ⟨Ao, co, rfl, _, _⟩ := ho.form
    have HB5 := put (below_call (below_alloc (w := w) (Below.refl _ _) _) hb5)
    clear ho hb5
    obtain ⟨m, hm⟩ : ∃ m, m = (xs.filter (Chg.isOf x.table x.event)).length := ⟨_, rfl⟩
    rw [← hm]
    have HM := put hm
    clear hm
    go_wp2_with fail
    go_ret
    refine ⟨?_, HB5.out⟩
    have h1 : decide (0 < x.event) = true := decide_eq_true HE.out
    rw [h1, ← HM.out]
    rfl
  · have HE := put he
    go_enter Try.func38, Try.ntmps38
    go_wp2_with fail
    go_ret
    refine ⟨?_, below_alloc (Below.refl _ _) _⟩
    have h1 : decide (0 < x.event) = false := decide_eq_false (by have := HE.out; omega)
    rw [h1]
    rfl
end Go.Proofs.Ytkfoknjflpklpaa.D

namespace Go.Proofs.Ytkfoknjflpklpaa.StabStm
open Go.Shelf Go.RowKit Go.Lib Go.Sort Go.Proofs Go.Proofs.Ytkfoknjflpklpaa.Stab

/-- What the walks lean on of the program. -/
structure Lay (P : Program) (k : Nat) : Prop where
  mixed : P.follows .mixedOrders = true
  fswp : P.funcs[147]? = some Try.f147
  frot : P.funcs[138]? = some Try.f138
  fsym : P.funcs[116]? = some Try.f116
  fins : P.funcs[115]? = some Try.f115
  fsta : P.funcs[93]? = some Try.f93
  ftop : P.funcs[64]? = some Try.f64
  t0 : P.underlying 0 = some (.tuple #[])
  a0 : ∀ w, (isAgg 0).run P w = .ok false w
  z0 : ∀ w, (Go.sizeOf 0).run P w = .ok 1 w
  v0 : ∀ w, (zeroValue 0).run P w = .ok (.tuple #[]) w
  t3 : P.underlying 3 = some (.int .i64)
  a3 : ∀ w, (isAgg 3).run P w = .ok false w
  z3 : ∀ w, (Go.sizeOf 3).run P w = .ok 1 w
  v3 : ∀ w, (zeroValue 3).run P w = .ok (.int .i64 0) w
  t4 : P.underlying 4 = some .bool
  a4 : ∀ w, (isAgg 4).run P w = .ok false w
  z4 : ∀ w, (Go.sizeOf 4).run P w = .ok 1 w
  v4 : ∀ w, (zeroValue 4).run P w = .ok (.bool false) w
  tu : P.underlying 209 = some (.int .u64)
  au : ∀ w, (isAgg 209).run P w = .ok false w
  zu : ∀ w, (Go.sizeOf 209).run P w = .ok 1 w
  vu : ∀ w, (zeroValue 209).run P w = .ok (.int .u64 0) w
  ts : P.underlying 60 = some (.slice 67)
  aS : ∀ w, (isAgg 60).run P w = .ok false w
  zs : ∀ w, (Go.sizeOf 60).run P w = .ok 1 w
  vs : ∀ w, (zeroValue 60).run P w = .ok (.slice none 0 0) w
  tf : P.underlying 134 = some (.func #[67, 67] #[3] false)
  af : ∀ w, (isAgg 134).run P w = .ok false w
  zf : ∀ w, (Go.sizeOf 134).run P w = .ok 1 w
  vf : ∀ w, (zeroValue 134).run P w = .ok .nilFunc w
  aE : ∀ w, (isAgg 67).run P w = .ok true w
  zE : ∀ w, (Go.sizeOf 67).run P w = .ok k w

theorem laid : Lay Try.prog 15 := {
  mixed := by kernel_rfl,
  fswp := Try.func147,
  frot := Try.func138,
  fsym := Try.func116,
  fins := Try.func115,
  fsta := Try.func93,
  ftop := Try.func64,
  t0 := Try.underlying0,
  a0 := fun _ => by kernel_rfl,
  z0 := fun _ => by kernel_rfl,
  v0 := fun _ => by kernel_rfl,
  t3 := Try.underlying3,
  a3 := fun _ => by kernel_rfl,
  z3 := fun _ => by kernel_rfl,
  v3 := fun _ => by kernel_rfl,
  t4 := Try.underlying4,
  a4 := fun _ => by kernel_rfl,
  z4 := fun _ => by kernel_rfl,
  v4 := fun _ => by kernel_rfl,
  tu := Try.underlying209,
  au := fun _ => by kernel_rfl,
  zu := fun _ => by kernel_rfl,
  vu := fun _ => by kernel_rfl,
  ts := Try.underlying60,
  aS := fun _ => by kernel_rfl,
  zs := fun _ => by kernel_rfl,
  vs := fun _ => by kernel_rfl,
  tf := Try.underlying134,
  af := fun _ => by kernel_rfl,
  zf := fun _ => by kernel_rfl,
  vf := fun _ => by kernel_rfl,
  aE := fun _ => by kernel_rfl,
  zE := fun _ => by kernel_rfl }

variable {P : Program} {α : Type} [Inhabited α]

set_option maxHeartbeats 4000000 in
set_option maxRecDepth 1000000 in
theorem swapRange {k : Nat} (L : Lay P k) (enc : α → List Value) (g : Nat) (cb : Array Value) (blk off cap a b n : Nat) (d0 d : Array α) (w0 w : World)
    (R : RowK enc k w0 blk off d0) (hs : d0.size = d.size) (S : SWK enc k w0 blk off d w) (hab : a + n ≤ d.size) (hb : b + n ≤ d.size) (hsz : d.size < 4611686018427387904) :
    Calls P 147 #[.slice (some ⟨blk, off, none⟩) d.size cap, .int .i64 a, .int .i64 b, .int .i64 n, .func (.func g) #[] cb] w fun e w' => e = .returned (.tuple #[]) ∧ SWK enc k w0 blk off (swapFrom a b n 0 d) w' := by
  have mixed := L.mixed; have t0 := L.t0; have a0 := L.a0; have z0 := L.z0; have v0 := L.v0; have t3 := L.t3; have a3 := L.a3; have z3 := L.z3; have v3 := L.v3; have t4 := L.t4; have a4 := L.a4; have z4 := L.z4; have v4 := L.v4; have ts := L.ts; have as' := L.aS; have zs := L.zs; have vs := L.vs; have tf := L.tf; have af := L.af; have zf := L.zf; have vf := L.vf; have aE := L.aE; have zE := L.zE
  have FG := L.fswp
  have S0 : Aside (SWK enc k w0 blk off d w) := S
  clear S L
  go_enter FG, Try.ntmps147
  go_wp2
  go_loopg [10] n (fun kx s10 wr => ∃ (i : Nat) (dk : Array α), s10 = .int .i64 i ∧ i ≤ n ∧ n - i ≤ kx ∧ dk.size = d.size ∧ Aside (SWK enc k w0 blk off dk wr) ∧ Hid (swapFrom a b n i dk = swapFrom a b n 0 d))
  case atStart => exact ⟨0, d, rfl, by omega, by omega, rfl, S0, rfl⟩
  case round =>
    clear S0
    obtain ⟨i, dk, rfl, hin, hkx, hds, S1, heq⟩ := hrel
    by_cases hlt : i < n
    · have hltz : (i : Int) < (n : Int) := by omega
      go_wp2_with fail
      have ea : ((a : Int) + (i : Int)).toNat = a + i := by omega
      have pa : (0 : Int) ≤ (a : Int) + (i : Int) := by omega
      have ba : (a : Int) + (i : Int) < (d.size : Int) := by omega
      have ra : IntKind.i64.wrap ((a : Int) + (i : Int)) = (a : Int) + (i : Int) := by rw [IntKind.wrap_i64]; omega
      have eb : ((b : Int) + (i : Int)).toNat = b + i := by omega
      have pb : (0 : Int) ≤ (b : Int) + (i : Int) := by omega
      have bb : (b : Int) + (i : Int) < (d.size : Int) := by omega
      have rb : IntKind.i64.wrap ((b : Int) + (i : Int)) = (b : Int) + (i : Int) := by rw [IntKind.wrap_i64]; omega
      have S2 : Aside (SWK enc k w0 blk off (swp dk (a + i) (b + i)) ((wr.drew.setCells blk (off + (a + i) * k) (enc dk[b + i]!)).setCells blk (off + (b + i) * k) (enc dk[a + i]!))) := S1.out.swapped R (a + i) (b + i) (by omega) (by omega)
      have l44a := S1.out.ld1 R (by omega) P (a + i) (by omega)
      have l44b := S1.out.ld1 R (by omega) P (b + i) (by omega)
      have s44a := S1.out.st1 R (by omega) P (a + i) (by omega) dk[b + i]!
      have s44b := S1.out.st2 R (by omega) P (a + i) (b + i) (by omega) (by omega) dk[b + i]! dk[a + i]!
      have n44a : (enc dk[a + i]!).length = k := R.hk _
      have n44b : (enc dk[b + i]!).length = k := R.hk _
      generalize enc dk[a + i]! = cI44 at S2 l44a s44b n44a
      generalize enc dk[b + i]! = cJ44 at S2 l44b s44a s44b n44b
      clear S1
      go_wp2_with fail
      go_big_region_o
      clear l44a l44b s44a s44b
      generalize (wr.drew.setCells blk (off + (a + i) * k) cJ44).setCells blk (off + (b + i) * k) cI44 = w2 at S2 ⊢
      go_wp2
      go_roundg (n - (i + 1))
      case measure => omega
      case rel => exact ⟨i + 1, swp dk (a + i) (b + i), by go_num, by omega, Nat.le_refl _, by rw [size_swp]; exact hds, S2, by
        show _ = _
        rw [← heq.out, swapFrom.eq_def a b n i dk, if_pos hlt]⟩
    · have hltz : ¬ (i : Int) < (n : Int) := by omega
      go_wp2
      go_end0
      refine ⟨rfl, ?_⟩
      rw [← heq.out, swapFrom, if_neg hlt]
      exact S1.out

end Go.Proofs.Ytkfoknjflpklpaa.StabStm

namespace Go.Proofs.Ytkfoknjflpklpaa.StabStm
open Go.Shelf Go.RowKit Go.Lib Go.Sort Go.Proofs Go.Proofs.Ytkfoknjflpklpaa.Stab
variable {P : Program} {α : Type} [Inhabited α]

omit [Inhabited α] in
theorem Inner.go [Inhabited α] (lt : α → α → Bool) (a p : Nat) (d : Array α) (h : a < p + 1) (hl : lt d[p + 1]! d[p]! = true) : insInner lt a (p + 1) d = insInner lt a p (swp d (p + 1) p) := by
  rw [insInner]; simp [hl, h]

theorem Inner.stop (lt : α → α → Bool) (a j : Nat) (d : Array α) (h : j ≤ a ∨ lt d[j]! d[j - 1]! = false) : insInner lt a j d = d := by
  cases j with
  | zero => rw [insInner]
  | succ j =>
    rw [insInner, if_neg]
    rcases h with h | h
    · simp; intro h2; omega
    · rw [show j + 1 - 1 = j from rfl] at h; simp [h]

set_option maxHeartbeats 16000000 in
set_option maxRecDepth 1000000 in
theorem insCalls {k : Nat} (L : Lay P k) (enc : α → List Value) (cf : α → α → Int) (g : Nat) (cb : Array Value) (blk off cap a b : Nat) (d0 d : Array α) (w0 w : World)
    (eg : ∀ args w, (callFunc g args).run P w = .ok (.enter g args) w) (hcmp : CmpLays P g cb enc k cf blk off d0.size w0) (R : RowK enc k w0 blk off d0) (hs : d0.size = d.size) (S : SWK enc k w0 blk off d w) (hab : a ≤ b) (hb : b ≤ d.size) (hsz : d.size < 4611686018427387904) :
    Calls P 115 #[.slice (some ⟨blk, off, none⟩) d.size cap, .int .i64 a, .int .i64 b, .func (.func g) #[] cb] w fun e w' => e = .returned (.tuple #[]) ∧ SWK enc k w0 blk off (insertionSort (ltOf cf) d a b) w' := by
  have mixed := L.mixed; have t0 := L.t0; have a0 := L.a0; have z0 := L.z0; have v0 := L.v0; have t3 := L.t3; have a3 := L.a3; have z3 := L.z3; have v3 := L.v3; have t4 := L.t4; have a4 := L.a4; have z4 := L.z4; have v4 := L.v4; have ts := L.ts; have as' := L.aS; have zs := L.zs; have vs := L.vs; have tf := L.tf; have af := L.af; have zf := L.zf; have vf := L.vf; have aE := L.aE; have zE := L.zE
  have FG := L.fins
  have HC : Aside _ := hcmp
  have S0 : Aside (SWK enc k w0 blk off d w) := S
  clear S hcmp L
  go_enter FG, Try.ntmps115
  go_wp2
  go_loopg [8] (b - a) (fun kx s8 wr => ∃ (i : Nat) (dk : Array α), s8 = .int .i64 i ∧ a < i ∧ i ≤ b + 1 ∧ b + 1 - i ≤ kx + 1 ∧ dk.size = d.size ∧ Aside (SWK enc k w0 blk off dk wr) ∧ Hid (insOuter (ltOf cf) a b i dk = insOuter (ltOf cf) a b (a + 1) d))
  case atStart => exact ⟨a + 1, d, by go_num, by omega, by omega, by omega, rfl, S0, rfl⟩
  case round =>
    clear S0
    obtain ⟨i, dk, rfl, hai, hib, hkx, hds, S1, heq⟩ := hrel
    by_cases hlt : i < b
    · have hltz : (i : Int) < (b : Int) := by omega
      obtain ⟨wo, rfl⟩ : ∃ wo : World, wo = wr := ⟨_, rfl⟩
      go_wp2
      go_loopg [9] i (fun ky s9 wr2 => ∃ (j : Nat) (dj : Array α), s9 = .int .i64 j ∧ a ≤ j ∧ j ≤ i ∧ j ≤ ky ∧ dj.size = d.size ∧ Aside (SWK enc k w0 blk off dj wr2) ∧ Hid (insInner (ltOf cf) a j dj = insInner (ltOf cf) a i dk))
      case atStart => exact ⟨i, dk, rfl, by omega, Nat.le_refl _, Nat.le_refl _, hds, S1, rfl⟩
      case round =>
        clear S1
        obtain ⟨j, dj, rfl, haj, hji, hky, hdj, S1, hin⟩ := hrel
        have out : (j ≤ a ∨ ltOf cf dj[j]! dj[j - 1]! = false) → insOuter (ltOf cf) a b (i + 1) dj = insOuter (ltOf cf) a b (a + 1) d := fun hstop => by
          rw [← heq.out, insOuter.eq_def _ a b i dk, if_pos hlt, ← hin.out, Inner.stop _ _ _ _ hstop]
        have OUT : Aside _ := out
        clear out
        by_cases hja : a < j
        · obtain ⟨p, rfl⟩ : ∃ p, j = p + 1 := ⟨j - 1, by omega⟩
          have hjz : (a : Int) < (p : Int) + 1 := by omega
          have hjd : decide ((p : Int) + 1 > (a : Int)) = true := decide_eq_true (by omega)
          have ea : ((p : Int) + 1).toNat = p + 1 := by omega
          have pa : (0 : Int) ≤ (p : Int) + 1 := by omega
          have ba : (p : Int) + 1 < (d.size : Int) := by omega
          have ra : IntKind.i64.wrap ((p : Int) + 1) = (p : Int) + 1 := by rw [IntKind.wrap_i64]; omega
          have ec : ((p : Int)).toNat = p := by omega
          have pc : (0 : Int) ≤ (p : Int) := by omega
          have bc : (p : Int) < (d.size : Int) := by omega
          have rc : IntKind.i64.wrap ((p : Int)) = (p : Int) := by rw [IntKind.wrap_i64]; omega
          obtain ⟨x, hx⟩ : ∃ x, x = dj[p + 1]! := ⟨_, rfl⟩
          obtain ⟨y, hy⟩ : ∃ x, x = dj[p]! := ⟨_, rfl⟩
          have lx := S1.out.ld R (by omega) P (p + 1) (by omega)
          have ly := S1.out.ld R (by omega) P p (by omega)
          rw [← hx] at lx
          rw [← hy] at ly
          have hc := S1.out.cmp HC.out (by omega) x y
          have HX : Hid (x = dj[p + 1]! ∧ y = dj[p]!) := ⟨hx, hy⟩
          clear hx hy
          by_cases hv : cf x y < 0
          · have hd : decide (cf x y < 0) = true := decide_eq_true hv
            go_wp2_with fail
            go_quiet_grown (first | (go_at_fn g; refine Calls.grown_of (hc _ _)))
            have SV : Aside (SWK enc k w0 blk off dj (grow (wr.drewN nq) osq)) := S1.out.grown nq osq
            clear lx ly hc S1
            generalize grow (wr.drewN nq) osq = wv at SV ⊢
            clear nq osq
            go_wp2_with fail
            have S2 : Aside (SWK enc k w0 blk off (swp dj (p + 1) p) ((wv.drew.setCells blk (off + (p + 1) * k) (enc dj[p]!)).setCells blk (off + p * k) (enc dj[p + 1]!))) := SV.out.swapped R (p + 1) p (by omega) (by omega)
            have l44a := SV.out.ld1 R (by omega) P (p + 1) (by omega)
            have l44b := SV.out.ld1 R (by omega) P p (by omega)
            have s44a := SV.out.st1 R (by omega) P (p + 1) (by omega) dj[p]!
            have s44b := SV.out.st2 R (by omega) P (p + 1) p (by omega) (by omega) dj[p]! dj[p + 1]!
            have n44a : (enc dj[p + 1]!).length = k := R.hk _
            have n44b : (enc dj[p]!).length = k := R.hk _
            generalize enc dj[p + 1]! = cI44 at S2 l44a s44b n44a
            generalize enc dj[p]! = cJ44 at S2 l44b s44a s44b n44b
            clear SV
            go_wp2_with fail
            go_big_region_o
            clear l44a l44b s44a s44b
            generalize (wv.drew.setCells blk (off + (p + 1) * k) cJ44).setCells blk (off + p * k) cI44 = w2 at S2 ⊢
            go_wp2
            go_roundg p
            case measure => omega
            case rel => exact ⟨p, swp dj (p + 1) p, by first | rfl | go_num, by omega, by omega, Nat.le_refl _, by rw [size_swp]; exact hdj, S2, by
              show _ = _
              rw [← hin.out, Inner.go _ _ _ _ hja (by rw [← HX.out.1, ← HX.out.2]; exact decide_eq_true hv)]⟩
          · have hd : decide (cf x y < 0) = false := decide_eq_false hv
            go_wp2_with fail
            go_quiet_grown (first | (go_at_fn g; refine Calls.grown_of (hc _ _)))
            have SV : Aside (SWK enc k w0 blk off dj (grow (wr.drewN nq) osq)) := S1.out.grown nq osq
            clear lx ly hc S1
            generalize grow (wr.drewN nq) osq = wv at SV ⊢
            clear nq osq
            go_wp2
            go_roundg (b - (i + 1))
            case measure => omega
            case rel => exact ⟨i + 1, dj, by go_num, by omega, by omega, by omega, hdj, SV, OUT.out (Or.inr (by simp only [Nat.add_sub_cancel]; rw [← HX.out.1, ← HX.out.2]; exact decide_eq_false (by omega)))⟩
        · have hjaz : decide ((j : Int) > (a : Int)) = false := decide_eq_false (by omega)
          have hjaz' : ¬ (a : Int) < (j : Int) := by omega
          have SV : Aside (SWK enc k w0 blk off dj wr.drew) := S1.out.drew
          clear S1
          go_wp2_with fail
          go_big_region_o
          all_goals go_wp2
          go_roundg (b - (i + 1))
          case measure => omega
          case rel => exact ⟨i + 1, dj, by go_num, by omega, by omega, by omega, hdj, SV, OUT.out (Or.inl (by omega))⟩
    · have hltz : ¬ (i : Int) < (b : Int) := by omega
      go_wp2
      go_end0
      refine ⟨rfl, ?_⟩
      rw [insertionSort, ← heq.out, insOuter, if_neg hlt]
      exact S1.out

end Go.Proofs.Ytkfoknjflpklpaa.StabStm

namespace Go.Proofs.Ytkfoknjflpklpaa.StabStm
open Go.Shelf Go.RowKit Go.Lib Go.Sort Go.Proofs Go.Proofs.Ytkfoknjflpklpaa.Stab
variable {P : Program} {α : Type} [Inhabited α]

set_option maxHeartbeats 4000000 in
set_option maxRecDepth 1000000 in
theorem rotateCalls {k : Nat} (L : Lay P k) (enc : α → List Value) (g : Nat) (cb : Array Value) (blk off cap a m b : Nat) (d0 d : Array α) (w0 w : World)
    (R : RowK enc k w0 blk off d0) (hs : d0.size = d.size) (S : SWK enc k w0 blk off d w) (ham : a < m) (hmb : m < b) (hb : b ≤ d.size) (hsz : d.size < 4611686018427387904) :
    Calls P 138 #[.slice (some ⟨blk, off, none⟩) d.size cap, .int .i64 a, .int .i64 m, .int .i64 b, .func (.func g) #[] cb] w fun e w' => e = .returned (.tuple #[]) ∧ SWK enc k w0 blk off (rotate a m b d) w' := by
  have eswp : ∀ args w, (callFunc 147 args).run P w = .ok (.enter 147 args) w := enters_of L.fswp (by kernel_rfl) rfl
  have t0 := L.t0; have a0 := L.a0; have z0 := L.z0; have v0 := L.v0; have t3 := L.t3; have a3 := L.a3; have z3 := L.z3; have v3 := L.v3; have t4 := L.t4; have a4 := L.a4; have z4 := L.z4; have v4 := L.v4; have ts := L.ts; have as' := L.aS; have zs := L.zs; have vs := L.vs; have tf := L.tf; have af := L.af; have zf := L.zf; have vf := L.vf
  have FG := L.frot
  have S0 : Aside (SWK enc k w0 blk off d w) := S
  have LL : Aside (Lay P k) := L
  clear S L
  go_enter FG, Try.ntmps138
  go_wp2
  go_loopg [10, 11] (b - a) (fun kx s10 s11 wr => ∃ (i j : Nat) (dk : Array α), s10 = .int .i64 i ∧ s11 = .int .i64 j ∧ 0 < i ∧ 0 < j ∧ i ≤ m ∧ m + j ≤ d.size ∧ i + j ≤ kx ∧ dk.size = d.size ∧ Aside (SWK enc k w0 blk off dk wr) ∧ Hid (rotLoop m i j dk = rotLoop m (m - a) (b - m) d))
  case atStart => exact ⟨m - a, b - m, d, by congr 1; omega, by congr 1; omega, by omega, by omega, by omega, by omega, by omega, rfl, S0, rfl⟩
  case round =>
    clear S0
    obtain ⟨i, j, dk, rfl, rfl, hi, hj, him, hjs, hkx, hds, S1, heq⟩ := hrel
    by_cases e : i = j
    · subst e
      have e1 : ((i : Int) != (i : Int)) = false := by simp
      go_wp2_with fail
      rw [show ((m : Int) - (i : Int)) = ((m - i : Nat) : Int) by omega, ← hds]
      refine (swapRange LL.out enc g cb blk off cap (m - i) m i d0 dk w0 _ R (by omega) S1.out (by omega) (by omega) (by omega)).mono ?_
      rintro e w' ⟨rfl, S2⟩
      go_wp2
      go_end0
      refine ⟨rfl, ?_⟩
      rw [rotate, ← heq.out, rotLoop, if_neg (by omega), if_pos rfl]
      exact S2
    · have e1 : ((i : Int) != (j : Int)) = true := by rw [bne_iff_ne]; omega
      by_cases c : i > j
      · have c1 : (i : Int) > (j : Int) := by omega
        go_wp2_with fail
        rw [show ((m : Int) - (i : Int)) = ((m - i : Nat) : Int) by omega, ← hds]
        refine (swapRange LL.out enc g cb blk off cap (m - i) m j d0 dk w0 _ R (by omega) S1.out (by omega) (by omega) (by omega)).mono ?_
        rintro e w' ⟨rfl, S2⟩
        have S3 : Aside _ := S2
        clear S2
        rw [hds]
        go_wp2
        go_roundg (i - j + j)
        case measure => omega
        case rel => exact ⟨i - j, j, _, by congr 1; omega, rfl, by omega, hj, by omega, hjs, Nat.le_refl _, by rw [size_swapFrom _ _ _ _ _ _ rfl]; exact hds, S3, by
          show _ = _
          rw [← heq.out, rotLoop.eq_def m i j dk, if_neg (by omega), if_neg e, if_pos c]⟩
      · have c1 : ¬ (i : Int) > (j : Int) := by omega
        go_wp2_with fail
        rw [show ((m : Int) - (i : Int)) = ((m - i : Nat) : Int) by omega, show ((m : Int) + (j : Int) - (i : Int)) = ((m + j - i : Nat) : Int) by omega, ← hds]
        refine (swapRange LL.out enc g cb blk off cap (m - i) (m + j - i) i d0 dk w0 _ R (by omega) S1.out (by omega) (by omega) (by omega)).mono ?_
        rintro e w' ⟨rfl, S2⟩
        have S3 : Aside _ := S2
        clear S2
        rw [hds]
        go_wp2
        go_roundg (i + (j - i))
        case measure => omega
        case rel => exact ⟨i, j - i, _, rfl, by congr 1; omega, hi, by omega, him, by omega, Nat.le_refl _, by rw [size_swapFrom _ _ _ _ _ _ rfl]; exact hds, S3, by
          show _ = _
          rw [← heq.out, rotLoop.eq_def m i j dk, if_neg (by omega), if_neg e, if_neg c]⟩

end Go.Proofs.Ytkfoknjflpklpaa.StabStm

namespace Go.Proofs.Ytkfoknjflpklpaa.StabStm
open Go.Shelf Go.RowKit Go.Lib Go.Sort Go.Proofs Go.Proofs.Ytkfoknjflpklpaa.Stab
variable {P : Program} {α : Type} [Inhabited α]

set_option maxHeartbeats 16000000 in
set_option maxRecDepth 1000000 in
theorem sym1 {k : Nat} (L : Lay P k) (enc : α → List Value) (cf : α → α → Int) (g : Nat) (cb : Array Value) (blk off cap a b : Nat) (d0 d : Array α) (w0 w : World)
    (eg : ∀ args w, (callFunc g args).run P w = .ok (.enter g args) w) (hcmp : CmpLays P g cb enc k cf blk off d0.size w0) (R : RowK enc k w0 blk off d0) (hs : d0.size = d.size) (S : SWK enc k w0 blk off d w) (hmb : a + 1 < b) (hb : b ≤ d.size) (hsz : d.size < 4611686018427387904) :
    Calls P 116 #[.slice (some ⟨blk, off, none⟩) d.size cap, .int .i64 a, .int .i64 ((a : Int) + 1), .int .i64 b, .func (.func g) #[] cb] w fun e w' => e = .returned (.tuple #[]) ∧ SWK enc k w0 blk off (symMerge (ltOf cf) d a (a + 1) b) w' := by
  have mixed := L.mixed; have t0 := L.t0; have a0 := L.a0; have z0 := L.z0; have v0 := L.v0; have t3 := L.t3; have a3 := L.a3; have z3 := L.z3; have v3 := L.v3; have t4 := L.t4; have a4 := L.a4; have z4 := L.z4; have v4 := L.v4; have ts := L.ts; have as' := L.aS; have zs := L.zs; have vs := L.vs; have tf := L.tf; have af := L.af; have zf := L.zf; have vf := L.vf; have aE := L.aE; have zE := L.zE; have tu := L.tu; have au := L.au; have zu := L.zu; have vu := L.vu
  have u3 := run_underlying L.t3; have uu := run_underlying L.tu
  have FG := L.fsym
  have HC : Aside _ := hcmp
  have S0 : Aside (SWK enc k w0 blk off d w) := S
  clear S hcmp L
  have e1 : (((a : Int) + 1) - (a : Int) == 1) = true := by rw [beq_iff_eq]; omega
  have e1' : ((a : Int) + 1) - (a : Int) = 1 := by omega
  go_enter FG, Try.ntmps116
  go_wp2
  go_loopg [10, 11] (b - a) (fun kx s10 s11 wr => ∃ (i j : Nat), s10 = .int .i64 i ∧ s11 = .int .i64 j ∧ a + 1 ≤ i ∧ i ≤ j ∧ j ≤ b ∧ j - i ≤ kx ∧ Aside (SWK enc k w0 blk off d wr) ∧ Hid (search (fun h => ltOf cf d[h]! d[a]!) i j = search (fun h => ltOf cf d[h]! d[a]!) (a + 1) b))
  case atStart => exact ⟨a + 1, b, by go_num, rfl, by omega, by omega, by omega, by omega, S0, rfl⟩
  case round =>
    clear S0
    obtain ⟨i, j, rfl, rfl, hai, hij, hjb, hkx, S1, heq⟩ := hrel
    by_cases hlt : i < j
    · have hltz : (i : Int) < (j : Int) := by omega
      obtain ⟨h, hh⟩ : ∃ h, h = (i + j) / 2 := ⟨_, rfl⟩
      have ez : ((i : Int) + (j : Int)) / 2 = (h : Int) := by omega
      have h1 : i ≤ h := by omega
      have h2 : h < j := by omega
      have HH : Hid (h = (i + j) / 2) := hh
      clear hh
      have ea : ((h : Int)).toNat = h := by omega
      have pa : (0 : Int) ≤ (h : Int) := by omega
      have ba : (h : Int) < (d.size : Int) := by omega
      have ra : IntKind.i64.wrap ((h : Int)) = (h : Int) := by rw [IntKind.wrap_i64]; omega
      have ec : ((a : Int)).toNat = a := by omega
      have pc : (0 : Int) ≤ (a : Int) := by omega
      have bc : (a : Int) < (d.size : Int) := by omega
      have rc : IntKind.i64.wrap ((a : Int)) = (a : Int) := by rw [IntKind.wrap_i64]; omega
      obtain ⟨x, hx⟩ : ∃ x, x = d[h]! := ⟨_, rfl⟩
      obtain ⟨y, hy⟩ : ∃ x, x = d[a]! := ⟨_, rfl⟩
      have lx := S1.out.ld R (by omega) P h (by omega)
      have ly := S1.out.ld R (by omega) P a (by omega)
      rw [← hx] at lx
      rw [← hy] at ly
      have hc := S1.out.cmp HC.out (by omega) x y
      have HX : Hid (x = d[h]! ∧ y = d[a]!) := ⟨hx, hy⟩
      clear hx hy
      by_cases hv : cf x y < 0
      · go_wp2_with fail
        go_quiet_grown (first | (go_at_fn g; refine Calls.grown_of (hc _ _)))
        have SV : Aside (SWK enc k w0 blk off d (grow (wr.drewN nq) osq)) := S1.out.grown nq osq
        clear lx ly hc S1
        generalize grow (wr.drewN nq) osq = wv at SV ⊢
        clear nq osq
        go_wp2
        go_roundg (j - (h + 1))
        case measure => omega
        case rel => exact ⟨h + 1, j, by go_num, rfl, by omega, by omega, hjb, Nat.le_refl _, SV, by
          show _ = _
          rw [← heq.out, search.eq_def _ i j, if_pos hlt, ← HH.out, if_pos (by rw [← HX.out.1, ← HX.out.2]; exact decide_eq_true hv)]⟩
      · go_wp2_with fail
        go_quiet_grown (first | (go_at_fn g; refine Calls.grown_of (hc _ _)))
        have SV : Aside (SWK enc k w0 blk off d (grow (wr.drewN nq) osq)) := S1.out.grown nq osq
        clear lx ly hc S1
        generalize grow (wr.drewN nq) osq = wv at SV ⊢
        clear nq osq
        go_wp2
        go_roundg (h - i)
        case measure => omega
        case rel => exact ⟨i, h, rfl, rfl, hai, by omega, by omega, Nat.le_refl _, SV, by
          show _ = _
          rw [← heq.out, search.eq_def _ i j, if_pos hlt, ← HH.out, if_neg (by rw [← HX.out.1, ← HX.out.2]; simp [ltOf, hv])]⟩
    · have hltz : ¬ (i : Int) < (j : Int) := by omega
      have hi : i = search (fun h => ltOf cf d[h]! d[a]!) (a + 1) b := by rw [← heq.out, search, if_neg hlt]
      have hib : i ≤ b := by omega
      have HI : Hid _ := hi
      clear heq hi hkx hij hjb
      obtain ⟨wq, rfl⟩ : ∃ wq : World, wq = wr := ⟨_, rfl⟩
      go_wp2
      go_loopg [13] (i - a) (fun kx s13 wr2 => ∃ (q : Nat) (dk : Array α), s13 = .int .i64 q ∧ a ≤ q ∧ i - q ≤ kx ∧ dk.size = d.size ∧ Aside (SWK enc k w0 blk off dk wr2) ∧ Hid (shUp q (i - 1) dk = shUp a (i - 1) d))
      case atStart => exact ⟨a, d, rfl, Nat.le_refl _, Nat.le_refl _, rfl, S1, rfl⟩
      case round =>
        clear S1
        obtain ⟨q, dk, rfl, haq, hkx, hds, S1, heq⟩ := hrel
        by_cases hq : q < i - 1
        · have hqz : (q : Int) < (i : Int) - 1 := by omega
          go_wp2_with fail
          have ea : ((q : Int)).toNat = q := by omega
          have pa : (0 : Int) ≤ (q : Int) := by omega
          have ba : (q : Int) < (d.size : Int) := by omega
          have ra : IntKind.i64.wrap ((q : Int)) = (q : Int) := by rw [IntKind.wrap_i64]; omega
          have ec : ((q : Int) + 1).toNat = q + 1 := by omega
          have pc : (0 : Int) ≤ (q : Int) + 1 := by omega
          have bc : (q : Int) + 1 < (d.size : Int) := by omega
          have rc : IntKind.i64.wrap ((q : Int) + 1) = (q : Int) + 1 := by rw [IntKind.wrap_i64]; omega
          have S2 : Aside (SWK enc k w0 blk off (swp dk q (q + 1)) ((wr.drew.setCells blk (off + q * k) (enc dk[q + 1]!)).setCells blk (off + (q + 1) * k) (enc dk[q]!))) := S1.out.swapped R q (q + 1) (by omega) (by omega)
          have l44a := S1.out.ld1 R (by omega) P q (by omega)
          have l44b := S1.out.ld1 R (by omega) P (q + 1) (by omega)
          have s44a := S1.out.st1 R (by omega) P q (by omega) dk[q + 1]!
          have s44b := S1.out.st2 R (by omega) P q (q + 1) (by omega) (by omega) dk[q + 1]! dk[q]!
          have n44a : (enc dk[q]!).length = k := R.hk _
          have n44b : (enc dk[q + 1]!).length = k := R.hk _
          generalize enc dk[q]! = cI44 at S2 l44a s44b n44a
          generalize enc dk[q + 1]! = cJ44 at S2 l44b s44a s44b n44b
          clear S1
          go_wp2_with fail
          go_big_region_o
          clear l44a l44b s44a s44b
          generalize (wr.drew.setCells blk (off + q * k) cJ44).setCells blk (off + (q + 1) * k) cI44 = w2 at S2 ⊢
          go_wp2
          go_roundg (i - (q + 1))
          case measure => omega
          case rel => exact ⟨q + 1, swp dk q (q + 1), by go_num, by omega, Nat.le_refl _, by rw [size_swp]; exact hds, S2, by
            show _ = _
            rw [← heq.out, shUp.eq_def q, if_pos hq]⟩
        · have hqz : ¬ (q : Int) < (i : Int) - 1 := by omega
          go_wp2
          (try simp only [Exit.inBlock, Exit.then])
          refine bodyPost_ret (results_none rfl _ _ _) rfl ?_
          refine ⟨rfl, ?_⟩
          rw [symMerge, if_pos rfl]
          simp only []
          rw [← HI.out, ← heq.out, shUp, if_neg hq]
          exact S1.out

end Go.Proofs.Ytkfoknjflpklpaa.StabStm
