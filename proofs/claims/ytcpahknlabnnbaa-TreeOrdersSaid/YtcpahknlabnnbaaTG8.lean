/- The document's rising list: Below, At. The laws of the trees: an op; great; text. The laws of the trees: a closure that appends; All. The document's rising list: Insert, Delete. -/
import Derived.Test.YtcpahknlabnnbaaTG7

namespace Go.Proofs.Ytcpahknlabnnbaa.T
open Go Go.RowKit Go.Sort Go.Proofs.Ytcpahknlabnnbaa.Mem

theorem posS_eq {l : List ByteArray} {s : ByteArray} {i : Nat} (h : Rise l) (hi : i ≤ l.length) (h1 : ∀ y ∈ l.take i, ltB y s = true) (h2 : ∀ x, l[i]? = some x → ltB x s = false) : posS l s = i := by
  obtain ⟨g1, g2, g3⟩ := posS_spec s h
  rcases Nat.lt_trichotomy (posS l s) i with hlt | he | hlt
  · have hl : posS l s < l.length := by omega
    have e1 := h1 l[posS l s] (List.mem_of_getElem? (i := posS l s) (by rw [List.getElem?_take_of_lt hlt, List.getElem?_eq_getElem hl]))
    have e2 := g3 l[posS l s] (List.mem_of_getElem? (i := 0) (by rw [List.getElem?_drop, Nat.add_zero, List.getElem?_eq_getElem hl]))
    rw [e1] at e2; exact absurd e2 (by simp)
  · exact he
  · have hl : i < l.length := by omega
    have e1 := g2 l[i] (List.mem_of_getElem? (i := i) (by rw [List.getElem?_take_of_lt hlt, List.getElem?_eq_getElem hl]))
    have e2 := h2 l[i] (List.getElem?_eq_getElem hl)
    rw [e1] at e2; exact absurd e2 (by simp)
theorem has_at {l : List ByteArray} {s x : ByteArray} (h : Rise l) (hx : l[posS l s]? = some x) : (x.toList == s.toList) = hasB s l := by
  cases hb : hasB s l with
  | true =>
    have h1 := (posS_there h).2 (hasB_true.1 hb)
    rw [h1] at hx
    injection hx with hx
    rw [hx]; simp
  | false =>
    have h1 := hasB_false.1 hb
    cases he : x.toList == s.toList with
    | false => rfl
    | true => exact absurd (toListB_inj (eq_of_beq he) ▸ List.mem_of_getElem? hx) h1
theorem has_end {l : List ByteArray} {s : ByteArray} (h : Rise l) (hx : posS l s = l.length) : hasB s l = false := by
  refine hasB_false.2 fun hm => ?_
  have := (List.getElem?_eq_some_iff.1 ((posS_there h).2 hm)).1
  omega
set_option maxHeartbeats 4000000 in
set_option maxRecDepth 100000 in
theorem belowCalls (ok : Nat → Prop) (L : Bool) (v vk : Value) (l : List ByteArray) (s : ByteArray) (w : World) (h : RdE Value.string ok w v l) (hr : Rise l) (hl : l.length ≤ 1000000) (hvk : ∃ A n c, vk = .slice A n c) :
    Calls Try.prog 32 #[.agg #[.bool L, v, vk], .string s] w fun e w' => e = .returned (.tuple #[.int .i64 (posS l s), .bool (hasB s l)]) ∧ Below w.heap.size w w' := by
  obtain ⟨Ak, nk, ck, rfl⟩ := hvk
  obtain ⟨A, c, rfl, hc, hc2, _⟩ := h.shape
  obtain ⟨w1, hw1⟩ : ∃ w1, w1 = w.alloc (.cells #[.bool L, .slice A l.length c, .slice Ak nk ck] 72) := ⟨_, rfl⟩
  have hb1 : Below w.heap.size w w1 := by rw [hw1]; exact balloc (Below.refl _ _) _
  have B1 := put hb1
  have H1 := put (h.below hb1)
  obtain ⟨x0, x1, x2⟩ := c3 (w := w1) (X := w.heap.size) (t := 72) (by rw [hw1]; exact heap_alloc_new _ _)
  have HR := put hr
  have HW := put hw1
  obtain ⟨m, hm⟩ : ∃ m, m = l.length := ⟨_, rfl⟩
  rw [← hm] at x1 hl HW H1 ⊢
  have HM := put hm
  clear hw1 hb1 h hr hm hc hc2
  go_enter Try.func32, Try.ntmps32
  go_wp2_with fail
  rw [← HW.out]
  go_loopg [6] m (fun kx s6 wr => ∃ (i : Nat), s6 = .int .i64 i ∧ i ≤ m ∧ m - i ≤ kx ∧ Kp (∀ y ∈ l.take i, ltB y s = true) ∧ wr = w1)
  case atStart => exact ⟨0, rfl, Nat.zero_le _, Nat.le_refl _, put (fun y hy => by simp at hy), rfl⟩
  case round =>
    obtain ⟨i, rfl, hi, hkx, HT, rfl⟩ := hrel
    by_cases hlt : i < m
    · have hlz : (i : Int) < (m : Int) := by omega
      have hnn : (0 : Int) ≤ (i : Int) := by omega
      have hwr : IntKind.i64.wrap ((i : Int) + 1) = (i : Int) + 1 := IntWalk.i64_in _ (by omega)
      obtain ⟨x, g, o, hx, hA, hg, hcell⟩ := H1.out.at' (i := i) (by rw [← HM.out]; exact hlt)
      subst hA
      have HX := put hx
      clear hx
      cases hls : ltB x s with
      | true =>
        have hls' : Op.bytesLess x.toList s.toList = true := hls
        have HLS := put hls
        clear hls
        go_wp2_with fail
        go_roundg (m - (i + 1))
        case measure => omega
        case rel => exact ⟨i + 1, rfl, by omega, Nat.le_refl _, put (fun y hy => by
          rw [take_one HX.out] at hy
          rcases List.mem_append.1 hy with hy | hy
          · exact HT.out y hy
          · rw [List.mem_singleton.1 hy]; exact HLS.out), rfl⟩
      | false =>
        have hls' : Op.bytesLess x.toList s.toList = false := hls
        have hp : posS l s = i := posS_eq HR.out (by rw [← HM.out]; exact hi) HT.out (fun x' hx' => by rw [HX.out] at hx'; injection hx' with hx'; rw [← hx']; exact hls)
        have HH := put (has_at HR.out (by rw [hp]; exact HX.out))
        have HPP := put hp
        obtain ⟨bb, hbb⟩ : ∃ bb, bb = (x.toList == s.toList) := ⟨_, rfl⟩
        rw [← hbb] at HH
        have hbb' := hbb.symm
        clear hls hp hbb
        go_wp2_with fail
        go_quiet (fail)
        all_goals (go_wp2_with fail)
        go_ret2
        rw [HPP.out, ← HH.out]
        exact ⟨rfl, bdr' B1.out _⟩
    · have hlz : ¬ (i : Int) < (m : Int) := by omega
      obtain rfl : i = m := by omega
      have hp : posS l s = i := posS_eq HR.out (by rw [← HM.out]; exact Nat.le_refl _) HT.out (fun x' hx' => by have := (List.getElem?_eq_some_iff.1 hx').1; have := HM.out; omega)
      have HH := put (has_end HR.out (by rw [hp]; exact HM.out))
      have HPP := put hp
      clear hp
      go_wp2_with fail
      go_quiet (fail)
      all_goals (go_wp2_with fail)
      go_ret2
      rw [HPP.out, HH.out]
      exact ⟨rfl, bdr' B1.out _⟩

set_option maxHeartbeats 1000000 in
set_option maxRecDepth 100000 in
theorem atCalls (ok : Nat → Prop) (S : Nat) (v : Value) (l : List ByteArray) (s : ByteArray) (w : World) (hS : w.heap[S]? = some (.cells #[v] 35 (0, 0))) (h : RdE Value.string ok w v l) (hr : Rise l) (hl : l.length ≤ 1000000) :
    Calls Try.prog 13 #[.pointer (some ⟨S, 0, none⟩), .string s] w fun e w' => e = .returned (.tuple #[.int .i64 (posS l s), .bool (hasB s l)]) ∧ Below w.heap.size w w' := by
  have C := put (belowCalls ok false v (.slice none 0 0) l s w h hr hl ⟨_, _, _, rfl⟩)
  obtain ⟨A, c, rfl, _⟩ := h.shape
  have x0 : w.cell? ⟨S, 0, none⟩ = some (.slice A l.length c) := by simp [World.cell?, hS]
  clear hS h hr hl
  go_enter Try.func13, Try.ntmps13
  go_wp2_with fail
  refine C.out.mono ?_
  rintro e w1 ⟨rfl, hb⟩
  have HB := put hb
  clear hb
  go_wp2_with fail
  go_ret2
  exact ⟨rfl, HB.out⟩
end Go.Proofs.Ytcpahknlabnnbaa.T

namespace Go.Proofs.Ytcpahknlabnnbaa.T
open Go Go.RowKit Go.Sort Go.Proofs.Ytcpahknlabnnbaa.Mem

structure Opr where
  k : Int
  n : Int
  s : ByteArray
def Opr.cells (o : Opr) : List Value := [.int .i64 o.k, .int .i64 o.n, .string o.s]
def tOp : Ty Opr where
  sz := 3
  R := fun _ _ x cs => cs = x.cells ∧ (-9223372036854775808 ≤ x.n ∧ x.n ≤ 9223372036854775807)
  len := fun h => by rw [h.1]; rfl
  one := fun {_ _ x _} h u hu => by
    rw [h.1] at hu
    simp only [Opr.cells, List.mem_cons, List.not_mem_nil, or_false] at hu
    rcases hu with rfl | rfl | rfl <;> rfl
  mono := fun _ h => h
  move := fun _ h => h
  bnd := fun h => h
theorem At.c0 {w : World} {ad : Addr} {o : Nat} {cs : List Value} (h : At w ad o cs) {u : Value} (hu : cs[0]? = some u) : w.cell? (ad.add o) = some u := h 0 u hu
theorem At.cj {w : World} {ad : Addr} {o : Nat} {cs : List Value} (h : At w ad o cs) (j : Nat) (hj : 0 < j) {u : Value} (hu : cs[j]? = some u) : w.cell? ⟨(ad.add o).block, (ad.add o).off + j, none⟩ = some u := by
  have := h j u hu
  rw [← add_add, add_pos _ j hj] at this
  exact this
theorem ops_get {ok : Nat → Prop} {w : World} {A : Option Addr} {xs : List Opr} (h : Row tOp ok w A xs) (i : Nat) (hi : i < xs.length) :
    ∃ ad x, A = some ad ∧ xs[i]? = some x ∧ (-9223372036854775808 ≤ x.n ∧ x.n ≤ 9223372036854775807) ∧ w.cell? (ad.add (i * 3)) = some (.int .i64 x.k) ∧ w.cell? ⟨(ad.add (i * 3)).block, (ad.add (i * 3)).off + 1, none⟩ = some (.int .i64 x.n) ∧ w.cell? ⟨(ad.add (i * 3)).block, (ad.add (i * 3)).off + 2, none⟩ = some (.string x.s) := by
  obtain ⟨ad, cs, rfl, _, _, ⟨rfl, hr⟩, ha⟩ := h.get i hi
  exact ⟨ad, xs[i], rfl, List.getElem?_eq_getElem hi, hr, T.At.c0 ha rfl, T.At.cj ha 1 (by omega) rfl, T.At.cj ha 2 (by omega) rfl⟩
/-- Few enough ops, with short texts. -/
def Small (l : List Opr) (most : Nat) : Prop := l.length ≤ most ∧ ∀ o ∈ l, o.s.size ≤ 420
structure SaidG (P : Prop) (e : Ending) : Prop where
  out : ∃ b, e = .returned (.bool b) ∧ (b = false → P)
theorem take1 {α : Type} {l : List α} {i : Nat} {x : α} (h : l[i]? = some x) : l.take (i + 1) = l.take i ++ [x] := by
  obtain ⟨hi, rfl⟩ := List.getElem?_eq_some_iff.1 h
  rw [List.take_add_one, List.getElem?_eq_getElem hi]; rfl
set_option maxHeartbeats 4000000 in
set_option maxRecDepth 100000 in
theorem greatCalls (ok : Nat → Prop) (v : Value) (most : Nat) (l : List Opr) (w : World) (h : Sl tOp ok w v l) (hm : most ≤ 1000) :
    Calls Try.prog 8 #[v, .int .i64 most] w fun e w' => SaidG (Small l most) e ∧ Below w.heap.size w w' := by
  obtain ⟨A, c, rfl, l1, l2, l3⟩ := h.shape
  have KS := put h
  obtain ⟨m, hm'⟩ : ∃ m, m = l.length := ⟨_, rfl⟩
  rw [← hm'] at l1 l3 KS ⊢
  have HM := put hm'
  clear h hm'
  have KT : Kp (SaidG (Small l most) (.returned (.bool true))) := put ⟨true, rfl, fun e => by cases e⟩
  by_cases hg : (m : Int) > (most : Int)
  · go_enter Try.func8, Try.ntmps8
    go_wp2_with fail
    go_ret
    exact ⟨KT.out, Below.refl _ _⟩
  have HG : Kp (m ≤ most) := put (by omega)
  go_enter Try.func8, Try.ntmps8
  go_wp2_with fail
  go_loopg [13] m (fun kx s13 wr => ∃ (i : Nat), s13 = .int .i64 i ∧ i ≤ m ∧ m - i ≤ kx ∧ Kp (∀ o ∈ l.take i, o.s.size ≤ 420) ∧ Kp (Below w.heap.size w wr))
  case atStart => exact ⟨0, rfl, Nat.zero_le _, Nat.le_refl _, put (by simp), put (Below.refl _ _)⟩
  case round =>
    obtain ⟨i, rfl, hi, hkx, HI, KB⟩ := hrel
    by_cases hlt : i < m
    · have hlz : (i : Int) < (m : Int) := by omega
      have i0 : (0 : Int) ≤ (i : Int) := by omega
      have hwr : IntKind.i64.wrap ((i : Int) + 1) = (i : Int) + 1 := IntWalk.i64_in _ (by omega)
      obtain ⟨ad, x, rfl, hx, _, x0, x1, x2⟩ := ops_get (KS.out.below KB.out).row.1 i (by rw [← HM.out]; exact hlt)
      have KX := put hx
      clear hx
      have KB2 := put (bt KB.out (show Below wr.heap.size wr (wr.alloc (.cells #[.int .i64 x.k, .int .i64 x.n, .string x.s] 37)) from balloc (Below.refl _ _) _))
      by_cases h1 : (x.s.size : Int) > 420
      · go_wp2_with fail
        go_ret
        exact ⟨KT.out, KB2.out⟩
      · have BX : Kp (x.s.size ≤ 420) := put (by omega)
        go_wp2_with fail
        go_roundg (m - (i + 1))
        case measure => omega
        case rel => exact ⟨i + 1, rfl, by omega, Nat.le_refl _, put (fun o ho => by
          rw [take1 KX.out] at ho
          rcases List.mem_append.1 ho with ho | ho
          · exact HI.out o ho
          · rw [List.mem_singleton.1 ho]; exact BX.out), KB2⟩
    · have hlz : ¬ (i : Int) < (m : Int) := by omega
      obtain rfl : i = m := by omega
      have KF : Kp (SaidG (Small l most) (.returned (.bool false))) := put ⟨false, rfl, fun _ => ⟨by rw [← HM.out]; exact HG.out, fun o ho => HI.out o (by rw [HM.out, List.take_length]; exact ho)⟩⟩
      go_wp2_with fail
      go_ret
      exact ⟨KF.out, KB.out⟩
/-- s, k times. -/
def repB : Nat → ByteArray → ByteArray
  | 0, _ => ⟨#[]⟩
  | k + 1, s => repB k s ++ s
def opOk (n : Int) (s : ByteArray) : Bool := decide (0 ≤ n ∧ n ≤ 400 ∧ (s.size : Int) * n ≤ 1000)
def opTxt (n : Int) (s : ByteArray) : ByteArray := if opOk n s = true then repB n.toNat s else ⟨#[]⟩
theorem repB_size : ∀ (k : Nat) (s : ByteArray), (repB k s).size = k * s.size
  | 0, s => by rw [Nat.zero_mul]; rfl
  | k + 1, s => by rw [repB, ByteArray.size_append, repB_size k s, Nat.add_mul, Nat.one_mul]
theorem opTxt_size (n : Int) (s : ByteArray) : (opTxt n s).size ≤ 1000 := by
  unfold opTxt
  by_cases h : opOk n s = true
  · rw [if_pos h, repB_size]
    unfold opOk at h
    have h1 := of_decide_eq_true h
    obtain ⟨k, rfl⟩ : ∃ k : Nat, n = k := ⟨n.toNat, by omega⟩
    have h2 : ((s.size * k : Nat) : Int) ≤ 1000 := by rw [Int.natCast_mul]; exact h1.2.2
    rw [Int.toNat_natCast, Nat.mul_comm]
    omega
  · rw [if_neg h]; exact Nat.zero_le _
set_option maxHeartbeats 4000000 in
set_option maxRecDepth 100000 in
theorem textCalls (k n : Int) (s : ByteArray) (w : World) (hs : s.size ≤ 420) :
    Calls Try.prog 12 #[.agg #[.int .i64 k, .int .i64 n, .string s]] w fun e w' => e = .returned (.tuple #[.string (opTxt n s), .bool (opOk n s)]) ∧ Below w.heap.size w w' := by
  obtain ⟨w1, hw1⟩ : ∃ w1, w1 = w.alloc (.cells #[.int .i64 k, .int .i64 n, .string s] 37) := ⟨_, rfl⟩
  have B1 : Kp (Below w.heap.size w w1) := put (by rw [hw1]; exact balloc (Below.refl _ _) _)
  obtain ⟨x0, x1, x2⟩ := c3 (w := w1) (X := w.heap.size) (t := 37) (by rw [hw1]; exact heap_alloc_new _ _)
  have HW := put hw1
  have NO : Kp (opOk n s = false → ∀ e : Ending, e = .returned (.tuple #[.string ⟨#[]⟩, .bool false]) → e = .returned (.tuple #[.string (opTxt n s), .bool (opOk n s)])) := put fun h e he => by
    unfold opTxt
    rw [h, if_neg (by simp)]
    exact he
  clear hw1
  go_enter Try.func12, Try.ntmps12
  by_cases h1 : n < 0
  · go_wp2_with fail
    rw [← HW.out]
    go_ret2
    exact ⟨NO.out (by unfold opOk; exact decide_eq_false (by omega)) _ rfl, B1.out⟩
  by_cases h2 : (400 : Int) < n
  · go_wp2_with fail
    rw [← HW.out]
    go_ret2
    exact ⟨NO.out (by unfold opOk; exact decide_eq_false (by omega)) _ rfl, B1.out⟩
  have hmul : (s.size : Int) * n ≤ 168000 := by
    have h3 : (s.size : Int) * n ≤ 420 * n := Int.mul_le_mul_of_nonneg_right (by omega) (by omega)
    omega
  have hmul0 : 0 ≤ (s.size : Int) * n := Int.mul_nonneg (by omega) (by omega)
  have hw : IntKind.i64.wrap ((s.size : Int) * n) = (s.size : Int) * n := IntWalk.i64_in _ (by omega)
  by_cases h3 : (1000 : Int) < (s.size : Int) * n
  · go_wp2_with fail
    rw [← HW.out]
    go_ret2
    exact ⟨NO.out (by unfold opOk; exact decide_eq_false (by omega)) _ rfl, B1.out⟩
  have OKK : Kp (opOk n s = true) := put (by unfold opOk; exact decide_eq_true (by omega))
  obtain ⟨m, rfl⟩ : ∃ m : Nat, n = (m : Int) := ⟨n.toNat, by omega⟩
  have TX : Kp (opTxt (m : Int) s = repB m s) := put (by unfold opTxt; rw [if_pos OKK.out, Int.toNat_natCast])
  have hm4 : m ≤ 400 := by omega
  go_wp2_with fail
  rw [← HW.out]
  clear hmul hmul0 hw h1 h2 h3
  go_loopg [4, 5] m (fun kx s4 s5 wr => ∃ (i : Nat), s4 = .int .i64 ((i : Nat) : Int) ∧ i ≤ m ∧ i ≤ kx ∧ s5 = .string (repB (m - i) s) ∧ wr = w1)
  case atStart => exact ⟨m, rfl, Nat.le_refl _, Nat.le_refl _, by rw [Nat.sub_self]; rfl, rfl⟩
  case round =>
    obtain ⟨i, rfl, hi, hkx, rfl, rfl⟩ := hrel
    by_cases h0 : i = 0
    · subst h0
      go_wp2_with fail
      go_ret2
      rw [OKK.out, TX.out]
      exact ⟨rfl, B1.out⟩
    · have hp : (0 : Int) < (i : Int) := by omega
      have hwr : IntKind.i64.wrap ((i : Int) - 1) = ((i - 1 : Nat) : Int) := by rw [IntWalk.i64_in _ (by omega)]; omega
      have hcat : ¬ 9223372036854775807 < (repB (m - i) s).size + s.size := by
        rw [repB_size]
        have h1 : (m - i) * s.size ≤ 400 * 420 := Nat.mul_le_mul (by omega) hs
        omega
      have HREP : Kp (repB (m - (i - 1)) s = repB (m - i) s ++ s) := put (by rw [show m - (i - 1) = (m - i) + 1 by omega]; rfl)
      go_wp2_with fail
      go_roundg (i - 1)
      case measure => omega
      case rel => exact ⟨i - 1, rfl, by omega, Nat.le_refl _, by rw [HREP.out], rfl⟩
end Go.Proofs.Ytcpahknlabnnbaa.T

namespace Go.Proofs.Ytcpahknlabnnbaa.T
open Go Go.RowKit Go.Sort Go.Proofs.Ytcpahknlabnnbaa.Mem

/-- What an append of x leaves. -/
structure AppP (O base : Nat) (v : Value) (xs : List ByteArray) (x : ByteArray) (W : World) (e : Ending) (w' : World) : Prop where
  e0 : e = .returned (.bool true)
  out : ∃ v', w'.heap[O]? = some (.cells #[v'] 33 (0, 0)) ∧ Own tStr 9 no w' base v' (xs ++ [x]) ∧ Kps (fun b => b = O ∨ v.ownBlock = some b) W w' ∧ (v'.ownBlock = v.ownBlock ∨ ∃ b, v'.ownBlock = some b ∧ W.heap.size ≤ b)

set_option maxHeartbeats 4000000 in
set_option maxRecDepth 100000 in
theorem allFun (O base : Nat) (v : Value) (xs : List ByteArray) (x : ByteArray) (W : World) (hO : W.heap[O]? = some (.cells #[v] 33 (0, 0))) (ho : Own tStr 9 no W base v xs) (hb : base ≤ W.heap.size) (hOb : O < base) (hl : xs.length ≤ 1000000) :
    Calls Try.prog 34 #[.string x, .pointer (some ⟨O, 0, none⟩)] W (AppP O base v xs x W) := by
  obtain ⟨A, c, rfl, q1, q2⟩ := ho.form
  obtain ⟨n, hn⟩ : ∃ n, n = xs.length := ⟨_, rfl⟩
  rw [← hn] at hO ho q1 hl ⊢
  have HN := put hn
  have x0 : W.cell? ⟨O, 0, none⟩ = some (.slice A n c) := by simp [World.cell?, hO]
  have HO := put hO
  have OW := put ho
  have hOl := (Array.getElem?_eq_some_iff.1 hO).1
  have f0 : ∀ w' : World, w'.heap[O]? = some (.cells #[.slice A n c] 33 (0, 0)) → w'.frozen? ⟨O, 0, none⟩ = false := fun w' h => by simp [World.frozen?, h]
  have F0 := put f0
  clear hO ho hn q1 q2 f0
  go_enter Try.func34, Try.ntmps34
  go_wp2_with (at_builtin; go_loud (refine wpList_push tStr base rfl _ _ 33 9 _ 16 rfl Try.underlying33 infoStr rfl (by decide) (by decide) (.slice A n c) xs x [.string x] no rfl rfl rfl OW.out hb (by rw [← HN.out]; omega) ?_; intro v1 w6 ho hg hat; have hO6 := (hg.block O hOl (fun e => by have := (OW.out.lt O e.symm).1; omega)).trans HO.out; have z0 : w6.cell? ⟨O, 0, none⟩ = some (.slice A n c) := (by simp [World.cell?, hO6]); have z1 := F0.out w6 hO6; obtain ⟨A6, c6, e6, _, _⟩ := ho.form; obtain ⟨n6, hn6⟩ : ∃ n6, n6 = (xs ++ [x]).length := ⟨_, rfl⟩; rw [← hn6] at e6; subst e6; have HO6 := put hO6; have OW6 := put ho; have HG6 := put hg; have HAT := put hat; clear hn6 hO6 ho hg hat))
  go_ret
  refine ⟨rfl, _, (setCell_heap HO6.out 0 _).trans rfl, OW6.out.far (fun k hk e => by have := (OW6.out.lt k hk).1; have h2 : k = O := e; omega) (fun _ hk => hk.elim) _, ?_, HAT.out⟩
  refine Kps.set ⟨HG6.out.os, HG6.out.tape, HG6.out.output, HG6.out.size, fun k hk hs => HG6.out.block k hk (fun e => hs (.inr e.symm))⟩ (.inl (.inl rfl)) 0 _

set_option maxHeartbeats 4000000 in
set_option maxRecDepth 100000 in
theorem rngFun (O base : Nat) (v : Value) (xs : List ByteArray) (x : ByteArray) (W : World) (hO : W.heap[O]? = some (.cells #[v] 33 (0, 0))) (ho : Own tStr 9 no W base v xs) (hb : base ≤ W.heap.size) (hOb : O < base) (hl : xs.length ≤ 1000000) :
    Calls Try.prog 19 #[.string x, .pointer (some ⟨O, 0, none⟩)] W (AppP O base v xs x W) := by
  obtain ⟨A, c, rfl, q1, q2⟩ := ho.form
  obtain ⟨n, hn⟩ : ∃ n, n = xs.length := ⟨_, rfl⟩
  rw [← hn] at hO ho q1 hl ⊢
  have HN := put hn
  have x0 : W.cell? ⟨O, 0, none⟩ = some (.slice A n c) := by simp [World.cell?, hO]
  have HO := put hO
  have OW := put ho
  have hOl := (Array.getElem?_eq_some_iff.1 hO).1
  have f0 : ∀ w' : World, w'.heap[O]? = some (.cells #[.slice A n c] 33 (0, 0)) → w'.frozen? ⟨O, 0, none⟩ = false := fun w' h => by simp [World.frozen?, h]
  have F0 := put f0
  clear hO ho hn q1 q2 f0
  go_enter Try.func19, Try.ntmps19
  go_wp2_with (at_builtin; go_loud (refine wpList_push tStr base rfl _ _ 33 9 _ 16 rfl Try.underlying33 infoStr rfl (by decide) (by decide) (.slice A n c) xs x [.string x] no rfl rfl rfl OW.out hb (by rw [← HN.out]; omega) ?_; intro v1 w6 ho hg hat; have hO6 := (hg.block O hOl (fun e => by have := (OW.out.lt O e.symm).1; omega)).trans HO.out; have z0 : w6.cell? ⟨O, 0, none⟩ = some (.slice A n c) := (by simp [World.cell?, hO6]); have z1 := F0.out w6 hO6; obtain ⟨A6, c6, e6, _, _⟩ := ho.form; obtain ⟨n6, hn6⟩ : ∃ n6, n6 = (xs ++ [x]).length := ⟨_, rfl⟩; rw [← hn6] at e6; subst e6; have HO6 := put hO6; have OW6 := put ho; have HG6 := put hg; have HAT := put hat; clear hn6 hO6 ho hg hat))
  go_ret
  refine ⟨rfl, _, (setCell_heap HO6.out 0 _).trans rfl, OW6.out.far (fun k hk e => by have := (OW6.out.lt k hk).1; have h2 : k = O := e; omega) (fun _ hk => hk.elim) _, ?_, HAT.out⟩
  refine Kps.set ⟨HG6.out.os, HG6.out.tape, HG6.out.output, HG6.out.size, fun k hk hs => HG6.out.block k hk (fun e => hs (.inr e.symm))⟩ (.inl (.inl rfl)) 0 _

/-- What such a closure may touch. -/
def SFa (O : Nat) (W : World) (b : Nat) : Prop := b = O ∨ ∃ v, W.heap[O]? = some (.cells #[v] 33 (0, 0)) ∧ v.ownBlock = some b
/-- j entries are told. -/
structure Pa (O base : Nat) (G : List ByteArray) (to : ByteArray) (j : Nat) (W : World) : Prop where
  out : ∃ v, W.heap[O]? = some (.cells #[v] 33 (0, 0)) ∧ Own tStr 9 no W base v (G.take j)
  all : ∀ y ∈ G.take j, to = ⟨#[]⟩ ∨ ltB y to = true
  b : base ≤ W.heap.size
  o : O < base
def Fa (O base : Nat) (G : List ByteArray) (to : ByteArray) (W : World) : Prop := ∃ (j : Nat) (x : ByteArray), G[j]? = some x ∧ to ≠ ⟨#[]⟩ ∧ ltB x to = false ∧ Pa O base G to j W
theorem cb_app {g : Nat} (O base : Nat) (G : List ByteArray) (to : ByteArray) (hG : G.length ≤ 1000000) (hf : ∀ (v : Value) (xs : List ByteArray) (x : ByteArray) (W : World), W.heap[O]? = some (.cells #[v] 33 (0, 0)) → Own tStr 9 no W base v xs → base ≤ W.heap.size → O < base → xs.length ≤ 1000000 → Calls Try.prog g #[.string x, .pointer (some ⟨O, 0, none⟩)] W (AppP O base v xs x W)) (he : ∀ args w, (callFunc g args).run Try.prog w = .ok (.enter g args) w) :
    Cb g #[] #[.pointer (some ⟨O, 0, none⟩)] (SFa O) (Pa O base G to) (Fa O base G to) G to := by
  refine ⟨fun j x W hx ht hP => ?_, fun j x W hx h1 h2 hP => ⟨j, x, hx, h1, h2, hP⟩, fun j W W' hP hb => ?_, he⟩
  · obtain ⟨v, hv, ho⟩ := hP.out
    refine (hf v _ x W hv ho hP.b hP.o (by rw [List.length_take]; omega)).mono ?_
    rintro e w' ⟨rfl, v', h1, h2, h3, h4⟩
    refine ⟨true, rfl, ⟨⟨⟨v', h1, by rw [take1 hx]; exact h2⟩, fun y hy => ?_, Nat.le_trans hP.b h3.size, hP.o⟩⟩, ⟨h3.mono fun b hb => ?_, fun b hb hs => ?_⟩⟩
    · rw [take1 hx] at hy
      rcases List.mem_append.1 hy with hy | hy
      · exact hP.all y hy
      · rw [List.mem_singleton.1 hy]; exact ht
    · rcases hb with hb | hb
      · exact .inl hb
      · exact .inr ⟨v, hv, hb⟩
    · rcases hs with hs | ⟨v2, hv2, hs⟩
      · exact .inl hs
      · rw [h1] at hv2
        injection hv2 with hv2
        injection hv2 with hv2
        have hv2 : v' = v2 := by simpa using hv2
        subst hv2
        rcases h4 with h4 | ⟨b', h4, h5⟩
        · exact .inr ⟨v, hv, by rw [← h4]; exact hs⟩
        · rw [h4] at hs
          injection hs with hs
          omega
  · obtain ⟨v, hv, ho⟩ := hP.out
    have hOl := (Array.getElem?_eq_some_iff.1 hv).1
    have hv' := (hb.block O hOl).trans hv
    refine ⟨⟨⟨v, hv', ho.below hb⟩, hP.all, Nat.le_trans hP.b hb.size, hP.o⟩, fun b _ hs => ?_⟩
    rcases hs with rfl | ⟨v2, hv2, hs⟩
    · exact ⟨.inl rfl, hOl⟩
    · rw [hv'] at hv2
      injection hv2 with hv2
      injection hv2 with hv2
      have hv2 : v = v2 := by simpa using hv2
      subst hv2
      exact ⟨.inr ⟨v, hv, hs⟩, (ho.lt b hs).2⟩
theorem from_nil (es : List ByteArray) : fromE ⟨#[]⟩ es = es := by
  refine fromE_all fun x _ => ?_
  cases h : ltB x ⟨#[]⟩ with
  | false => rfl
  | true =>
    rw [ltB_iff, nilB] at h
    exact absurd h (List.not_lt_nil _)
set_option maxHeartbeats 4000000 in
set_option maxRecDepth 100000 in
/-- All. -/
theorem allCalls {μ : Nat → Nat} {ok : Nat → Prop} (T a h i : Nat) (n : Int) (A : Ar) (es : List ByteArray) (ps : List Nat) (w : World) (t : TrR T a w ((i : Int) + 1) ((h : Int) + 1) n) (hs : Sub μ A h i top es ps) (ha : ArX ok w a A) (hl : es.length ≤ 1000000) :
    Calls Try.prog 16 #[.pointer (some ⟨T, 0, none⟩)] w fun e w' => ∃ v, e = .returned v ∧ RdE Value.string (fun k => w.heap.size ≤ k ∧ k < w'.heap.size) w' v es ∧ Below w.heap.size w w' := by
  obtain ⟨w2, hw2⟩ : ∃ w2, w2 = w.alloc (.cells #[.slice none 0 0] 33) := ⟨_, rfl⟩
  have s2 : w2.heap.size = w.heap.size + 1 := by rw [hw2, alloc_size]
  have hb2 : Below w.heap.size w w2 := by rw [hw2]; exact balloc (Below.refl _ _) _
  have hO : w2.heap[w.heap.size]? = some (.cells #[.slice none 0 0] 33 (0, 0)) := by rw [hw2]; exact heap_alloc_new _ _
  have hcb := cb_app (g := 34) w.heap.size (w.heap.size + 1) (fromE ⟨#[]⟩ es) ⟨#[]⟩ (by rw [from_nil]; exact hl) (fun v xs x W h1 h2 h3 h4 h5 => allFun w.heap.size _ v xs x W h1 h2 h3 h4 h5) (enters_of Try.func34 (by kernel_rfl) rfl)
  have hsf : ∀ b, SFa w.heap.size w2 b → b = w.heap.size := fun b hb => by
    rcases hb with hb | ⟨v, hv, hb⟩
    · exact hb
    · rw [hO] at hv
      injection hv with hv
      injection hv with hv
      have hv : Value.slice none 0 0 = v := by simpa using hv
      subst hv
      simp [Value.ownBlock] at hb
  have E := put (eachCalls (ok := fun b => ok b ∧ b < w.heap.size) T a h i ((h : Int) + 1) n A top es ps w2 hcb (t.below hb2) (by omega) hs (ha.bnd.below hb2) (fun b hb => ⟨by omega, fun e => by have := hsf b e; have := hb.2; omega⟩) (fun e => by have := hsf T e; have := t.lt; omega) ⟨⟨_, hO, by rw [List.take_zero]; exact Own.nil _ _ _ _ _⟩, by simp, by omega, by omega⟩)
  have HW := put hw2
  have B2 := put hb2
  have HSF := put hsf
  clear hw2 hb2 hO hcb t hs ha hsf
  go_enter Try.func16, Try.ntmps16
  go_wp2_with fail
  rw [← HW.out]
  refine E.out.mono ?_
  rintro e w3 ⟨rfl, ⟨b, hA⟩, hF⟩
  have hP : Pa w.heap.size (w.heap.size + 1) (fromE ⟨#[]⟩ es) ⟨#[]⟩ (fromE ⟨#[]⟩ es).length w3 := by
    have h1 := hA.out
    cases b with
    | true => exact h1
    | false =>
      obtain ⟨_, _, _, h2, _⟩ := h1
      exact absurd rfl h2
  obtain ⟨v, hv, ho⟩ := hP.out
  rw [from_nil, List.take_length] at ho
  obtain ⟨Av, cv, rfl, _, _⟩ := ho.form
  have x0 : w3.cell? ⟨w.heap.size, 0, none⟩ = some (.slice Av es.length cv) := by simp [World.cell?, hv]
  have BF : Kp (Below w.heap.size w w3) := put (B2.out.trans (hF.k.below (fun k hk => by have := HSF.out k hk; omega) B2.out.size))
  have RD : Kp (RdE Value.string (fun k => w.heap.size ≤ k ∧ k < w3.heap.size) w3 (.slice Av es.length cv) es) := put ((own_rd strD rfl ho).mono fun k hk => by have := ho.lt k hk; omega)
  clear hA hF hv hP ho
  go_wp2_with fail
  go_ret
  exact ⟨_, rfl, RD.out, BF.out⟩
end Go.Proofs.Ytcpahknlabnnbaa.T

namespace Go.Proofs.Ytcpahknlabnnbaa.T
open Go Go.RowKit Go.Sort Go.Proofs.Ytcpahknlabnnbaa.Mem

theorem Own.lit' {α : Type} (d : Ty α) {E : TypeId} {ok : Nat → Prop} {w : World} {base b : Nat} (h : w.heap[b]? = some (.cells #[] E (0, 0))) (hb : base ≤ b) : Own d E ok w base (.slice (some ⟨b, 0, none⟩) 0 0) [] :=
  ⟨[], rfl, ⟨by simp, .inr ⟨b, 0, #[], rfl, hb, h, Nat.le_refl _, by simp, by simp, by simp⟩⟩, fun i x c h => by simp at h⟩

theorem lit_sl {α : Type} {d : Ty α} {E : TypeId} {ok : Nat → Prop} {w : World} {b : Nat} {p : α} {cs : List Value} (h : w.heap[b]? = some (.cells cs.toArray E (0, 0))) (hr : d.R ok w p cs) (hb : ok b) : Sl d ok w (.slice (some ⟨b, 0, none⟩) 1 1) [p] :=
  ⟨_, 1, rfl, Nat.le_refl _, by omega, by simp, (fun e => by cases e), fun _ => ⟨_, rfl, hb, (Array.getElem?_eq_some_iff.1 h).1, fun i x hx => by
    rcases i with _ | i
    · simp only [List.getElem?_cons_zero, Option.some.injEq] at hx
      subst hx
      refine ⟨cs, hr, fun j u hu => ?_⟩
      rw [Nat.zero_mul, Nat.zero_add]
      exact Go.World.news_of_block h j u (by simpa using hu)
    · simp at hx⟩⟩

theorem ne_new {k B b n c : Nat} (h : k < B) (hb : B ≤ b) : some k ≠ (Value.slice (some ⟨b, 0, none⟩) n c).ownBlock := fun e => by
  simp only [Value.ownBlock, Option.some.injEq] at e
  omega
theorem lit_block {B b n c : Nat} (hb : B ≤ b) : ∀ k, (Value.slice (some ⟨b, 0, none⟩) n c).ownBlock = some k → B ≤ k := fun k e => by
  simp only [Value.ownBlock, Option.some.injEq] at e
  omega
theorem ne_own {α : Type} {d : Ty α} {E base k : Nat} {ok : Nat → Prop} {w : World} {v : Value} {xs : List α} (h : Own d E ok w base v xs) (hk : k < base) : some k ≠ v.ownBlock := fun e => by have := (h.lt k e.symm).1; omega
theorem ne_fresh {α : Type} {d : Ty α} {E base : Nat} {ok : Nat → Prop} {w : World} {v : Value} {xs : List α} (h : Own d E ok w base v xs) : some w.heap.size ≠ v.ownBlock := fun e => by have := (h.lt _ e.symm).2; omega
theorem ne_grown {v1 v : Value} {S b : Nat} (hat : v1.ownBlock = v.ownBlock ∨ ∃ b', v1.ownBlock = some b' ∧ S ≤ b') (h1 : some b ≠ v.ownBlock) (h2 : b < S) : some b ≠ v1.ownBlock := fun e => by
  rcases hat with h | ⟨b', h3, h4⟩
  · exact h1 (e.trans h)
  · rw [h3] at e
    simp only [Option.some.injEq] at e
    omega
theorem ne_lit {b b' n c : Nat} (h : b ≠ b') : some b ≠ (Value.slice (some ⟨b', 0, none⟩) n c).ownBlock := fun e => h (by simpa [Value.ownBlock] using e)
theorem pushS {ops : Array Oper} {o : Oper} {a : Act} {W : World} {K : Act → World → Prop} {Q : Exit → Act → World → Prop} {E : Prop} {wk : World} (hgd : o.guard = Option.none) (s x : Operand)
    (ho : o.op = .call { callee := .builtin .append, args := #[s, x], argTypes := #[33, 33] })
    (v u : Value) (xs ys : List ByteArray) (okp : Nat → Prop) (hs : a.eval s = v) (hx : a.eval x = u)
    (HS : Sl tStr okp W u ys) (hokp : ∀ k, okp k → some k ≠ v.ownBlock) (HO : Own tStr 9 (fun _ => True) W wk.heap.size v xs) (hb : Below wk.heap.size wk W) (hl : xs.length + ys.length ≤ 3000000)
    (h : ∀ (V : Option Addr) (n c : Nat) (w1 : World), n = (xs ++ ys).length → Own tStr 9 (fun _ => True) w1 wk.heap.size (.slice V n c) (xs ++ ys) → Below wk.heap.size wk w1 → W.grownBy w1 v.ownBlock → ((Value.slice V n c).ownBlock = v.ownBlock ∨ ∃ b, (Value.slice V n c).ownBlock = some b ∧ W.heap.size ≤ b) → K (a.put o.dst (.slice V n c)) w1) :
    if Region.wanted o (yielded ops a.tmps) = true then Oper.wp Try.prog o a W K Q else E := by
  refine step_pushes tStr wk.heap.size hgd s x 33 9 _ 16 ho Try.underlying33 infoStr rfl (by decide) (by decide) v u xs ys (fun _ => True) okp hs hx HS (fun k hk => ⟨trivial, hokp k hk⟩) HO hb.size (by omega) (fun v1 w1 h1 h2 h3 => ?_)
  have hbw : Below wk.heap.size wk w1 := Below.grown hb h2 hb.size (fun k hk => (HO.lt k hk).1)
  obtain ⟨V, c, e, _, _⟩ := h1.form
  subst e
  exact h V _ c w1 rfl h1 hbw h2 h3
theorem frz {w w' : World} {S : Nat} {v : Value} {t : TypeId} (hb : Below w.heap.size w w') (h : w.heap[S]? = some (.cells #[v] t (0, 0))) : w'.frozen? ⟨S, 0, none⟩ = false := by
  have := (hb.block S (Array.getElem?_eq_some_iff.1 h).1).trans h
  simp [World.frozen?, this]
/-- A rising list in memory: its box S, its row's block in D. -/
structure SetR (D : Nat → Prop) (S : Nat) (w : World) (l : List ByteArray) : Prop where
  s : D S
  out : ∃ v, w.heap[S]? = some (.cells #[v] 35 (0, 0)) ∧ RdE Value.string D w v l
  r : Rise l
/-- What a change of it leaves. -/
structure SetP (S : Nat) (w : World) (l : List ByteArray) (c : Int) (e : Ending) (w' : World) : Prop where
  e0 : e = .returned (.int .i64 c)
  s : SetR (fun k => k = S ∨ (w.heap.size ≤ k ∧ k < w'.heap.size)) S w' l
  k : Kps (fun k => k = S) w w'
theorem own_set {wk w9 : World} {S : Nat} {v3 : Value} {l2 : List ByteArray} {v0 : Value} (hb : Below wk.heap.size wk w9) (hS : wk.heap[S]? = some (.cells #[v0] 35 (0, 0))) (ho : Own tStr 9 (fun _ => True) w9 wk.heap.size v3 l2) : (w9.setCell ⟨S, 0, none⟩ v3).heap[S]? = some (.cells #[v3] 35 (0, 0)) ∧ RdE Value.string (fun k => k = S ∨ (wk.heap.size ≤ k ∧ k < (w9.setCell ⟨S, 0, none⟩ v3).heap.size)) (w9.setCell ⟨S, 0, none⟩ v3) v3 l2 ∧ Kps (fun k => k = S) wk (w9.setCell ⟨S, 0, none⟩ v3) := by
  have hl := (Array.getElem?_eq_some_iff.1 hS).1
  refine ⟨(setCell_heap ((hb.block S hl).trans hS) 0 _).trans rfl, ?_, (below_kps hb (fun k => k = S)).set (.inl rfl) 0 _⟩
  have h2 := own_rd strD rfl ho
  have h3 := h2.bnd.mono (ok' := fun k => wk.heap.size ≤ k ∧ k < w9.heap.size) fun k hk => (ho.lt k hk.1)
  refine (h3.kps ((Kps.refl (fun k => k = S) w9).set (.inl rfl) 0 v3) (fun k hk _ e => by have := hk.1; omega)).mono fun k hk => .inr ⟨hk.1, by rw [World.size_setCell]; exact hk.2⟩

set_option maxHeartbeats 16000000 in
set_option maxRecDepth 100000 in
theorem setDelete {D : Nat → Prop} (S : Nat) (l : List ByteArray) (s : ByteArray) (w : World) (h : SetR D S w l) (hl : l.length ≤ 1000000) :
    Calls Try.prog 30 #[.pointer (some ⟨S, 0, none⟩), .string s] w fun e w' => (hasB s l = false ∧ e = .returned (.int .i64 2) ∧ Below w.heap.size w w') ∨ (hasB s l = true ∧ SetP S w (dropE l s) 0 e w') := by
  obtain ⟨v, hS, hrd⟩ := h.out
  have AC := put (atCalls D S v l s w hS hrd h.r hl)
  obtain ⟨A, c, rfl, hmc, hcc, _⟩ := hrd.shape
  have HS := put hS
  have HRD := put hrd
  have HR := put h.r
  obtain ⟨m, hm⟩ : ∃ m, m = l.length := ⟨_, rfl⟩
  rw [← hm] at hl hmc HS HRD
  have HM := put hm
  clear hS hrd h hm
  go_enter Try.func30, Try.ntmps30
  go_wp2_with fail
  refine AC.out.mono ?_
  rintro e wk ⟨rfl, hbk⟩
  have BK := put hbk
  obtain ⟨bb, hbb⟩ : ∃ bb, bb = hasB s l := ⟨_, rfl⟩
  rw [← hbb]
  have HBB := put hbb
  clear hbb
  cases bb with
  | false =>
    go_wp2_with fail
    go_ret
    exact .inl ⟨HBB.out.symm, rfl, BK.out⟩
  | true =>
    obtain ⟨q, hq⟩ : ∃ q, q = posS l s := ⟨_, rfl⟩
    rw [← hq]
    have HQ := put hq
    have hqm : q < m := by have := (List.getElem?_eq_some_iff.1 ((posS_there HR.out).2 (hasB_true.1 HBB.out.symm))).1; have := HM.out; omega
    have hSh := (hbk.block S (Array.getElem?_eq_some_iff.1 HS.out).1).trans HS.out
    have hSl := (Array.getElem?_eq_some_iff.1 hSh).1
    have x0 : wk.cell? ⟨S, 0, none⟩ = some (.slice A m c) := by simp [World.cell?, hSh]
    have OS : Sl tStr (fun k => k < wk.heap.size) wk (.slice A m c) l := rd_sl strD rfl ((HRD.out.below hbk).bnd.mono fun k hk => hk.2) (by have := HM.out; omega)
    have FIN : Kp (∀ (V : Option Addr) (n3 c3 : Nat) (w9 : World), Own tStr 9 (fun _ => True) w9 wk.heap.size (.slice V n3 c3) (l.take q ++ l.drop (q + 1)) → Below wk.heap.size wk w9 → SetP S w (dropE l s) 0 (.returned (.int .i64 0)) (w9.setCell ⟨S, 0, none⟩ (.slice V n3 c3))) := put fun V n3 c3 w9 ho hb => by
      have he : l.take q ++ l.drop (q + 1) = dropE l s := by unfold dropE; rw [← HQ.out]
      rw [he] at ho
      obtain ⟨g1, g2, g3⟩ := own_set hb hSh ho
      have hbs := BK.out.size
      refine ⟨rfl, ⟨.inl rfl, ⟨_, g1, g2.mono fun k hk => ?_⟩, dropE_rise HR.out⟩, (below_kps BK.out _).trans g3⟩
      rcases hk with hk | hk
      · exact .inl hk
      · exact .inr ⟨by omega, hk.2⟩
    clear hbk hq
    have hdd : (q + 1) ≤ m := by omega
    have OT : Kp (∀ W, Below wk.heap.size wk W → Sl tStr (fun k => k < wk.heap.size) W (.slice A q c) (l.take q)) := put (fun W hb => (OS.take (n := q) (by omega)).below hb)
    have OD : Sl tStr (fun k => k < wk.heap.size) wk (.slice (if c = (q + 1) then A else A.map (fun x => x.add ((q + 1)))) (m - (q + 1)) (c - (q + 1))) (l.drop (q + 1)) := by
      have h1 := OS.drop (n := (q + 1)) hdd
      rwa [show (q + 1) * tStr.sz = (q + 1) from Nat.mul_one _] at h1
    have q0 : (0 : Int) ≤ (q : Int) := by omega
    have q1 : (q : Int) ≤ (m : Int) := by omega
    have q2 : (q : Int) ≤ (c : Int) := by omega
    have htl : Kp ((l.take q).length = q) := put (by rw [List.length_take]; have := HM.out; omega)
    have hdl : Kp ((l.drop (q + 1)).length = m - (q + 1)) := put (by rw [List.length_drop, ← HM.out])
    have LN1 : Kp (([] : List ByteArray).length + (l.take q).length ≤ 3000000) := put (by rw [htl.out]; simp only [List.length_nil]; omega)
    have htl1 : Kp (([] ++ l.take q).length = q) := put (by rw [List.nil_append]; exact htl.out)
    have q3 : (q : Int) + 1 ≤ (m : Int) := by omega
    have q4 : (q : Int) + 1 ≤ (c : Int) := by omega
    have q5 : (0 : Int) ≤ (q : Int) + 1 := by omega
    have q6 : IntKind.i64.wrap ((q : Int) + 1) = (q : Int) + 1 := IntWalk.i64_in _ (by omega)
    have q7 : ((q : Int) + 1).toNat = q + 1 := by omega
    have LN3 : Kp ((l.take q).length + (l.drop (q + 1)).length ≤ 3000000) := put (by rw [htl.out, hdl.out]; omega)
    clear OS
    have ODD := put OD
    clear OD
    go_wp2_with fail
    refine wp_region_noPanic ?_
    refine wp_region_held_drew (S := (fun _ => True)) (by kernel_rfl) trivial (fun hHeld => ?_)
    refine wpAnyH_take (i := 0) (v := ?_) rfl (by kernel_rfl) (by kernel_rfl) (by kernel_rfl) (fun _ _ _ h => h) (Or.inl ⟨by kernel_rfl, ?_⟩) (by assumption) ?_
    rotate_left
    focus (intro w hSw; (try dsimp only at hSw); go_simp; (try with_reducible rfl); done)
    refine wpAnyH_take (i := 2) (v := ?_) rfl (by kernel_rfl) (by kernel_rfl) (by kernel_rfl) (fun _ _ _ h => h) (Or.inl ⟨by kernel_rfl, ?_⟩) (by assumption) ?_
    rotate_left
    focus (intro w hSw; (try dsimp only at hSw); go_simp; (try with_reducible rfl); done)
    refine wpAnyH_take (i := 3) (v := ?_) rfl (by kernel_rfl) (by kernel_rfl) (by kernel_rfl) (fun _ _ _ h => h) (Or.inl ⟨by kernel_rfl, ?_⟩) (by assumption) ?_
    rotate_left
    focus (intro w hSw; (try dsimp only at hSw); go_simp; (try with_reducible rfl); done)
    refine wpAnyH_take (i := 4) (v := ?_) rfl (by kernel_rfl) (by kernel_rfl) (by kernel_rfl) (fun _ _ _ h => h) (Or.inl ⟨by kernel_rfl, ?_⟩) (by assumption) ?_
    rotate_left
    focus (intro w hSw; (try dsimp only at hSw); go_simp; (try with_reducible rfl); done)
    refine wpAnyH_take (i := 6) (v := ?_) rfl (by kernel_rfl) (by kernel_rfl) (by kernel_rfl) (fun _ _ _ h => h) (Or.inl ⟨by kernel_rfl, ?_⟩) (by assumption) ?_
    rotate_left
    focus (intro w hSw; (try dsimp only at hSw); go_simp; (try with_reducible rfl); done)
    refine wpAnyH_take (i := 9) (v := ?_) rfl (by kernel_rfl) (by kernel_rfl) (by kernel_rfl) (fun _ _ _ h => h) (Or.inl ⟨by kernel_rfl, ?_⟩) (by assumption) ?_
    rotate_left
    focus (intro w hSw; (try dsimp only at hSw); go_simp; (try with_reducible rfl); done)
    refine wpAnyH_take (i := 10) (v := ?_) rfl (by kernel_rfl) (by kernel_rfl) (by kernel_rfl) (fun _ _ _ h => h) (Or.inl ⟨by kernel_rfl, ?_⟩) (by assumption) ?_
    rotate_left
    focus (intro w hSw; (try dsimp only at hSw); go_simp; (try with_reducible rfl); done)
    refine wpAnyH_take (i := 11) (v := ?_) rfl (by kernel_rfl) (by kernel_rfl) (by kernel_rfl) (fun _ _ _ h => h) (Or.inl ⟨by kernel_rfl, ?_⟩) (by assumption) ?_
    rotate_left
    focus (intro w hSw; (try dsimp only at hSw); go_simp; (try with_reducible rfl); done)
    refine wpAnyH_take (i := 13) (v := ?_) rfl (by kernel_rfl) (by kernel_rfl) (by kernel_rfl) (fun _ _ _ h => h) (Or.inl ⟨by kernel_rfl, ?_⟩) (by assumption) ?_
    rotate_left
    focus (intro w hSw; (try dsimp only at hSw); go_simp; (try with_reducible rfl); done)
    refine wpAnyH_take (i := 14) (v := ?_) rfl (by kernel_rfl) (by kernel_rfl) (by kernel_rfl) (fun _ _ _ h => h) (Or.inl ⟨by kernel_rfl, ?_⟩) (by assumption) ?_
    rotate_left
    focus (intro w hSw; (try dsimp only at hSw); go_simp; (try with_reducible rfl); done)
    try simp only [List.getElem_toArray, List.getElem_cons_succ, List.getElem_cons_zero, Act.put, List.setIfInBounds_toArray, List.set_cons_zero, List.set_cons_succ]
    refine wpAnyH_ready (rs := [1, 5, 12]) (by kernel_rfl) (by simp) ?_
    refine AllReadyH.cons rfl (fun JJ hJJ => ?_) ?_
    · go_simp
      refine hJJ.out _ _ trivial (fun hHeld => ?_)
      clear hJJ JJ
      try simp only [List.getElem_toArray, List.getElem_cons_succ, List.getElem_cons_zero, Act.put, List.setIfInBounds_toArray, List.set_cons_zero, List.set_cons_succ]
      refine wpAnyH_ready (rs := [5, 12]) (by kernel_rfl) (by simp) ?_
      refine AllReadyH.cons rfl (fun JJ hJJ => ?_) ?_
      · go_simp
        refine hJJ.out _ _ trivial (fun hHeld => ?_)
        clear hJJ JJ
        refine wpAnyH_take (i := 7) (v := ?_) rfl (by kernel_rfl) (by kernel_rfl) (by kernel_rfl) (fun _ _ _ h => h) (Or.inl ⟨by kernel_rfl, ?_⟩) (by assumption) ?_
        rotate_left
        focus (intro w hSw; (try dsimp only at hSw); go_simp; (try with_reducible rfl); done)
        try simp only [List.getElem_toArray, List.getElem_cons_succ, List.getElem_cons_zero, Act.put, List.setIfInBounds_toArray, List.set_cons_zero, List.set_cons_succ]
        refine wpAnyH_ready (rs := [8, 12]) (by kernel_rfl) (by simp) ?_
        refine AllReadyH.cons rfl (fun JJ hJJ => ?_) ?_
        · (refine pushS rfl _ _ rfl (.slice (some ⟨_, 0, none⟩) 0 0) (.slice A q c) [] (l.take q) (fun k => k < wk.heap.size) rfl rfl (OT.out _ (by (repeat (first | with_reducible exact (Below.refl _ _) | with_reducible apply Below.drew | with_reducible refine balloc ?_ _)))) (fun k hk => ne_new hk (by (first | exact Nat.le_refl _ | exact Nat.le_succ _))) (Own.lit' _ (by (simp only [heap_alloc_get, heap_drew_get] <;> simp <;> done)) (by (first | exact Nat.le_refl _ | exact Nat.le_succ _))) (by (repeat (first | with_reducible exact (Below.refl _ _) | with_reducible apply Below.drew | with_reducible refine balloc ?_ _))) LN1.out ?_; intro V1 n1 c1 w7 e1 ho1 hb7 hg1 hat1; rw [htl1.out] at e1; subst n1; have g0 := (hb7.cell hSl).trans x0; have hS7 := Nat.lt_of_lt_of_le hSl hb7.size; have OW1 := put ho1; have HB7 := put hb7; have HG1 := put hg1; have HAT1 := put hat1; clear ho1 hg1 hat1 hb7)
          refine hJJ.out _ _ trivial (fun hHeld => ?_)
          clear hJJ JJ
          try simp only [List.getElem_toArray, List.getElem_cons_succ, List.getElem_cons_zero, Act.put, List.setIfInBounds_toArray, List.set_cons_zero, List.set_cons_succ]
          refine wpAnyH_ready (rs := [12]) (by kernel_rfl) (by simp) ?_
          refine AllReadyH.cons rfl (fun JJ hJJ => ?_) AllReadyH.nil
          go_simp
          refine hJJ.out _ _ trivial (fun hHeld => ?_)
          clear hJJ JJ
          refine wpAnyH_take (i := 15) (v := ?_) rfl (by kernel_rfl) (by kernel_rfl) (by kernel_rfl) (fun _ _ _ h => h) (Or.inl ⟨by kernel_rfl, ?_⟩) (by assumption) ?_
          rotate_left
          focus (intro w hSw; (try dsimp only at hSw); go_simp; (try with_reducible rfl); done)
          try simp only [List.getElem_toArray, List.getElem_cons_succ, List.getElem_cons_zero, Act.put, List.setIfInBounds_toArray, List.set_cons_zero, List.set_cons_succ]
          refine wpAnyH_ready (rs := [16]) (by kernel_rfl) (by simp) ?_
          refine AllReadyH.cons rfl (fun JJ hJJ => ?_) AllReadyH.nil
          (refine pushS rfl _ _ rfl (.slice V1 q c1) (.slice (if c = (q + 1) then A else A.map (fun x => x.add ((q + 1)))) (m - (q + 1)) (c - (q + 1))) (l.take q) (l.drop (q + 1)) (fun k => k < wk.heap.size) rfl rfl (ODD.out.below (by (repeat (first | with_reducible exact (Below.refl _ _) | with_reducible exact HB7.out | with_reducible apply Below.drew | with_reducible refine balloc ?_ _)))) (fun k hk => ne_own OW1.out hk) (OW1.out.below (by (repeat (first | with_reducible exact (Below.refl _ _) | with_reducible apply Below.drew | with_reducible refine balloc ?_ _)))) (by (repeat (first | with_reducible exact (Below.refl _ _) | with_reducible exact HB7.out | with_reducible apply Below.drew | with_reducible refine balloc ?_ _))) LN3.out ?_; intro V3 l3 c3' w9 e3 ho3 hb9 hg3 hat3; have z0 := (hb9.cell hSl).trans x0; have f0 := frz hb9 hSh; have OW3 := put ho3; have HB9 := put hb9; clear ho3 hg3 hat3 hb9 e3)
          refine hJJ.out _ _ trivial (fun hHeld => ?_)
          clear hJJ JJ
          refine wpAnyH_take (i := 17) (v := ?_) rfl (by kernel_rfl) (by kernel_rfl) (by kernel_rfl) (fun _ _ _ h => h) (Or.inl ⟨by kernel_rfl, ?_⟩) (by assumption) ?_
          rotate_left
          focus (intro w hSw; (try dsimp only at hSw); go_simp; (try with_reducible rfl); done)
          refine wpAnyH_take (i := 18) (v := ?_) rfl (by kernel_rfl) (by kernel_rfl) (by kernel_rfl) (fun _ _ _ h => h) (Or.inl ⟨by kernel_rfl, ?_⟩) (by assumption) ?_
          rotate_left
          focus (intro w hSw; (try dsimp only at hSw); go_simp; (try with_reducible rfl); done)
          try simp only [List.getElem_toArray, List.getElem_cons_succ, List.getElem_cons_zero, Act.put, List.setIfInBounds_toArray, List.set_cons_zero, List.set_cons_succ]
          refine wpAnyH_ready (rs := [19]) (by kernel_rfl) (by simp) ?_
          refine AllReadyH.cons rfl (fun JJ hJJ => ?_) AllReadyH.nil
          go_simp
          refine hJJ.out _ _ trivial (fun hHeld => ?_)
          clear hJJ JJ
          try simp only [List.getElem_toArray, List.getElem_cons_succ, List.getElem_cons_zero, Act.put, List.setIfInBounds_toArray, List.set_cons_zero, List.set_cons_succ]
          refine wpAnyH_done (by kernel_rfl) ?_ _
          refine NoPanic.normal ?_
          go_wp2_with fail
          all_goals (go_ret; exact .inr ⟨HBB.out.symm, FIN.out _ _ _ _ OW3.out HB9.out⟩)
        refine AllReadyH.cons rfl (fun JJ hJJ => ?_) AllReadyH.nil
        go_simp
        refine hJJ.out _ _ trivial (fun hHeld => ?_)
        clear hJJ JJ
        refine wpAnyH_take (i := 15) (v := ?_) rfl (by kernel_rfl) (by kernel_rfl) (by kernel_rfl) (fun _ _ _ h => h) (Or.inl ⟨by kernel_rfl, ?_⟩) (by assumption) ?_
        rotate_left
        focus (intro w hSw; (try dsimp only at hSw); go_simp; (try with_reducible rfl); done)
        try simp only [List.getElem_toArray, List.getElem_cons_succ, List.getElem_cons_zero, Act.put, List.setIfInBounds_toArray, List.set_cons_zero, List.set_cons_succ]
        refine wpAnyH_ready (rs := [8]) (by kernel_rfl) (by simp) ?_
        refine AllReadyH.cons rfl (fun JJ hJJ => ?_) AllReadyH.nil
        (refine pushS rfl _ _ rfl (.slice (some ⟨_, 0, none⟩) 0 0) (.slice A q c) [] (l.take q) (fun k => k < wk.heap.size) rfl rfl (OT.out _ (by (repeat (first | with_reducible exact (Below.refl _ _) | with_reducible apply Below.drew | with_reducible refine balloc ?_ _)))) (fun k hk => ne_new hk (by (first | exact Nat.le_refl _ | exact Nat.le_succ _))) (Own.lit' _ (by (simp only [heap_alloc_get, heap_drew_get] <;> simp <;> done)) (by (first | exact Nat.le_refl _ | exact Nat.le_succ _))) (by (repeat (first | with_reducible exact (Below.refl _ _) | with_reducible apply Below.drew | with_reducible refine balloc ?_ _))) LN1.out ?_; intro V1 n1 c1 w7 e1 ho1 hb7 hg1 hat1; rw [htl1.out] at e1; subst n1; have g0 := (hb7.cell hSl).trans x0; have hS7 := Nat.lt_of_lt_of_le hSl hb7.size; have OW1 := put ho1; have HB7 := put hb7; have HG1 := put hg1; have HAT1 := put hat1; clear ho1 hg1 hat1 hb7)
        refine hJJ.out _ _ trivial (fun hHeld => ?_)
        clear hJJ JJ
        try simp only [List.getElem_toArray, List.getElem_cons_succ, List.getElem_cons_zero, Act.put, List.setIfInBounds_toArray, List.set_cons_zero, List.set_cons_succ]
        refine wpAnyH_ready (rs := [16]) (by kernel_rfl) (by simp) ?_
        refine AllReadyH.cons rfl (fun JJ hJJ => ?_) AllReadyH.nil
        (refine pushS rfl _ _ rfl (.slice V1 q c1) (.slice (if c = (q + 1) then A else A.map (fun x => x.add ((q + 1)))) (m - (q + 1)) (c - (q + 1))) (l.take q) (l.drop (q + 1)) (fun k => k < wk.heap.size) rfl rfl (ODD.out.below (by (repeat (first | with_reducible exact (Below.refl _ _) | with_reducible exact HB7.out | with_reducible apply Below.drew | with_reducible refine balloc ?_ _)))) (fun k hk => ne_own OW1.out hk) (OW1.out.below (by (repeat (first | with_reducible exact (Below.refl _ _) | with_reducible apply Below.drew | with_reducible refine balloc ?_ _)))) (by (repeat (first | with_reducible exact (Below.refl _ _) | with_reducible exact HB7.out | with_reducible apply Below.drew | with_reducible refine balloc ?_ _))) LN3.out ?_; intro V3 l3 c3' w9 e3 ho3 hb9 hg3 hat3; have z0 := (hb9.cell hSl).trans x0; have f0 := frz hb9 hSh; have OW3 := put ho3; have HB9 := put hb9; clear ho3 hg3 hat3 hb9 e3)
        refine hJJ.out _ _ trivial (fun hHeld => ?_)
        clear hJJ JJ
        refine wpAnyH_take (i := 17) (v := ?_) rfl (by kernel_rfl) (by kernel_rfl) (by kernel_rfl) (fun _ _ _ h => h) (Or.inl ⟨by kernel_rfl, ?_⟩) (by assumption) ?_
        rotate_left
        focus (intro w hSw; (try dsimp only at hSw); go_simp; (try with_reducible rfl); done)
        refine wpAnyH_take (i := 18) (v := ?_) rfl (by kernel_rfl) (by kernel_rfl) (by kernel_rfl) (fun _ _ _ h => h) (Or.inl ⟨by kernel_rfl, ?_⟩) (by assumption) ?_
        rotate_left
        focus (intro w hSw; (try dsimp only at hSw); go_simp; (try with_reducible rfl); done)
        try simp only [List.getElem_toArray, List.getElem_cons_succ, List.getElem_cons_zero, Act.put, List.setIfInBounds_toArray, List.set_cons_zero, List.set_cons_succ]
        refine wpAnyH_ready (rs := [19]) (by kernel_rfl) (by simp) ?_
        refine AllReadyH.cons rfl (fun JJ hJJ => ?_) AllReadyH.nil
        go_simp
        refine hJJ.out _ _ trivial (fun hHeld => ?_)
        clear hJJ JJ
        try simp only [List.getElem_toArray, List.getElem_cons_succ, List.getElem_cons_zero, Act.put, List.setIfInBounds_toArray, List.set_cons_zero, List.set_cons_succ]
        refine wpAnyH_done (by kernel_rfl) ?_ _
        refine NoPanic.normal ?_
        go_wp2_with fail
        all_goals (go_ret; exact .inr ⟨HBB.out.symm, FIN.out _ _ _ _ OW3.out HB9.out⟩)
      refine AllReadyH.cons rfl (fun JJ hJJ => ?_) AllReadyH.nil
      go_simp
      refine hJJ.out _ _ trivial (fun hHeld => ?_)
      clear hJJ JJ
      refine wpAnyH_take (i := 15) (v := ?_) rfl (by kernel_rfl) (by kernel_rfl) (by kernel_rfl) (fun _ _ _ h => h) (Or.inl ⟨by kernel_rfl, ?_⟩) (by assumption) ?_
      rotate_left
      focus (intro w hSw; (try dsimp only at hSw); go_simp; (try with_reducible rfl); done)
      try simp only [List.getElem_toArray, List.getElem_cons_succ, List.getElem_cons_zero, Act.put, List.setIfInBounds_toArray, List.set_cons_zero, List.set_cons_succ]
      refine wpAnyH_ready (rs := [5]) (by kernel_rfl) (by simp) ?_
      refine AllReadyH.cons rfl (fun JJ hJJ => ?_) AllReadyH.nil
      go_simp
      refine hJJ.out _ _ trivial (fun hHeld => ?_)
      clear hJJ JJ
      refine wpAnyH_take (i := 7) (v := ?_) rfl (by kernel_rfl) (by kernel_rfl) (by kernel_rfl) (fun _ _ _ h => h) (Or.inl ⟨by kernel_rfl, ?_⟩) (by assumption) ?_
      rotate_left
      focus (intro w hSw; (try dsimp only at hSw); go_simp; (try with_reducible rfl); done)
      try simp only [List.getElem_toArray, List.getElem_cons_succ, List.getElem_cons_zero, Act.put, List.setIfInBounds_toArray, List.set_cons_zero, List.set_cons_succ]
      refine wpAnyH_ready (rs := [8]) (by kernel_rfl) (by simp) ?_
      refine AllReadyH.cons rfl (fun JJ hJJ => ?_) AllReadyH.nil
      (refine pushS rfl _ _ rfl (.slice (some ⟨_, 0, none⟩) 0 0) (.slice A q c) [] (l.take q) (fun k => k < wk.heap.size) rfl rfl (OT.out _ (by (repeat (first | with_reducible exact (Below.refl _ _) | with_reducible apply Below.drew | with_reducible refine balloc ?_ _)))) (fun k hk => ne_new hk (by (first | exact Nat.le_refl _ | exact Nat.le_succ _))) (Own.lit' _ (by (simp only [heap_alloc_get, heap_drew_get] <;> simp <;> done)) (by (first | exact Nat.le_refl _ | exact Nat.le_succ _))) (by (repeat (first | with_reducible exact (Below.refl _ _) | with_reducible apply Below.drew | with_reducible refine balloc ?_ _))) LN1.out ?_; intro V1 n1 c1 w7 e1 ho1 hb7 hg1 hat1; rw [htl1.out] at e1; subst n1; have g0 := (hb7.cell hSl).trans x0; have hS7 := Nat.lt_of_lt_of_le hSl hb7.size; have OW1 := put ho1; have HB7 := put hb7; have HG1 := put hg1; have HAT1 := put hat1; clear ho1 hg1 hat1 hb7)
      refine hJJ.out _ _ trivial (fun hHeld => ?_)
      clear hJJ JJ
      try simp only [List.getElem_toArray, List.getElem_cons_succ, List.getElem_cons_zero, Act.put, List.setIfInBounds_toArray, List.set_cons_zero, List.set_cons_succ]
      refine wpAnyH_ready (rs := [16]) (by kernel_rfl) (by simp) ?_
      refine AllReadyH.cons rfl (fun JJ hJJ => ?_) AllReadyH.nil
      (refine pushS rfl _ _ rfl (.slice V1 q c1) (.slice (if c = (q + 1) then A else A.map (fun x => x.add ((q + 1)))) (m - (q + 1)) (c - (q + 1))) (l.take q) (l.drop (q + 1)) (fun k => k < wk.heap.size) rfl rfl (ODD.out.below (by (repeat (first | with_reducible exact (Below.refl _ _) | with_reducible exact HB7.out | with_reducible apply Below.drew | with_reducible refine balloc ?_ _)))) (fun k hk => ne_own OW1.out hk) (OW1.out.below (by (repeat (first | with_reducible exact (Below.refl _ _) | with_reducible apply Below.drew | with_reducible refine balloc ?_ _)))) (by (repeat (first | with_reducible exact (Below.refl _ _) | with_reducible exact HB7.out | with_reducible apply Below.drew | with_reducible refine balloc ?_ _))) LN3.out ?_; intro V3 l3 c3' w9 e3 ho3 hb9 hg3 hat3; have z0 := (hb9.cell hSl).trans x0; have f0 := frz hb9 hSh; have OW3 := put ho3; have HB9 := put hb9; clear ho3 hg3 hat3 hb9 e3)
      refine hJJ.out _ _ trivial (fun hHeld => ?_)
      clear hJJ JJ
      refine wpAnyH_take (i := 17) (v := ?_) rfl (by kernel_rfl) (by kernel_rfl) (by kernel_rfl) (fun _ _ _ h => h) (Or.inl ⟨by kernel_rfl, ?_⟩) (by assumption) ?_
      rotate_left
      focus (intro w hSw; (try dsimp only at hSw); go_simp; (try with_reducible rfl); done)
      refine wpAnyH_take (i := 18) (v := ?_) rfl (by kernel_rfl) (by kernel_rfl) (by kernel_rfl) (fun _ _ _ h => h) (Or.inl ⟨by kernel_rfl, ?_⟩) (by assumption) ?_
      rotate_left
      focus (intro w hSw; (try dsimp only at hSw); go_simp; (try with_reducible rfl); done)
      try simp only [List.getElem_toArray, List.getElem_cons_succ, List.getElem_cons_zero, Act.put, List.setIfInBounds_toArray, List.set_cons_zero, List.set_cons_succ]
      refine wpAnyH_ready (rs := [19]) (by kernel_rfl) (by simp) ?_
      refine AllReadyH.cons rfl (fun JJ hJJ => ?_) AllReadyH.nil
      go_simp
      refine hJJ.out _ _ trivial (fun hHeld => ?_)
      clear hJJ JJ
      try simp only [List.getElem_toArray, List.getElem_cons_succ, List.getElem_cons_zero, Act.put, List.setIfInBounds_toArray, List.set_cons_zero, List.set_cons_succ]
      refine wpAnyH_done (by kernel_rfl) ?_ _
      refine NoPanic.normal ?_
      go_wp2_with fail
      all_goals (go_ret; exact .inr ⟨HBB.out.symm, FIN.out _ _ _ _ OW3.out HB9.out⟩)
    refine AllReadyH.cons rfl (fun JJ hJJ => ?_) ?_
    · go_simp
      refine hJJ.out _ _ trivial (fun hHeld => ?_)
      clear hJJ JJ
      refine wpAnyH_take (i := 7) (v := ?_) rfl (by kernel_rfl) (by kernel_rfl) (by kernel_rfl) (fun _ _ _ h => h) (Or.inl ⟨by kernel_rfl, ?_⟩) (by assumption) ?_
      rotate_left
      focus (intro w hSw; (try dsimp only at hSw); go_simp; (try with_reducible rfl); done)
      try simp only [List.getElem_toArray, List.getElem_cons_succ, List.getElem_cons_zero, Act.put, List.setIfInBounds_toArray, List.set_cons_zero, List.set_cons_succ]
      refine wpAnyH_ready (rs := [1, 12]) (by kernel_rfl) (by simp) ?_
      refine AllReadyH.cons rfl (fun JJ hJJ => ?_) ?_
      · go_simp
        refine hJJ.out _ _ trivial (fun hHeld => ?_)
        clear hJJ JJ
        try simp only [List.getElem_toArray, List.getElem_cons_succ, List.getElem_cons_zero, Act.put, List.setIfInBounds_toArray, List.set_cons_zero, List.set_cons_succ]
        refine wpAnyH_ready (rs := [8, 12]) (by kernel_rfl) (by simp) ?_
        refine AllReadyH.cons rfl (fun JJ hJJ => ?_) ?_
        · (refine pushS rfl _ _ rfl (.slice (some ⟨_, 0, none⟩) 0 0) (.slice A q c) [] (l.take q) (fun k => k < wk.heap.size) rfl rfl (OT.out _ (by (repeat (first | with_reducible exact (Below.refl _ _) | with_reducible apply Below.drew | with_reducible refine balloc ?_ _)))) (fun k hk => ne_new hk (by (first | exact Nat.le_refl _ | exact Nat.le_succ _))) (Own.lit' _ (by (simp only [heap_alloc_get, heap_drew_get] <;> simp <;> done)) (by (first | exact Nat.le_refl _ | exact Nat.le_succ _))) (by (repeat (first | with_reducible exact (Below.refl _ _) | with_reducible apply Below.drew | with_reducible refine balloc ?_ _))) LN1.out ?_; intro V1 n1 c1 w7 e1 ho1 hb7 hg1 hat1; rw [htl1.out] at e1; subst n1; have g0 := (hb7.cell hSl).trans x0; have hS7 := Nat.lt_of_lt_of_le hSl hb7.size; have OW1 := put ho1; have HB7 := put hb7; have HG1 := put hg1; have HAT1 := put hat1; clear ho1 hg1 hat1 hb7)
          refine hJJ.out _ _ trivial (fun hHeld => ?_)
          clear hJJ JJ
          try simp only [List.getElem_toArray, List.getElem_cons_succ, List.getElem_cons_zero, Act.put, List.setIfInBounds_toArray, List.set_cons_zero, List.set_cons_succ]
          refine wpAnyH_ready (rs := [12]) (by kernel_rfl) (by simp) ?_
          refine AllReadyH.cons rfl (fun JJ hJJ => ?_) AllReadyH.nil
          go_simp
          refine hJJ.out _ _ trivial (fun hHeld => ?_)
          clear hJJ JJ
          refine wpAnyH_take (i := 15) (v := ?_) rfl (by kernel_rfl) (by kernel_rfl) (by kernel_rfl) (fun _ _ _ h => h) (Or.inl ⟨by kernel_rfl, ?_⟩) (by assumption) ?_
          rotate_left
          focus (intro w hSw; (try dsimp only at hSw); go_simp; (try with_reducible rfl); done)
          try simp only [List.getElem_toArray, List.getElem_cons_succ, List.getElem_cons_zero, Act.put, List.setIfInBounds_toArray, List.set_cons_zero, List.set_cons_succ]
          refine wpAnyH_ready (rs := [16]) (by kernel_rfl) (by simp) ?_
          refine AllReadyH.cons rfl (fun JJ hJJ => ?_) AllReadyH.nil
          (refine pushS rfl _ _ rfl (.slice V1 q c1) (.slice (if c = (q + 1) then A else A.map (fun x => x.add ((q + 1)))) (m - (q + 1)) (c - (q + 1))) (l.take q) (l.drop (q + 1)) (fun k => k < wk.heap.size) rfl rfl (ODD.out.below (by (repeat (first | with_reducible exact (Below.refl _ _) | with_reducible exact HB7.out | with_reducible apply Below.drew | with_reducible refine balloc ?_ _)))) (fun k hk => ne_own OW1.out hk) (OW1.out.below (by (repeat (first | with_reducible exact (Below.refl _ _) | with_reducible apply Below.drew | with_reducible refine balloc ?_ _)))) (by (repeat (first | with_reducible exact (Below.refl _ _) | with_reducible exact HB7.out | with_reducible apply Below.drew | with_reducible refine balloc ?_ _))) LN3.out ?_; intro V3 l3 c3' w9 e3 ho3 hb9 hg3 hat3; have z0 := (hb9.cell hSl).trans x0; have f0 := frz hb9 hSh; have OW3 := put ho3; have HB9 := put hb9; clear ho3 hg3 hat3 hb9 e3)
          refine hJJ.out _ _ trivial (fun hHeld => ?_)
          clear hJJ JJ
          refine wpAnyH_take (i := 17) (v := ?_) rfl (by kernel_rfl) (by kernel_rfl) (by kernel_rfl) (fun _ _ _ h => h) (Or.inl ⟨by kernel_rfl, ?_⟩) (by assumption) ?_
          rotate_left
          focus (intro w hSw; (try dsimp only at hSw); go_simp; (try with_reducible rfl); done)
          refine wpAnyH_take (i := 18) (v := ?_) rfl (by kernel_rfl) (by kernel_rfl) (by kernel_rfl) (fun _ _ _ h => h) (Or.inl ⟨by kernel_rfl, ?_⟩) (by assumption) ?_
          rotate_left
          focus (intro w hSw; (try dsimp only at hSw); go_simp; (try with_reducible rfl); done)
          try simp only [List.getElem_toArray, List.getElem_cons_succ, List.getElem_cons_zero, Act.put, List.setIfInBounds_toArray, List.set_cons_zero, List.set_cons_succ]
          refine wpAnyH_ready (rs := [19]) (by kernel_rfl) (by simp) ?_
          refine AllReadyH.cons rfl (fun JJ hJJ => ?_) AllReadyH.nil
          go_simp
          refine hJJ.out _ _ trivial (fun hHeld => ?_)
          clear hJJ JJ
          try simp only [List.getElem_toArray, List.getElem_cons_succ, List.getElem_cons_zero, Act.put, List.setIfInBounds_toArray, List.set_cons_zero, List.set_cons_succ]
          refine wpAnyH_done (by kernel_rfl) ?_ _
          refine NoPanic.normal ?_
          go_wp2_with fail
          all_goals (go_ret; exact .inr ⟨HBB.out.symm, FIN.out _ _ _ _ OW3.out HB9.out⟩)
        refine AllReadyH.cons rfl (fun JJ hJJ => ?_) AllReadyH.nil
        go_simp
        refine hJJ.out _ _ trivial (fun hHeld => ?_)
        clear hJJ JJ
        refine wpAnyH_take (i := 15) (v := ?_) rfl (by kernel_rfl) (by kernel_rfl) (by kernel_rfl) (fun _ _ _ h => h) (Or.inl ⟨by kernel_rfl, ?_⟩) (by assumption) ?_
        rotate_left
        focus (intro w hSw; (try dsimp only at hSw); go_simp; (try with_reducible rfl); done)
        try simp only [List.getElem_toArray, List.getElem_cons_succ, List.getElem_cons_zero, Act.put, List.setIfInBounds_toArray, List.set_cons_zero, List.set_cons_succ]
        refine wpAnyH_ready (rs := [8]) (by kernel_rfl) (by simp) ?_
        refine AllReadyH.cons rfl (fun JJ hJJ => ?_) AllReadyH.nil
        (refine pushS rfl _ _ rfl (.slice (some ⟨_, 0, none⟩) 0 0) (.slice A q c) [] (l.take q) (fun k => k < wk.heap.size) rfl rfl (OT.out _ (by (repeat (first | with_reducible exact (Below.refl _ _) | with_reducible apply Below.drew | with_reducible refine balloc ?_ _)))) (fun k hk => ne_new hk (by (first | exact Nat.le_refl _ | exact Nat.le_succ _))) (Own.lit' _ (by (simp only [heap_alloc_get, heap_drew_get] <;> simp <;> done)) (by (first | exact Nat.le_refl _ | exact Nat.le_succ _))) (by (repeat (first | with_reducible exact (Below.refl _ _) | with_reducible apply Below.drew | with_reducible refine balloc ?_ _))) LN1.out ?_; intro V1 n1 c1 w7 e1 ho1 hb7 hg1 hat1; rw [htl1.out] at e1; subst n1; have g0 := (hb7.cell hSl).trans x0; have hS7 := Nat.lt_of_lt_of_le hSl hb7.size; have OW1 := put ho1; have HB7 := put hb7; have HG1 := put hg1; have HAT1 := put hat1; clear ho1 hg1 hat1 hb7)
        refine hJJ.out _ _ trivial (fun hHeld => ?_)
        clear hJJ JJ
        try simp only [List.getElem_toArray, List.getElem_cons_succ, List.getElem_cons_zero, Act.put, List.setIfInBounds_toArray, List.set_cons_zero, List.set_cons_succ]
        refine wpAnyH_ready (rs := [16]) (by kernel_rfl) (by simp) ?_
        refine AllReadyH.cons rfl (fun JJ hJJ => ?_) AllReadyH.nil
        (refine pushS rfl _ _ rfl (.slice V1 q c1) (.slice (if c = (q + 1) then A else A.map (fun x => x.add ((q + 1)))) (m - (q + 1)) (c - (q + 1))) (l.take q) (l.drop (q + 1)) (fun k => k < wk.heap.size) rfl rfl (ODD.out.below (by (repeat (first | with_reducible exact (Below.refl _ _) | with_reducible exact HB7.out | with_reducible apply Below.drew | with_reducible refine balloc ?_ _)))) (fun k hk => ne_own OW1.out hk) (OW1.out.below (by (repeat (first | with_reducible exact (Below.refl _ _) | with_reducible apply Below.drew | with_reducible refine balloc ?_ _)))) (by (repeat (first | with_reducible exact (Below.refl _ _) | with_reducible exact HB7.out | with_reducible apply Below.drew | with_reducible refine balloc ?_ _))) LN3.out ?_; intro V3 l3 c3' w9 e3 ho3 hb9 hg3 hat3; have z0 := (hb9.cell hSl).trans x0; have f0 := frz hb9 hSh; have OW3 := put ho3; have HB9 := put hb9; clear ho3 hg3 hat3 hb9 e3)
        refine hJJ.out _ _ trivial (fun hHeld => ?_)
        clear hJJ JJ
        refine wpAnyH_take (i := 17) (v := ?_) rfl (by kernel_rfl) (by kernel_rfl) (by kernel_rfl) (fun _ _ _ h => h) (Or.inl ⟨by kernel_rfl, ?_⟩) (by assumption) ?_
        rotate_left
        focus (intro w hSw; (try dsimp only at hSw); go_simp; (try with_reducible rfl); done)
        refine wpAnyH_take (i := 18) (v := ?_) rfl (by kernel_rfl) (by kernel_rfl) (by kernel_rfl) (fun _ _ _ h => h) (Or.inl ⟨by kernel_rfl, ?_⟩) (by assumption) ?_
        rotate_left
        focus (intro w hSw; (try dsimp only at hSw); go_simp; (try with_reducible rfl); done)
        try simp only [List.getElem_toArray, List.getElem_cons_succ, List.getElem_cons_zero, Act.put, List.setIfInBounds_toArray, List.set_cons_zero, List.set_cons_succ]
        refine wpAnyH_ready (rs := [19]) (by kernel_rfl) (by simp) ?_
        refine AllReadyH.cons rfl (fun JJ hJJ => ?_) AllReadyH.nil
        go_simp
        refine hJJ.out _ _ trivial (fun hHeld => ?_)
        clear hJJ JJ
        try simp only [List.getElem_toArray, List.getElem_cons_succ, List.getElem_cons_zero, Act.put, List.setIfInBounds_toArray, List.set_cons_zero, List.set_cons_succ]
        refine wpAnyH_done (by kernel_rfl) ?_ _
        refine NoPanic.normal ?_
        go_wp2_with fail
        all_goals (go_ret; exact .inr ⟨HBB.out.symm, FIN.out _ _ _ _ OW3.out HB9.out⟩)
      refine AllReadyH.cons rfl (fun JJ hJJ => ?_) AllReadyH.nil
      go_simp
      refine hJJ.out _ _ trivial (fun hHeld => ?_)
      clear hJJ JJ
      refine wpAnyH_take (i := 15) (v := ?_) rfl (by kernel_rfl) (by kernel_rfl) (by kernel_rfl) (fun _ _ _ h => h) (Or.inl ⟨by kernel_rfl, ?_⟩) (by assumption) ?_
      rotate_left
      focus (intro w hSw; (try dsimp only at hSw); go_simp; (try with_reducible rfl); done)
      try simp only [List.getElem_toArray, List.getElem_cons_succ, List.getElem_cons_zero, Act.put, List.setIfInBounds_toArray, List.set_cons_zero, List.set_cons_succ]
      refine wpAnyH_ready (rs := [1]) (by kernel_rfl) (by simp) ?_
      refine AllReadyH.cons rfl (fun JJ hJJ => ?_) AllReadyH.nil
      go_simp
      refine hJJ.out _ _ trivial (fun hHeld => ?_)
      clear hJJ JJ
      try simp only [List.getElem_toArray, List.getElem_cons_succ, List.getElem_cons_zero, Act.put, List.setIfInBounds_toArray, List.set_cons_zero, List.set_cons_succ]
      refine wpAnyH_ready (rs := [8]) (by kernel_rfl) (by simp) ?_
      refine AllReadyH.cons rfl (fun JJ hJJ => ?_) AllReadyH.nil
      (refine pushS rfl _ _ rfl (.slice (some ⟨_, 0, none⟩) 0 0) (.slice A q c) [] (l.take q) (fun k => k < wk.heap.size) rfl rfl (OT.out _ (by (repeat (first | with_reducible exact (Below.refl _ _) | with_reducible apply Below.drew | with_reducible refine balloc ?_ _)))) (fun k hk => ne_new hk (by (first | exact Nat.le_refl _ | exact Nat.le_succ _))) (Own.lit' _ (by (simp only [heap_alloc_get, heap_drew_get] <;> simp <;> done)) (by (first | exact Nat.le_refl _ | exact Nat.le_succ _))) (by (repeat (first | with_reducible exact (Below.refl _ _) | with_reducible apply Below.drew | with_reducible refine balloc ?_ _))) LN1.out ?_; intro V1 n1 c1 w7 e1 ho1 hb7 hg1 hat1; rw [htl1.out] at e1; subst n1; have g0 := (hb7.cell hSl).trans x0; have hS7 := Nat.lt_of_lt_of_le hSl hb7.size; have OW1 := put ho1; have HB7 := put hb7; have HG1 := put hg1; have HAT1 := put hat1; clear ho1 hg1 hat1 hb7)
      refine hJJ.out _ _ trivial (fun hHeld => ?_)
      clear hJJ JJ
      try simp only [List.getElem_toArray, List.getElem_cons_succ, List.getElem_cons_zero, Act.put, List.setIfInBounds_toArray, List.set_cons_zero, List.set_cons_succ]
      refine wpAnyH_ready (rs := [16]) (by kernel_rfl) (by simp) ?_
      refine AllReadyH.cons rfl (fun JJ hJJ => ?_) AllReadyH.nil
      (refine pushS rfl _ _ rfl (.slice V1 q c1) (.slice (if c = (q + 1) then A else A.map (fun x => x.add ((q + 1)))) (m - (q + 1)) (c - (q + 1))) (l.take q) (l.drop (q + 1)) (fun k => k < wk.heap.size) rfl rfl (ODD.out.below (by (repeat (first | with_reducible exact (Below.refl _ _) | with_reducible exact HB7.out | with_reducible apply Below.drew | with_reducible refine balloc ?_ _)))) (fun k hk => ne_own OW1.out hk) (OW1.out.below (by (repeat (first | with_reducible exact (Below.refl _ _) | with_reducible apply Below.drew | with_reducible refine balloc ?_ _)))) (by (repeat (first | with_reducible exact (Below.refl _ _) | with_reducible exact HB7.out | with_reducible apply Below.drew | with_reducible refine balloc ?_ _))) LN3.out ?_; intro V3 l3 c3' w9 e3 ho3 hb9 hg3 hat3; have z0 := (hb9.cell hSl).trans x0; have f0 := frz hb9 hSh; have OW3 := put ho3; have HB9 := put hb9; clear ho3 hg3 hat3 hb9 e3)
      refine hJJ.out _ _ trivial (fun hHeld => ?_)
      clear hJJ JJ
      refine wpAnyH_take (i := 17) (v := ?_) rfl (by kernel_rfl) (by kernel_rfl) (by kernel_rfl) (fun _ _ _ h => h) (Or.inl ⟨by kernel_rfl, ?_⟩) (by assumption) ?_
      rotate_left
      focus (intro w hSw; (try dsimp only at hSw); go_simp; (try with_reducible rfl); done)
      refine wpAnyH_take (i := 18) (v := ?_) rfl (by kernel_rfl) (by kernel_rfl) (by kernel_rfl) (fun _ _ _ h => h) (Or.inl ⟨by kernel_rfl, ?_⟩) (by assumption) ?_
      rotate_left
      focus (intro w hSw; (try dsimp only at hSw); go_simp; (try with_reducible rfl); done)
      try simp only [List.getElem_toArray, List.getElem_cons_succ, List.getElem_cons_zero, Act.put, List.setIfInBounds_toArray, List.set_cons_zero, List.set_cons_succ]
      refine wpAnyH_ready (rs := [19]) (by kernel_rfl) (by simp) ?_
      refine AllReadyH.cons rfl (fun JJ hJJ => ?_) AllReadyH.nil
      go_simp
      refine hJJ.out _ _ trivial (fun hHeld => ?_)
      clear hJJ JJ
      try simp only [List.getElem_toArray, List.getElem_cons_succ, List.getElem_cons_zero, Act.put, List.setIfInBounds_toArray, List.set_cons_zero, List.set_cons_succ]
      refine wpAnyH_done (by kernel_rfl) ?_ _
      refine NoPanic.normal ?_
      go_wp2_with fail
      all_goals (go_ret; exact .inr ⟨HBB.out.symm, FIN.out _ _ _ _ OW3.out HB9.out⟩)
    refine AllReadyH.cons rfl (fun JJ hJJ => ?_) AllReadyH.nil
    go_simp
    refine hJJ.out _ _ trivial (fun hHeld => ?_)
    clear hJJ JJ
    refine wpAnyH_take (i := 15) (v := ?_) rfl (by kernel_rfl) (by kernel_rfl) (by kernel_rfl) (fun _ _ _ h => h) (Or.inl ⟨by kernel_rfl, ?_⟩) (by assumption) ?_
    rotate_left
    focus (intro w hSw; (try dsimp only at hSw); go_simp; (try with_reducible rfl); done)
    try simp only [List.getElem_toArray, List.getElem_cons_succ, List.getElem_cons_zero, Act.put, List.setIfInBounds_toArray, List.set_cons_zero, List.set_cons_succ]
    refine wpAnyH_ready (rs := [1, 5]) (by kernel_rfl) (by simp) ?_
    refine AllReadyH.cons rfl (fun JJ hJJ => ?_) ?_
    · go_simp
      refine hJJ.out _ _ trivial (fun hHeld => ?_)
      clear hJJ JJ
      try simp only [List.getElem_toArray, List.getElem_cons_succ, List.getElem_cons_zero, Act.put, List.setIfInBounds_toArray, List.set_cons_zero, List.set_cons_succ]
      refine wpAnyH_ready (rs := [5]) (by kernel_rfl) (by simp) ?_
      refine AllReadyH.cons rfl (fun JJ hJJ => ?_) AllReadyH.nil
      go_simp
      refine hJJ.out _ _ trivial (fun hHeld => ?_)
      clear hJJ JJ
      refine wpAnyH_take (i := 7) (v := ?_) rfl (by kernel_rfl) (by kernel_rfl) (by kernel_rfl) (fun _ _ _ h => h) (Or.inl ⟨by kernel_rfl, ?_⟩) (by assumption) ?_
      rotate_left
      focus (intro w hSw; (try dsimp only at hSw); go_simp; (try with_reducible rfl); done)
      try simp only [List.getElem_toArray, List.getElem_cons_succ, List.getElem_cons_zero, Act.put, List.setIfInBounds_toArray, List.set_cons_zero, List.set_cons_succ]
      refine wpAnyH_ready (rs := [8]) (by kernel_rfl) (by simp) ?_
      refine AllReadyH.cons rfl (fun JJ hJJ => ?_) AllReadyH.nil
      (refine pushS rfl _ _ rfl (.slice (some ⟨_, 0, none⟩) 0 0) (.slice A q c) [] (l.take q) (fun k => k < wk.heap.size) rfl rfl (OT.out _ (by (repeat (first | with_reducible exact (Below.refl _ _) | with_reducible apply Below.drew | with_reducible refine balloc ?_ _)))) (fun k hk => ne_new hk (by (first | exact Nat.le_refl _ | exact Nat.le_succ _))) (Own.lit' _ (by (simp only [heap_alloc_get, heap_drew_get] <;> simp <;> done)) (by (first | exact Nat.le_refl _ | exact Nat.le_succ _))) (by (repeat (first | with_reducible exact (Below.refl _ _) | with_reducible apply Below.drew | with_reducible refine balloc ?_ _))) LN1.out ?_; intro V1 n1 c1 w7 e1 ho1 hb7 hg1 hat1; rw [htl1.out] at e1; subst n1; have g0 := (hb7.cell hSl).trans x0; have hS7 := Nat.lt_of_lt_of_le hSl hb7.size; have OW1 := put ho1; have HB7 := put hb7; have HG1 := put hg1; have HAT1 := put hat1; clear ho1 hg1 hat1 hb7)
      refine hJJ.out _ _ trivial (fun hHeld => ?_)
      clear hJJ JJ
      try simp only [List.getElem_toArray, List.getElem_cons_succ, List.getElem_cons_zero, Act.put, List.setIfInBounds_toArray, List.set_cons_zero, List.set_cons_succ]
      refine wpAnyH_ready (rs := [16]) (by kernel_rfl) (by simp) ?_
      refine AllReadyH.cons rfl (fun JJ hJJ => ?_) AllReadyH.nil
      (refine pushS rfl _ _ rfl (.slice V1 q c1) (.slice (if c = (q + 1) then A else A.map (fun x => x.add ((q + 1)))) (m - (q + 1)) (c - (q + 1))) (l.take q) (l.drop (q + 1)) (fun k => k < wk.heap.size) rfl rfl (ODD.out.below (by (repeat (first | with_reducible exact (Below.refl _ _) | with_reducible exact HB7.out | with_reducible apply Below.drew | with_reducible refine balloc ?_ _)))) (fun k hk => ne_own OW1.out hk) (OW1.out.below (by (repeat (first | with_reducible exact (Below.refl _ _) | with_reducible apply Below.drew | with_reducible refine balloc ?_ _)))) (by (repeat (first | with_reducible exact (Below.refl _ _) | with_reducible exact HB7.out | with_reducible apply Below.drew | with_reducible refine balloc ?_ _))) LN3.out ?_; intro V3 l3 c3' w9 e3 ho3 hb9 hg3 hat3; have z0 := (hb9.cell hSl).trans x0; have f0 := frz hb9 hSh; have OW3 := put ho3; have HB9 := put hb9; clear ho3 hg3 hat3 hb9 e3)
      refine hJJ.out _ _ trivial (fun hHeld => ?_)
      clear hJJ JJ
      refine wpAnyH_take (i := 17) (v := ?_) rfl (by kernel_rfl) (by kernel_rfl) (by kernel_rfl) (fun _ _ _ h => h) (Or.inl ⟨by kernel_rfl, ?_⟩) (by assumption) ?_
      rotate_left
      focus (intro w hSw; (try dsimp only at hSw); go_simp; (try with_reducible rfl); done)
      refine wpAnyH_take (i := 18) (v := ?_) rfl (by kernel_rfl) (by kernel_rfl) (by kernel_rfl) (fun _ _ _ h => h) (Or.inl ⟨by kernel_rfl, ?_⟩) (by assumption) ?_
      rotate_left
      focus (intro w hSw; (try dsimp only at hSw); go_simp; (try with_reducible rfl); done)
      try simp only [List.getElem_toArray, List.getElem_cons_succ, List.getElem_cons_zero, Act.put, List.setIfInBounds_toArray, List.set_cons_zero, List.set_cons_succ]
      refine wpAnyH_ready (rs := [19]) (by kernel_rfl) (by simp) ?_
      refine AllReadyH.cons rfl (fun JJ hJJ => ?_) AllReadyH.nil
      go_simp
      refine hJJ.out _ _ trivial (fun hHeld => ?_)
      clear hJJ JJ
      try simp only [List.getElem_toArray, List.getElem_cons_succ, List.getElem_cons_zero, Act.put, List.setIfInBounds_toArray, List.set_cons_zero, List.set_cons_succ]
      refine wpAnyH_done (by kernel_rfl) ?_ _
      refine NoPanic.normal ?_
      go_wp2_with fail
      all_goals (go_ret; exact .inr ⟨HBB.out.symm, FIN.out _ _ _ _ OW3.out HB9.out⟩)
    refine AllReadyH.cons rfl (fun JJ hJJ => ?_) AllReadyH.nil
    go_simp
    refine hJJ.out _ _ trivial (fun hHeld => ?_)
    clear hJJ JJ
    refine wpAnyH_take (i := 7) (v := ?_) rfl (by kernel_rfl) (by kernel_rfl) (by kernel_rfl) (fun _ _ _ h => h) (Or.inl ⟨by kernel_rfl, ?_⟩) (by assumption) ?_
    rotate_left
    focus (intro w hSw; (try dsimp only at hSw); go_simp; (try with_reducible rfl); done)
    try simp only [List.getElem_toArray, List.getElem_cons_succ, List.getElem_cons_zero, Act.put, List.setIfInBounds_toArray, List.set_cons_zero, List.set_cons_succ]
    refine wpAnyH_ready (rs := [1]) (by kernel_rfl) (by simp) ?_
    refine AllReadyH.cons rfl (fun JJ hJJ => ?_) AllReadyH.nil
    go_simp
    refine hJJ.out _ _ trivial (fun hHeld => ?_)
    clear hJJ JJ
    try simp only [List.getElem_toArray, List.getElem_cons_succ, List.getElem_cons_zero, Act.put, List.setIfInBounds_toArray, List.set_cons_zero, List.set_cons_succ]
    refine wpAnyH_ready (rs := [8]) (by kernel_rfl) (by simp) ?_
    refine AllReadyH.cons rfl (fun JJ hJJ => ?_) AllReadyH.nil
    (refine pushS rfl _ _ rfl (.slice (some ⟨_, 0, none⟩) 0 0) (.slice A q c) [] (l.take q) (fun k => k < wk.heap.size) rfl rfl (OT.out _ (by (repeat (first | with_reducible exact (Below.refl _ _) | with_reducible apply Below.drew | with_reducible refine balloc ?_ _)))) (fun k hk => ne_new hk (by (first | exact Nat.le_refl _ | exact Nat.le_succ _))) (Own.lit' _ (by (simp only [heap_alloc_get, heap_drew_get] <;> simp <;> done)) (by (first | exact Nat.le_refl _ | exact Nat.le_succ _))) (by (repeat (first | with_reducible exact (Below.refl _ _) | with_reducible apply Below.drew | with_reducible refine balloc ?_ _))) LN1.out ?_; intro V1 n1 c1 w7 e1 ho1 hb7 hg1 hat1; rw [htl1.out] at e1; subst n1; have g0 := (hb7.cell hSl).trans x0; have hS7 := Nat.lt_of_lt_of_le hSl hb7.size; have OW1 := put ho1; have HB7 := put hb7; have HG1 := put hg1; have HAT1 := put hat1; clear ho1 hg1 hat1 hb7)
    refine hJJ.out _ _ trivial (fun hHeld => ?_)
    clear hJJ JJ
    try simp only [List.getElem_toArray, List.getElem_cons_succ, List.getElem_cons_zero, Act.put, List.setIfInBounds_toArray, List.set_cons_zero, List.set_cons_succ]
    refine wpAnyH_ready (rs := [16]) (by kernel_rfl) (by simp) ?_
    refine AllReadyH.cons rfl (fun JJ hJJ => ?_) AllReadyH.nil
    (refine pushS rfl _ _ rfl (.slice V1 q c1) (.slice (if c = (q + 1) then A else A.map (fun x => x.add ((q + 1)))) (m - (q + 1)) (c - (q + 1))) (l.take q) (l.drop (q + 1)) (fun k => k < wk.heap.size) rfl rfl (ODD.out.below (by (repeat (first | with_reducible exact (Below.refl _ _) | with_reducible exact HB7.out | with_reducible apply Below.drew | with_reducible refine balloc ?_ _)))) (fun k hk => ne_own OW1.out hk) (OW1.out.below (by (repeat (first | with_reducible exact (Below.refl _ _) | with_reducible apply Below.drew | with_reducible refine balloc ?_ _)))) (by (repeat (first | with_reducible exact (Below.refl _ _) | with_reducible exact HB7.out | with_reducible apply Below.drew | with_reducible refine balloc ?_ _))) LN3.out ?_; intro V3 l3 c3' w9 e3 ho3 hb9 hg3 hat3; have z0 := (hb9.cell hSl).trans x0; have f0 := frz hb9 hSh; have OW3 := put ho3; have HB9 := put hb9; clear ho3 hg3 hat3 hb9 e3)
    refine hJJ.out _ _ trivial (fun hHeld => ?_)
    clear hJJ JJ
    refine wpAnyH_take (i := 17) (v := ?_) rfl (by kernel_rfl) (by kernel_rfl) (by kernel_rfl) (fun _ _ _ h => h) (Or.inl ⟨by kernel_rfl, ?_⟩) (by assumption) ?_
    rotate_left
    focus (intro w hSw; (try dsimp only at hSw); go_simp; (try with_reducible rfl); done)
    refine wpAnyH_take (i := 18) (v := ?_) rfl (by kernel_rfl) (by kernel_rfl) (by kernel_rfl) (fun _ _ _ h => h) (Or.inl ⟨by kernel_rfl, ?_⟩) (by assumption) ?_
    rotate_left
    focus (intro w hSw; (try dsimp only at hSw); go_simp; (try with_reducible rfl); done)
    try simp only [List.getElem_toArray, List.getElem_cons_succ, List.getElem_cons_zero, Act.put, List.setIfInBounds_toArray, List.set_cons_zero, List.set_cons_succ]
    refine wpAnyH_ready (rs := [19]) (by kernel_rfl) (by simp) ?_
    refine AllReadyH.cons rfl (fun JJ hJJ => ?_) AllReadyH.nil
    go_simp
    refine hJJ.out _ _ trivial (fun hHeld => ?_)
    clear hJJ JJ
    try simp only [List.getElem_toArray, List.getElem_cons_succ, List.getElem_cons_zero, Act.put, List.setIfInBounds_toArray, List.set_cons_zero, List.set_cons_succ]
    refine wpAnyH_done (by kernel_rfl) ?_ _
    refine NoPanic.normal ?_
    go_wp2_with fail
    all_goals (go_ret; exact .inr ⟨HBB.out.symm, FIN.out _ _ _ _ OW3.out HB9.out⟩)
end Go.Proofs.Ytcpahknlabnnbaa.T
