/- slices.IndexFunc and slices.ContainsFunc. -/
import Derived.Test.YtkfoknjflpklpaaPFault
namespace Go.Proofs.Ytkfoknjflpklpaa.P
open Go Go.RowKit Go.Sort Go.Proofs.Ytkfoknjflpklpaa.Mem Go.Proofs.Ytkfoknjflpklpaa.Cmp Go.Proofs.Ytkfoknjflpklpaa.D

/-- The first place where p is so; -1: nowhere. -/
def idxOf {α : Type} (p : α → Bool) : List α → Int
  | [] => -1
  | x :: l => if p x = true then 0 else if idxOf p l < 0 then -1 else idxOf p l + 1
theorem idxOf_range {α : Type} (p : α → Bool) : ∀ l : List α, -1 ≤ idxOf p l ∧ idxOf p l < l.length
  | [] => by simp [idxOf]
  | x :: l => by
    have := idxOf_range p l
    unfold idxOf
    simp only [List.length_cons]
    split
    · omega
    · split <;> omega
theorem idxOf_any {α : Type} (p : α → Bool) : ∀ l : List α, decide (0 ≤ idxOf p l) = l.any p
  | [] => by simp [idxOf]
  | x :: l => by
    have h := idxOf_any p l
    rw [List.any_cons, ← h, show idxOf p (x :: l) = if p x = true then 0 else if idxOf p l < 0 then -1 else idxOf p l + 1 from rfl]
    by_cases hp : p x = true
    · simp [hp]
    · simp only [hp, if_false, Bool.false_or, Bool.false_eq_true]
      have := idxOf_range p l
      split <;> (rw [Bool.eq_iff_iff]; simp only [decide_eq_true_eq]; omega)
theorem idxOf_hit {α : Type} (p : α → Bool) : ∀ (l : List α) (i : Nat) (x : α), (∀ y ∈ l.take i, p y = false) → l[i]? = some x → p x = true → idxOf p l = i
  | [], i, x, _, h, _ => by simp at h
  | y :: l, 0, x, _, h, hp => by
    simp only [List.getElem?_cons_zero, Option.some.injEq] at h
    subst h
    simp [idxOf, hp]
  | y :: l, i + 1, x, ha, h, hp => by
    have h1 := ha y (by simp)
    have h2 := idxOf_hit p l i x (fun z hz => ha z (by simp [hz])) (by simpa using h) hp
    rw [idxOf, if_neg (by rw [h1]; simp), h2, if_neg (by omega)]
    omega
theorem idxOf_none {α : Type} (p : α → Bool) : ∀ (l : List α), (∀ y ∈ l, p y = false) → idxOf p l = -1
  | [], _ => rfl
  | y :: l, h => by
    rw [idxOf, if_neg (by rw [h y List.mem_cons_self]; simp), idxOf_none p l (fun z hz => h z (List.mem_cons_of_mem _ hz)), if_pos (by decide)]
theorem ints_get {ok : Nat → Prop} {w : World} {A : Option Addr} {xs : List Int} (h : Row (tInt .i64) ok w A xs) (i : Nat) (hi : i < xs.length) :
    ∃ ad x, A = some ad ∧ xs[i]? = some x ∧ w.cell? (ad.add i) = some (.int .i64 x) := by
  obtain ⟨ad, cs, rfl, _, _, hr, ha⟩ := h.get i hi
  obtain rfl : cs = [.int .i64 xs[i]] := hr
  have := At.c0 ha rfl
  exact ⟨ad, xs[i], rfl, List.getElem?_eq_getElem hi, by rwa [show i * (tInt IntKind.i64).sz = i by show i * 1 = i; omega] at this⟩
theorem introws_get {ok : Nat → Prop} {w : World} {A : Option Addr} {xs : List (List Int)} (h : Row (tSl (tInt .i64)) ok w A xs) (i : Nat) (hi : i < xs.length) :
    ∃ ad r v, A = some ad ∧ xs[i]? = some r ∧ w.cell? (ad.add i) = some v ∧ Sl (tInt .i64) ok w v r := by
  obtain ⟨ad, cs, rfl, _, _, ⟨v, rfl, hs⟩, ha⟩ := h.get i hi
  refine ⟨ad, xs[i], v, rfl, List.getElem?_eq_getElem hi, ?_, hs⟩
  have := At.c0 ha rfl
  rwa [show i * (tSl (tInt IntKind.i64)).sz = i by show i * 1 = i; omega] at this

set_option maxHeartbeats 4000000 in
set_option maxRecDepth 100000 in
theorem indexVals (g : Nat) (cb : Array Value) (eg : ∀ args w, (callFunc g args).run Try.prog w = .ok (.enter g args) w) (ok : Nat → Prop) (A : Option Addr) (c : Nat) (xs : List Val) (p : Val → Bool) (w : World) (hx : Row tVal ok w A xs) (hl : xs.length ≤ 1000000)
    (hg : ∀ (x : Val) (W : World), x ∈ xs → G w W → Calls Try.prog g (#[.agg #[.int .i64 x.kind, .int .i64 x.n, .string x.s]] ++ cb) W fun e w' => e = .returned (.bool (p x)) ∧ G W w') :
    Calls Try.prog 118 #[.slice A xs.length c, .func (.func g) #[] cb] w fun e w' => e = .returned (.int .i64 (idxOf p xs)) ∧ G w w' := by
  have HX := put hx
  have HG := put hg
  clear hx hg
  obtain ⟨n, hn⟩ : ∃ n, n = xs.length := ⟨_, rfl⟩
  rw [← hn] at hl ⊢
  have HN := put hn
  clear hn
  go_enter Try.func118, Try.ntmps118
  go_wp2_with fail
  go_loopg [8] n (fun kx s8 wr => ∃ (i : Nat), s8 = .int .i64 i ∧ i ≤ n ∧ n - i ≤ kx ∧ Kp (∀ y ∈ xs.take i, p y = false) ∧ Kp (G w wr))
  case atStart => exact ⟨0, rfl, Nat.zero_le _, Nat.le_refl _, put (fun y hy => by simp at hy), put (G.refl _)⟩
  case round =>
    obtain ⟨i, rfl, hi, hkx, HP, KG⟩ := hrel
    by_cases hlt : i < n
    · have hlz : (i : Int) < (n : Int) := by omega
      have i0 : (0 : Int) ≤ (i : Int) := by omega
      have hlt2 : i < xs.length := by rw [← HN.out]; exact hlt
      obtain ⟨ad, rfl, x0, x1, x2⟩ := vals_get (HX.out.grown KG.out) i hlt2
      have hx : xs[i]? = some xs[i] := List.getElem?_eq_getElem hlt2
      generalize xs[i] = x at hx x0 x1 x2
      have KX := put hx
      clear hx hlt2
      have hc := HG.out x _ (List.mem_of_getElem? KX.out) KG.out
      have HC := put hc
      clear hc
      cases hp : p x with
      | true =>
        have E := put (idxOf_hit p xs i x HP.out KX.out hp)
        rw [hp] at HC
        clear hp
        go_wp2_with (go_at_fn g; refine HC.out.mono ?_; rintro e w5 ⟨rfl, hg5⟩; have HG5 := put hg5; clear hg5)
        go_ret
        exact ⟨by rw [E.out]; rfl, KG.out.trans HG5.out⟩
      | false =>
        have HP2 : Kp (∀ y ∈ xs.take (i + 1), p y = false) := put (fun y hy => by
          rw [take_one KX.out] at hy
          rcases List.mem_append.1 hy with hy | hy
          · exact HP.out y hy
          · rw [List.mem_singleton.1 hy]; exact hp)
        rw [hp] at HC
        clear hp
        go_wp2_with (go_at_fn g; refine HC.out.mono ?_; rintro e w5 ⟨rfl, hg5⟩; have HG5 := put hg5; clear hg5)
        go_roundg (n - (i + 1))
        case measure => omega
        case rel => exact ⟨i + 1, by go_num, by omega, Nat.le_refl _, HP2, put (KG.out.trans HG5.out)⟩
    · have hlz : ¬ (i : Int) < (n : Int) := by omega
      have E := put (idxOf_none p xs (fun y hy => HP.out y (by rw [List.take_of_length_le (by rw [← HN.out]; omega)]; exact hy)))
      go_wp2_with fail
      go_ret
      exact ⟨by rw [E.out]; rfl, KG.out⟩

set_option maxHeartbeats 4000000 in
set_option maxRecDepth 100000 in
theorem containsVals (g : Nat) (cb : Array Value) (eg : ∀ args w, (callFunc g args).run Try.prog w = .ok (.enter g args) w) (ok : Nat → Prop) (A : Option Addr) (c : Nat) (xs : List Val) (p : Val → Bool) (w : World) (hx : Row tVal ok w A xs) (hl : xs.length ≤ 1000000)
    (hg : ∀ (x : Val) (W : World), x ∈ xs → G w W → Calls Try.prog g (#[.agg #[.int .i64 x.kind, .int .i64 x.n, .string x.s]] ++ cb) W fun e w' => e = .returned (.bool (p x)) ∧ G W w') :
    Calls Try.prog 96 #[.slice A xs.length c, .func (.func g) #[] cb] w fun e w' => e = .returned (.bool (xs.any p)) ∧ G w w' := by
  have C := put (indexVals g cb eg ok A c xs p w hx hl hg)
  have HX := put (idxOf_any p xs)
  clear hx hl hg
  go_enter Try.func96, Try.ntmps96
  go_wp2_with fail
  refine C.out.mono ?_
  rintro e w1 ⟨rfl, hg1⟩
  have HG1 := put hg1
  clear hg1
  go_wp2_with fail
  go_ret
  exact ⟨by rw [← HX.out]; rfl, HG1.out⟩

set_option maxHeartbeats 4000000 in
set_option maxRecDepth 100000 in
theorem indexInts (g : Nat) (cb : Array Value) (eg : ∀ args w, (callFunc g args).run Try.prog w = .ok (.enter g args) w) (ok : Nat → Prop) (A : Option Addr) (c : Nat) (xs : List Int) (p : Int → Bool) (w : World) (hx : Row (tInt .i64) ok w A xs) (hl : xs.length ≤ 1000000)
    (hg : ∀ (x : Int) (W : World), x ∈ xs → G w W → Calls Try.prog g (#[.int .i64 x] ++ cb) W fun e w' => e = .returned (.bool (p x)) ∧ G W w') :
    Calls Try.prog 140 #[.slice A xs.length c, .func (.func g) #[] cb] w fun e w' => e = .returned (.int .i64 (idxOf p xs)) ∧ G w w' := by
  have HX := put hx
  have HG := put hg
  clear hx hg
  obtain ⟨n, hn⟩ : ∃ n, n = xs.length := ⟨_, rfl⟩
  rw [← hn] at hl ⊢
  have HN := put hn
  clear hn
  go_enter Try.func140, Try.ntmps140
  go_wp2_with fail
  go_loopg [8] n (fun kx s8 wr => ∃ (i : Nat), s8 = .int .i64 i ∧ i ≤ n ∧ n - i ≤ kx ∧ Kp (∀ y ∈ xs.take i, p y = false) ∧ Kp (G w wr))
  case atStart => exact ⟨0, rfl, Nat.zero_le _, Nat.le_refl _, put (fun y hy => by simp at hy), put (G.refl _)⟩
  case round =>
    obtain ⟨i, rfl, hi, hkx, HP, KG⟩ := hrel
    by_cases hlt : i < n
    · have hlz : (i : Int) < (n : Int) := by omega
      have i0 : (0 : Int) ≤ (i : Int) := by omega
      have hlt2 : i < xs.length := by rw [← HN.out]; exact hlt
      obtain ⟨ad, x, rfl, hx, x0⟩ := ints_get (HX.out.grown KG.out) i hlt2
      have KX := put hx
      clear hx hlt2
      have hc := HG.out x _ (List.mem_of_getElem? KX.out) KG.out
      have HC := put hc
      clear hc
      cases hp : p x with
      | true =>
        have E := put (idxOf_hit p xs i x HP.out KX.out hp)
        rw [hp] at HC
        clear hp
        go_wp2_with (go_at_fn g; refine HC.out.mono ?_; rintro e w5 ⟨rfl, hg5⟩; have HG5 := put hg5; clear hg5)
        go_ret
        exact ⟨by rw [E.out]; rfl, KG.out.trans HG5.out⟩
      | false =>
        have HP2 : Kp (∀ y ∈ xs.take (i + 1), p y = false) := put (fun y hy => by
          rw [take_one KX.out] at hy
          rcases List.mem_append.1 hy with hy | hy
          · exact HP.out y hy
          · rw [List.mem_singleton.1 hy]; exact hp)
        rw [hp] at HC
        clear hp
        go_wp2_with (go_at_fn g; refine HC.out.mono ?_; rintro e w5 ⟨rfl, hg5⟩; have HG5 := put hg5; clear hg5)
        go_roundg (n - (i + 1))
        case measure => omega
        case rel => exact ⟨i + 1, by go_num, by omega, Nat.le_refl _, HP2, put (KG.out.trans HG5.out)⟩
    · have hlz : ¬ (i : Int) < (n : Int) := by omega
      have E := put (idxOf_none p xs (fun y hy => HP.out y (by rw [List.take_of_length_le (by rw [← HN.out]; omega)]; exact hy)))
      go_wp2_with fail
      go_ret
      exact ⟨by rw [E.out]; rfl, KG.out⟩

set_option maxHeartbeats 4000000 in
set_option maxRecDepth 100000 in
theorem containsInts (g : Nat) (cb : Array Value) (eg : ∀ args w, (callFunc g args).run Try.prog w = .ok (.enter g args) w) (ok : Nat → Prop) (A : Option Addr) (c : Nat) (xs : List Int) (p : Int → Bool) (w : World) (hx : Row (tInt .i64) ok w A xs) (hl : xs.length ≤ 1000000)
    (hg : ∀ (x : Int) (W : World), x ∈ xs → G w W → Calls Try.prog g (#[.int .i64 x] ++ cb) W fun e w' => e = .returned (.bool (p x)) ∧ G W w') :
    Calls Try.prog 119 #[.slice A xs.length c, .func (.func g) #[] cb] w fun e w' => e = .returned (.bool (xs.any p)) ∧ G w w' := by
  have C := put (indexInts g cb eg ok A c xs p w hx hl hg)
  have HX := put (idxOf_any p xs)
  clear hx hl hg
  go_enter Try.func119, Try.ntmps119
  go_wp2_with fail
  refine C.out.mono ?_
  rintro e w1 ⟨rfl, hg1⟩
  have HG1 := put hg1
  clear hg1
  go_wp2_with fail
  go_ret
  exact ⟨by rw [← HX.out]; rfl, HG1.out⟩

set_option maxHeartbeats 4000000 in
set_option maxRecDepth 100000 in
theorem indexRows (g : Nat) (cb : Array Value) (eg : ∀ args w, (callFunc g args).run Try.prog w = .ok (.enter g args) w) (ok : Nat → Prop) (A : Option Addr) (c : Nat) (xs : List (List Int)) (p : (List Int) → Bool) (w : World) (hx : Row (tSl (tInt .i64)) ok w A xs) (hl : xs.length ≤ 1000000)
    (hg : ∀ (x : List Int) (vx : Value) (W : World), x ∈ xs → G w W → Sl (tInt .i64) ok W vx x → Calls Try.prog g (#[vx] ++ cb) W fun e w' => e = .returned (.bool (p x)) ∧ G W w') :
    Calls Try.prog 121 #[.slice A xs.length c, .func (.func g) #[] cb] w fun e w' => e = .returned (.int .i64 (idxOf p xs)) ∧ G w w' := by
  have HX := put hx
  have HG := put hg
  clear hx hg
  obtain ⟨n, hn⟩ : ∃ n, n = xs.length := ⟨_, rfl⟩
  rw [← hn] at hl ⊢
  have HN := put hn
  clear hn
  go_enter Try.func121, Try.ntmps121
  go_wp2_with fail
  go_loopg [8] n (fun kx s8 wr => ∃ (i : Nat), s8 = .int .i64 i ∧ i ≤ n ∧ n - i ≤ kx ∧ Kp (∀ y ∈ xs.take i, p y = false) ∧ Kp (G w wr))
  case atStart => exact ⟨0, rfl, Nat.zero_le _, Nat.le_refl _, put (fun y hy => by simp at hy), put (G.refl _)⟩
  case round =>
    obtain ⟨i, rfl, hi, hkx, HP, KG⟩ := hrel
    by_cases hlt : i < n
    · have hlz : (i : Int) < (n : Int) := by omega
      have i0 : (0 : Int) ≤ (i : Int) := by omega
      have hlt2 : i < xs.length := by rw [← HN.out]; exact hlt
      obtain ⟨ad, x, vx, rfl, hx, x0, hs⟩ := introws_get (HX.out.grown KG.out) i hlt2
      have HSX := put hs
      obtain ⟨AX, cX, rfl, _, _, _⟩ := hs.shape
      clear hs
      have KX := put hx
      clear hx hlt2
      have hc := HG.out x _ _ (List.mem_of_getElem? KX.out) KG.out HSX.out
      have HC := put hc
      clear hc
      cases hp : p x with
      | true =>
        have E := put (idxOf_hit p xs i x HP.out KX.out hp)
        rw [hp] at HC
        clear hp
        go_wp2_with (go_at_fn g; refine HC.out.mono ?_; rintro e w5 ⟨rfl, hg5⟩; have HG5 := put hg5; clear hg5)
        go_ret
        exact ⟨by rw [E.out]; rfl, KG.out.trans HG5.out⟩
      | false =>
        have HP2 : Kp (∀ y ∈ xs.take (i + 1), p y = false) := put (fun y hy => by
          rw [take_one KX.out] at hy
          rcases List.mem_append.1 hy with hy | hy
          · exact HP.out y hy
          · rw [List.mem_singleton.1 hy]; exact hp)
        rw [hp] at HC
        clear hp
        go_wp2_with (go_at_fn g; refine HC.out.mono ?_; rintro e w5 ⟨rfl, hg5⟩; have HG5 := put hg5; clear hg5)
        go_roundg (n - (i + 1))
        case measure => omega
        case rel => exact ⟨i + 1, by go_num, by omega, Nat.le_refl _, HP2, put (KG.out.trans HG5.out)⟩
    · have hlz : ¬ (i : Int) < (n : Int) := by omega
      have E := put (idxOf_none p xs (fun y hy => HP.out y (by rw [List.take_of_length_le (by rw [← HN.out]; omega)]; exact hy)))
      go_wp2_with fail
      go_ret
      exact ⟨by rw [E.out]; rfl, KG.out⟩
end Go.Proofs.Ytkfoknjflpklpaa.P
