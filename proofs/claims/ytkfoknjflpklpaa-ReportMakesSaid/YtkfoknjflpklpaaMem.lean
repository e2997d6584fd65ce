/- What values read as in memory, with the blocks that they lead to; rows of a call's own. -/
import Derived.WalkKit
import Derived.Maps.AppendAt
import Derived.Laws.AppendOwnNone
import Derived.Laws.Rows
import Derived.Deep.AppendLies
namespace Go.Proofs.Ytkfoknjflpklpaa.Mem
open Go Go.RowKit

/-- Laid aside: the walk takes it for no rule. -/
structure Kp (p : Prop) : Prop where
  out : p
theorem put {p : Prop} (h : p) : Kp p := ⟨h⟩

theorem bytes_eq (a b : ByteArray) : (a.toList == b.toList) = decide (a = b) := by
  rw [Bool.eq_iff_iff]
  simp only [beq_iff_eq, decide_eq_true_eq]
  constructor
  · intro h
    have h1 : a.data.toList = b.data.toList := by rw [← ByteArray.toList_eq, ← ByteArray.toList_eq]; exact h
    cases a; cases b
    simp only at h1
    congr 1
    exact Array.toList_inj.1 h1
  · rintro rfl; rfl

theorem world_lt {w w1 : World} {k : Nat} (h : w1.heap[k]? = w.heap[k]?) (hlt : k < w.heap.size) : k < w1.heap.size := by
  rw [Array.getElem?_eq_getElem hlt] at h
  exact (Array.getElem?_eq_some_iff.1 h).1

/-- Behind a call that made memory: all that there was reads as it did. -/
theorem bcell {W w1 : World} (hb : Below W.heap.size W w1) : (∀ b o, b < W.heap.size → w1.cell? ⟨b, o, none⟩ = W.cell? ⟨b, o, none⟩) ∧ (∀ b o, b < W.heap.size → w1.frozen? ⟨b, o, none⟩ = W.frozen? ⟨b, o, none⟩) :=
  ⟨fun b o h => hb.cell (p := ⟨b, o, none⟩) h, fun b o h => hb.frozen (p := ⟨b, o, none⟩) h⟩

/-- How values of α lie in memory. ok: the blocks that they lead to. -/
structure Ty (α : Type) where
  sz : Nat
  R : (Nat → Prop) → World → α → List Value → Prop
  len : ∀ {ok w x cs}, R ok w x cs → cs.length = sz
  one : ∀ {ok w x cs}, R ok w x cs → ∀ u ∈ cs, u.oneCell' = true
  mono : ∀ {ok ok' w x cs}, (∀ k, ok k → ok' k) → R ok w x cs → R ok' w x cs
  move : ∀ {ok} {w w' : World} {x cs}, (∀ k, ok k → k < w.heap.size → w'.heap[k]? = w.heap[k]?) → R ok w x cs → R ok w' x cs
  bnd : ∀ {ok} {w : World} {x cs}, R ok w x cs → R (fun k => ok k ∧ k < w.heap.size) w x cs

section
variable {α : Type} {d : Ty α} {ok ok' : Nat → Prop} {w w' : World} {x : α} {cs : List Value}
theorem Ty.below (h : d.R ok w x cs) (hb : Below w.heap.size w w') : d.R ok w' x cs := d.move (fun k _ hk => hb.block k hk) h
/-- Read in a later world: what it leads to is elder. -/
theorem Ty.elder (h : d.R ok w x cs) (hb : Below w.heap.size w w') : d.R (fun k => ok k ∧ k < w.heap.size) w' x cs := d.move (fun k _ hk => hb.block k hk) (d.bnd h)
end

/-- The cells cs lie at ad, from o on. -/
def At (w : World) (ad : Addr) (o : Nat) (cs : List Value) : Prop := ∀ j u, cs[j]? = some u → w.cell? (ad.add (o + j)) = some u

def Row {α : Type} (d : Ty α) (ok : Nat → Prop) (w : World) (A : Option Addr) (xs : List α) : Prop :=
  xs ≠ [] → ∃ ad, A = some ad ∧ ok ad.block ∧ ad.block < w.heap.size ∧ ∀ i x, xs[i]? = some x → ∃ cs, d.R ok w x cs ∧ At w ad (i * d.sz) cs

/-- A slice that reads as xs. -/
def Sl {α : Type} (d : Ty α) (ok : Nat → Prop) (w : World) (v : Value) (xs : List α) : Prop :=
  ∃ A c, v = .slice A xs.length c ∧ xs.length ≤ c ∧ c ≤ 9223372036854775807 ∧ xs.length ≤ 140737488355328 ∧ (A = none → c = 0) ∧ Row d ok w A xs

theorem add_block (ad : Addr) (n : Nat) : (ad.add n).block = ad.block := by unfold Addr.add; split <;> rfl
theorem add_zero (ad : Addr) : ad.add 0 = ad := by simp [Addr.add]
theorem add_pos (ad : Addr) (n : Nat) (h : 0 < n) : ad.add n = ⟨ad.block, ad.off + n, none⟩ := by unfold Addr.add; rw [if_neg (by omega)]
theorem add_add (ad : Addr) (n m : Nat) : (ad.add n).add m = ad.add (n + m) := by
  by_cases hn : n = 0
  · subst hn; rw [add_zero, Nat.zero_add]
  · by_cases hm : m = 0
    · subst hm; rw [add_zero, Nat.add_zero]
    · rw [add_pos ad n (by omega), add_pos _ m (by omega), add_pos ad (n + m) (by omega)]; simp [Nat.add_assoc]
theorem add_plain (g n : Nat) : (⟨g, 0, none⟩ : Addr).add n = ⟨g, n, none⟩ := by
  by_cases hn : n = 0
  · subst hn; rw [add_zero]
  · rw [add_pos _ n (by omega)]; simp

section
variable {α : Type} {d : Ty α} {ok ok' : Nat → Prop} {w w' : World} {A : Option Addr} {v : Value} {xs : List α}

theorem At.move {ad : Addr} {o : Nat} {cs : List Value} (h : At w ad o cs) (hb : w'.heap[ad.block]? = w.heap[ad.block]?) : At w' ad o cs := fun j u hj => by
  rw [World.cell?_of_block (w := w) (by rw [add_block]; exact hb)]
  exact h j u hj

theorem Row.mono (h : Row d ok w A xs) (hok : ∀ k, ok k → ok' k) : Row d ok' w A xs := fun hne => by
  obtain ⟨ad, rfl, hb, hlt, hx⟩ := h hne
  exact ⟨ad, rfl, hok _ hb, hlt, fun i x hi => let ⟨cs, hr, ha⟩ := hx i x hi; ⟨cs, d.mono hok hr, ha⟩⟩
theorem Row.move (h : Row d ok w A xs) (hm : ∀ k, ok k → k < w.heap.size → w'.heap[k]? = w.heap[k]?) : Row d ok w' A xs := fun hne => by
  obtain ⟨ad, rfl, hb, hlt, hx⟩ := h hne
  exact ⟨ad, rfl, hb, world_lt (hm _ hb hlt) hlt, fun i x hi => let ⟨cs, hr, ha⟩ := hx i x hi; ⟨cs, d.move hm hr, ha.move (hm _ hb hlt)⟩⟩
theorem Row.bnd (h : Row d ok w A xs) : Row d (fun k => ok k ∧ k < w.heap.size) w A xs := fun hne => by
  obtain ⟨ad, rfl, hb, hlt, hx⟩ := h hne
  exact ⟨ad, rfl, ⟨hb, hlt⟩, hlt, fun i x hi => let ⟨cs, hr, ha⟩ := hx i x hi; ⟨cs, d.bnd hr, ha⟩⟩

theorem Sl.mono (h : Sl d ok w v xs) (hok : ∀ k, ok k → ok' k) : Sl d ok' w v xs := by
  obtain ⟨A, c, rfl, h1, h2, h3, hn, h4⟩ := h
  exact ⟨A, c, rfl, h1, h2, h3, hn, h4.mono hok⟩
theorem Sl.move (h : Sl d ok w v xs) (hm : ∀ k, ok k → k < w.heap.size → w'.heap[k]? = w.heap[k]?) : Sl d ok w' v xs := by
  obtain ⟨A, c, rfl, h1, h2, h3, hn, h4⟩ := h
  exact ⟨A, c, rfl, h1, h2, h3, hn, h4.move hm⟩
theorem Sl.bnd (h : Sl d ok w v xs) : Sl d (fun k => ok k ∧ k < w.heap.size) w v xs := by
  obtain ⟨A, c, rfl, h1, h2, h3, hn, h4⟩ := h
  exact ⟨A, c, rfl, h1, h2, h3, hn, h4.bnd⟩
theorem Sl.below (h : Sl d ok w v xs) (hb : Below w.heap.size w w') : Sl d ok w' v xs := h.move (fun k _ hk => hb.block k hk)
theorem Sl.elder (h : Sl d ok w v xs) (hb : Below w.heap.size w w') : Sl d (fun k => ok k ∧ k < w.heap.size) w' v xs := h.bnd.move (fun k _ hk => hb.block k hk)
/-- Below B, where all that it leads to lies below B. -/
theorem Sl.below' {B : Nat} (h : Sl d ok w v xs) (hb : Below B w w') (hok : ∀ k, ok k → k < B) : Sl d ok w' v xs := h.move (fun k hk _ => hb.block k (hok k hk))
theorem Sl.grown {row : Option Nat} (h : Sl d ok w v xs) (hg : w.grownBy w' row) (hok : ∀ k, ok k → some k ≠ row) : Sl d ok w' v xs := h.move (fun k hk hlt => hg.block k hlt (hok k hk))
theorem Sl.nil (d : Ty α) (ok : Nat → Prop) (w : World) : Sl d ok w (.slice none 0 0) [] := ⟨none, 0, rfl, Nat.le_refl _, by omega, by simp, fun _ => rfl, fun h => absurd rfl h⟩
theorem Sl.shape (h : Sl d ok w v xs) : ∃ A c, v = .slice A xs.length c ∧ xs.length ≤ c ∧ c ≤ 9223372036854775807 ∧ xs.length ≤ 140737488355328 := by
  obtain ⟨A, c, rfl, h1, h2, h3, _⟩ := h
  exact ⟨A, c, rfl, h1, h2, h3⟩
theorem Sl.row {A : Option Addr} {n c : Nat} (h : Sl d ok w (.slice A n c) xs) : Row d ok w A xs ∧ n = xs.length ∧ n ≤ c ∧ c ≤ 9223372036854775807 ∧ n ≤ 140737488355328 ∧ (A = none → c = 0) := by
  obtain ⟨A', c', e, h1, h2, h3, hn, h4⟩ := h
  injection e with e1 e2 e3
  subst e1; subst e2; subst e3
  exact ⟨h4, rfl, h1, h2, h3, hn⟩
/-- Element i. -/
theorem Row.get (h : Row d ok w A xs) (i : Nat) (hi : i < xs.length) : ∃ ad cs, A = some ad ∧ ok ad.block ∧ ad.block < w.heap.size ∧ d.R ok w xs[i] cs ∧ At w ad (i * d.sz) cs := by
  obtain ⟨ad, rfl, hb, hlt, hx⟩ := h (by intro e; subst e; simp at hi)
  obtain ⟨cs, hr, ha⟩ := hx i _ (List.getElem?_eq_getElem hi)
  exact ⟨ad, cs, rfl, hb, hlt, hr, ha⟩
theorem Row.take (h : Row d ok w A xs) (n : Nat) : Row d ok w A (xs.take n) := fun hne => by
  obtain ⟨ad, rfl, hb, hlt, hx⟩ := h (by intro e; subst e; simp at hne)
  refine ⟨ad, rfl, hb, hlt, fun i x hi => hx i x ?_⟩
  rw [List.getElem?_take] at hi
  split at hi
  · exact hi
  · cases hi
theorem Row.drop (h : Row d ok w A xs) (n : Nat) : Row d ok w (A.map (·.add (n * d.sz))) (xs.drop n) := fun hne => by
  obtain ⟨ad, rfl, hb, hlt, hx⟩ := h (by intro e; subst e; simp at hne)
  refine ⟨ad.add (n * d.sz), rfl, by rw [add_block]; exact hb, by rw [add_block]; exact hlt, fun i x hi => ?_⟩
  rw [List.getElem?_drop] at hi
  obtain ⟨cs, hr, ha⟩ := hx (n + i) x hi
  refine ⟨cs, hr, fun j u hj => ?_⟩
  rw [add_add, show n * d.sz + (i * d.sz + j) = (n + i) * d.sz + j by rw [Nat.add_mul, Nat.add_assoc]]
  exact ha j u hj
/-- s[n:], as the model spells its address. -/
theorem Sl.drop {c : Nat} {n m : Nat} (h : Sl d ok w (.slice A m c) xs) (hn : n ≤ m) : Sl d ok w (.slice (if c = n then A else A.map (·.add (n * d.sz))) (m - n) (c - n)) (xs.drop n) := by
  obtain ⟨hr, rfl, h1, h2, h3, h4⟩ := h.row
  refine ⟨_, _, by rw [List.length_drop], by rw [List.length_drop]; omega, by omega, by rw [List.length_drop]; omega, fun hA => ?_, ?_⟩
  · split at hA
    · omega
    · have := h4 (by simpa using hA); omega
  split
  · rename_i e
    have : xs.drop n = [] := List.drop_eq_nil_of_le (by omega)
    rw [this]; exact fun hne => absurd rfl hne
  · exact hr.drop n
theorem Sl.take {c : Nat} {n m : Nat} (h : Sl d ok w (.slice A m c) xs) (hn : n ≤ m) : Sl d ok w (.slice A n c) (xs.take n) := by
  obtain ⟨hr, rfl, h1, h2, h3, h4⟩ := h.row
  exact ⟨_, _, by rw [List.length_take, Nat.min_eq_left hn], by rw [List.length_take]; omega, h2, by rw [List.length_take]; omega, h4, hr.take n⟩
end

/-! ### the kinds -/
def tInt (k : IntKind) : Ty Int where
  sz := 1
  R := fun _ _ x cs => cs = [.int k x]
  len := fun h => by rw [h]; rfl
  one := fun h u hu => by rw [h] at hu; rw [List.mem_singleton.1 hu]; rfl
  mono := fun _ h => h
  move := fun _ h => h
  bnd := fun h => h
def tBool : Ty Bool where
  sz := 1
  R := fun _ _ x cs => cs = [.bool x]
  len := fun h => by rw [h]; rfl
  one := fun h u hu => by rw [h] at hu; rw [List.mem_singleton.1 hu]; rfl
  mono := fun _ h => h
  move := fun _ h => h
  bnd := fun h => h
def tStr : Ty ByteArray where
  sz := 1
  R := fun _ _ x cs => cs = [.string x]
  len := fun h => by rw [h]; rfl
  one := fun h u hu => by rw [h] at hu; rw [List.mem_singleton.1 hu]; rfl
  mono := fun _ h => h
  move := fun _ h => h
  bnd := fun h => h
theorem Sl.oneCell {α : Type} {d : Ty α} {ok : Nat → Prop} {w : World} {v : Value} {xs : List α} (h : Sl d ok w v xs) : v.oneCell' = true := by
  obtain ⟨A, c, rfl, _⟩ := h
  rfl
def tSl {α : Type} (d : Ty α) : Ty (List α) where
  sz := 1
  R := fun ok w xs cs => ∃ v, cs = [v] ∧ Sl d ok w v xs
  len := fun ⟨_, h, _⟩ => by rw [h]; rfl
  one := fun ⟨v, h, hs⟩ u hu => by rw [h] at hu; rw [List.mem_singleton.1 hu]; exact hs.oneCell
  mono := fun hok ⟨v, h, hs⟩ => ⟨v, h, hs.mono hok⟩
  move := fun hm ⟨v, h, hs⟩ => ⟨v, h, hs.move hm⟩
  bnd := fun ⟨v, h, hs⟩ => ⟨v, h, hs.bnd⟩

/-! ### rows of a call's own -/
/-- v is a row (of elements of type E) of the call's own, in a block from base on; what the elements lead to lies in ok, and is not this row. -/
def Own {α : Type} (d : Ty α) (E : TypeId) (ok : Nat → Prop) (w : World) (base : Nat) (v : Value) (xs : List α) : Prop :=
  ∃ cells : List (List Value), cells.length = xs.length ∧ w.ownsRow base E d.sz v xs.length cells.flatten ∧
    ∀ (i : Nat) (x : α) (c : List Value), xs[i]? = some x → cells[i]? = some c → d.R (fun k => ok k ∧ some k ≠ v.ownBlock) w x c

section
variable {α : Type} {d : Ty α} {E base : Nat} {ok ok' : Nat → Prop} {w w' : World} {v : Value} {xs : List α}

theorem flat_get {sz : Nat} : ∀ (cells : List (List Value)), (∀ c ∈ cells, c.length = sz) → ∀ (i : Nat) (c : List Value) (j : Nat) (u : Value), cells[i]? = some c → c[j]? = some u → cells.flatten[i * sz + j]? = some u
  | [], _, i, c, j, u, h, _ => by simp at h
  | c0 :: cells, hl, 0, c, j, u, h, hu => by
    simp only [List.getElem?_cons_zero, Option.some.injEq] at h
    subst h
    rw [List.flatten_cons, Nat.zero_mul, Nat.zero_add, List.getElem?_append_left (List.getElem?_eq_some_iff.1 hu).1]
    exact hu
  | c0 :: cells, hl, i + 1, c, j, u, h, hu => by
    have h0 := hl c0 List.mem_cons_self
    rw [List.flatten_cons, List.getElem?_append_right (by rw [h0, Nat.add_mul]; omega)]
    have := flat_get cells (fun c hc => hl c (List.mem_cons_of_mem _ hc)) i c j u (by simpa using h) hu
    rw [show (i + 1) * sz + j - c0.length = i * sz + j by rw [h0, Nat.add_mul]; omega]
    exact this

theorem Own.lens {cells : List (List Value)} (hl : cells.length = xs.length) (h : ∀ (i : Nat) (x : α) (c : List Value), xs[i]? = some x → cells[i]? = some c → d.R ok w x c) : ∀ c ∈ cells, c.length = d.sz := by
  intro c hc
  obtain ⟨i, hi, rfl⟩ := List.mem_iff_getElem.1 hc
  exact d.len (h i xs[i] cells[i] (List.getElem?_eq_getElem (by omega)) (List.getElem?_eq_getElem hi))

theorem Own.nil (d : Ty α) (E : TypeId) (ok : Nat → Prop) (w : World) (base : Nat) : Own d E ok w base (.slice none 0 0) [] :=
  ⟨[], rfl, World.ownsRow_nil _ _ _ _, fun i x c h => by simp at h⟩

theorem Own.lt (h : Own d E ok w base v xs) : ∀ k, v.ownBlock = some k → base ≤ k ∧ k < w.heap.size := by
  obtain ⟨cells, _, ho, _⟩ := h
  exact ho.lt

theorem Own.mono (h : Own d E ok w base v xs) (hok : ∀ k, ok k → ok' k) : Own d E ok' w base v xs := by
  obtain ⟨cells, hl, ho, hr⟩ := h
  exact ⟨cells, hl, ho, fun i x c hx hc => d.mono (fun k hk => ⟨hok k hk.1, hk.2⟩) (hr i x c hx hc)⟩

theorem Own.lower {base' : Nat} (h : Own d E ok w base v xs) (hb : base' ≤ base) : Own d E ok w base' v xs := by
  obtain ⟨cells, hl, ⟨h1, h2⟩, hr⟩ := h
  refine ⟨cells, hl, ⟨h1, ?_⟩, hr⟩
  rcases h2 with h2 | ⟨g, cap, cur, e, hg, r⟩
  · exact Or.inl h2
  · exact Or.inr ⟨g, cap, cur, e, Nat.le_trans hb hg, r⟩

theorem ownsRow_move {size n : Nat} {cs : List Value} (h : w.ownsRow base E size v n cs) (hm : ∀ k, v.ownBlock = some k → w'.heap[k]? = w.heap[k]?) : w'.ownsRow base E size v n cs := by
  obtain ⟨h1, h2⟩ := h
  refine ⟨h1, ?_⟩
  rcases h2 with h2 | ⟨g, cap, cur, rfl, hg, hh, r⟩
  · exact Or.inl h2
  · exact Or.inr ⟨g, cap, cur, rfl, hg, (hm g rfl).trans hh, r⟩

/-- Its block, and what its elements lead to, are as they were. -/
theorem Own.move (h : Own d E ok w base v xs) (hv : ∀ k, v.ownBlock = some k → w'.heap[k]? = w.heap[k]?) (hm : ∀ k, ok k → some k ≠ v.ownBlock → k < w.heap.size → w'.heap[k]? = w.heap[k]?) : Own d E ok w' base v xs := by
  obtain ⟨cells, hl, ho, hr⟩ := h
  exact ⟨cells, hl, ownsRow_move ho hv, fun i x c hx hc => d.move (fun k hk hlt => hm k hk.1 hk.2 hlt) (hr i x c hx hc)⟩

theorem Own.below (h : Own d E ok w base v xs) (hb : Below w.heap.size w w') : Own d E ok w' base v xs :=
  h.move (fun k hk => hb.block k (h.lt k hk).2) (fun k _ _ hk => hb.block k hk)

theorem Own.alloc (h : Own d E ok w base v xs) (o : Obj) : Own d E ok (w.alloc o) base v xs := h.below ((Below.refl _ _).alloc (Nat.le_refl _) o)

theorem Own.drew (h : Own d E ok w base v xs) : Own d E ok w.drew base v xs := h.below (Below.refl _ _).drew

theorem Own.far (h : Own d E ok w base v xs) {p : Addr} (hv : ∀ k, v.ownBlock = some k → k ≠ p.block) (hok : ∀ k, ok k → k ≠ p.block) (u : Value) : Own d E ok (w.setCell p u) base v xs :=
  h.move (fun k hk => Below.heap_setCell _ _ _ _ (hv k hk)) (fun k hk _ _ => Below.heap_setCell _ _ _ _ (hok k hk))
/-- A store below the call's own blocks. -/
theorem Own.store (h : Own d E ok w base v xs) {p : Addr} (hp : p.block < base) (hok : ∀ k, ok k → k ≠ p.block) (u : Value) : Own d E ok (w.setCell p u) base v xs :=
  h.far (fun k hk => by have := (h.lt k hk).1; omega) hok u

theorem Own.shape (h : Own d E ok w base v xs) : v = .slice none 0 0 ∧ xs = [] ∨ ∃ g cap, v = .slice (some ⟨g, 0, none⟩) xs.length cap ∧ base ≤ g ∧ g < w.heap.size ∧ xs.length ≤ cap ∧ cap ≤ 9223372036854775807 := by
  have hlt := h.lt
  obtain ⟨cells, hl, ⟨h1, h2⟩, hr⟩ := h
  rcases h2 with ⟨rfl, h0⟩ | ⟨g, cap, cur, rfl, hg, hh, hc, hm, _⟩
  · exact Or.inl ⟨rfl, List.eq_nil_of_length_eq_zero h0⟩
  · exact Or.inr ⟨g, cap, rfl, hg, (hlt g rfl).2, hc, by simpa [maxLen] using hm⟩

theorem Own.form (h : Own d E ok w base v xs) : ∃ A c, v = .slice A xs.length c ∧ xs.length ≤ c ∧ c ≤ 9223372036854775807 := by
  rcases h.shape with ⟨rfl, rfl⟩ | ⟨g, cap, rfl, _, _, h1, h2⟩
  · exact ⟨none, 0, rfl, Nat.le_refl _, by omega⟩
  · exact ⟨_, cap, rfl, h1, h2⟩

/-- By its type, a row is none of a block of another type. -/
theorem Own.ne_block (h : Own d E ok w base v xs) {g : Nat} {t : TypeId} {cs : Array Value} {fr : Nat × Nat} (hb : w.heap[g]? = some (.cells cs t fr)) (ht : E ≠ t) : some g ≠ v.ownBlock := by
  obtain ⟨cells, hl, ⟨h1, h2⟩, hr⟩ := h
  rcases h2 with ⟨rfl, h0⟩ | ⟨g', cap, cur, rfl, hg, hh, _⟩
  · simp [Value.ownBlock]
  · simp only [Value.ownBlock, ne_eq, Option.some.injEq]
    rintro rfl
    rw [hb] at hh
    injection hh with hh
    injection hh with _ hh
    exact ht hh.symm

/-- A row of one's own is a slice that reads. -/
theorem Own.sl (h : Own d E ok w base v xs) (hv : ∀ k, v.ownBlock = some k → ok' k) (hok : ∀ k, ok k → ok' k) (hn : xs.length ≤ 140737488355328) : Sl d ok' w v xs := by
  have hlt := h.lt
  obtain ⟨cells, hl, ho, hr⟩ := h
  have hcl := Own.lens hl hr
  have hcells := fun g hg => ho.cells (g := g) hg
  obtain ⟨h1, h2⟩ := ho
  rcases h2 with ⟨rfl, h0⟩ | ⟨g, cap, cur, rfl, hg, hh, hc, hm, _⟩
  · have : xs = [] := List.eq_nil_of_length_eq_zero h0
    subst this
    exact Sl.nil _ _ _
  · refine ⟨_, cap, rfl, hc, by simpa [maxLen] using hm, hn, fun h => (by cases h), fun _ => ⟨_, rfl, hv g rfl, (hlt g rfl).2, fun i x hx => ?_⟩⟩
    have hi : i < cells.length := by rw [hl]; exact (List.getElem?_eq_some_iff.1 hx).1
    refine ⟨cells[i], d.mono (fun k hk => hok k hk.1) (hr i x _ hx (List.getElem?_eq_getElem hi)), fun j u hj => ?_⟩
    exact hcells g rfl _ u (flat_get cells hcl i _ j u (List.getElem?_eq_getElem hi) hj)
end

/-- A literal's block. -/
theorem news_lit (W : World) (cs : List Value) (e : TypeId) : ∀ (j : Nat) (u : Value), cs[j]? = some u → (W.alloc (.cells cs.toArray e)).cell? ((⟨W.heap.size, 0, none⟩ : Addr).add j) = some u :=
  Go.World.news_of_block (cs := cs.toArray) (t := e) (fr := (0, 0)) (heap_alloc_new W _)

/-- What is owned behind an append. -/
theorem Own.appended {α : Type} {d : Ty α} {E base : Nat} {ok : Nat → Prop} {W w1 : World} {v v1 : Value} {xs ys : List α} {cells news : List (List Value)}
    (hl : cells.length = xs.length) (hr : ∀ (i : Nat) (x : α) (c : List Value), xs[i]? = some x → cells[i]? = some c → d.R (fun k => ok k ∧ some k ≠ v.ownBlock) W x c)
    (hnl : news.length = ys.length) (hnr : ∀ (i : Nat) (y : α) (c : List Value), ys[i]? = some y → news[i]? = some c → d.R (fun k => ok k ∧ some k ≠ v.ownBlock) W y c)
    (ho : w1.ownsRow base E d.sz v1 (xs.length + ys.length) (cells.flatten ++ news.flatten)) (hg : W.grownBy w1 v.ownBlock) (hat : v1.ownBlock = v.ownBlock ∨ ∃ b, v1.ownBlock = some b ∧ W.heap.size ≤ b) : Own d E ok w1 base v1 (xs ++ ys) := by
  have key : ∀ x c, d.R (fun k => ok k ∧ some k ≠ v.ownBlock) W x c → d.R (fun k => ok k ∧ some k ≠ v1.ownBlock) w1 x c := fun x c h =>
    d.mono (fun k hk => ⟨hk.1.1, by
      rcases hat with hat | ⟨b, hb, hle⟩
      · rw [hat]; exact hk.1.2
      · rw [hb]; intro e; injection e with e; omega⟩) (d.move (fun k hk hlt => hg.block k hlt hk.1.2) (d.bnd h))
  refine ⟨cells ++ news, by simp [hl, hnl], by rw [List.length_append, List.flatten_append]; exact ho, fun i x c hx hc => ?_⟩
  by_cases hi : i < xs.length
  · rw [List.getElem?_append_left hi] at hx
    rw [List.getElem?_append_left (by omega)] at hc
    exact key x c (hr i x c hx hc)
  · rw [List.getElem?_append_right (by omega)] at hx
    rw [List.getElem?_append_right (by omega)] at hc
    exact key x c (hnr (i - xs.length) x c hx (by rw [← hl]; exact hc))

section
variable {P : Program} {ops : Array Oper} {rest : List Oper} {o : Oper} {a : Act} {Q : Exit → Act → World → Prop} {α : Type}

/-- append(v, x), behind the literal's block. -/
theorem wpList_push (d : Ty α) {W : World} (base : Nat) (hgd : o.guard = none) (s x : Operand) (t e : TypeId) (z : Value) (bytes : Nat)
    (ho : o.op = .call { callee := .builtin .append, args := #[s, x], argTypes := #[t, t] })
    (ht : P.underlying t = some (.slice e)) (hinfo : (P.info? e).map (fun i => (i.zero, i.size, i.bytes)) = some (some z, d.sz, bytes)) (hz : z.cells.size = d.sz) (hs0 : 0 < d.sz) (hb0 : 0 < bytes)
    (v : Value) (xs : List α) (p : α) (cs : List Value) (ok : Nat → Prop) (hs : a.eval s = v) (hx : a.eval x = .slice (some ⟨W.heap.size, 0, none⟩) 1 1)
    (hp : d.R (fun k => ok k ∧ some k ≠ v.ownBlock) W p cs) (HO : Own d e ok W base v xs) (hbase : base ≤ W.heap.size) (hl : (xs.length + 1) * bytes ≤ 140737488355328)
    (h : ∀ v1 w1, Own d e ok w1 base v1 (xs ++ [p]) → W.grownBy w1 v.ownBlock → (v1.ownBlock = v.ownBlock ∨ ∃ b, v1.ownBlock = some b ∧ W.heap.size ≤ b) → wpList P ops Q rest (a.put o.dst v1) w1) :
    wpList P ops Q (o :: rest) a (W.alloc (.cells cs.toArray e)) := by
  obtain ⟨i0, hi, hzz⟩ := Option.map_eq_some_iff.1 hinfo
  simp only [Prod.mk.injEq] at hzz
  obtain ⟨hz0, hz1, hz2⟩ := hzz
  have hlen : xs.length + 1 ≤ 140737488355328 := Nat.le_trans (Nat.le_mul_of_pos_right _ hb0) hl
  obtain ⟨cells, hlc, hown, hr⟩ := HO
  refine wpList_append_own_at (W.alloc (.cells cs.toArray e)) hgd s x t ho base e i0 z d.sz bytes ht hi hz0 hz1 hz2 hz hs0 v xs.length cells.flatten hs (hown.alloc _) ⟨W.heap.size, 0, none⟩ 1 1 cs hx (by rw [d.len hp, Nat.one_mul])
    (news_lit W cs e) (d.one hp) (by simp only [maxLen]; omega) hl (by simp; omega) ?_
  intro v1 w1 hown1 hg _ hat
  have hg' : W.grownBy w1 v.ownBlock := World.grownBy.trans (World.grownBy_alloc W _ _) hg
  have hat' : v1.ownBlock = v.ownBlock ∨ ∃ b, v1.ownBlock = some b ∧ W.heap.size ≤ b := by
    rcases hat with hat | hat
    · exact .inl hat
    · exact .inr ⟨_, hat, by simp⟩
  refine h v1 w1 (Own.appended (ys := [p]) (news := [cs]) hlc hr rfl (fun i y c hy hc => ?_) (by simpa using hown1) hg' hat') hg' hat'
  rcases i with _ | i
  · simp only [List.getElem?_cons_zero, Option.some.injEq] at hy hc
    subst hy; subst hc; exact hp
  · simp at hy

/-- The cells of a row that reads. -/
theorem Row.cells {d : Ty α} {ok : Nat → Prop} {W : World} {ad : Addr} {ys : List α} (h : Row d ok W (some ad) ys) : ∃ news : List (List Value), news.length = ys.length ∧ (∀ (i : Nat) (y : α) (c : List Value), ys[i]? = some y → news[i]? = some c → d.R ok W y c) ∧ ∀ (j : Nat) (u : Value), news.flatten[j]? = some u → W.cell? (ad.add j) = some u := by
  have aux : ∀ (n : Nat) (zs : List α) (m : Nat), zs.length = n → (∀ (i : Nat) (x : α), zs[i]? = some x → ∃ cs, d.R ok W x cs ∧ At W ad ((m + i) * d.sz) cs) →
      ∃ news : List (List Value), news.length = zs.length ∧ (∀ (i : Nat) (y : α) (c : List Value), zs[i]? = some y → news[i]? = some c → d.R ok W y c) ∧ ∀ (j : Nat) (u : Value), news.flatten[j]? = some u → W.cell? (ad.add (m * d.sz + j)) = some u := by
    intro n
    induction n with
    | zero =>
      intro zs m hn _
      have : zs = [] := List.eq_nil_of_length_eq_zero hn
      subst this
      exact ⟨[], rfl, fun i y c hy => by simp at hy, fun j u hj => by simp at hj⟩
    | succ n ih =>
      intro zs m hn hx
      cases zs with
      | nil => simp at hn
      | cons z zs =>
        obtain ⟨c0, hr0, ha0⟩ := hx 0 z rfl
        obtain ⟨news, hl, hr, hc⟩ := ih zs (m + 1) (by simpa using hn) (fun i x hi => by
          have := hx (i + 1) x (by simpa using hi)
          rwa [show m + (i + 1) = m + 1 + i by omega] at this)
        refine ⟨c0 :: news, by simp [hl], fun i y c hy hc' => ?_, fun j u hj => ?_⟩
        · cases i with
          | zero =>
            simp only [List.getElem?_cons_zero, Option.some.injEq] at hy hc'
            subst hy; subst hc'; exact hr0
          | succ i => exact hr i y c (by simpa using hy) (by simpa using hc')
        · rw [List.flatten_cons] at hj
          have hlen0 := d.len hr0
          by_cases hj0 : j < c0.length
          · rw [List.getElem?_append_left hj0] at hj
            have := ha0 j u hj
            rwa [Nat.add_zero] at this
          · rw [List.getElem?_append_right (by omega)] at hj
            have := hc (j - c0.length) u hj
            rwa [show (m + 1) * d.sz + (j - c0.length) = m * d.sz + j by rw [Nat.add_mul, Nat.one_mul]; omega] at this
  by_cases hne : ys = []
  · subst hne
    exact ⟨[], rfl, fun i y c hy => by simp at hy, fun j u hj => by simp at hj⟩
  · obtain ⟨ad', e, hb, hlt, hx⟩ := h hne
    injection e with e
    subst e
    obtain ⟨news, h1, h2, h3⟩ := aux ys.length ys 0 rfl (fun i x hi => by rw [Nat.zero_add]; exact hx i x hi)
    exact ⟨news, h1, h2, fun j u hj => by have := h3 j u hj; rwa [Nat.zero_mul, Nat.zero_add] at this⟩

/-- append(v, ys...): ys reads. -/
theorem wpList_pushes (d : Ty α) {W : World} (base : Nat) (hgd : o.guard = none) (s x : Operand) (t e : TypeId) (z : Value) (bytes : Nat)
    (ho : o.op = .call { callee := .builtin .append, args := #[s, x], argTypes := #[t, t] })
    (ht : P.underlying t = some (.slice e)) (hinfo : (P.info? e).map (fun i => (i.zero, i.size, i.bytes)) = some (some z, d.sz, bytes)) (hz : z.cells.size = d.sz) (hs0 : 0 < d.sz) (hb0 : 0 < bytes)
    (v u : Value) (xs ys : List α) (ok okp : Nat → Prop) (hs : a.eval s = v) (hx : a.eval x = u)
    (HS : Sl d okp W u ys) (hokp : ∀ k, okp k → ok k ∧ some k ≠ v.ownBlock) (HO : Own d e ok W base v xs) (hbase : base ≤ W.heap.size) (hl : (xs.length + ys.length) * bytes ≤ 140737488355328)
    (h : ∀ v1 w1, Own d e ok w1 base v1 (xs ++ ys) → W.grownBy w1 v.ownBlock → (v1.ownBlock = v.ownBlock ∨ ∃ b, v1.ownBlock = some b ∧ W.heap.size ≤ b) → wpList P ops Q rest (a.put o.dst v1) w1) :
    wpList P ops Q (o :: rest) a W := by
  obtain ⟨i0, hi, hzz⟩ := Option.map_eq_some_iff.1 hinfo
  simp only [Prod.mk.injEq] at hzz
  obtain ⟨hz0, hz1, hz2⟩ := hzz
  have hlen : xs.length + ys.length ≤ 140737488355328 := Nat.le_trans (Nat.le_mul_of_pos_right _ hb0) hl
  obtain ⟨cells, hlc, hown, hr⟩ := HO
  obtain ⟨A, c, rfl, _, _, _, hnil, hrow⟩ := HS
  cases A with
  | some ad =>
    obtain ⟨news, hnl, hnr, hnc⟩ := hrow.cells
    have hcl := Own.lens hnl hnr
    have hfl : ∀ l : List (List Value), (∀ c ∈ l, c.length = d.sz) → l.flatten.length = l.length * d.sz := by
      intro l
      induction l with
      | nil => intro _; simp
      | cons c l ih => intro hl; rw [List.flatten_cons, List.length_append, ih (fun c hc => hl c (List.mem_cons_of_mem _ hc)), hl c List.mem_cons_self, List.length_cons, Nat.add_mul, Nat.one_mul, Nat.add_comm]
    refine wpList_append_own_at W hgd s x t ho base e i0 z d.sz bytes ht hi hz0 hz1 hz2 hz hs0 v xs.length cells.flatten hs hown ad ys.length c news.flatten hx (by rw [hfl _ hcl, hnl]) hnc (fun u hu => by
      obtain ⟨l, hl1, hl2⟩ := List.mem_flatten.1 hu
      obtain ⟨i, hi', rfl⟩ := List.mem_iff_getElem.1 hl1
      exact d.one (hnr i ys[i] _ (List.getElem?_eq_getElem (by omega)) (List.getElem?_eq_getElem hi')) u hl2) (by simp only [maxLen]; omega) hl hbase ?_
    intro v1 w1 hown1 hg _ hat
    have hat' : v1.ownBlock = v.ownBlock ∨ ∃ b, v1.ownBlock = some b ∧ W.heap.size ≤ b := by
      rcases hat with hat | hat
      · exact .inl hat
      · exact .inr ⟨_, hat, Nat.le_refl _⟩
    exact h v1 w1 (Own.appended hlc hr hnl (fun i y c hy hc => d.mono hokp (hnr i y c hy hc)) hown1 hg hat') hg hat'
  | none =>
    have hys : ys = [] := by
      by_cases hne : ys = []
      · exact hne
      · obtain ⟨ad, e, _⟩ := hrow hne; cases e
    subst hys
    obtain rfl := hnil rfl
    refine wpList_append_own_none hgd s x t ho base e i0 d.sz ht hi v xs.length cells.flatten hs hown hx ?_
    have hg : W.grownBy W v.ownBlock := ⟨rfl, rfl, rfl, Nat.le_refl _, fun _ _ _ => rfl⟩
    exact h v W (by rw [List.append_nil]; exact ⟨cells, hlc, hown, hr⟩) hg (.inl rfl)
end
end Go.Proofs.Ytkfoknjflpklpaa.Mem
