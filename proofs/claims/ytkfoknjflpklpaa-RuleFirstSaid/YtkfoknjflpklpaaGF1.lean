/- What values read as in memory, with the blocks that they lead to; rows of a call's own. Values and changes: how they lie in memory; '==' of values. cmp.Compare at int and string, cmp.Or at int. slices.Clone of a slice of tripwire/api.Value. slices.Clone of a slice of tripwire/delta.Change. Change.before: how two changes' rows stand. slices.Equal of values; delta.Kind. The stable sort of Go's library (insertion sort of blocks, symmetric merges, rotations) as plain functions over arrays, and that it is a stable sort. slices.swapRangeCmpFunc at tripwire/delta.Change: it exchanges two ranges. slices.insertionSortCmpFunc at tripwire/delta.Change. slices.rotateCmpFunc at tripwire/delta.Change: it exchanges two neighbouring parts. slices.symMergeCmpFunc at tripwire/delta.Change, where the left part is one element. -/
import Derived.WalkKit
import Derived.Maps.AppendAt
import Derived.Laws.AppendOwnNone
import Derived.Laws.Rows
import Derived.Deep.AppendLies
import Derived.Test.YtkfoknjflpklpaaProg
import Derived.Laws.StructEq
import Derived.Deep.QuietTactic
import Derived.BigQuiet
import Derived.Deep.LoopGhost
import Derived.WalkLawsBesides
import Derived.WalkSpells
import Derived.Deep.RegionHeld3
import Derived.Sort.Grow
import Derived.Sort.LotA
import Derived.Shelf.SlSortCmp.KitK
import Derived.Sort.WalkB2
import Derived.Sort.WalkB12

namespace Go.Proofs.Ytkfoknjflpklpaa.Mem
open Go Go.RowKit

/-- Laid aside: the walk takes it for no rule. -/
structure Kp (p : Prop) : Prop where
  out : p
theorem put {p : Prop} (h : p) : Kp p := ⟨h⟩

theorem bytes_eq (a b : ByteArray) : (a.toList == b.toList) = decide (a = b) := by
  rw [Bool.eq_iff_iff]
  simp only [beq_iff_eq, decide_eq_true_eq]
  constructor
  · intro h
    have h1 : a.data.toList = b.data.toList := by rw [← ByteArray.toList_eq, ← ByteArray.toList_eq]; exact h
    cases a; cases b
    simp only at h1
    congr 1
    exact Array.toList_inj.1 h1
  · rintro rfl; rfl

theorem world_lt {w w1 : World} {k : Nat} (h : w1.heap[k]? = w.heap[k]?) (hlt : k < w.heap.size) : k < w1.heap.size := by
  rw [Array.getElem?_eq_getElem hlt] at h
  exact (Array.getElem?_eq_some_iff.1 h).1

/-- Behind a call that made memory: all that there was reads as it did. -/
theorem bcell {W w1 : World} (hb : Below W.heap.size W w1) : (∀ b o, b < W.heap.size → w1.cell? ⟨b, o, none⟩ = W.cell? ⟨b, o, none⟩) ∧ (∀ b o, b < W.heap.size → w1.frozen? ⟨b, o, none⟩ = W.frozen? ⟨b, o, none⟩) :=
  ⟨fun b o h => hb.cell (p := ⟨b, o, none⟩) h, fun b o h => hb.frozen (p := ⟨b, o, none⟩) h⟩

/-- How values of α lie in memory. ok: the blocks that they lead to. -/
structure Ty (α : Type) where
  sz : Nat
  R : (Nat → Prop) → World → α → List Value → Prop
  len : ∀ {ok w x cs}, R ok w x cs → cs.length = sz
  one : ∀ {ok w x cs}, R ok w x cs → ∀ u ∈ cs, u.oneCell' = true
  mono : ∀ {ok ok' w x cs}, (∀ k, ok k → ok' k) → R ok w x cs → R ok' w x cs
  move : ∀ {ok} {w w' : World} {x cs}, (∀ k, ok k → k < w.heap.size → w'.heap[k]? = w.heap[k]?) → R ok w x cs → R ok w' x cs
  bnd : ∀ {ok} {w : World} {x cs}, R ok w x cs → R (fun k => ok k ∧ k < w.heap.size) w x cs

section
variable {α : Type} {d : Ty α} {ok ok' : Nat → Prop} {w w' : World} {x : α} {cs : List Value}
theorem Ty.below (h : d.R ok w x cs) (hb : Below w.heap.size w w') : d.R ok w' x cs := d.move (fun k _ hk => hb.block k hk) h
/-- Read in a later world: what it leads to is elder. -/
theorem Ty.elder (h : d.R ok w x cs) (hb : Below w.heap.size w w') : d.R (fun k => ok k ∧ k < w.heap.size) w' x cs := d.move (fun k _ hk => hb.block k hk) (d.bnd h)
end

/-- The cells cs lie at ad, from o on. -/
def At (w : World) (ad : Addr) (o : Nat) (cs : List Value) : Prop := ∀ j u, cs[j]? = some u → w.cell? (ad.add (o + j)) = some u

def Row {α : Type} (d : Ty α) (ok : Nat → Prop) (w : World) (A : Option Addr) (xs : List α) : Prop :=
  xs ≠ [] → ∃ ad, A = some ad ∧ ok ad.block ∧ ad.block < w.heap.size ∧ ∀ i x, xs[i]? = some x → ∃ cs, d.R ok w x cs ∧ At w ad (i * d.sz) cs

/-- A slice that reads as xs. -/
def Sl {α : Type} (d : Ty α) (ok : Nat → Prop) (w : World) (v : Value) (xs : List α) : Prop :=
  ∃ A c, v = .slice A xs.length c ∧ xs.length ≤ c ∧ c ≤ 9223372036854775807 ∧ xs.length ≤ 140737488355328 ∧ (A = none → c = 0) ∧ Row d ok w A xs

theorem add_block (ad : Addr) (n : Nat) : (ad.add n).block = ad.block := by unfold Addr.add; split <;> rfl
theorem add_zero (ad : Addr) : ad.add 0 = ad := by simp [Addr.add]
theorem add_pos (ad : Addr) (n : Nat) (h : 0 < n) : ad.add n = ⟨ad.block, ad.off + n, none⟩ := by unfold Addr.add; rw [if_neg (by omega)]
theorem add_add (ad : Addr) (n m : Nat) : (ad.add n).add m = ad.add (n + m) := by
  by_cases hn : n = 0
  · subst hn; rw [add_zero, Nat.zero_add]
  · by_cases hm : m = 0
    · subst hm; rw [add_zero, Nat.add_zero]
    · rw [add_pos ad n (by omega), add_pos _ m (by omega), add_pos ad (n + m) (by omega)]; simp [Nat.add_assoc]
theorem add_plain (g n : Nat) : (⟨g, 0, none⟩ : Addr).add n = ⟨g, n, none⟩ := by
  by_cases hn : n = 0
  · subst hn; rw [add_zero]
  · rw [add_pos _ n (by omega)]; simp

section
variable {α : Type} {d : Ty α} {ok ok' : Nat → Prop} {w w' : World} {A : Option Addr} {v : Value} {xs : List α}

theorem At.move {ad : Addr} {o : Nat} {cs : List Value} (h : At w ad o cs) (hb : w'.heap[ad.block]? = w.heap[ad.block]?) : At w' ad o cs := fun j u hj => by
  rw [World.cell?_of_block (w := w) (by rw [add_block]; exact hb)]
  exact h j u hj

theorem Row.mono (h : Row d ok w A xs) (hok : ∀ k, ok k → ok' k) : Row d ok' w A xs := fun hne => by
  obtain ⟨ad, rfl, hb, hlt, hx⟩ := h hne
  exact ⟨ad, rfl, hok _ hb, hlt, fun i x hi => let ⟨cs, hr, ha⟩ := hx i x hi; ⟨cs, d.mono hok hr, ha⟩⟩
theorem Row.move (h : Row d ok w A xs) (hm : ∀ k, ok k → k < w.heap.size → w'.heap[k]? = w.heap[k]?) : Row d ok w' A xs := fun hne => by
  obtain ⟨ad, rfl, hb, hlt, hx⟩ := h hne
  exact ⟨ad, rfl, hb, world_lt (hm _ hb hlt) hlt, fun i x hi => let ⟨cs, hr, ha⟩ := hx i x hi; ⟨cs, d.move hm hr, ha.move (hm _ hb hlt)⟩⟩
theorem Row.bnd (h : Row d ok w A xs) : Row d (fun k => ok k ∧ k < w.heap.size) w A xs := fun hne => by
  obtain ⟨ad, rfl, hb, hlt, hx⟩ := h hne
  exact ⟨ad, rfl, ⟨hb, hlt⟩, hlt, fun i x hi => let ⟨cs, hr, ha⟩ := hx i x hi; ⟨cs, d.bnd hr, ha⟩⟩

theorem Sl.mono (h : Sl d ok w v xs) (hok : ∀ k, ok k → ok' k) : Sl d ok' w v xs := by
  obtain ⟨A, c, rfl, h1, h2, h3, hn, h4⟩ := h
  exact ⟨A, c, rfl, h1, h2, h3, hn, h4.mono hok⟩
theorem Sl.move (h : Sl d ok w v xs) (hm : ∀ k, ok k → k < w.heap.size → w'.heap[k]? = w.heap[k]?) : Sl d ok w' v xs := by
  obtain ⟨A, c, rfl, h1, h2, h3, hn, h4⟩ := h
  exact ⟨A, c, rfl, h1, h2, h3, hn, h4.move hm⟩
theorem Sl.bnd (h : Sl d ok w v xs) : Sl d (fun k => ok k ∧ k < w.heap.size) w v xs := by
  obtain ⟨A, c, rfl, h1, h2, h3, hn, h4⟩ := h
  exact ⟨A, c, rfl, h1, h2, h3, hn, h4.bnd⟩
theorem Sl.below (h : Sl d ok w v xs) (hb : Below w.heap.size w w') : Sl d ok w' v xs := h.move (fun k _ hk => hb.block k hk)
theorem Sl.elder (h : Sl d ok w v xs) (hb : Below w.heap.size w w') : Sl d (fun k => ok k ∧ k < w.heap.size) w' v xs := h.bnd.move (fun k _ hk => hb.block k hk)
/-- Below B, where all that it leads to lies below B. -/
theorem Sl.below' {B : Nat} (h : Sl d ok w v xs) (hb : Below B w w') (hok : ∀ k, ok k → k < B) : Sl d ok w' v xs := h.move (fun k hk _ => hb.block k (hok k hk))
theorem Sl.grown {row : Option Nat} (h : Sl d ok w v xs) (hg : w.grownBy w' row) (hok : ∀ k, ok k → some k ≠ row) : Sl d ok w' v xs := h.move (fun k hk hlt => hg.block k hlt (hok k hk))
theorem Sl.nil (d : Ty α) (ok : Nat → Prop) (w : World) : Sl d ok w (.slice none 0 0) [] := ⟨none, 0, rfl, Nat.le_refl _, by omega, by simp, fun _ => rfl, fun h => absurd rfl h⟩
theorem Sl.shape (h : Sl d ok w v xs) : ∃ A c, v = .slice A xs.length c ∧ xs.length ≤ c ∧ c ≤ 9223372036854775807 ∧ xs.length ≤ 140737488355328 := by
  obtain ⟨A, c, rfl, h1, h2, h3, _⟩ := h
  exact ⟨A, c, rfl, h1, h2, h3⟩
theorem Sl.row {A : Option Addr} {n c : Nat} (h : Sl d ok w (.slice A n c) xs) : Row d ok w A xs ∧ n = xs.length ∧ n ≤ c ∧ c ≤ 9223372036854775807 ∧ n ≤ 140737488355328 ∧ (A = none → c = 0) := by
  obtain ⟨A', c', e, h1, h2, h3, hn, h4⟩ := h
  injection e with e1 e2 e3
  subst e1; subst e2; subst e3
  exact ⟨h4, rfl, h1, h2, h3, hn⟩
/-- Element i. -/
theorem Row.get (h : Row d ok w A xs) (i : Nat) (hi : i < xs.length) : ∃ ad cs, A = some ad ∧ ok ad.block ∧ ad.block < w.heap.size ∧ d.R ok w xs[i] cs ∧ At w ad (i * d.sz) cs := by
  obtain ⟨ad, rfl, hb, hlt, hx⟩ := h (by intro e; subst e; simp at hi)
  obtain ⟨cs, hr, ha⟩ := hx i _ (List.getElem?_eq_getElem hi)
  exact ⟨ad, cs, rfl, hb, hlt, hr, ha⟩
theorem Row.take (h : Row d ok w A xs) (n : Nat) : Row d ok w A (xs.take n) := fun hne => by
  obtain ⟨ad, rfl, hb, hlt, hx⟩ := h (by intro e; subst e; simp at hne)
  refine ⟨ad, rfl, hb, hlt, fun i x hi => hx i x ?_⟩
  rw [List.getElem?_take] at hi
  split at hi
  · exact hi
  · cases hi
theorem Row.drop (h : Row d ok w A xs) (n : Nat) : Row d ok w (A.map (·.add (n * d.sz))) (xs.drop n) := fun hne => by
  obtain ⟨ad, rfl, hb, hlt, hx⟩ := h (by intro e; subst e; simp at hne)
  refine ⟨ad.add (n * d.sz), rfl, by rw [add_block]; exact hb, by rw [add_block]; exact hlt, fun i x hi => ?_⟩
  rw [List.getElem?_drop] at hi
  obtain ⟨cs, hr, ha⟩ := hx (n + i) x hi
  refine ⟨cs, hr, fun j u hj => ?_⟩
  rw [add_add, show n * d.sz + (i * d.sz + j) = (n + i) * d.sz + j by rw [Nat.add_mul, Nat.add_assoc]]
  exact ha j u hj
/-- s[n:], as the model spells its address. -/
theorem Sl.drop {c : Nat} {n m : Nat} (h : Sl d ok w (.slice A m c) xs) (hn : n ≤ m) : Sl d ok w (.slice (if c = n then A else A.map (·.add (n * d.sz))) (m - n) (c - n)) (xs.drop n) := by
  obtain ⟨hr, rfl, h1, h2, h3, h4⟩ := h.row
  refine ⟨_, _, by rw [List.length_drop], by rw [List.length_drop]; omega, by omega, by rw [List.length_drop]; omega, fun hA => ?_, ?_⟩
  · split at hA
    · omega
    · have := h4 (by simpa using hA); omega
  split
  · rename_i e
    have : xs.drop n = [] := List.drop_eq_nil_of_le (by omega)
    rw [this]; exact fun hne => absurd rfl hne
  · exact hr.drop n
theorem Sl.take {c : Nat} {n m : Nat} (h : Sl d ok w (.slice A m c) xs) (hn : n ≤ m) : Sl d ok w (.slice A n c) (xs.take n) := by
  obtain ⟨hr, rfl, h1, h2, h3, h4⟩ := h.row
  exact ⟨_, _, by rw [List.length_take, Nat.min_eq_left hn], by rw [List.length_take]; omega, h2, by rw [List.length_take]; omega, h4, hr.take n⟩
end

/-! ### the kinds -/
def tInt (k : IntKind) : Ty Int where
  sz := 1
  R := fun _ _ x cs => cs = [.int k x]
  len := fun h => by rw [h]; rfl
  one := fun h u hu => by rw [h] at hu; rw [List.mem_singleton.1 hu]; rfl
  mono := fun _ h => h
  move := fun _ h => h
  bnd := fun h => h
def tBool : Ty Bool where
  sz := 1
  R := fun _ _ x cs => cs = [.bool x]
  len := fun h => by rw [h]; rfl
  one := fun h u hu => by rw [h] at hu; rw [List.mem_singleton.1 hu]; rfl
  mono := fun _ h => h
  move := fun _ h => h
  bnd := fun h => h
def tStr : Ty ByteArray where
  sz := 1
  R := fun _ _ x cs => cs = [.string x]
  len := fun h => by rw [h]; rfl
  one := fun h u hu => by rw [h] at hu; rw [List.mem_singleton.1 hu]; rfl
  mono := fun _ h => h
  move := fun _ h => h
  bnd := fun h => h
theorem Sl.oneCell {α : Type} {d : Ty α} {ok : Nat → Prop} {w : World} {v : Value} {xs : List α} (h : Sl d ok w v xs) : v.oneCell' = true := by
  obtain ⟨A, c, rfl, _⟩ := h
  rfl
def tSl {α : Type} (d : Ty α) : Ty (List α) where
  sz := 1
  R := fun ok w xs cs => ∃ v, cs = [v] ∧ Sl d ok w v xs
  len := fun ⟨_, h, _⟩ => by rw [h]; rfl
  one := fun ⟨v, h, hs⟩ u hu => by rw [h] at hu; rw [List.mem_singleton.1 hu]; exact hs.oneCell
  mono := fun hok ⟨v, h, hs⟩ => ⟨v, h, hs.mono hok⟩
  move := fun hm ⟨v, h, hs⟩ => ⟨v, h, hs.move hm⟩
  bnd := fun ⟨v, h, hs⟩ => ⟨v, h, hs.bnd⟩

/-! ### rows of a call's own -/
/-- v is a row (of elements of type E) of the call's own, in a block from base on; what the elements lead to lies in ok, and is not this row. -/
def Own {α : Type} (d : Ty α) (E : TypeId) (ok : Nat → Prop) (w : World) (base : Nat) (v : Value) (xs : List α) : Prop :=
  ∃ cells : List (List Value), cells.length = xs.length ∧ w.ownsRow base E d.sz v xs.length cells.flatten ∧
    ∀ (i : Nat) (x : α) (c : List Value), xs[i]? = some x → cells[i]? = some c → d.R (fun k => ok k ∧ some k ≠ v.ownBlock) w x c

section
variable {α : Type} {d : Ty α} {E base : Nat} {ok ok' : Nat → Prop} {w w' : World} {v : Value} {xs : List α}

theorem flat_get {sz : Nat} : ∀ (cells : List (List Value)), (∀ c ∈ cells, c.length = sz) → ∀ (i : Nat) (c : List Value) (j : Nat) (u : Value), cells[i]? = some c → c[j]? = some u → cells.flatten[i * sz + j]? = some u
  | [], _, i, c, j, u, h, _ => by simp at h
  | c0 :: cells, hl, 0, c, j, u, h, hu => by
    simp only [List.getElem?_cons_zero, Option.some.injEq] at h
    subst h
    rw [List.flatten_cons, Nat.zero_mul, Nat.zero_add, List.getElem?_append_left (List.getElem?_eq_some_iff.1 hu).1]
    exact hu
  | c0 :: cells, hl, i + 1, c, j, u, h, hu => by
    have h0 := hl c0 List.mem_cons_self
    rw [List.flatten_cons, List.getElem?_append_right (by rw [h0, Nat.add_mul]; omega)]
    have := flat_get cells (fun c hc => hl c (List.mem_cons_of_mem _ hc)) i c j u (by simpa using h) hu
    rw [show (i + 1) * sz + j - c0.length = i * sz + j by rw [h0, Nat.add_mul]; omega]
    exact this

theorem Own.lens {cells : List (List Value)} (hl : cells.length = xs.length) (h : ∀ (i : Nat) (x : α) (c : List Value), xs[i]? = some x → cells[i]? = some c → d.R ok w x c) : ∀ c ∈ cells, c.length = d.sz := by
  intro c hc
  obtain ⟨i, hi, rfl⟩ := List.mem_iff_getElem.1 hc
  exact d.len (h i xs[i] cells[i] (List.getElem?_eq_getElem (by omega)) (List.getElem?_eq_getElem hi))

theorem Own.nil (d : Ty α) (E : TypeId) (ok : Nat → Prop) (w : World) (base : Nat) : Own d E ok w base (.slice none 0 0) [] :=
  ⟨[], rfl, World.ownsRow_nil _ _ _ _, fun i x c h => by simp at h⟩

theorem Own.lt (h : Own d E ok w base v xs) : ∀ k, v.ownBlock = some k → base ≤ k ∧ k < w.heap.size := by
  obtain ⟨cells, _, ho, _⟩ := h
  exact ho.lt

theorem Own.mono (h : Own d E ok w base v xs) (hok : ∀ k, ok k → ok' k) : Own d E ok' w base v xs := by
  obtain ⟨cells, hl, ho, hr⟩ := h
  exact ⟨cells, hl, ho, fun i x c hx hc => d.mono (fun k hk => ⟨hok k hk.1, hk.2⟩) (hr i x c hx hc)⟩

theorem Own.lower {base' : Nat} (h : Own d E ok w base v xs) (hb : base' ≤ base) : Own d E ok w base' v xs := by
  obtain ⟨cells, hl, ⟨h1, h2⟩, hr⟩ := h
  refine ⟨cells, hl, ⟨h1, ?_⟩, hr⟩
  rcases h2 with h2 | ⟨g, cap, cur, e, hg, r⟩
  · exact Or.inl h2
  · exact Or.inr ⟨g, cap, cur, e, Nat.le_trans hb hg, r⟩

theorem ownsRow_move {size n : Nat} {cs : List Value} (h : w.ownsRow base E size v n cs) (hm : ∀ k, v.ownBlock = some k → w'.heap[k]? = w.heap[k]?) : w'.ownsRow base E size v n cs := by
  obtain ⟨h1, h2⟩ := h
  refine ⟨h1, ?_⟩
  rcases h2 with h2 | ⟨g, cap, cur, rfl, hg, hh, r⟩
  · exact Or.inl h2
  · exact Or.inr ⟨g, cap, cur, rfl, hg, (hm g rfl).trans hh, r⟩

/-- Its block, and what its elements lead to, are as they were. -/
theorem Own.move (h : Own d E ok w base v xs) (hv : ∀ k, v.ownBlock = some k → w'.heap[k]? = w.heap[k]?) (hm : ∀ k, ok k → some k ≠ v.ownBlock → k < w.heap.size → w'.heap[k]? = w.heap[k]?) : Own d E ok w' base v xs := by
  obtain ⟨cells, hl, ho, hr⟩ := h
  exact ⟨cells, hl, ownsRow_move ho hv, fun i x c hx hc => d.move (fun k hk hlt => hm k hk.1 hk.2 hlt) (hr i x c hx hc)⟩

theorem Own.below (h : Own d E ok w base v xs) (hb : Below w.heap.size w w') : Own d E ok w' base v xs :=
  h.move (fun k hk => hb.block k (h.lt k hk).2) (fun k _ _ hk => hb.block k hk)

theorem Own.alloc (h : Own d E ok w base v xs) (o : Obj) : Own d E ok (w.alloc o) base v xs := h.below ((Below.refl _ _).alloc (Nat.le_refl _) o)

theorem Own.drew (h : Own d E ok w base v xs) : Own d E ok w.drew base v xs := h.below (Below.refl _ _).drew

theorem Own.far (h : Own d E ok w base v xs) {p : Addr} (hv : ∀ k, v.ownBlock = some k → k ≠ p.block) (hok : ∀ k, ok k → k ≠ p.block) (u : Value) : Own d E ok (w.setCell p u) base v xs :=
  h.move (fun k hk => Below.heap_setCell _ _ _ _ (hv k hk)) (fun k hk _ _ => Below.heap_setCell _ _ _ _ (hok k hk))
/-- A store below the call's own blocks. -/
theorem Own.store (h : Own d E ok w base v xs) {p : Addr} (hp : p.block < base) (hok : ∀ k, ok k → k ≠ p.block) (u : Value) : Own d E ok (w.setCell p u) base v xs :=
  h.far (fun k hk => by have := (h.lt k hk).1; omega) hok u

theorem Own.shape (h : Own d E ok w base v xs) : v = .slice none 0 0 ∧ xs = [] ∨ ∃ g cap, v = .slice (some ⟨g, 0, none⟩) xs.length cap ∧ base ≤ g ∧ g < w.heap.size ∧ xs.length ≤ cap ∧ cap ≤ 9223372036854775807 := by
  have hlt := h.lt
  obtain ⟨cells, hl, ⟨h1, h2⟩, hr⟩ := h
  rcases h2 with ⟨rfl, h0⟩ | ⟨g, cap, cur, rfl, hg, hh, hc, hm, _⟩
  · exact Or.inl ⟨rfl, List.eq_nil_of_length_eq_zero h0⟩
  · exact Or.inr ⟨g, cap, rfl, hg, (hlt g rfl).2, hc, by simpa [maxLen] using hm⟩

theorem Own.form (h : Own d E ok w base v xs) : ∃ A c, v = .slice A xs.length c ∧ xs.length ≤ c ∧ c ≤ 9223372036854775807 := by
  rcases h.shape with ⟨rfl, rfl⟩ | ⟨g, cap, rfl, _, _, h1, h2⟩
  · exact ⟨none, 0, rfl, Nat.le_refl _, by omega⟩
  · exact ⟨_, cap, rfl, h1, h2⟩

/-- By its type, a row is none of a block of another type. -/
theorem Own.ne_block (h : Own d E ok w base v xs) {g : Nat} {t : TypeId} {cs : Array Value} {fr : Nat × Nat} (hb : w.heap[g]? = some (.cells cs t fr)) (ht : E ≠ t) : some g ≠ v.ownBlock := by
  obtain ⟨cells, hl, ⟨h1, h2⟩, hr⟩ := h
  rcases h2 with ⟨rfl, h0⟩ | ⟨g', cap, cur, rfl, hg, hh, _⟩
  · simp [Value.ownBlock]
  · simp only [Value.ownBlock, ne_eq, Option.some.injEq]
    rintro rfl
    rw [hb] at hh
    injection hh with hh
    injection hh with _ hh
    exact ht hh.symm

/-- A row of one's own is a slice that reads. -/
theorem Own.sl (h : Own d E ok w base v xs) (hv : ∀ k, v.ownBlock = some k → ok' k) (hok : ∀ k, ok k → ok' k) (hn : xs.length ≤ 140737488355328) : Sl d ok' w v xs := by
  have hlt := h.lt
  obtain ⟨cells, hl, ho, hr⟩ := h
  have hcl := Own.lens hl hr
  have hcells := fun g hg => ho.cells (g := g) hg
  obtain ⟨h1, h2⟩ := ho
  rcases h2 with ⟨rfl, h0⟩ | ⟨g, cap, cur, rfl, hg, hh, hc, hm, _⟩
  · have : xs = [] := List.eq_nil_of_length_eq_zero h0
    subst this
    exact Sl.nil _ _ _
  · refine ⟨_, cap, rfl, hc, by simpa [maxLen] using hm, hn, fun h => (by cases h), fun _ => ⟨_, rfl, hv g rfl, (hlt g rfl).2, fun i x hx => ?_⟩⟩
    have hi : i < cells.length := by rw [hl]; exact (List.getElem?_eq_some_iff.1 hx).1
    refine ⟨cells[i], d.mono (fun k hk => hok k hk.1) (hr i x _ hx (List.getElem?_eq_getElem hi)), fun j u hj => ?_⟩
    exact hcells g rfl _ u (flat_get cells hcl i _ j u (List.getElem?_eq_getElem hi) hj)
end

/-- A literal's block. -/
theorem news_lit (W : World) (cs : List Value) (e : TypeId) : ∀ (j : Nat) (u : Value), cs[j]? = some u → (W.alloc (.cells cs.toArray e)).cell? ((⟨W.heap.size, 0, none⟩ : Addr).add j) = some u :=
  Go.World.news_of_block (cs := cs.toArray) (t := e) (fr := (0, 0)) (heap_alloc_new W _)

/-- What is owned behind an append. -/
theorem Own.appended {α : Type} {d : Ty α} {E base : Nat} {ok : Nat → Prop} {W w1 : World} {v v1 : Value} {xs ys : List α} {cells news : List (List Value)}
    (hl : cells.length = xs.length) (hr : ∀ (i : Nat) (x : α) (c : List Value), xs[i]? = some x → cells[i]? = some c → d.R (fun k => ok k ∧ some k ≠ v.ownBlock) W x c)
    (hnl : news.length = ys.length) (hnr : ∀ (i : Nat) (y : α) (c : List Value), ys[i]? = some y → news[i]? = some c → d.R (fun k => ok k ∧ some k ≠ v.ownBlock) W y c)
    (ho : w1.ownsRow base E d.sz v1 (xs.length + ys.length) (cells.flatten ++ news.flatten)) (hg : W.grownBy w1 v.ownBlock) (hat : v1.ownBlock = v.ownBlock ∨ ∃ b, v1.ownBlock = some b ∧ W.heap.size ≤ b) : Own d E ok w1 base v1 (xs ++ ys) := by
  have key : ∀ x c, d.R (fun k => ok k ∧ some k ≠ v.ownBlock) W x c → d.R (fun k => ok k ∧ some k ≠ v1.ownBlock) w1 x c := fun x c h =>
    d.mono (fun k hk => ⟨hk.1.1, by
      rcases hat with hat | ⟨b, hb, hle⟩
      · rw [hat]; exact hk.1.2
      · rw [hb]; intro e; injection e with e; omega⟩) (d.move (fun k hk hlt => hg.block k hlt hk.1.2) (d.bnd h))
  refine ⟨cells ++ news, by simp [hl, hnl], by rw [List.length_append, List.flatten_append]; exact ho, fun i x c hx hc => ?_⟩
  by_cases hi : i < xs.length
  · rw [List.getElem?_append_left hi] at hx
    rw [List.getElem?_append_left (by omega)] at hc
    exact key x c (hr i x c hx hc)
  · rw [List.getElem?_append_right (by omega)] at hx
    rw [List.getElem?_append_right (by omega)] at hc
    exact key x c (hnr (i - xs.length) x c hx (by rw [← hl]; exact hc))

section
variable {P : Program} {ops : Array Oper} {rest : List Oper} {o : Oper} {a : Act} {Q : Exit → Act → World → Prop} {α : Type}

/-- append(v, x), behind the literal's block. -/
theorem wpList_push (d : Ty α) {W : World} (base : Nat) (hgd : o.guard = none) (s x : Operand) (t e : TypeId) (z : Value) (bytes : Nat)
    (ho : o.op = .call { callee := .builtin .append, args := #[s, x], argTypes := #[t, t] })
    (ht : P.underlying t = some (.slice e)) (hinfo : (P.info? e).map (fun i => (i.zero, i.size, i.bytes)) = some (some z, d.sz, bytes)) (hz : z.cells.size = d.sz) (hs0 : 0 < d.sz) (hb0 : 0 < bytes)
    (v : Value) (xs : List α) (p : α) (cs : List Value) (ok : Nat → Prop) (hs : a.eval s = v) (hx : a.eval x = .slice (some ⟨W.heap.size, 0, none⟩) 1 1)
    (hp : d.R (fun k => ok k ∧ some k ≠ v.ownBlock) W p cs) (HO : Own d e ok W base v xs) (hbase : base ≤ W.heap.size) (hl : (xs.length + 1) * bytes ≤ 140737488355328)
    (h : ∀ v1 w1, Own d e ok w1 base v1 (xs ++ [p]) → W.grownBy w1 v.ownBlock → (v1.ownBlock = v.ownBlock ∨ ∃ b, v1.ownBlock = some b ∧ W.heap.size ≤ b) → wpList P ops Q rest (a.put o.dst v1) w1) :
    wpList P ops Q (o :: rest) a (W.alloc (.cells cs.toArray e)) := by
  obtain ⟨i0, hi, hzz⟩ := Option.map_eq_some_iff.1 hinfo
  simp only [Prod.mk.injEq] at hzz
  obtain ⟨hz0, hz1, hz2⟩ := hzz
  have hlen : xs.length + 1 ≤ 140737488355328 := Nat.le_trans (Nat.le_mul_of_pos_right _ hb0) hl
  obtain ⟨cells, hlc, hown, hr⟩ := HO
  refine wpList_append_own_at (W.alloc (.cells cs.toArray e)) hgd s x t ho base e i0 z d.sz bytes ht hi hz0 hz1 hz2 hz hs0 v xs.length cells.flatten hs (hown.alloc _) ⟨W.heap.size, 0, none⟩ 1 1 cs hx (by rw [d.len hp, Nat.one_mul])
    (news_lit W cs e) (d.one hp) (by simp only [maxLen]; omega) hl (by simp; omega) ?_
  intro v1 w1 hown1 hg _ hat
  have hg' : W.grownBy w1 v.ownBlock := World.grownBy.trans (World.grownBy_alloc W _ _) hg
  have hat' : v1.ownBlock = v.ownBlock ∨ ∃ b, v1.ownBlock = some b ∧ W.heap.size ≤ b := by
    rcases hat with hat | hat
    · exact .inl hat
    · exact .inr ⟨_, hat, by simp⟩
  refine h v1 w1 (Own.appended (ys := [p]) (news := [cs]) hlc hr rfl (fun i y c hy hc => ?_) (by simpa using hown1) hg' hat') hg' hat'
  rcases i with _ | i
  · simp only [List.getElem?_cons_zero, Option.some.injEq] at hy hc
    subst hy; subst hc; exact hp
  · simp at hy

/-- The cells of a row that reads. -/
theorem Row.cells {d : Ty α} {ok : Nat → Prop} {W : World} {ad : Addr} {ys : List α} (h : Row d ok W (some ad) ys) : ∃ news : List (List Value), news.length = ys.length ∧ (∀ (i : Nat) (y : α) (c : List Value), ys[i]? = some y → news[i]? = some c → d.R ok W y c) ∧ ∀ (j : Nat) (u : Value), news.flatten[j]? = some u → W.cell? (ad.add j) = some u := by
  have aux : ∀ (n : Nat) (zs : List α) (m : Nat), zs.length = n → (∀ (i : Nat) (x : α), zs[i]? = some x → ∃ cs, d.R ok W x cs ∧ At W ad ((m + i) * d.sz) cs) →
      ∃ news : List (List Value), news.length = zs.length ∧ (∀ (i : Nat) (y : α) (c : List Value), zs[i]? = some y → news[i]? = some c → d.R ok W y c) ∧ ∀ (j : Nat) (u : Value), news.flatten[j]? = some u → W.cell? (ad.add (m * d.sz + j)) = some u := by
    intro n
    induction n with
    | zero =>
      intro zs m hn _
      have : zs = [] := List.eq_nil_of_length_eq_zero hn
      subst this
      exact ⟨[], rfl, fun i y c hy => by simp at hy, fun j u hj => by simp at hj⟩
    | succ n ih =>
      intro zs m hn hx
      cases zs with
      | nil => simp at hn
      | cons z zs =>
        obtain ⟨c0, hr0, ha0⟩ := hx 0 z rfl
        obtain ⟨news, hl, hr, hc⟩ := ih zs (m + 1) (by simpa using hn) (fun i x hi => by
          have := hx (i + 1) x (by simpa using hi)
          rwa [show m + (i + 1) = m + 1 + i by omega] at this)
        refine ⟨c0 :: news, by simp [hl], fun i y c hy hc' => ?_, fun j u hj => ?_⟩
        · cases i with
          | zero =>
            simp only [List.getElem?_cons_zero, Option.some.injEq] at hy hc'
            subst hy; subst hc'; exact hr0
          | succ i => exact hr i y c (by simpa using hy) (by simpa using hc')
        · rw [List.flatten_cons] at hj
          have hlen0 := d.len hr0
          by_cases hj0 : j < c0.length
          · rw [List.getElem?_append_left hj0] at hj
            have := ha0 j u hj
            rwa [Nat.add_zero] at this
          · rw [List.getElem?_append_right (by omega)] at hj
            have := hc (j - c0.length) u hj
            rwa [show (m + 1) * d.sz + (j - c0.length) = m * d.sz + j by rw [Nat.add_mul, Nat.one_mul]; omega] at this
  by_cases hne : ys = []
  · subst hne
    exact ⟨[], rfl, fun i y c hy => by simp at hy, fun j u hj => by simp at hj⟩
  · obtain ⟨ad', e, hb, hlt, hx⟩ := h hne
    injection e with e
    subst e
    obtain ⟨news, h1, h2, h3⟩ := aux ys.length ys 0 rfl (fun i x hi => by rw [Nat.zero_add]; exact hx i x hi)
    exact ⟨news, h1, h2, fun j u hj => by have := h3 j u hj; rwa [Nat.zero_mul, Nat.zero_add] at this⟩

/-- append(v, ys...): ys reads. -/
theorem wpList_pushes (d : Ty α) {W : World} (base : Nat) (hgd : o.guard = none) (s x : Operand) (t e : TypeId) (z : Value) (bytes : Nat)
    (ho : o.op = .call { callee := .builtin .append, args := #[s, x], argTypes := #[t, t] })
    (ht : P.underlying t = some (.slice e)) (hinfo : (P.info? e).map (fun i => (i.zero, i.size, i.bytes)) = some (some z, d.sz, bytes)) (hz : z.cells.size = d.sz) (hs0 : 0 < d.sz) (hb0 : 0 < bytes)
    (v u : Value) (xs ys : List α) (ok okp : Nat → Prop) (hs : a.eval s = v) (hx : a.eval x = u)
    (HS : Sl d okp W u ys) (hokp : ∀ k, okp k → ok k ∧ some k ≠ v.ownBlock) (HO : Own d e ok W base v xs) (hbase : base ≤ W.heap.size) (hl : (xs.length + ys.length) * bytes ≤ 140737488355328)
    (h : ∀ v1 w1, Own d e ok w1 base v1 (xs ++ ys) → W.grownBy w1 v.ownBlock → (v1.ownBlock = v.ownBlock ∨ ∃ b, v1.ownBlock = some b ∧ W.heap.size ≤ b) → wpList P ops Q rest (a.put o.dst v1) w1) :
    wpList P ops Q (o :: rest) a W := by
  obtain ⟨i0, hi, hzz⟩ := Option.map_eq_some_iff.1 hinfo
  simp only [Prod.mk.injEq] at hzz
  obtain ⟨hz0, hz1, hz2⟩ := hzz
  have hlen : xs.length + ys.length ≤ 140737488355328 := Nat.le_trans (Nat.le_mul_of_pos_right _ hb0) hl
  obtain ⟨cells, hlc, hown, hr⟩ := HO
  obtain ⟨A, c, rfl, _, _, _, hnil, hrow⟩ := HS
  cases A with
  | some ad =>
    obtain ⟨news, hnl, hnr, hnc⟩ := hrow.cells
    have hcl := Own.lens hnl hnr
    have hfl : ∀ l : List (List Value), (∀ c ∈ l, c.length = d.sz) → l.flatten.length = l.length * d.sz := by
      intro l
      induction l with
      | nil => intro _; simp
      | cons c l ih => intro hl; rw [List.flatten_cons, List.length_append, ih (fun c hc => hl c (List.mem_cons_of_mem _ hc)), hl c List.mem_cons_self, List.length_cons, Nat.add_mul, Nat.one_mul, Nat.add_comm]
    refine wpList_append_own_at W hgd s x t ho base e i0 z d.sz bytes ht hi hz0 hz1 hz2 hz hs0 v xs.length cells.flatten hs hown ad ys.length c news.flatten hx (by rw [hfl _ hcl, hnl]) hnc (fun u hu => by
      obtain ⟨l, hl1, hl2⟩ := List.mem_flatten.1 hu
      obtain ⟨i, hi', rfl⟩ := List.mem_iff_getElem.1 hl1
      exact d.one (hnr i ys[i] _ (List.getElem?_eq_getElem (by omega)) (List.getElem?_eq_getElem hi')) u hl2) (by simp only [maxLen]; omega) hl hbase ?_
    intro v1 w1 hown1 hg _ hat
    have hat' : v1.ownBlock = v.ownBlock ∨ ∃ b, v1.ownBlock = some b ∧ W.heap.size ≤ b := by
      rcases hat with hat | hat
      · exact .inl hat
      · exact .inr ⟨_, hat, Nat.le_refl _⟩
    exact h v1 w1 (Own.appended hlc hr hnl (fun i y c hy hc => d.mono hokp (hnr i y c hy hc)) hown1 hg hat') hg hat'
  | none =>
    have hys : ys = [] := by
      by_cases hne : ys = []
      · exact hne
      · obtain ⟨ad, e, _⟩ := hrow hne; cases e
    subst hys
    obtain rfl := hnil rfl
    refine wpList_append_own_none hgd s x t ho base e i0 d.sz ht hi v xs.length cells.flatten hs hown hx ?_
    have hg : W.grownBy W v.ownBlock := ⟨rfl, rfl, rfl, Nat.le_refl _, fun _ _ _ => rfl⟩
    exact h v W (by rw [List.append_nil]; exact ⟨cells, hlc, hown, hr⟩) hg (.inl rfl)
end
end Go.Proofs.Ytkfoknjflpklpaa.Mem

namespace Go.Proofs.Ytkfoknjflpklpaa.D
open Go Go.RowKit Go.Proofs.Ytkfoknjflpklpaa.Mem

structure Val where
  kind : Int
  n : Int
  s : ByteArray
deriving DecidableEq

def Val.cells (x : Val) : List Value := [.int .i64 x.kind, .int .i64 x.n, .string x.s]
def tVal : Ty Val where
  sz := 3
  R := fun _ _ x cs => cs = x.cells
  len := fun h => by rw [h]; rfl
  one := fun {_ _ x _} h u hu => by
    rw [h] at hu
    simp only [Val.cells, List.mem_cons, List.not_mem_nil, or_false] at hu
    rcases hu with rfl | rfl | rfl <;> rfl
  mono := fun _ h => h
  move := fun _ h => h
  bnd := fun h => h

/-- Values lead to no memory. -/
theorem Own.vals {E base : Nat} {ok ok' : Nat → Prop} {w : World} {v : Value} {xs : List Val} (h : Own tVal E ok w base v xs) : Own tVal E ok' w base v xs := h

structure Chg where
  table : ByteArray
  id : Int
  old : List Val
  new : List Val
deriving DecidableEq

def tChg : Ty Chg where
  sz := 4
  R := fun ok w x cs => ∃ v2 v3, cs = [.string x.table, .int .i64 x.id, v2, v3] ∧ Sl tVal ok w v2 x.old ∧ Sl tVal ok w v3 x.new
  len := fun ⟨_, _, h, _⟩ => by rw [h]; rfl
  one := fun ⟨v2, v3, h, h2, h3⟩ u hu => by
    rw [h] at hu
    simp only [List.mem_cons, List.not_mem_nil, or_false] at hu
    rcases hu with rfl | rfl | rfl | rfl
    · rfl
    · rfl
    · exact h2.oneCell
    · exact h3.oneCell
  mono := fun hok ⟨v2, v3, h, h2, h3⟩ => ⟨v2, v3, h, h2.mono hok, h3.mono hok⟩
  move := fun hm ⟨v2, v3, h, h2, h3⟩ => ⟨v2, v3, h, h2.move hm, h3.move hm⟩
  bnd := fun ⟨v2, v3, h, h2, h3⟩ => ⟨v2, v3, h, h2.bnd, h3.bnd⟩

theorem At.c0 {w : World} {ad : Addr} {o : Nat} {cs : List Value} (h : At w ad o cs) {u : Value} (hu : cs[0]? = some u) : w.cell? (ad.add o) = some u := h 0 u hu
theorem At.cj {w : World} {ad : Addr} {o : Nat} {cs : List Value} (h : At w ad o cs) (j : Nat) (hj : 0 < j) {u : Value} (hu : cs[j]? = some u) : w.cell? ⟨(ad.add o).block, (ad.add o).off + j, none⟩ = some u := by
  have := h j u hu
  rw [← add_add, add_pos _ j hj] at this
  exact this

theorem val_eq (x y : Val) : (x.kind == y.kind && (x.n == y.n && (x.s.toList == y.s.toList))) = decide (x = y) := by
  rw [bytes_eq, Bool.eq_iff_iff]
  cases x; cases y
  simp

theorem val_ne (x y : Val) : (!(x.kind == y.kind) || (!(x.n == y.n) || !(x.s.toList == y.s.toList))) = !decide (x = y) := by
  rw [← val_eq]
  simp [Bool.not_and]

section
variable {P : Program} {d : Nat} {xs ys : Array Value} {f : Field} {fs : List Field} {a b : Value} {r s : Bool} {w : World}
theorem eqF_last (hn : (f.name == "_") = false) (ha : (part f.type xs f.offset).run P w = .ok a w) (hb : (part f.type ys f.offset).run P w = .ok b w) (he : (Op.equalIn d f.type a b).run P w = .ok r w) : (Op.eqFields d xs ys [f]).run P w = .ok r w := by
  have hn' : f.name ≠ "_" := by simpa using hn
  simp only [Op.eqFields, if_pos hn', Sem.run_bind, ha, hb, he, Result.andThen_ok]
  cases r <;> simp
theorem eqF_cons (hn : (f.name == "_") = false) (ha : (part f.type xs f.offset).run P w = .ok a w) (hb : (part f.type ys f.offset).run P w = .ok b w) (he : (Op.equalIn d f.type a b).run P w = .ok r w) (hr : (Op.eqFields d xs ys fs).run P w = .ok s w) : (Op.eqFields d xs ys (f :: fs)).run P w = .ok (r && s) w := by
  have hn' : f.name ≠ "_" := by simpa using hn
  rw [Op.eqFields]
  simp only [if_pos hn', Sem.run_bind, ha, hb, he, Result.andThen_ok]
  cases r
  · simp
  · simpa using hr
theorem eqF_of {t : TypeId} {fs : Array Field} (hu : P.underlying t = some (.struct fs)) (hp : P.stoodInHeld t = false) (h : (Op.eqFields d xs ys fs.toList).run P w = .ok r w) : (Op.equalIn (d + 1) t (.agg xs) (.agg ys)).run P w = .ok r w := by
  have hf : P.fieldsOf t = fs := by simp [Program.fieldsOf, hu]
  rw [run_equalIn_struct (P := P) w d t xs ys (by rw [hf]; exact hu) hp, hf]
  exact h
end

/-- '==' of two values, as the walk comes to it. -/
theorem eqVal (d : Nat) (w : World) (x0 y0 x1 y1 : Int) (x2 y2 : ByteArray) :
    (Op.equalIn (d + 2) 55 (.agg #[.int .i64 x0, .int .i64 x1, .string x2]) (.agg #[.int .i64 y0, .int .i64 y1, .string y2])).run Try.prog w = .ok (x0 == y0 && (x1 == y1 && (x2.toList == y2.toList))) w := by
  refine eqF_of Try.underlying55 (by kernel_rfl) ?_
  refine eqF_cons (by rfl) (by go_simp; rfl) (by go_simp; rfl) (by go_simp) ?_
  refine eqF_cons (by rfl) (by go_simp; rfl) (by go_simp; rfl) (by go_simp) ?_
  exact eqF_last (by rfl) (by go_simp; rfl) (by go_simp; rfl) (by go_simp)

/-- Element i of a slice of values. -/
theorem vals_get {ok : Nat → Prop} {w : World} {A : Option Addr} {xs : List Val} (h : Row tVal ok w A xs) (i : Nat) (hi : i < xs.length) :
    ∃ ad, A = some ad ∧ w.cell? (ad.add (i * 3)) = some (.int .i64 xs[i].kind) ∧ w.cell? ⟨(ad.add (i * 3)).block, (ad.add (i * 3)).off + 1, none⟩ = some (.int .i64 xs[i].n) ∧ w.cell? ⟨(ad.add (i * 3)).block, (ad.add (i * 3)).off + 2, none⟩ = some (.string xs[i].s) := by
  obtain ⟨ad, cs, rfl, _, _, rfl, ha⟩ := h.get i hi
  exact ⟨ad, rfl, At.c0 ha rfl, At.cj ha 1 (by omega) rfl, At.cj ha 2 (by omega) rfl⟩

end Go.Proofs.Ytkfoknjflpklpaa.D

namespace Go.Proofs.Ytkfoknjflpklpaa.Cmp
open Go Go.RowKit Go.Proofs.Ytkfoknjflpklpaa.Mem

def compareI (x y : Int) : Int := if x < y then -1 else if y < x then 1 else 0
def ltS (a b : ByteArray) : Bool := Op.bytesLess a.toList b.toList
def compareS (a b : ByteArray) : Int := if ltS a b = true then -1 else if a = b then 0 else 1

theorem compareI_range (x y : Int) : -1 ≤ compareI x y ∧ compareI x y ≤ 1 := by unfold compareI; split <;> (try split) <;> omega
theorem compareS_range (x y : ByteArray) : -1 ≤ compareS x y ∧ compareS x y ≤ 1 := by unfold compareS; split <;> (try split) <;> omega

set_option maxHeartbeats 1000000 in
theorem compareInt (x y : Int) (w : World) : Calls Try.prog 83 #[.int .i64 x, .int .i64 y] w fun e w' => e = .returned (.int .i64 (compareI x y)) ∧ w = w' := by
  have n1 : (x != x) = false := by simp
  have n2 : (y != y) = false := by simp
  by_cases h1 : x < y
  · have e : compareI x y = -1 := by simp [compareI, h1]
    have E := put e
    clear e
    go_enter Try.func83, Try.ntmps83
    go_wp2
    go_ret
    exact ⟨by rw [E.out]; rfl, rfl⟩
  · by_cases h2 : y < x
    · have e : compareI x y = 1 := by simp [compareI, h1, h2]
      have E := put e
      clear e
      go_enter Try.func83, Try.ntmps83
      go_wp2
      go_ret
      exact ⟨by rw [E.out]; rfl, rfl⟩
    · have e : compareI x y = 0 := by simp [compareI, h1, h2]
      have E := put e
      clear e
      go_enter Try.func83, Try.ntmps83
      go_wp2
      go_ret
      exact ⟨by rw [E.out]; rfl, rfl⟩

set_option maxHeartbeats 1000000 in
theorem compareStr (x y : ByteArray) (w : World) : Calls Try.prog 82 #[.string x, .string y] w fun e w' => e = .returned (.int .i64 (compareS x y)) ∧ w = w' := by
  have n1 : (x.toList != x.toList) = false := by simp
  have n2 : (y.toList != y.toList) = false := by simp
  by_cases h1 : ltS x y = true
  · have e : compareS x y = -1 := by simp [compareS, h1]
    have E := put e
    unfold ltS at h1
    clear e
    go_enter Try.func82, Try.ntmps82
    go_wp2
    go_ret
    exact ⟨by rw [E.out]; rfl, rfl⟩
  · by_cases h2 : x = y
    · have e : compareS x y = 0 := by unfold compareS; rw [if_neg h1, if_pos h2]
      have E := put e
      have h3 : (x.toList == y.toList) = true := by rw [h2]; simp
      unfold ltS at h1
      simp only [Bool.not_eq_true] at h1
      clear e h2
      go_enter Try.func82, Try.ntmps82
      go_wp2
      go_ret
      exact ⟨by rw [E.out]; rfl, rfl⟩
    · have e : compareS x y = 1 := by unfold compareS; rw [if_neg h1, if_neg h2]
      have E := put e
      have h3 : (x.toList == y.toList) = false := by rw [bytes_eq]; exact decide_eq_false h2
      unfold ltS at h1
      simp only [Bool.not_eq_true] at h1
      clear e h2
      go_enter Try.func82, Try.ntmps82
      go_wp2
      go_ret
      exact ⟨by rw [E.out]; rfl, rfl⟩

/-- cmp.Or of two numbers that lie in a block of their own. -/
def or2 (x y : Int) : Int := if x ≠ 0 then x else y

set_option maxHeartbeats 1000000 in
theorem orInt (x y : Int) (b : Nat) (w : World) (h0 : w.cell? ⟨b, 0, none⟩ = some (.int .i64 x)) (h1 : w.cell? ⟨b, 1, none⟩ = some (.int .i64 y)) :
    Calls Try.prog 81 #[.slice (some ⟨b, 0, none⟩) 2 2] w fun e w' => e = .returned (.int .i64 (or2 x y)) ∧ w = w' := by
  by_cases hx : x = 0
  · have n1 : (x != 0) = false := by simp [hx]
    by_cases hy : y = 0
    · have n2 : (y != 0) = false := by simp [hy]
      have e : or2 x y = 0 := by simp [or2, hx, hy]
      have E := put e
      clear e hx hy
      go_enter Try.func81, Try.ntmps81
      go_wp2
      refine wp_loop_rounds 3 ?_
      rw [rounds_succ]
      go_wp2
      rw [rounds_succ]
      go_wp2
      rw [rounds_succ]
      go_wp2
      go_ret
      exact ⟨by rw [E.out]; rfl, rfl⟩
    · have n2 : (y != 0) = true := by simp [hy]
      have e : or2 x y = y := by simp [or2, hx]
      have E := put e
      clear e hx hy
      go_enter Try.func81, Try.ntmps81
      go_wp2
      refine wp_loop_rounds 3 ?_
      rw [rounds_succ]
      go_wp2
      rw [rounds_succ]
      go_wp2
      go_ret
      exact ⟨by rw [E.out]; rfl, rfl⟩
  · have n1 : (x != 0) = true := by simp [hx]
    have e : or2 x y = x := by simp [or2, hx]
    have E := put e
    clear e hx
    go_enter Try.func81, Try.ntmps81
    go_wp2
    refine wp_loop_rounds 3 ?_
    rw [rounds_succ]
    go_wp2
    go_ret
    exact ⟨by rw [E.out]; rfl, rfl⟩

end Go.Proofs.Ytkfoknjflpklpaa.Cmp

namespace Go.Proofs.Ytkfoknjflpklpaa.D
open Go Go.RowKit Go.Proofs.Ytkfoknjflpklpaa.Mem

theorem infoVal : (Try.prog.info? 55).map (fun i => (i.zero, i.size, i.bytes)) = some (some (.agg #[.int .i64 0, .int .i64 0, .string ⟨#[]⟩]), tVal.sz, 32) := by kernel_rfl

set_option maxHeartbeats 4000000 in
set_option maxRecDepth 100000 in
theorem cloneVal (ok : Nat → Prop) (v : Value) (xs : List Val) (w : World) (h : Sl tVal ok w v xs) (hl : xs.length * 32 ≤ 140737488355328) :
    Calls Try.prog 84 #[v] w fun e w' => ∃ A c, e = .returned (.slice A xs.length c) ∧ Own tVal 55 (fun k => ok k ∧ k < w.heap.size) w' w.heap.size (.slice A xs.length c) xs ∧ Below w.heap.size w w' := by
  obtain ⟨A, c, rfl, l1, l2, l3⟩ := h.shape
  have hnil := Lib.run_eql_slice_nil (P := Try.prog) (t := 30) (e := 55) (a := A) (n := xs.length) (c := c) (n' := 0) (c' := 0) (h := Try.underlying30)
  cases A with
  | none =>
    have e : xs = [] := by
      obtain ⟨hr, _⟩ := h.row
      by_cases hne : xs = []
      · exact hne
      · obtain ⟨ad, e, _⟩ := hr hne; cases e
    subst e
    simp only [Option.isNone_none, List.length_nil] at hnil ⊢
    go_enter Try.func84, Try.ntmps84
    clear h
    go_wp2
    go_ret
    exact ⟨none, 0, rfl, Own.nil _ _ _ _ _, Below.refl _ _⟩
  | some ad =>
    simp only [Option.isNone_some] at hnil
    have HS := put h
    clear h
    have HO : Own tVal 55 (fun k => ok k ∧ k < w.heap.size) (w.alloc (.cells #[] 55)) w.heap.size (.slice (some ⟨w.heap.size, 0, none⟩) 0 0) ([] : List Val) :=
      ⟨[], rfl, ⟨rfl, .inr ⟨w.heap.size, 0, #[], rfl, Nat.le_refl _, heap_alloc_new w _, Nat.le_refl _, by simp, rfl, rfl⟩⟩, fun i x c h => by simp at h⟩
    have HOO := put HO
    clear HO
    go_enter Try.func84, Try.ntmps84
    go_wp2_with (at_builtin; refine wpList_pushes tVal w.heap.size rfl _ _ 30 55 _ 32 rfl Try.underlying30 infoVal rfl (by decide) (by decide) (.slice (some ⟨w.heap.size, 0, none⟩) 0 0) (.slice (some ad) xs.length c) [] xs _ _ rfl rfl (HS.out.elder ((Below.refl _ _).alloc (Nat.le_refl _) _)) (fun k hk => ⟨hk, fun e => by simp only [Value.ownBlock, Option.some.injEq] at e; have := hk.2; omega⟩) HOO.out (by simp) (by simpa using hl) ?_; intro v1 w1 hown hg hat)
    go_ret
    obtain ⟨A1, c1, rfl, _, _⟩ := hown.form
    refine ⟨A1, c1, by simp, by simpa using hown, ?_⟩
    exact ((Below.refl _ _).alloc (Nat.le_refl _) _).grown hg (by simp) (fun k hk => by simp only [Value.ownBlock, Option.some.injEq] at hk; omega)

end Go.Proofs.Ytkfoknjflpklpaa.D

namespace Go.Proofs.Ytkfoknjflpklpaa.D
open Go Go.RowKit Go.Proofs.Ytkfoknjflpklpaa.Mem

theorem infoChg : (Try.prog.info? 40).map (fun i => (i.zero, i.size, i.bytes)) = some (some (.agg #[.string ⟨#[]⟩, .int .i64 0, .slice none 0 0, .slice none 0 0]), tChg.sz, 72) := by kernel_rfl

set_option maxHeartbeats 4000000 in
set_option maxRecDepth 100000 in
theorem cloneChg (ok : Nat → Prop) (v : Value) (xs : List Chg) (w : World) (h : Sl tChg ok w v xs) (hl : xs.length * 72 ≤ 140737488355328) :
    Calls Try.prog 53 #[v] w fun e w' => ∃ A c, e = .returned (.slice A xs.length c) ∧ Own tChg 40 (fun k => ok k ∧ k < w.heap.size) w' w.heap.size (.slice A xs.length c) xs ∧ Below w.heap.size w w' := by
  obtain ⟨A, c, rfl, l1, l2, l3⟩ := h.shape
  have hnil := Lib.run_eql_slice_nil (P := Try.prog) (t := 27) (e := 40) (a := A) (n := xs.length) (c := c) (n' := 0) (c' := 0) (h := Try.underlying27)
  cases A with
  | none =>
    have e : xs = [] := by
      obtain ⟨hr, _⟩ := h.row
      by_cases hne : xs = []
      · exact hne
      · obtain ⟨ad, e, _⟩ := hr hne; cases e
    subst e
    simp only [Option.isNone_none, List.length_nil] at hnil ⊢
    go_enter Try.func53, Try.ntmps53
    clear h
    go_wp2
    go_ret
    exact ⟨none, 0, rfl, Own.nil _ _ _ _ _, Below.refl _ _⟩
  | some ad =>
    simp only [Option.isNone_some] at hnil
    have HS := put h
    clear h
    have HO : Own tChg 40 (fun k => ok k ∧ k < w.heap.size) (w.alloc (.cells #[] 40)) w.heap.size (.slice (some ⟨w.heap.size, 0, none⟩) 0 0) ([] : List Chg) :=
      ⟨[], rfl, ⟨rfl, .inr ⟨w.heap.size, 0, #[], rfl, Nat.le_refl _, heap_alloc_new w _, Nat.le_refl _, by simp, rfl, rfl⟩⟩, fun i x c h => by simp at h⟩
    have HOO := put HO
    clear HO
    go_enter Try.func53, Try.ntmps53
    go_wp2_with (at_builtin; refine wpList_pushes tChg w.heap.size rfl _ _ 27 40 _ 72 rfl Try.underlying27 infoChg rfl (by decide) (by decide) (.slice (some ⟨w.heap.size, 0, none⟩) 0 0) (.slice (some ad) xs.length c) [] xs _ _ rfl rfl (HS.out.elder ((Below.refl _ _).alloc (Nat.le_refl _) _)) (fun k hk => ⟨hk, fun e => by simp only [Value.ownBlock, Option.some.injEq] at e; have := hk.2; omega⟩) HOO.out (by simp) (by simpa using hl) ?_; intro v1 w1 hown hg hat)
    go_ret
    obtain ⟨A1, c1, rfl, _, _⟩ := hown.form
    refine ⟨A1, c1, by simp, by simpa using hown, ?_⟩
    exact ((Below.refl _ _).alloc (Nat.le_refl _) _).grown hg (by simp) (fun k hk => by simp only [Value.ownBlock, Option.some.injEq] at hk; omega)

end Go.Proofs.Ytkfoknjflpklpaa.D

namespace Go.Proofs.Ytkfoknjflpklpaa.D
open Go Go.RowKit Go.Proofs.Ytkfoknjflpklpaa.Mem Go.Proofs.Ytkfoknjflpklpaa.Cmp Go.Sort

def cmpRow (t1 : ByteArray) (i1 : Int) (t2 : ByteArray) (i2 : Int) : Int := or2 (compareS t1 t2) (compareI i1 i2)

set_option maxHeartbeats 8000000 in
set_option maxRecDepth 100000 in
theorem beforeCalls (t1 t2 : ByteArray) (i1 i2 : Int) (u1 u2 v1 v2 : Value) (w : World) :
    Calls Try.prog 55 #[.agg #[.string t1, .int .i64 i1, u1, u2], .agg #[.string t2, .int .i64 i2, v1, v2]] w fun e w' => e = .returned (.int .i64 (cmpRow t1 i1 t2 i2)) ∧ ∃ q os, w' = grow (w.drewN q) os := by
  go_enter Try.func55, Try.ntmps55
  go_wp2_with fail
  generalize hw2 : (w.alloc (.cells #[.string t1, .int .i64 i1, u1, u2] 40)).alloc (.cells #[.string t2, .int .i64 i2, v1, v2] 40) = w2
  have s2 : w2.heap.size = w.heap.size + 2 := by rw [← hw2]; simp
  have c1 : w2.cell? ⟨w.heap.size, 0, none⟩ = some (.string t1) := by rw [← hw2]; simp
  have c2 : w2.cell? ⟨w.heap.size, 1, none⟩ = some (.int .i64 i1) := by rw [← hw2]; simp
  have c3 : w2.cell? ⟨w.heap.size + 1, 0, none⟩ = some (.string t2) := by rw [← hw2]; simp
  have c4 : w2.cell? ⟨w.heap.size + 1, 1, none⟩ = some (.int .i64 i2) := by rw [← hw2]; simp
  have HW := put hw2
  clear hw2
  obtain ⟨B, hB⟩ : ∃ B, B = w.heap.size := ⟨_, rfl⟩
  rw [← hB] at s2 c1 c2 c3 c4 ⊢
  have l1 : B < w2.heap.size := by omega
  have l2 : B + 1 < w2.heap.size := by omega
  have HB := put hB
  have HS := put s2
  clear hB s2
  go_region_held3 (fun w' => w'.cell? ⟨B, 0, none⟩ = some (.string t1) ∧ w'.cell? ⟨B, 1, none⟩ = some (.int .i64 i1) ∧ w'.cell? ⟨B + 1, 0, none⟩ = some (.string t2) ∧ w'.cell? ⟨B + 1, 1, none⟩ = some (.int .i64 i2)) (go_keep)
    (first | (go_at_call 82; refine (compareStr _ _ _).mono ?_; rintro e w' ⟨rfl, rfl⟩) | (go_at_call 83; refine (compareInt _ _ _).mono ?_; rintro e w' ⟨rfl, rfl⟩) | (go_at_call 81; refine (orInt _ _ _ _ (by simp; rfl) (by simp; rfl)).mono ?_; rintro e w' ⟨rfl, rfl⟩))
  all_goals go_wp2
  all_goals go_ret
  all_goals
    refine ⟨rfl, ?_⟩
    rw [← HW.out, alloc_eq_grow, alloc_eq_grow, alloc_eq_grow, grow_grow, grow_grow]
    exact ⟨1, _, rfl⟩

set_option maxHeartbeats 8000000 in
set_option maxRecDepth 100000 in
theorem cloneCalls (ok : Nat → Prop) (c : Chg) (cs : List Value) (w : World) (h : tChg.R ok w c cs) (b1 : c.old.length ≤ 1000) (b2 : c.new.length ≤ 1000) :
    Calls Try.prog 56 #[.agg cs.toArray] w fun e w' => ∃ v2 v3, e = .returned (.agg #[.string c.table, .int .i64 c.id, v2, v3]) ∧ Own tVal 55 (fun _ => False) w' w.heap.size v2 c.old ∧ Own tVal 55 (fun _ => False) w' w.heap.size v3 c.new ∧ (∀ k, v2.ownBlock = some k → some k ≠ v3.ownBlock) ∧ Below w.heap.size w w' := by
  obtain ⟨v2, v3, rfl, h2, h3⟩ := h
  obtain ⟨A2, c2, rfl, l2, m2, n2⟩ := h2.shape
  obtain ⟨A3, c3, rfl, l3, m3, n3⟩ := h3.shape
  have H2 := put h2
  have H3 := put h3
  clear h2 h3
  go_enter Try.func56, Try.ntmps56
  go_wp2_with fail
  generalize hw2 : (w.alloc (.cells #[.string c.table, .int .i64 c.id, .slice A2 c.old.length c2, .slice A3 c.new.length c3] 40)).alloc (.cells #[.string { data := #[] }, .int .i64 0, .slice none 0 0, .slice none 0 0] 40) = w2
  have s2 : w2.heap.size = w.heap.size + 2 := by rw [← hw2]; simp
  have d0 : w2.cell? ⟨w.heap.size, 0, none⟩ = some (.string c.table) := by rw [← hw2]; simp
  have d1 : w2.cell? ⟨w.heap.size, 1, none⟩ = some (.int .i64 c.id) := by rw [← hw2]; simp
  have d2 : w2.cell? ⟨w.heap.size, 2, none⟩ = some (.slice A2 c.old.length c2) := by rw [← hw2]; simp
  have d3 : w2.cell? ⟨w.heap.size, 3, none⟩ = some (.slice A3 c.new.length c3) := by rw [← hw2]; simp
  have z0 : w2.cell? ⟨w.heap.size + 1, 0, none⟩ = some (.string { data := #[] }) := by rw [← hw2]; simp
  have z1 : w2.cell? ⟨w.heap.size + 1, 1, none⟩ = some (.int .i64 0) := by rw [← hw2]; simp
  have z2 : w2.cell? ⟨w.heap.size + 1, 2, none⟩ = some (.slice none 0 0) := by rw [← hw2]; simp
  have z3 : w2.cell? ⟨w.heap.size + 1, 3, none⟩ = some (.slice none 0 0) := by rw [← hw2]; simp
  have f0 : w2.frozen? ⟨w.heap.size + 1, 0, none⟩ = false := by rw [← hw2]; simp
  have f1 : w2.frozen? ⟨w.heap.size + 1, 1, none⟩ = false := by rw [← hw2]; simp
  have f2 : w2.frozen? ⟨w.heap.size + 1, 2, none⟩ = false := by rw [← hw2]; simp
  have f3 : w2.frozen? ⟨w.heap.size + 1, 3, none⟩ = false := by rw [← hw2]; simp
  have hbw : Below w.heap.size w w2 := by rw [← hw2]; exact ((Below.refl _ _).alloc (Nat.le_refl _) _).alloc (by simp) _
  have HW := put hbw
  clear hw2 hbw
  obtain ⟨B, hB⟩ : ∃ B, B = w.heap.size := ⟨_, rfl⟩
  rw [← hB] at s2 d0 d1 d2 d3 z0 z1 z2 z3 f0 f1 f2 f3
  have HB := put hB
  have HS := put s2
  have l1 : B < w2.heap.size := by omega
  have l2 : B + 1 < w2.heap.size := by omega
  have e1 : c.old.length * 32 ≤ 140737488355328 := by omega
  have e2 : c.new.length * 32 ≤ 140737488355328 := by omega
  rw [← hB]
  clear hB s2
  go_region_held3 (fun w' => w'.cell? ⟨B, 0, none⟩ = some (.string c.table) ∧ w'.cell? ⟨B, 1, none⟩ = some (.int .i64 c.id) ∧ w'.cell? ⟨B, 2, none⟩ = some (.slice A2 c.old.length c2) ∧ w'.cell? ⟨B, 3, none⟩ = some (.slice A3 c.new.length c3)) (first | go_keep | exact ⟨(hc3 _ _ (by omega)).trans ((hc2 _ _ l1).trans d0), (hc3 _ _ (by omega)).trans ((hc2 _ _ l1).trans d1), (hc3 _ _ (by omega)).trans ((hc2 _ _ l1).trans d2), (hc3 _ _ (by omega)).trans ((hc2 _ _ l1).trans d3)⟩ | exact ⟨(hc2 _ _ l1).trans d0, (hc2 _ _ l1).trans d1, (hc2 _ _ l1).trans d2, (hc2 _ _ l1).trans d3⟩)
    (first | (go_at_call_of 84 (Value.slice A2 c.old.length c2); refine (cloneVal ok _ c.old _ (by exact H2.out.below HW.out.drew) e1).mono ?_; rintro e w3 ⟨B2, k2, rfl, ho2, hb2⟩; obtain ⟨hc2, hf2⟩ := bcell hb2; have hz2 := hb2.size; simp at hz2) | (go_at_call_of 84 (Value.slice A3 c.new.length c3); refine (cloneVal ok _ c.new _ (by exact H3.out.below (HW.out.drew.trans (hb2.mono HW.out.size))) e2).mono ?_; rintro e w4 ⟨B3, k3, rfl, ho3, hb3⟩; obtain ⟨hc3, hf3⟩ := bcell hb3; have hz3 := hb3.size; have y0 := (hc3 (B + 1) 0 (by omega)).trans ((hc2 (B + 1) 0 l2).trans z0); have y1 := (hc3 (B + 1) 1 (by omega)).trans ((hc2 (B + 1) 1 l2).trans z1); have y2 := (hc3 (B + 1) 2 (by omega)).trans ((hc2 (B + 1) 2 l2).trans z2); have y3 := (hc3 (B + 1) 3 (by omega)).trans ((hc2 (B + 1) 3 l2).trans z3); have x0 := (hf3 (B + 1) 0 (by omega)).trans ((hf2 (B + 1) 0 l2).trans f0); have x1 := (hf3 (B + 1) 1 (by omega)).trans ((hf2 (B + 1) 1 l2).trans f1); have x2 := (hf3 (B + 1) 2 (by omega)).trans ((hf2 (B + 1) 2 l2).trans f2); have x3 := (hf3 (B + 1) 3 (by omega)).trans ((hf2 (B + 1) 3 l2).trans f3)))
  go_wp2
  refine bodyPost_ret (v := .agg #[.string c.table, .int .i64 c.id, .slice B2 c.old.length k2, .slice B3 c.new.length k3]) (by simp [results, Try.results56, go_sem, y0, y1, y2, y3]) rfl ⟨_, _, rfl, ?_, ?_, ?_, ?_⟩
  · have h1 : Own tVal 55 (fun _ => False) w4 (B + 2) (.slice B2 c.old.length k2) c.old := (Own.vals (ho2.below hb3)).lower (by have := HS.out; simp; omega)
    exact ((((h1.store (by simp) (by simp) _).store (by simp) (by simp) _).store (by simp) (by simp) _).store (by simp) (by simp) _).lower (by have := HB.out; omega)
  · have h1 : Own tVal 55 (fun _ => False) w4 (B + 2) (.slice B3 c.new.length k3) c.new := (Own.vals ho3).lower (by have := HS.out; omega)
    exact ((((h1.store (by simp) (by simp) _).store (by simp) (by simp) _).store (by simp) (by simp) _).store (by simp) (by simp) _).lower (by have := HB.out; omega)
  · intro k hk e
    have h1 := (ho2.lt k hk).2
    have h2 := (ho3.lt k e.symm).1
    omega
  · have h0 : Below B w w4 := by
      have := HW.out
      rw [← HB.out] at this
      have hs := HS.out
      exact (this.drew.trans (hb2.mono (by simp; omega))).trans (hb3.mono (by omega))
    rw [← HB.out]
    exact (((h0.setCell (by simp) _).setCell (by simp) _).setCell (by simp) _).setCell (by simp) _

end Go.Proofs.Ytkfoknjflpklpaa.D

namespace Go.Proofs.Ytkfoknjflpklpaa.D
open Go Go.RowKit Go.Proofs.Ytkfoknjflpklpaa.Mem
attribute [local go_sem high] eqVal

theorem take_succ_eq {α : Type} [DecidableEq α] {xs ys : List α} {k : Nat} (h1 : k < xs.length) (h2 : k < ys.length) (h : xs.take k = ys.take k) (he : xs[k] = ys[k]) : xs.take (k + 1) = ys.take (k + 1) := by
  rw [List.take_succ_eq_append_getElem h1, List.take_succ_eq_append_getElem h2, h, he]

set_option maxHeartbeats 4000000 in
set_option maxRecDepth 100000 in
theorem equalVals (ok1 ok2 : Nat → Prop) (u v : Value) (xs ys : List Val) (w : World) (hx : Sl tVal ok1 w u xs) (hy : Sl tVal ok2 w v ys) :
    Calls Try.prog 57 #[u, v] w fun e w' => e = .returned (.bool (decide (xs = ys))) ∧ ∃ q, w' = w.drewN q := by
  obtain ⟨A, c, rfl, hx1, hx2, hx3, hxn, hxr⟩ := hx
  obtain ⟨B, c', rfl, hy1, hy2, hy3, hyn, hyr⟩ := hy
  have HX := put hxr
  have HY := put hyr
  clear hxr hyr hxn hyn
  by_cases hl : xs.length = ys.length
  · have l1 : ((xs.length : Int) != (ys.length : Int)) = false := by simp [hl]
    have HL : Hid (xs.length = ys.length) := hl
    go_enter Try.func57, Try.ntmps57
    clear hl
    go_wp2
    go_loopg [13] xs.length (fun kx s13 wr => ∃ (i q : Nat), s13 = .int .i64 i ∧ i ≤ xs.length ∧ xs.length - i ≤ kx ∧ wr = w.drewN q ∧ Hid (xs.take i = ys.take i))
    case atStart => exact ⟨0, 0, rfl, Nat.zero_le _, Nat.le_refl _, rfl, by show _ = _; simp⟩
    case round =>
      obtain ⟨i, q, rfl, hi, hkx, rfl, ht⟩ := hrel
      by_cases hlt : i < xs.length
      · have hlz : (i : Int) < (xs.length : Int) := by omega
        have hlt2 : i < ys.length := by rw [← HL.out]; exact hlt
        have hlz2 : (i : Int) < (ys.length : Int) := by omega
        have i0 : (0 : Int) ≤ (i : Int) := by omega
        obtain ⟨ad, rfl, x0, x1, x2⟩ := vals_get HX.out i hlt
        obtain ⟨bd, rfl, y0, y1, y2⟩ := vals_get HY.out i hlt2
        obtain ⟨x, hxe⟩ : ∃ x, x = xs[i] := ⟨_, rfl⟩
        obtain ⟨y, hye⟩ : ∃ y, y = ys[i] := ⟨_, rfl⟩
        rw [← hxe] at x0 x1 x2
        rw [← hye] at y0 y1 y2
        have E : Hid (x = xs[i] ∧ y = ys[i]) := ⟨hxe, hye⟩
        clear hxe hye
        by_cases he : x = y
        · have hb : (!(x.kind == y.kind) || (!(x.n == y.n) || !(x.s.toList == y.s.toList))) = false := by rw [val_ne]; simp [he]
          have HE : Hid (x = y) := he
          clear he
          go_wp2
          go_quiet (fail)
          go_wp2
          go_roundg (xs.length - (i + 1))
          case measure => omega
          case rel => exact ⟨i + 1, _, by go_num, by omega, Nat.le_refl _, (by first | rfl | exact World.drewN_drewN _ _ _), take_succ_eq hlt hlt2 ht.out (by rw [← E.out.1, ← E.out.2]; exact HE.out)⟩
        · have hb : (!(x.kind == y.kind) || (!(x.n == y.n) || !(x.s.toList == y.s.toList))) = true := by rw [val_ne]; simp [he]
          go_wp2
          go_quiet (fail)
          go_wp2
          go_ret
          refine ⟨?_, _, (by first | rfl | exact World.drewN_drewN _ _ _)⟩
          have : xs ≠ ys := fun h => by
            apply he
            rw [E.out.1, E.out.2]
            simp only [h]
          simp [this]
      · have hlz : ¬ (i : Int) < (xs.length : Int) := by omega
        go_wp2
        go_ret
        refine ⟨?_, _, rfl⟩
        have h1 := ht.out
        rw [List.take_of_length_le (by omega), List.take_of_length_le (by have := HL.out; omega)] at h1
        simp [h1]
  · have l1 : ((xs.length : Int) != (ys.length : Int)) = true := by rw [bne_iff_ne]; omega
    have HL : Hid (¬ xs.length = ys.length) := hl
    go_enter Try.func57, Try.ntmps57
    clear hl
    go_wp2
    go_ret
    refine ⟨?_, 0, rfl⟩
    have : xs ≠ ys := fun h => HL.out (by rw [h])
    simp [this]

/-- A change's kind. -/
def Chg.kind (c : Chg) : Int := if c.old = c.new then 0 else if c.old = [] then 1 else if c.new = [] then 2 else 3

theorem kind_range (c : Chg) : 0 ≤ c.kind ∧ c.kind ≤ 3 := by unfold Chg.kind; split <;> (try split) <;> (try split) <;> omega

set_option maxHeartbeats 4000000 in
set_option maxRecDepth 100000 in
theorem kindCalls (ok : Nat → Prop) (c : Chg) (cs : List Value) (w : World) (h : tChg.R ok w c cs) :
    Calls Try.prog 20 #[.agg cs.toArray] w fun e w' => e = .returned (.int .i64 c.kind) ∧ Below w.heap.size w w' := by
  obtain ⟨v2, v3, rfl, h2, h3⟩ := h
  have C := equalVals ok ok v2 v3 c.old c.new (w.alloc (.cells #[.string c.table, .int .i64 c.id, v2, v3] 40)) (h2.below ((Below.refl _ _).alloc (Nat.le_refl _) _)) (h3.below ((Below.refl _ _).alloc (Nat.le_refl _) _))
  obtain ⟨A2, c2, rfl, l2, m2, n2⟩ := h2.shape
  obtain ⟨A3, c3, rfl, l3, m3, n3⟩ := h3.shape
  have CC := put C
  have HB : Kp (∀ q, Below w.heap.size w ((w.alloc (.cells #[.string c.table, .int .i64 c.id, .slice A2 c.old.length c2, .slice A3 c.new.length c3] 40)).drewN q)) := ⟨fun q => ⟨rfl, rfl, rfl, by simp, fun k hk => by simp [Below.heap_alloc _ _ _ hk]⟩⟩
  clear C h2 h3
  by_cases e1 : c.old = c.new
  · have hk : c.kind = 0 := by simp [Chg.kind, e1]
    have K : Hid _ := hk
    have E : decide (c.old = c.new) = true := decide_eq_true e1
    clear hk e1
    go_enter Try.func20, Try.ntmps20
    go_wp2_with fail
    refine CC.out.mono ?_
    rintro e w' ⟨rfl, q, rfl⟩
    rw [E]
    go_wp2
    go_ret
    exact ⟨by rw [K.out]; rfl, HB.out q⟩
  · have E : decide (c.old = c.new) = false := decide_eq_false e1
    by_cases e2 : c.old = []
    · have hk : c.kind = 1 := by unfold Chg.kind; rw [if_neg e1, if_pos e2]
      have K : Hid _ := hk
      have z : ((c.old.length : Int) == 0) = true := by simp [e2]
      clear hk e1 e2
      go_enter Try.func20, Try.ntmps20
      go_wp2_with fail
      refine CC.out.mono ?_
      rintro e w' ⟨rfl, q, rfl⟩
      rw [E]
      go_wp2
      go_ret
      exact ⟨by rw [K.out]; rfl, HB.out q⟩
    · have z : ((c.old.length : Int) == 0) = false := by rw [beq_eq_false_iff_ne]; intro h; apply e2; exact List.eq_nil_of_length_eq_zero (by omega)
      by_cases e3 : c.new = []
      · have hk : c.kind = 2 := by unfold Chg.kind; rw [if_neg e1, if_neg e2, if_pos e3]
        have K : Hid _ := hk
        have z2 : ((c.new.length : Int) == 0) = true := by simp [e3]
        clear hk e1 e2 e3
        go_enter Try.func20, Try.ntmps20
        go_wp2_with fail
        refine CC.out.mono ?_
        rintro e w' ⟨rfl, q, rfl⟩
        rw [E]
        go_wp2
        go_ret
        exact ⟨by rw [K.out]; rfl, HB.out q⟩
      · have hk : c.kind = 3 := by unfold Chg.kind; rw [if_neg e1, if_neg e2, if_neg e3]
        have K : Hid _ := hk
        have z2 : ((c.new.length : Int) == 0) = false := by rw [beq_eq_false_iff_ne]; intro h; apply e3; exact List.eq_nil_of_length_eq_zero (by omega)
        clear hk e1 e2 e3
        go_enter Try.func20, Try.ntmps20
        go_wp2_with fail
        refine CC.out.mono ?_
        rintro e w' ⟨rfl, q, rfl⟩
        rw [E]
        go_wp2
        go_ret
        exact ⟨by rw [K.out]; rfl, HB.out q⟩

end Go.Proofs.Ytkfoknjflpklpaa.D

namespace Go.Proofs.Ytkfoknjflpklpaa.Stab
open Go.Sort
variable {α : Type} [Inhabited α]

/-! ### the functions, row for row -/
/-- 'for ; i < n; i++ { swap a+i, b+i }', from i. -/
def swapFrom (a b n i : Nat) (d : Array α) : Array α := if i < n then swapFrom a b n (i + 1) (swp d (a + i) (b + i)) else d
termination_by n - i

/-- The loop of rotate and what follows it. -/
def rotLoop (m i j : Nat) (d : Array α) : Array α :=
  if i = 0 ∨ j = 0 then d else
  if i = j then swapFrom (m - i) m i 0 d else
  if i > j then rotLoop m (i - j) j (swapFrom (m - i) m j 0 d) else rotLoop m i (j - i) (swapFrom (m - i) (m + j - i) i 0 d)
termination_by i + j

def rotate (a m b : Nat) (d : Array α) : Array α := rotLoop m (m - a) (b - m) d

/-- The binary search: from [i, j). -/
def search (p : Nat → Bool) (i j : Nat) : Nat := if i < j then (if p ((i + j) / 2) then search p ((i + j) / 2 + 1) j else search p i ((i + j) / 2)) else i
termination_by j - i

/-- 'for ; k < e; k++ { swap k, k+1 }'. -/
def shUp (k e : Nat) (d : Array α) : Array α := if k < e then shUp (k + 1) e (swp d k (k + 1)) else d
termination_by e - k

/-- 'for ; k > i; k-- { swap k, k-1 }'. -/
def shDn (i : Nat) : Nat → Array α → Array α
  | 0, d => d
  | k + 1, d => if i < k + 1 then shDn i k (swp d (k + 1) k) else d

section
variable (lt : α → α → Bool)

def symStart (d : Array α) (a m b : Nat) : Nat :=
  let mid := (a + b) / 2
  let n := mid + m
  let p := fun c => !lt d[n - 1 - c]! d[c]!
  if m > mid then search p (n - b) mid else search p a m

def symMerge (d : Array α) (a m b : Nat) : Array α :=
  if m = a + 1 then
    let i := search (fun h => lt d[h]! d[a]!) m b
    shUp a (i - 1) d
  else if b = m + 1 then
    let i := search (fun h => !lt d[m]! d[h]!) a m
    shDn i m d
  else
    let mid := (a + b) / 2
    let start := symStart lt d a m b
    let e := mid + m - start
    let d1 := if start < m ∧ m < e then rotate start m e d else d
    let d2 := if _h : a < start ∧ start < mid ∧ mid < b then symMerge d1 a start mid else d1
    if _h : mid < e ∧ e < b ∧ a < mid then symMerge d2 mid e b else d2
termination_by b - a

/-- The blocks: from [a, b) on; then the last one. -/
def insBlocks (bs n : Nat) (a b : Nat) (d : Array α) : Array α :=
  if b ≤ n ∧ 0 < bs then insBlocks bs n b (b + bs) (insertionSort lt d a b) else insertionSort lt d a n
termination_by n + bs - b
decreasing_by omega

def mergePass (bs n : Nat) (a b : Nat) (d : Array α) : Array α :=
  if b ≤ n ∧ 0 < bs then mergePass bs n b (b + 2 * bs) (symMerge lt d a (a + bs) b) else
  if a + bs < n then symMerge lt d a (a + bs) n else d
termination_by n + 2 * bs - b
decreasing_by omega

def mergeAll (bs n : Nat) (d : Array α) : Array α :=
  if bs < n ∧ 0 < bs then mergeAll (bs * 2) n (mergePass lt bs n 0 (2 * bs) d) else d
termination_by n - bs
decreasing_by omega

def stable (d : Array α) : Array α := mergeAll lt 20 d.size (insBlocks lt 20 d.size 0 20 d)
end

/-! ### sizes -/
theorem size_swapFrom (a b n : Nat) : ∀ (k i : Nat) (d : Array α), n - i = k → (swapFrom a b n i d).size = d.size := by
  intro k
  induction k with
  | zero => intro i d h; rw [swapFrom, if_neg (by omega)]
  | succ k ih => intro i d h; rw [swapFrom, if_pos (by omega), ih _ _ (by omega), size_swp]

theorem get_swapFrom (a b n : Nat) : ∀ (k i : Nat) (d : Array α), n - i = k → a + n ≤ b → b + n ≤ d.size → ∀ x,
    (swapFrom a b n i d)[x]! = if a + i ≤ x ∧ x < a + n then d[x + (b - a)]! else if b + i ≤ x ∧ x < b + n then d[x - (b - a)]! else d[x]! := by
  intro k
  induction k with
  | zero => intro i d h h1 h2 x; rw [swapFrom, if_neg (by omega), if_neg (by omega), if_neg (by omega)]
  | succ k ih =>
    intro i d h h1 h2 x
    rw [swapFrom, if_pos (by omega), ih _ _ (by omega) h1 (by rw [size_swp]; exact h2)]
    have g := fun y => swp_get d (show a + i < d.size by omega) (show b + i < d.size by omega) y
    by_cases c1 : a + i ≤ x ∧ x < a + n
    · rw [if_pos c1]
      by_cases c2 : x = a + i
      · subst c2
        rw [if_neg (by omega), if_neg (by omega), g, if_neg (by omega), if_pos rfl]
        congr 1; omega
      · rw [if_pos (by omega), g, if_neg (by omega), if_neg (by omega)]
    · rw [if_neg c1]
      by_cases c3 : b + i ≤ x ∧ x < b + n
      · rw [if_pos c3]
        by_cases c4 : x = b + i
        · subst c4
          rw [if_neg (by omega), if_neg (by omega), g, if_pos rfl]
          congr 1; omega
        · rw [if_neg (by omega), if_pos (by omega), g, if_neg (by omega), if_neg (by omega)]
      · rw [if_neg c3, if_neg (by omega), if_neg (by omega), g, if_neg (by omega), if_neg (by omega)]

theorem perm_swapFrom (a b n : Nat) (lo hi : Nat) : ∀ (k i : Nat) (d : Array α), n - i = k → lo ≤ a → a + n ≤ hi → lo ≤ b → b + n ≤ hi → hi ≤ d.size → PermIn lo hi d (swapFrom a b n i d) := by
  intro k
  induction k with
  | zero => intro i d h _ _ _ _ _; rw [swapFrom, if_neg (by omega)]; exact permIn_refl _ _ _
  | succ k ih =>
    intro i d h h1 h2 h3 h4 h5
    rw [swapFrom, if_pos (by omega)]
    exact permIn_trans _ _ _ _ _ (swp_permIn d lo hi (a + i) (b + i) (by omega) (by omega) (by omega) (by omega) h5) (ih _ _ (by omega) h1 h2 h3 h4 (by rw [size_swp]; exact h5))

/-! ### rotate -/
theorem get_rotLoop (m : Nat) : ∀ (k i j : Nat) (d : Array α), i + j = k → 0 < i → 0 < j → i ≤ m → m + j ≤ d.size → ∀ x,
    (rotLoop m i j d)[x]! = if m - i ≤ x ∧ x < m - i + j then d[x + i]! else if m - i + j ≤ x ∧ x < m + j then d[x - j]! else d[x]! := by
  intro k
  induction k using Nat.strongRecOn with
  | _ k ih =>
    intro i j d hk hi hj him hsz x
    rw [rotLoop, if_neg (by omega)]
    by_cases e : i = j
    · rw [if_pos e]
      subst e
      rw [get_swapFrom (m - i) m i i 0 d rfl (by omega) hsz]
      by_cases c1 : m - i ≤ x ∧ x < m - i + i
      · rw [if_pos (by omega), if_pos c1]; congr 1; omega
      · rw [if_neg (by omega), if_neg c1]
        by_cases c2 : m - i + i ≤ x ∧ x < m + i
        · rw [if_pos (by omega), if_pos c2]; congr 1; omega
        · rw [if_neg (by omega), if_neg c2]
    · rw [if_neg e]
      by_cases c : i > j
      · rw [if_pos c, ih i (by omega) (i - j) j _ (by omega) (by omega) hj (by omega) (by rw [size_swapFrom _ _ _ _ _ _ rfl]; exact hsz)]
        have g := fun y => get_swapFrom (m - i) m j j 0 d rfl (by omega) hsz y
        by_cases c1 : m - i ≤ x ∧ x < m - i + j
        · rw [if_pos c1, if_neg (by omega), if_neg (by omega), g, if_pos (by omega)]; congr 1; omega
        · rw [if_neg c1]
          by_cases c2 : m - i + j ≤ x ∧ x < m + j
          · rw [if_pos c2]
            by_cases c3 : m - (i - j) ≤ x ∧ x < m - (i - j) + j
            · rw [if_pos c3, g, if_neg (by omega), if_pos (by omega)]; congr 1; omega
            · rw [if_neg c3, if_pos (by omega), g, if_neg (by omega), if_neg (by omega)]
          · rw [if_neg c2, if_neg (by omega), if_neg (by omega), g, if_neg (by omega), if_neg (by omega)]
      · rw [if_neg c, ih j (by omega) i (j - i) _ (by omega) hi (by omega) him (by rw [size_swapFrom _ _ _ _ _ _ rfl]; omega)]
        have g := fun y => get_swapFrom (m - i) (m + j - i) i i 0 d rfl (by omega) (by omega) y
        by_cases c1 : m - i ≤ x ∧ x < m - i + j
        · rw [if_pos c1]
          by_cases c3 : m - i ≤ x ∧ x < m - i + (j - i)
          · rw [if_pos c3, g]
            by_cases c4 : x + i < m + j - i
            · rw [if_neg (by omega), if_neg (by omega)]
            · omega
          · rw [if_neg c3]
            by_cases c5 : m - i + (j - i) ≤ x ∧ x < m + (j - i)
            · rw [if_pos c5, g, if_pos (by omega)]; congr 1; omega
            · omega
        · rw [if_neg c1]
          by_cases c2 : m - i + j ≤ x ∧ x < m + j
          · rw [if_pos c2, if_neg (by omega)]
            rw [if_neg (by omega), g, if_neg (by omega), if_pos (by omega)]; congr 1; omega
          · rw [if_neg c2, if_neg (by omega), if_neg (by omega), g, if_neg (by omega), if_neg (by omega)]

theorem perm_rotLoop (m lo hi : Nat) : ∀ (k i j : Nat) (d : Array α), i + j = k → i ≤ m → lo ≤ m - i → m + j ≤ hi → hi ≤ d.size → PermIn lo hi d (rotLoop m i j d) := by
  intro k
  induction k using Nat.strongRecOn with
  | _ k ih =>
    intro i j d hk him hlo hhi hsz
    rw [rotLoop]
    by_cases z : i = 0 ∨ j = 0
    · rw [if_pos z]; exact permIn_refl _ _ _
    · rw [if_neg z]
      by_cases e : i = j
      · rw [if_pos e]
        exact perm_swapFrom _ _ _ _ _ i 0 d rfl hlo (by omega) (by omega) (by omega) hsz
      · rw [if_neg e]
        by_cases c : i > j
        · rw [if_pos c]
          exact permIn_trans _ _ _ _ _ (perm_swapFrom _ _ _ lo hi j 0 d rfl hlo (by omega) (by omega) (by omega) hsz) (ih i (by omega) (i - j) j _ (by omega) (by omega) (by omega) hhi (by rw [size_swapFrom _ _ _ _ _ _ rfl]; exact hsz))
        · rw [if_neg c]
          exact permIn_trans _ _ _ _ _ (perm_swapFrom _ _ _ lo hi i 0 d rfl hlo (by omega) (by omega) (by omega) hsz) (ih j (by omega) i (j - i) _ (by omega) him hlo (by omega) (by rw [size_swapFrom _ _ _ _ _ _ rfl]; exact hsz))

theorem size_rotate (a m b : Nat) (d : Array α) (h1 : a ≤ m) (h2 : m ≤ b) (h3 : b ≤ d.size) : (rotate a m b d).size = d.size :=
  (perm_rotLoop m a b _ (m - a) (b - m) d rfl (by omega) (by omega) (by omega) h3).1

/-! ### the shifts -/
theorem get_shUp : ∀ (n k e : Nat) (d : Array α), e - k = n → e < d.size → ∀ x,
    (shUp k e d)[x]! = if k ≤ x ∧ x < e then d[x + 1]! else if x = e ∧ k ≤ e then d[k]! else d[x]! := by
  intro n
  induction n with
  | zero =>
    intro k e d h hs x
    rw [shUp, if_neg (by omega), if_neg (by omega)]
    by_cases c : x = e ∧ k ≤ e
    · rw [if_pos c]; congr 1; omega
    · rw [if_neg c]
  | succ n ih =>
    intro k e d h hs x
    rw [shUp, if_pos (by omega), ih (k + 1) e _ (by omega) (by rw [size_swp]; exact hs)]
    have g := fun y => swp_get d (show k < d.size by omega) (show k + 1 < d.size by omega) y
    by_cases c1 : k ≤ x ∧ x < e
    · rw [if_pos c1]
      by_cases c2 : x = k
      · subst c2; rw [if_neg (by omega), if_neg (by omega), g, if_neg (by omega), if_pos rfl]
      · rw [if_pos (by omega), g, if_neg (by omega), if_neg (by omega)]
    · rw [if_neg c1, if_neg (by omega)]
      by_cases c3 : x = e ∧ k ≤ e
      · rw [if_pos c3, if_pos (by omega), g, if_pos rfl]
      · rw [if_neg c3, if_neg (by omega), g, if_neg (by omega), if_neg (by omega)]

theorem perm_shUp (lo hi : Nat) : ∀ (n k e : Nat) (d : Array α), e - k = n → lo ≤ k → e < hi → hi ≤ d.size → PermIn lo hi d (shUp k e d) := by
  intro n
  induction n with
  | zero => intro k e d h _ _ _; rw [shUp, if_neg (by omega)]; exact permIn_refl _ _ _
  | succ n ih =>
    intro k e d h h1 h2 h3
    rw [shUp, if_pos (by omega)]
    exact permIn_trans _ _ _ _ _ (swp_permIn d lo hi k (k + 1) h1 (by omega) (by omega) (by omega) h3) (ih (k + 1) e _ (by omega) (by omega) h2 (by rw [size_swp]; exact h3))

theorem get_shDn (i : Nat) : ∀ (k : Nat) (d : Array α), i ≤ k → k < d.size → ∀ x,
    (shDn i k d)[x]! = if i < x ∧ x ≤ k then d[x - 1]! else if x = i then d[k]! else d[x]! := by
  intro k
  induction k with
  | zero =>
    intro d h hs x
    rw [shDn, if_neg (by omega)]
    by_cases c : x = i
    · rw [if_pos c]; congr 1; omega
    · rw [if_neg c]
  | succ k ih =>
    intro d h hs x
    rw [shDn]
    by_cases c0 : i < k + 1
    · rw [if_pos c0, ih _ (by omega) (by rw [size_swp]; omega)]
      have g := fun y => swp_get d (show k + 1 < d.size by omega) (show k < d.size by omega) y
      by_cases c1 : i < x ∧ x ≤ k + 1
      · rw [if_pos c1]
        by_cases c2 : x = k + 1
        · subst c2; rw [if_neg (by omega), if_neg (by omega), g, if_neg (by omega), if_pos rfl]; congr 1
        · rw [if_pos (by omega), g, if_neg (by omega), if_neg (by omega)]
      · rw [if_neg c1, if_neg (by omega)]
        by_cases c3 : x = i
        · rw [if_pos c3, if_pos c3, g, if_pos rfl]
        · rw [if_neg c3, if_neg c3, g, if_neg (by omega), if_neg (by omega)]
    · rw [if_neg c0, if_neg (by omega)]
      by_cases c3 : x = i
      · rw [if_pos c3]; congr 1; omega
      · rw [if_neg c3]

theorem perm_shDn (lo hi i : Nat) : ∀ (k : Nat) (d : Array α), lo ≤ i → k < hi → hi ≤ d.size → PermIn lo hi d (shDn i k d) := by
  intro k
  induction k with
  | zero => intro d _ _ _; rw [shDn]; exact permIn_refl _ _ _
  | succ k ih =>
    intro d h1 h2 h3
    rw [shDn]
    split
    · rename_i c
      exact permIn_trans _ _ _ _ _ (swp_permIn d lo hi (k + 1) k (by omega) (by omega) (by omega) (by omega) h3) (ih _ h1 (by omega) (by rw [size_swp]; exact h3))
    · exact permIn_refl _ _ _

/-! ### the search -/
theorem search_spec (p : Nat → Bool) : ∀ (n i j : Nat), j - i = n → i ≤ j →
    i ≤ search p i j ∧ search p i j ≤ j ∧ (i < search p i j → p (search p i j - 1) = true) ∧ (search p i j < j → p (search p i j) = false) := by
  intro n
  induction n using Nat.strongRecOn with
  | _ n ih =>
    intro i j hn hij
    rw [search]
    by_cases c : i < j
    · rw [if_pos c]
      cases hp : p ((i + j) / 2) with
      | true =>
        rw [if_pos rfl]
        obtain ⟨h1, h2, h3, h4⟩ := ih (j - ((i + j) / 2 + 1)) (by omega) ((i + j) / 2 + 1) j rfl (by omega)
        refine ⟨by omega, h2, fun _ => ?_, h4⟩
        by_cases c2 : (i + j) / 2 + 1 < search p ((i + j) / 2 + 1) j
        · exact h3 c2
        · have e : search p ((i + j) / 2 + 1) j - 1 = (i + j) / 2 := by omega
          rw [e]; exact hp
      | false =>
        rw [if_neg (by simp)]
        obtain ⟨h1, h2, h3, h4⟩ := ih ((i + j) / 2 - i) (by omega) i ((i + j) / 2) rfl (by omega)
        refine ⟨h1, by omega, h3, fun _ => ?_⟩
        by_cases c2 : search p i ((i + j) / 2) < (i + j) / 2
        · exact h4 c2
        · have e : search p i ((i + j) / 2) = (i + j) / 2 := by omega
          rw [e]; exact hp
    · rw [if_neg c]
      exact ⟨Nat.le_refl _, hij, fun h => by omega, fun h => by omega⟩

/-! ### symMerge under an order r that agrees with lt where the right run is held against the left -/
variable {lt r : α → α → Bool}

omit [Inhabited α] in
theorem SWO.le_trans' (h : SWO r) {x y z : α} (h1 : r y x = false) (h2 : r z y = false) : r z x = false := h.ntrans _ _ _ h2 h1

theorem symStart_spec (d : Array α) (a m b : Nat) (h1 : a < m) (h2 : m < b) :
    let mid := (a + b) / 2
    let s := symStart lt d a m b
    let e := mid + m - s
    a ≤ s ∧ s ≤ m ∧ s ≤ mid ∧ m ≤ e ∧ e ≤ b ∧ mid ≤ e ∧ (a < s → e < b → lt d[e]! d[s - 1]! = false) ∧ (s < m → m < e → lt d[e - 1]! d[s]! = true) := by
  intro mid s e
  by_cases c : m > mid
  · have hs : s = search (fun c => !lt d[mid + m - 1 - c]! d[c]!) (mid + m - b) mid := by
      show symStart lt d a m b = _
      unfold symStart
      simp only []
      rw [if_pos c]
    obtain ⟨g1, g2, g3, g4⟩ := search_spec (fun c => !lt d[mid + m - 1 - c]! d[c]!) _ (mid + m - b) mid rfl (by omega)
    rw [← hs] at g1 g2 g3 g4
    refine ⟨by omega, by omega, g2, by omega, by omega, by omega, fun h3 h4 => ?_, fun h3 h4 => ?_⟩
    · have := g3 (by omega)
      simp only [Bool.not_eq_true'] at this
      rw [show mid + m - 1 - (s - 1) = e by omega] at this
      exact this
    · have := g4 (by omega)
      simp only [Bool.not_eq_false'] at this
      rw [show mid + m - 1 - s = e - 1 by omega] at this
      exact this
  · have hs : s = search (fun c => !lt d[mid + m - 1 - c]! d[c]!) a m := by
      show symStart lt d a m b = _
      unfold symStart
      simp only []
      rw [if_neg c]
    obtain ⟨g1, g2, g3, g4⟩ := search_spec (fun c => !lt d[mid + m - 1 - c]! d[c]!) _ a m rfl (by omega)
    rw [← hs] at g1 g2 g3 g4
    refine ⟨by omega, by omega, by omega, by omega, by omega, by omega, fun h3 h4 => ?_, fun h3 h4 => ?_⟩
    · have := g3 (by omega)
      simp only [Bool.not_eq_true'] at this
      rw [show mid + m - 1 - (s - 1) = e by omega] at this
      exact this
    · have := g4 (by omega)
      simp only [Bool.not_eq_false'] at this
      rw [show mid + m - 1 - s = e - 1 by omega] at this
      exact this

theorem symMerge_spec (hr : SWO r) : ∀ (n a m b : Nat) (d : Array α), b - a = n → a < m → m < b → b ≤ d.size →
    (∀ i j, a ≤ i → i < m → m ≤ j → j < b → lt d[j]! d[i]! = r d[j]! d[i]!) → SortedIn r a m d → SortedIn r m b d →
    PermIn a b d (symMerge lt d a m b) ∧ SortedIn r a b (symMerge lt d a m b) := by
  intro n
  induction n using Nat.strongRecOn with
  | _ n ih =>
    intro a m b d hn ham hmb hsz hag hsl hsr
    rw [symMerge]
    by_cases c1 : m = a + 1
    · rw [if_pos c1]
      simp only []
      obtain ⟨g1, g2, g3, g4⟩ := search_spec (fun h => lt d[h]! d[a]!) _ m b rfl (by omega)
      generalize search (fun h => lt d[h]! d[a]!) m b = i at *
      refine ⟨perm_shUp a b _ a (i - 1) d rfl (Nat.le_refl _) (by omega) hsz, fun x y hx hxy hy => ?_⟩
      have g := fun z => get_shUp _ a (i - 1) d rfl (by omega) z
      rw [g, g]
      by_cases y1 : y < i - 1
      · rw [if_pos (by omega), if_pos (by omega)]
        exact hsr (x + 1) (y + 1) (by omega) (by omega) (by omega)
      · by_cases y2 : y = i - 1
        · rw [if_neg (by omega), if_pos (by omega), if_pos (by omega)]
          -- d[a] behind d[x+1], x + 1 ≤ i - 1
          have h3 : lt d[i - 1]! d[a]! = true := g3 (by omega)
          rw [hag a (i - 1) (by omega) (by omega) (by omega) (by omega)] at h3
          have h4 := hr.asymmA h3
          by_cases e : x + 1 = i - 1
          · rw [e]; exact h4
          · exact hr.ntrans _ _ _ h4 (hsr (x + 1) (i - 1) (by omega) (by omega) (by omega))
        · rw [if_neg (by omega), if_neg (by omega)]
          by_cases x1 : x < i - 1
          · rw [if_pos (by omega)]
            exact hsr (x + 1) y (by omega) (by omega) hy
          · rw [if_neg (by omega)]
            by_cases x2 : x = i - 1
            · rw [if_pos (by omega)]
              have h4 : lt d[i]! d[a]! = false := g4 (by omega)
              rw [hag a i (by omega) (by omega) (by omega) (by omega)] at h4
              by_cases e : y = i
              · rw [e]; exact h4
              · exact hr.ntrans _ _ _ (hsr i y (by omega) (by omega) hy) h4
            · rw [if_neg (by omega)]
              exact hsr x y (by omega) hxy hy
    · rw [if_neg c1]
      by_cases c2 : b = m + 1
      · rw [if_pos c2]
        simp only []
        obtain ⟨g1, g2, g3, g4⟩ := search_spec (fun h => !lt d[m]! d[h]!) _ a m rfl (by omega)
        generalize search (fun h => !lt d[m]! d[h]!) a m = i at *
        refine ⟨perm_shDn a b i m d g1 (by omega) hsz, fun x y hx hxy hy => ?_⟩
        have g := fun z => get_shDn i m d g2 (by omega) z
        rw [g, g]
        by_cases x1 : x < i
        · rw [if_neg (show ¬ (i < x ∧ x ≤ m) by omega), if_neg (show ¬ x = i by omega)]
          by_cases y1 : i < y ∧ y ≤ m
          · rw [if_pos y1]
            exact hsl x (y - 1) hx (by omega) (by omega)
          · rw [if_neg y1]
            by_cases y2 : y = i
            · rw [if_pos y2]
              have h3 : (!lt d[m]! d[i - 1]!) = true := g3 (by omega)
              simp only [Bool.not_eq_true'] at h3
              rw [hag (i - 1) m (by omega) (by omega) (by omega) (by omega)] at h3
              by_cases e : x = i - 1
              · rw [e]; exact h3
              · exact hr.ntrans _ _ _ h3 (hsl x (i - 1) hx (by omega) (by omega))
            · rw [if_neg y2]
              exact hsl x y hx hxy (by omega)
        · by_cases x2 : x = i
          · rw [if_neg (show ¬ (i < x ∧ x ≤ m) by omega), if_pos x2, if_pos (by omega)]
            have h4 : (!lt d[m]! d[i]!) = false := g4 (by omega)
            simp only [Bool.not_eq_false'] at h4
            rw [hag i m (by omega) (by omega) (by omega) (by omega)] at h4
            have h5 := hr.asymmA h4
            by_cases e : y - 1 = i
            · rw [e]; exact h5
            · exact hr.ntrans _ _ _ (hsl i (y - 1) (by omega) (by omega) (by omega)) h5
          · rw [if_pos (by omega), if_pos (by omega)]
            exact hsl (x - 1) (y - 1) (by omega) (by omega) (by omega)
      · rw [if_neg c2]
        simp only []
        obtain ⟨s1, s2, s3, s4, s5, s6, s7, s8⟩ := symStart_spec (lt := lt) d a m b ham hmb
        generalize hs : symStart lt d a m b = s at *
        generalize hmid : (a + b) / 2 = mid at *
        generalize he : mid + m - s = e at *
        -- the array behind the rotation
        obtain ⟨d1, hd1⟩ : ∃ d1, d1 = (if s < m ∧ m < e then rotate s m e d else d) := ⟨_, rfl⟩
        rw [← hd1]
        have hp1 : PermIn a b d d1 := by
          rw [hd1]; split
          · exact permIn_mono _ _ s e _ _ s1 s5 hsz (perm_rotLoop m s e _ (m - s) (e - m) d rfl (by omega) (by omega) (by omega) (by omega))
          · exact permIn_refl _ _ _
        have hz1 : d1.size = d.size := hp1.1
        have get1 : ∀ x, d1[x]! = if s ≤ x ∧ x < mid then d[x + (m - s)]! else if mid ≤ x ∧ x < e then d[x - (e - m)]! else d[x]! := by
          intro x
          rw [hd1]
          by_cases c3 : s < m ∧ m < e
          · rw [if_pos c3]
            unfold rotate
            rw [get_rotLoop m _ (m - s) (e - m) d rfl (by omega) (by omega) (by omega) (by omega)]
            by_cases d1' : s ≤ x ∧ x < mid
            · rw [if_pos (by omega), if_pos d1']
            · rw [if_neg (by omega), if_neg d1']
              by_cases d2' : mid ≤ x ∧ x < e
              · rw [if_pos (by omega), if_pos d2']
              · rw [if_neg (by omega), if_neg d2']
          · rw [if_neg c3]
            by_cases d1' : s ≤ x ∧ x < mid
            · rw [if_pos d1']; congr 1; omega
            · rw [if_neg d1']
              by_cases d2' : mid ≤ x ∧ x < e
              · rw [if_pos d2']; congr 1; omega
              · rw [if_neg d2']
        -- its halves: [a, s) of the left run, [s, mid) of the right; [mid, e) of the left, [e, b) of the right
        have A1 : ∀ x, a ≤ x → x < s → d1[x]! = d[x]! := fun x _ h => by rw [get1, if_neg (by omega), if_neg (by omega)]
        have A2 : ∀ x, s ≤ x → x < mid → d1[x]! = d[x + (m - s)]! := fun x h h' => by rw [get1, if_pos (by omega)]
        have A3 : ∀ x, mid ≤ x → x < e → d1[x]! = d[x - (e - m)]! := fun x h h' => by rw [get1, if_neg (by omega), if_pos (by omega)]
        have A4 : ∀ x, e ≤ x → d1[x]! = d[x]! := fun x h => by rw [get1, if_neg (by omega), if_neg (by omega)]
        -- nothing of the second half stands ahead of anything of the first
        have LR : ∀ p q, a ≤ p → p < mid → mid ≤ q → q < b → r d1[q]! d1[p]! = false := by
          intro p q hp1' hp2' hq1 hq2
          by_cases p1 : p < s
          · rw [A1 p hp1' p1]
            by_cases q1 : q < e
            · rw [A3 q hq1 q1]
              exact hsl p (q - (e - m)) hp1' (by omega) (by omega)
            · rw [A4 q (by omega)]
              have h7 := s7 (by omega) (by omega)
              rw [hag (s - 1) e (by omega) (by omega) (by omega) (by omega)] at h7
              have h8 : r d[e]! d[p]! = false := by
                by_cases e' : p = s - 1
                · rw [e']; exact h7
                · exact hr.ntrans _ _ _ h7 (hsl p (s - 1) hp1' (by omega) (by omega))
              by_cases e' : q = e
              · rw [e']; exact h8
              · exact hr.ntrans _ _ _ (hsr e q (by omega) (by omega) hq2) h8
          · rw [A2 p (by omega) hp2']
            by_cases q1 : q < e
            · rw [A3 q hq1 q1]
              have h8 := s8 (by omega) (by omega)
              rw [hag s (e - 1) (by omega) (by omega) (by omega) (by omega)] at h8
              have h9 := hr.asymmA h8
              have h10 : r d[q - (e - m)]! d[e - 1]! = false := by
                by_cases e' : q - (e - m) = s
                · rw [e']; exact h9
                · exact hr.ntrans _ _ _ (hsl s (q - (e - m)) (by omega) (by omega) (by omega)) h9
              by_cases e' : p + (m - s) = e - 1
              · rw [e']; exact h10
              · exact hr.ntrans _ _ _ h10 (hsr (p + (m - s)) (e - 1) (by omega) (by omega) (by omega))
            · rw [A4 q (by omega)]
              exact hsr (p + (m - s)) q (by omega) (by omega) hq2
        have hmb' : mid < b := by omega
        have ham' : a < mid := by omega
        -- the first half
        obtain ⟨d2, hd2⟩ : ∃ d2, d2 = (if h : a < s ∧ s < mid ∧ mid < b then symMerge lt d1 a s mid else d1) := ⟨_, rfl⟩
        rw [← hd2]
        have H2 : PermIn a mid d1 d2 ∧ SortedIn r a mid d2 := by
          rw [hd2]
          by_cases c4 : a < s ∧ s < mid ∧ mid < b
          · rw [dif_pos c4]
            refine ih (mid - a) (by omega) a s mid d1 rfl c4.1 c4.2.1 (by omega) ?_ ?_ ?_
            · intro i j i1 i2 j1 j2
              rw [A1 i i1 i2, A2 j j1 j2]
              exact hag i (j + (m - s)) i1 (by omega) (by omega) (by omega)
            · intro i j i1 i2 j2
              rw [A1 i i1 (by omega), A1 j (by omega) j2]
              exact hsl i j i1 i2 (by omega)
            · intro i j i1 i2 j2
              rw [A2 i i1 (by omega), A2 j (by omega) j2]
              exact hsr (i + (m - s)) (j + (m - s)) (by omega) (by omega) (by omega)
          · rw [dif_neg c4]
            refine ⟨permIn_refl _ _ _, fun i j i1 i2 j2 => ?_⟩
            by_cases c5 : s = a
            · rw [A2 i (by omega) (by omega), A2 j (by omega) j2]
              exact hsr (i + (m - s)) (j + (m - s)) (by omega) (by omega) (by omega)
            · rw [A1 i i1 (by omega), A1 j (by omega) (by omega)]
              exact hsl i j i1 i2 (by omega)
        have hz2 : d2.size = d.size := by rw [H2.1.1, hz1]
        have B2 : ∀ x, mid ≤ x → d2[x]! = d1[x]! := fun x h => H2.1.2.1 x (Or.inr h)
        -- the second half
        obtain ⟨d3, hd3⟩ : ∃ d3, d3 = (if h : mid < e ∧ e < b ∧ a < mid then symMerge lt d2 mid e b else d2) := ⟨_, rfl⟩
        rw [← hd3]
        have H3 : PermIn mid b d2 d3 ∧ SortedIn r mid b d3 := by
          rw [hd3]
          by_cases c4 : mid < e ∧ e < b ∧ a < mid
          · rw [dif_pos c4]
            refine ih (b - mid) (by omega) mid e b d2 rfl c4.1 c4.2.1 (by omega) ?_ ?_ ?_
            · intro i j i1 i2 j1 j2
              rw [B2 i i1, B2 j (by omega), A3 i i1 i2, A4 j j1]
              exact hag (i - (e - m)) j (by omega) (by omega) (by omega) (by omega)
            · intro i j i1 i2 j2
              rw [B2 i i1, B2 j (by omega), A3 i i1 (by omega), A3 j (by omega) j2]
              exact hsl (i - (e - m)) (j - (e - m)) (by omega) (by omega) (by omega)
            · intro i j i1 i2 j2
              rw [B2 i (by omega), B2 j (by omega), A4 i i1, A4 j (by omega)]
              exact hsr i j (by omega) i2 j2
          · rw [dif_neg c4]
            refine ⟨permIn_refl _ _ _, fun i j i1 i2 j2 => ?_⟩
            rw [B2 i i1, B2 j (by omega)]
            by_cases c5 : e = b
            · rw [A3 i i1 (by omega), A3 j (by omega) (by omega)]
              exact hsl (i - (e - m)) (j - (e - m)) (by omega) (by omega) (by omega)
            · rw [A4 i (by omega), A4 j (by omega)]
              exact hsr i j (by omega) i2 j2
        have hz3 : d3.size = d.size := by rw [H3.1.1, hz2]
        have C3 : ∀ x, x < mid → d3[x]! = d2[x]! := fun x h => H3.1.2.1 x (Or.inl h)
        refine ⟨permIn_trans _ _ _ _ _ hp1 (permIn_trans _ _ _ _ _ (permIn_mono _ _ a mid _ _ (Nat.le_refl _) (by omega) (by omega) H2.1) (permIn_mono _ _ mid b _ _ (by omega) (Nat.le_refl _) (by omega) H3.1)), ?_⟩
        intro x y hx hxy hy
        by_cases y1 : y < mid
        · rw [C3 x (by omega), C3 y y1]; exact H2.2 x y hx hxy y1
        · by_cases x1 : x < mid
          · -- x in the first half, y in the second
            have P1 := permIn_all d1 d2 a mid (fun z => ∀ q, mid ≤ q → q < b → r d1[q]! z = false) (by omega) H2.1 (fun p p1 p2 q q1 q2 => LR p q p1 p2 q1 q2) x hx x1
            have P2 := permIn_all d2 d3 mid b (fun z => r z d2[x]! = false) (by omega) H3.1 (fun q q1 q2 => by rw [B2 q q1]; exact P1 q q1 q2) y (by omega) hy
            rw [C3 x x1]; exact P2
          · exact H3.2 x y (by omega) hxy hy

end Go.Proofs.Ytkfoknjflpklpaa.Stab

namespace Go.Proofs.Ytkfoknjflpklpaa.StabChg
open Go.Shelf Go.RowKit Go.Lib Go.Sort Go.Proofs Go.Proofs.Ytkfoknjflpklpaa.Stab

/-- What the walks lean on of the program. -/
structure Lay (P : Program) (k : Nat) : Prop where
  mixed : P.follows .mixedOrders = true
  fswp : P.funcs[145]? = some Try.f145
  frot : P.funcs[135]? = some Try.f135
  fsym : P.funcs[111]? = some Try.f111
  fins : P.funcs[110]? = some Try.f110
  fsta : P.funcs[80]? = some Try.f80
  ftop : P.funcs[54]? = some Try.f54
  t0 : P.underlying 0 = some (.tuple #[])
  a0 : ∀ w, (isAgg 0).run P w = .ok false w
  z0 : ∀ w, (Go.sizeOf 0).run P w = .ok 1 w
  v0 : ∀ w, (zeroValue 0).run P w = .ok (.tuple #[]) w
  t3 : P.underlying 3 = some (.int .i64)
  a3 : ∀ w, (isAgg 3).run P w = .ok false w
  z3 : ∀ w, (Go.sizeOf 3).run P w = .ok 1 w
  v3 : ∀ w, (zeroValue 3).run P w = .ok (.int .i64 0) w
  t4 : P.underlying 4 = some .bool
  a4 : ∀ w, (isAgg 4).run P w = .ok false w
  z4 : ∀ w, (Go.sizeOf 4).run P w = .ok 1 w
  v4 : ∀ w, (zeroValue 4).run P w = .ok (.bool false) w
  tu : P.underlying 209 = some (.int .u64)
  au : ∀ w, (isAgg 209).run P w = .ok false w
  zu : ∀ w, (Go.sizeOf 209).run P w = .ok 1 w
  vu : ∀ w, (zeroValue 209).run P w = .ok (.int .u64 0) w
  ts : P.underlying 27 = some (.slice 40)
  aS : ∀ w, (isAgg 27).run P w = .ok false w
  zs : ∀ w, (Go.sizeOf 27).run P w = .ok 1 w
  vs : ∀ w, (zeroValue 27).run P w = .ok (.slice none 0 0) w
  tf : P.underlying 113 = some (.func #[40, 40] #[3] false)
  af : ∀ w, (isAgg 113).run P w = .ok false w
  zf : ∀ w, (Go.sizeOf 113).run P w = .ok 1 w
  vf : ∀ w, (zeroValue 113).run P w = .ok .nilFunc w
  aE : ∀ w, (isAgg 40).run P w = .ok true w
  zE : ∀ w, (Go.sizeOf 40).run P w = .ok k w

theorem laid : Lay Try.prog 4 := {
  mixed := by kernel_rfl,
  fswp := Try.func145,
  frot := Try.func135,
  fsym := Try.func111,
  fins := Try.func110,
  fsta := Try.func80,
  ftop := Try.func54,
  t0 := Try.underlying0,
  a0 := fun _ => by kernel_rfl,
  z0 := fun _ => by kernel_rfl,
  v0 := fun _ => by kernel_rfl,
  t3 := Try.underlying3,
  a3 := fun _ => by kernel_rfl,
  z3 := fun _ => by kernel_rfl,
  v3 := fun _ => by kernel_rfl,
  t4 := Try.underlying4,
  a4 := fun _ => by kernel_rfl,
  z4 := fun _ => by kernel_rfl,
  v4 := fun _ => by kernel_rfl,
  tu := Try.underlying209,
  au := fun _ => by kernel_rfl,
  zu := fun _ => by kernel_rfl,
  vu := fun _ => by kernel_rfl,
  ts := Try.underlying27,
  aS := fun _ => by kernel_rfl,
  zs := fun _ => by kernel_rfl,
  vs := fun _ => by kernel_rfl,
  tf := Try.underlying113,
  af := fun _ => by kernel_rfl,
  zf := fun _ => by kernel_rfl,
  vf := fun _ => by kernel_rfl,
  aE := fun _ => by kernel_rfl,
  zE := fun _ => by kernel_rfl }

variable {P : Program} {α : Type} [Inhabited α]

set_option maxHeartbeats 4000000 in
set_option maxRecDepth 1000000 in
theorem swapRange {k : Nat} (L : Lay P k) (enc : α → List Value) (g : Nat) (cb : Array Value) (blk off cap a b n : Nat) (d0 d : Array α) (w0 w : World)
    (R : RowK enc k w0 blk off d0) (hs : d0.size = d.size) (S : SWK enc k w0 blk off d w) (hab : a + n ≤ d.size) (hb : b + n ≤ d.size) (hsz : d.size < 4611686018427387904) :
    Calls P 145 #[.slice (some ⟨blk, off, none⟩) d.size cap, .int .i64 a, .int .i64 b, .int .i64 n, .func (.func g) #[] cb] w fun e w' => e = .returned (.tuple #[]) ∧ SWK enc k w0 blk off (swapFrom a b n 0 d) w' := by
  have mixed := L.mixed; have t0 := L.t0; have a0 := L.a0; have z0 := L.z0; have v0 := L.v0; have t3 := L.t3; have a3 := L.a3; have z3 := L.z3; have v3 := L.v3; have t4 := L.t4; have a4 := L.a4; have z4 := L.z4; have v4 := L.v4; have ts := L.ts; have as' := L.aS; have zs := L.zs; have vs := L.vs; have tf := L.tf; have af := L.af; have zf := L.zf; have vf := L.vf; have aE := L.aE; have zE := L.zE
  have FG := L.fswp
  have S0 : Aside (SWK enc k w0 blk off d w) := S
  clear S L
  go_enter FG, Try.ntmps145
  go_wp2
  go_loopg [10] n (fun kx s10 wr => ∃ (i : Nat) (dk : Array α), s10 = .int .i64 i ∧ i ≤ n ∧ n - i ≤ kx ∧ dk.size = d.size ∧ Aside (SWK enc k w0 blk off dk wr) ∧ Hid (swapFrom a b n i dk = swapFrom a b n 0 d))
  case atStart => exact ⟨0, d, rfl, by omega, by omega, rfl, S0, rfl⟩
  case round =>
    clear S0
    obtain ⟨i, dk, rfl, hin, hkx, hds, S1, heq⟩ := hrel
    by_cases hlt : i < n
    · have hltz : (i : Int) < (n : Int) := by omega
      go_wp2_with fail
      have ea : ((a : Int) + (i : Int)).toNat = a + i := by omega
      have pa : (0 : Int) ≤ (a : Int) + (i : Int) := by omega
      have ba : (a : Int) + (i : Int) < (d.size : Int) := by omega
      have ra : IntKind.i64.wrap ((a : Int) + (i : Int)) = (a : Int) + (i : Int) := by rw [IntKind.wrap_i64]; omega
      have eb : ((b : Int) + (i : Int)).toNat = b + i := by omega
      have pb : (0 : Int) ≤ (b : Int) + (i : Int) := by omega
      have bb : (b : Int) + (i : Int) < (d.size : Int) := by omega
      have rb : IntKind.i64.wrap ((b : Int) + (i : Int)) = (b : Int) + (i : Int) := by rw [IntKind.wrap_i64]; omega
      have S2 : Aside (SWK enc k w0 blk off (swp dk (a + i) (b + i)) ((wr.drew.setCells blk (off + (a + i) * k) (enc dk[b + i]!)).setCells blk (off + (b + i) * k) (enc dk[a + i]!))) := S1.out.swapped R (a + i) (b + i) (by omega) (by omega)
      have l44a := S1.out.ld1 R (by omega) P (a + i) (by omega)
      have l44b := S1.out.ld1 R (by omega) P (b + i) (by omega)
      have s44a := S1.out.st1 R (by omega) P (a + i) (by omega) dk[b + i]!
      have s44b := S1.out.st2 R (by omega) P (a + i) (b + i) (by omega) (by omega) dk[b + i]! dk[a + i]!
      have n44a : (enc dk[a + i]!).length = k := R.hk _
      have n44b : (enc dk[b + i]!).length = k := R.hk _
      generalize enc dk[a + i]! = cI44 at S2 l44a s44b n44a
      generalize enc dk[b + i]! = cJ44 at S2 l44b s44a s44b n44b
      clear S1
      go_wp2_with fail
      go_big_region_o
      clear l44a l44b s44a s44b
      generalize (wr.drew.setCells blk (off + (a + i) * k) cJ44).setCells blk (off + (b + i) * k) cI44 = w2 at S2 ⊢
      go_wp2
      go_roundg (n - (i + 1))
      case measure => omega
      case rel => exact ⟨i + 1, swp dk (a + i) (b + i), by go_num, by omega, Nat.le_refl _, by rw [size_swp]; exact hds, S2, by
        show _ = _
        rw [← heq.out, swapFrom.eq_def a b n i dk, if_pos hlt]⟩
    · have hltz : ¬ (i : Int) < (n : Int) := by omega
      go_wp2
      go_end0
      refine ⟨rfl, ?_⟩
      rw [← heq.out, swapFrom, if_neg hlt]
      exact S1.out

end Go.Proofs.Ytkfoknjflpklpaa.StabChg

namespace Go.Proofs.Ytkfoknjflpklpaa.StabChg
open Go.Shelf Go.RowKit Go.Lib Go.Sort Go.Proofs Go.Proofs.Ytkfoknjflpklpaa.Stab
variable {P : Program} {α : Type} [Inhabited α]

omit [Inhabited α] in
theorem Inner.go [Inhabited α] (lt : α → α → Bool) (a p : Nat) (d : Array α) (h : a < p + 1) (hl : lt d[p + 1]! d[p]! = true) : insInner lt a (p + 1) d = insInner lt a p (swp d (p + 1) p) := by
  rw [insInner]; simp [hl, h]

theorem Inner.stop (lt : α → α → Bool) (a j : Nat) (d : Array α) (h : j ≤ a ∨ lt d[j]! d[j - 1]! = false) : insInner lt a j d = d := by
  cases j with
  | zero => rw [insInner]
  | succ j =>
    rw [insInner, if_neg]
    rcases h with h | h
    · simp; intro h2; omega
    · rw [show j + 1 - 1 = j from rfl] at h; simp [h]

set_option maxHeartbeats 16000000 in
set_option maxRecDepth 1000000 in
theorem insCalls {k : Nat} (L : Lay P k) (enc : α → List Value) (cf : α → α → Int) (g : Nat) (cb : Array Value) (blk off cap a b : Nat) (d0 d : Array α) (w0 w : World)
    (eg : ∀ args w, (callFunc g args).run P w = .ok (.enter g args) w) (hcmp : CmpLays P g cb enc k cf blk off d0.size w0) (R : RowK enc k w0 blk off d0) (hs : d0.size = d.size) (S : SWK enc k w0 blk off d w) (hab : a ≤ b) (hb : b ≤ d.size) (hsz : d.size < 4611686018427387904) :
    Calls P 110 #[.slice (some ⟨blk, off, none⟩) d.size cap, .int .i64 a, .int .i64 b, .func (.func g) #[] cb] w fun e w' => e = .returned (.tuple #[]) ∧ SWK enc k w0 blk off (insertionSort (ltOf cf) d a b) w' := by
  have mixed := L.mixed; have t0 := L.t0; have a0 := L.a0; have z0 := L.z0; have v0 := L.v0; have t3 := L.t3; have a3 := L.a3; have z3 := L.z3; have v3 := L.v3; have t4 := L.t4; have a4 := L.a4; have z4 := L.z4; have v4 := L.v4; have ts := L.ts; have as' := L.aS; have zs := L.zs; have vs := L.vs; have tf := L.tf; have af := L.af; have zf := L.zf; have vf := L.vf; have aE := L.aE; have zE := L.zE
  have FG := L.fins
  have HC : Aside _ := hcmp
  have S0 : Aside (SWK enc k w0 blk off d w) := S
  clear S hcmp L
  go_enter FG, Try.ntmps110
  go_wp2
  go_loopg [8] (b - a) (fun kx s8 wr => ∃ (i : Nat) (dk : Array α), s8 = .int .i64 i ∧ a < i ∧ i ≤ b + 1 ∧ b + 1 - i ≤ kx + 1 ∧ dk.size = d.size ∧ Aside (SWK enc k w0 blk off dk wr) ∧ Hid (insOuter (ltOf cf) a b i dk = insOuter (ltOf cf) a b (a + 1) d))
  case atStart => exact ⟨a + 1, d, by go_num, by omega, by omega, by omega, rfl, S0, rfl⟩
  case round =>
    clear S0
    obtain ⟨i, dk, rfl, hai, hib, hkx, hds, S1, heq⟩ := hrel
    by_cases hlt : i < b
    · have hltz : (i : Int) < (b : Int) := by omega
      obtain ⟨wo, rfl⟩ : ∃ wo : World, wo = wr := ⟨_, rfl⟩
      go_wp2
      go_loopg [9] i (fun ky s9 wr2 => ∃ (j : Nat) (dj : Array α), s9 = .int .i64 j ∧ a ≤ j ∧ j ≤ i ∧ j ≤ ky ∧ dj.size = d.size ∧ Aside (SWK enc k w0 blk off dj wr2) ∧ Hid (insInner (ltOf cf) a j dj = insInner (ltOf cf) a i dk))
      case atStart => exact ⟨i, dk, rfl, by omega, Nat.le_refl _, Nat.le_refl _, hds, S1, rfl⟩
      case round =>
        clear S1
        obtain ⟨j, dj, rfl, haj, hji, hky, hdj, S1, hin⟩ := hrel
        have out : (j ≤ a ∨ ltOf cf dj[j]! dj[j - 1]! = false) → insOuter (ltOf cf) a b (i + 1) dj = insOuter (ltOf cf) a b (a + 1) d := fun hstop => by
          rw [← heq.out, insOuter.eq_def _ a b i dk, if_pos hlt, ← hin.out, Inner.stop _ _ _ _ hstop]
        have OUT : Aside _ := out
        clear out
        by_cases hja : a < j
        · obtain ⟨p, rfl⟩ : ∃ p, j = p + 1 := ⟨j - 1, by omega⟩
          have hjz : (a : Int) < (p : Int) + 1 := by omega
          have hjd : decide ((p : Int) + 1 > (a : Int)) = true := decide_eq_true (by omega)
          have ea : ((p : Int) + 1).toNat = p + 1 := by omega
          have pa : (0 : Int) ≤ (p : Int) + 1 := by omega
          have ba : (p : Int) + 1 < (d.size : Int) := by omega
          have ra : IntKind.i64.wrap ((p : Int) + 1) = (p : Int) + 1 := by rw [IntKind.wrap_i64]; omega
          have ec : ((p : Int)).toNat = p := by omega
          have pc : (0 : Int) ≤ (p : Int) := by omega
          have bc : (p : Int) < (d.size : Int) := by omega
          have rc : IntKind.i64.wrap ((p : Int)) = (p : Int) := by rw [IntKind.wrap_i64]; omega
          obtain ⟨x, hx⟩ : ∃ x, x = dj[p + 1]! := ⟨_, rfl⟩
          obtain ⟨y, hy⟩ : ∃ x, x = dj[p]! := ⟨_, rfl⟩
          have lx := S1.out.ld R (by omega) P (p + 1) (by omega)
          have ly := S1.out.ld R (by omega) P p (by omega)
          rw [← hx] at lx
          rw [← hy] at ly
          have hc := S1.out.cmp HC.out (by omega) x y
          have HX : Hid (x = dj[p + 1]! ∧ y = dj[p]!) := ⟨hx, hy⟩
          clear hx hy
          by_cases hv : cf x y < 0
          · have hd : decide (cf x y < 0) = true := decide_eq_true hv
            go_wp2_with fail
            go_quiet_grown (first | (go_at_fn g; refine Calls.grown_of (hc _ _)))
            have SV : Aside (SWK enc k w0 blk off dj (grow (wr.drewN nq) osq)) := S1.out.grown nq osq
            clear lx ly hc S1
            generalize grow (wr.drewN nq) osq = wv at SV ⊢
            clear nq osq
            go_wp2_with fail
            have S2 : Aside (SWK enc k w0 blk off (swp dj (p + 1) p) ((wv.drew.setCells blk (off + (p + 1) * k) (enc dj[p]!)).setCells blk (off + p * k) (enc dj[p + 1]!))) := SV.out.swapped R (p + 1) p (by omega) (by omega)
            have l44a := SV.out.ld1 R (by omega) P (p + 1) (by omega)
            have l44b := SV.out.ld1 R (by omega) P p (by omega)
            have s44a := SV.out.st1 R (by omega) P (p + 1) (by omega) dj[p]!
            have s44b := SV.out.st2 R (by omega) P (p + 1) p (by omega) (by omega) dj[p]! dj[p + 1]!
            have n44a : (enc dj[p + 1]!).length = k := R.hk _
            have n44b : (enc dj[p]!).length = k := R.hk _
            generalize enc dj[p + 1]! = cI44 at S2 l44a s44b n44a
            generalize enc dj[p]! = cJ44 at S2 l44b s44a s44b n44b
            clear SV
            go_wp2_with fail
            go_big_region_o
            clear l44a l44b s44a s44b
            generalize (wv.drew.setCells blk (off + (p + 1) * k) cJ44).setCells blk (off + p * k) cI44 = w2 at S2 ⊢
            go_wp2
            go_roundg p
            case measure => omega
            case rel => exact ⟨p, swp dj (p + 1) p, by first | rfl | go_num, by omega, by omega, Nat.le_refl _, by rw [size_swp]; exact hdj, S2, by
              show _ = _
              rw [← hin.out, Inner.go _ _ _ _ hja (by rw [← HX.out.1, ← HX.out.2]; exact decide_eq_true hv)]⟩
          · have hd : decide (cf x y < 0) = false := decide_eq_false hv
            go_wp2_with fail
            go_quiet_grown (first | (go_at_fn g; refine Calls.grown_of (hc _ _)))
            have SV : Aside (SWK enc k w0 blk off dj (grow (wr.drewN nq) osq)) := S1.out.grown nq osq
            clear lx ly hc S1
            generalize grow (wr.drewN nq) osq = wv at SV ⊢
            clear nq osq
            go_wp2
            go_roundg (b - (i + 1))
            case measure => omega
            case rel => exact ⟨i + 1, dj, by go_num, by omega, by omega, by omega, hdj, SV, OUT.out (Or.inr (by simp only [Nat.add_sub_cancel]; rw [← HX.out.1, ← HX.out.2]; exact decide_eq_false (by omega)))⟩
        · have hjaz : decide ((j : Int) > (a : Int)) = false := decide_eq_false (by omega)
          have hjaz' : ¬ (a : Int) < (j : Int) := by omega
          have SV : Aside (SWK enc k w0 blk off dj wr.drew) := S1.out.drew
          clear S1
          go_wp2_with fail
          go_big_region_o
          all_goals go_wp2
          go_roundg (b - (i + 1))
          case measure => omega
          case rel => exact ⟨i + 1, dj, by go_num, by omega, by omega, by omega, hdj, SV, OUT.out (Or.inl (by omega))⟩
    · have hltz : ¬ (i : Int) < (b : Int) := by omega
      go_wp2
      go_end0
      refine ⟨rfl, ?_⟩
      rw [insertionSort, ← heq.out, insOuter, if_neg hlt]
      exact S1.out

end Go.Proofs.Ytkfoknjflpklpaa.StabChg

namespace Go.Proofs.Ytkfoknjflpklpaa.StabChg
open Go.Shelf Go.RowKit Go.Lib Go.Sort Go.Proofs Go.Proofs.Ytkfoknjflpklpaa.Stab
variable {P : Program} {α : Type} [Inhabited α]

set_option maxHeartbeats 4000000 in
set_option maxRecDepth 1000000 in
theorem rotateCalls {k : Nat} (L : Lay P k) (enc : α → List Value) (g : Nat) (cb : Array Value) (blk off cap a m b : Nat) (d0 d : Array α) (w0 w : World)
    (R : RowK enc k w0 blk off d0) (hs : d0.size = d.size) (S : SWK enc k w0 blk off d w) (ham : a < m) (hmb : m < b) (hb : b ≤ d.size) (hsz : d.size < 4611686018427387904) :
    Calls P 135 #[.slice (some ⟨blk, off, none⟩) d.size cap, .int .i64 a, .int .i64 m, .int .i64 b, .func (.func g) #[] cb] w fun e w' => e = .returned (.tuple #[]) ∧ SWK enc k w0 blk off (rotate a m b d) w' := by
  have eswp : ∀ args w, (callFunc 145 args).run P w = .ok (.enter 145 args) w := enters_of L.fswp (by kernel_rfl) rfl
  have t0 := L.t0; have a0 := L.a0; have z0 := L.z0; have v0 := L.v0; have t3 := L.t3; have a3 := L.a3; have z3 := L.z3; have v3 := L.v3; have t4 := L.t4; have a4 := L.a4; have z4 := L.z4; have v4 := L.v4; have ts := L.ts; have as' := L.aS; have zs := L.zs; have vs := L.vs; have tf := L.tf; have af := L.af; have zf := L.zf; have vf := L.vf
  have FG := L.frot
  have S0 : Aside (SWK enc k w0 blk off d w) := S
  have LL : Aside (Lay P k) := L
  clear S L
  go_enter FG, Try.ntmps135
  go_wp2
  go_loopg [10, 11] (b - a) (fun kx s10 s11 wr => ∃ (i j : Nat) (dk : Array α), s10 = .int .i64 i ∧ s11 = .int .i64 j ∧ 0 < i ∧ 0 < j ∧ i ≤ m ∧ m + j ≤ d.size ∧ i + j ≤ kx ∧ dk.size = d.size ∧ Aside (SWK enc k w0 blk off dk wr) ∧ Hid (rotLoop m i j dk = rotLoop m (m - a) (b - m) d))
  case atStart => exact ⟨m - a, b - m, d, by congr 1; omega, by congr 1; omega, by omega, by omega, by omega, by omega, by omega, rfl, S0, rfl⟩
  case round =>
    clear S0
    obtain ⟨i, j, dk, rfl, rfl, hi, hj, him, hjs, hkx, hds, S1, heq⟩ := hrel
    by_cases e : i = j
    · subst e
      have e1 : ((i : Int) != (i : Int)) = false := by simp
      go_wp2_with fail
      rw [show ((m : Int) - (i : Int)) = ((m - i : Nat) : Int) by omega, ← hds]
      refine (swapRange LL.out enc g cb blk off cap (m - i) m i d0 dk w0 _ R (by omega) S1.out (by omega) (by omega) (by omega)).mono ?_
      rintro e w' ⟨rfl, S2⟩
      go_wp2
      go_end0
      refine ⟨rfl, ?_⟩
      rw [rotate, ← heq.out, rotLoop, if_neg (by omega), if_pos rfl]
      exact S2
    · have e1 : ((i : Int) != (j : Int)) = true := by rw [bne_iff_ne]; omega
      by_cases c : i > j
      · have c1 : (i : Int) > (j : Int) := by omega
        go_wp2_with fail
        rw [show ((m : Int) - (i : Int)) = ((m - i : Nat) : Int) by omega, ← hds]
        refine (swapRange LL.out enc g cb blk off cap (m - i) m j d0 dk w0 _ R (by omega) S1.out (by omega) (by omega) (by omega)).mono ?_
        rintro e w' ⟨rfl, S2⟩
        have S3 : Aside _ := S2
        clear S2
        rw [hds]
        go_wp2
        go_roundg (i - j + j)
        case measure => omega
        case rel => exact ⟨i - j, j, _, by congr 1; omega, rfl, by omega, hj, by omega, hjs, Nat.le_refl _, by rw [size_swapFrom _ _ _ _ _ _ rfl]; exact hds, S3, by
          show _ = _
          rw [← heq.out, rotLoop.eq_def m i j dk, if_neg (by omega), if_neg e, if_pos c]⟩
      · have c1 : ¬ (i : Int) > (j : Int) := by omega
        go_wp2_with fail
        rw [show ((m : Int) - (i : Int)) = ((m - i : Nat) : Int) by omega, show ((m : Int) + (j : Int) - (i : Int)) = ((m + j - i : Nat) : Int) by omega, ← hds]
        refine (swapRange LL.out enc g cb blk off cap (m - i) (m + j - i) i d0 dk w0 _ R (by omega) S1.out (by omega) (by omega) (by omega)).mono ?_
        rintro e w' ⟨rfl, S2⟩
        have S3 : Aside _ := S2
        clear S2
        rw [hds]
        go_wp2
        go_roundg (i + (j - i))
        case measure => omega
        case rel => exact ⟨i, j - i, _, rfl, by congr 1; omega, hi, by omega, him, by omega, Nat.le_refl _, by rw [size_swapFrom _ _ _ _ _ _ rfl]; exact hds, S3, by
          show _ = _
          rw [← heq.out, rotLoop.eq_def m i j dk, if_neg (by omega), if_neg e, if_neg c]⟩

end Go.Proofs.Ytkfoknjflpklpaa.StabChg

namespace Go.Proofs.Ytkfoknjflpklpaa.StabChg
open Go.Shelf Go.RowKit Go.Lib Go.Sort Go.Proofs Go.Proofs.Ytkfoknjflpklpaa.Stab
variable {P : Program} {α : Type} [Inhabited α]

set_option maxHeartbeats 16000000 in
set_option maxRecDepth 1000000 in
theorem sym1 {k : Nat} (L : Lay P k) (enc : α → List Value) (cf : α → α → Int) (g : Nat) (cb : Array Value) (blk off cap a b : Nat) (d0 d : Array α) (w0 w : World)
    (eg : ∀ args w, (callFunc g args).run P w = .ok (.enter g args) w) (hcmp : CmpLays P g cb enc k cf blk off d0.size w0) (R : RowK enc k w0 blk off d0) (hs : d0.size = d.size) (S : SWK enc k w0 blk off d w) (hmb : a + 1 < b) (hb : b ≤ d.size) (hsz : d.size < 4611686018427387904) :
    Calls P 111 #[.slice (some ⟨blk, off, none⟩) d.size cap, .int .i64 a, .int .i64 ((a : Int) + 1), .int .i64 b, .func (.func g) #[] cb] w fun e w' => e = .returned (.tuple #[]) ∧ SWK enc k w0 blk off (symMerge (ltOf cf) d a (a + 1) b) w' := by
  have mixed := L.mixed; have t0 := L.t0; have a0 := L.a0; have z0 := L.z0; have v0 := L.v0; have t3 := L.t3; have a3 := L.a3; have z3 := L.z3; have v3 := L.v3; have t4 := L.t4; have a4 := L.a4; have z4 := L.z4; have v4 := L.v4; have ts := L.ts; have as' := L.aS; have zs := L.zs; have vs := L.vs; have tf := L.tf; have af := L.af; have zf := L.zf; have vf := L.vf; have aE := L.aE; have zE := L.zE; have tu := L.tu; have au := L.au; have zu := L.zu; have vu := L.vu
  have u3 := run_underlying L.t3; have uu := run_underlying L.tu
  have FG := L.fsym
  have HC : Aside _ := hcmp
  have S0 : Aside (SWK enc k w0 blk off d w) := S
  clear S hcmp L
  have e1 : (((a : Int) + 1) - (a : Int) == 1) = true := by rw [beq_iff_eq]; omega
  have e1' : ((a : Int) + 1) - (a : Int) = 1 := by omega
  go_enter FG, Try.ntmps111
  go_wp2
  go_loopg [10, 11] (b - a) (fun kx s10 s11 wr => ∃ (i j : Nat), s10 = .int .i64 i ∧ s11 = .int .i64 j ∧ a + 1 ≤ i ∧ i ≤ j ∧ j ≤ b ∧ j - i ≤ kx ∧ Aside (SWK enc k w0 blk off d wr) ∧ Hid (search (fun h => ltOf cf d[h]! d[a]!) i j = search (fun h => ltOf cf d[h]! d[a]!) (a + 1) b))
  case atStart => exact ⟨a + 1, b, by go_num, rfl, by omega, by omega, by omega, by omega, S0, rfl⟩
  case round =>
    clear S0
    obtain ⟨i, j, rfl, rfl, hai, hij, hjb, hkx, S1, heq⟩ := hrel
    by_cases hlt : i < j
    · have hltz : (i : Int) < (j : Int) := by omega
      obtain ⟨h, hh⟩ : ∃ h, h = (i + j) / 2 := ⟨_, rfl⟩
      have ez : ((i : Int) + (j : Int)) / 2 = (h : Int) := by omega
      have h1 : i ≤ h := by omega
      have h2 : h < j := by omega
      have HH : Hid (h = (i + j) / 2) := hh
      clear hh
      have ea : ((h : Int)).toNat = h := by omega
      have pa : (0 : Int) ≤ (h : Int) := by omega
      have ba : (h : Int) < (d.size : Int) := by omega
      have ra : IntKind.i64.wrap ((h : Int)) = (h : Int) := by rw [IntKind.wrap_i64]; omega
      have ec : ((a : Int)).toNat = a := by omega
      have pc : (0 : Int) ≤ (a : Int) := by omega
      have bc : (a : Int) < (d.size : Int) := by omega
      have rc : IntKind.i64.wrap ((a : Int)) = (a : Int) := by rw [IntKind.wrap_i64]; omega
      obtain ⟨x, hx⟩ : ∃ x, x = d[h]! := ⟨_, rfl⟩
      obtain ⟨y, hy⟩ : ∃ x, x = d[a]! := ⟨_, rfl⟩
      have lx := S1.out.ld R (by omega) P h (by omega)
      have ly := S1.out.ld R (by omega) P a (by omega)
      rw [← hx] at lx
      rw [← hy] at ly
      have hc := S1.out.cmp HC.out (by omega) x y
      have HX : Hid (x = d[h]! ∧ y = d[a]!) := ⟨hx, hy⟩
      clear hx hy
      by_cases hv : cf x y < 0
      · go_wp2_with fail
        go_quiet_grown (first | (go_at_fn g; refine Calls.grown_of (hc _ _)))
        have SV : Aside (SWK enc k w0 blk off d (grow (wr.drewN nq) osq)) := S1.out.grown nq osq
        clear lx ly hc S1
        generalize grow (wr.drewN nq) osq = wv at SV ⊢
        clear nq osq
        go_wp2
        go_roundg (j - (h + 1))
        case measure => omega
        case rel => exact ⟨h + 1, j, by go_num, rfl, by omega, by omega, hjb, Nat.le_refl _, SV, by
          show _ = _
          rw [← heq.out, search.eq_def _ i j, if_pos hlt, ← HH.out, if_pos (by rw [← HX.out.1, ← HX.out.2]; exact decide_eq_true hv)]⟩
      · go_wp2_with fail
        go_quiet_grown (first | (go_at_fn g; refine Calls.grown_of (hc _ _)))
        have SV : Aside (SWK enc k w0 blk off d (grow (wr.drewN nq) osq)) := S1.out.grown nq osq
        clear lx ly hc S1
        generalize grow (wr.drewN nq) osq = wv at SV ⊢
        clear nq osq
        go_wp2
        go_roundg (h - i)
        case measure => omega
        case rel => exact ⟨i, h, rfl, rfl, hai, by omega, by omega, Nat.le_refl _, SV, by
          show _ = _
          rw [← heq.out, search.eq_def _ i j, if_pos hlt, ← HH.out, if_neg (by rw [← HX.out.1, ← HX.out.2]; simp [ltOf, hv])]⟩
    · have hltz : ¬ (i : Int) < (j : Int) := by omega
      have hi : i = search (fun h => ltOf cf d[h]! d[a]!) (a + 1) b := by rw [← heq.out, search, if_neg hlt]
      have hib : i ≤ b := by omega
      have HI : Hid _ := hi
      clear heq hi hkx hij hjb
      obtain ⟨wq, rfl⟩ : ∃ wq : World, wq = wr := ⟨_, rfl⟩
      go_wp2
      go_loopg [13] (i - a) (fun kx s13 wr2 => ∃ (q : Nat) (dk : Array α), s13 = .int .i64 q ∧ a ≤ q ∧ i - q ≤ kx ∧ dk.size = d.size ∧ Aside (SWK enc k w0 blk off dk wr2) ∧ Hid (shUp q (i - 1) dk = shUp a (i - 1) d))
      case atStart => exact ⟨a, d, rfl, Nat.le_refl _, Nat.le_refl _, rfl, S1, rfl⟩
      case round =>
        clear S1
        obtain ⟨q, dk, rfl, haq, hkx, hds, S1, heq⟩ := hrel
        by_cases hq : q < i - 1
        · have hqz : (q : Int) < (i : Int) - 1 := by omega
          go_wp2_with fail
          have ea : ((q : Int)).toNat = q := by omega
          have pa : (0 : Int) ≤ (q : Int) := by omega
          have ba : (q : Int) < (d.size : Int) := by omega
          have ra : IntKind.i64.wrap ((q : Int)) = (q : Int) := by rw [IntKind.wrap_i64]; omega
          have ec : ((q : Int) + 1).toNat = q + 1 := by omega
          have pc : (0 : Int) ≤ (q : Int) + 1 := by omega
          have bc : (q : Int) + 1 < (d.size : Int) := by omega
          have rc : IntKind.i64.wrap ((q : Int) + 1) = (q : Int) + 1 := by rw [IntKind.wrap_i64]; omega
          have S2 : Aside (SWK enc k w0 blk off (swp dk q (q + 1)) ((wr.drew.setCells blk (off + q * k) (enc dk[q + 1]!)).setCells blk (off + (q + 1) * k) (enc dk[q]!))) := S1.out.swapped R q (q + 1) (by omega) (by omega)
          have l44a := S1.out.ld1 R (by omega) P q (by omega)
          have l44b := S1.out.ld1 R (by omega) P (q + 1) (by omega)
          have s44a := S1.out.st1 R (by omega) P q (by omega) dk[q + 1]!
          have s44b := S1.out.st2 R (by omega) P q (q + 1) (by omega) (by omega) dk[q + 1]! dk[q]!
          have n44a : (enc dk[q]!).length = k := R.hk _
          have n44b : (enc dk[q + 1]!).length = k := R.hk _
          generalize enc dk[q]! = cI44 at S2 l44a s44b n44a
          generalize enc dk[q + 1]! = cJ44 at S2 l44b s44a s44b n44b
          clear S1
          go_wp2_with fail
          go_big_region_o
          clear l44a l44b s44a s44b
          generalize (wr.drew.setCells blk (off + q * k) cJ44).setCells blk (off + (q + 1) * k) cI44 = w2 at S2 ⊢
          go_wp2
          go_roundg (i - (q + 1))
          case measure => omega
          case rel => exact ⟨q + 1, swp dk q (q + 1), by go_num, by omega, Nat.le_refl _, by rw [size_swp]; exact hds, S2, by
            show _ = _
            rw [← heq.out, shUp.eq_def q, if_pos hq]⟩
        · have hqz : ¬ (q : Int) < (i : Int) - 1 := by omega
          go_wp2
          (try simp only [Exit.inBlock, Exit.then])
          refine bodyPost_ret (results_none rfl _ _ _) rfl ?_
          refine ⟨rfl, ?_⟩
          rw [symMerge, if_pos rfl]
          simp only []
          rw [← HI.out, ← heq.out, shUp, if_neg hq]
          exact S1.out

end Go.Proofs.Ytkfoknjflpklpaa.StabChg
