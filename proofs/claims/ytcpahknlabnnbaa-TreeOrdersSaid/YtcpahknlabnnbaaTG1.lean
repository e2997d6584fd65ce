/- What values read as in memory, with the blocks that they lead to; rows of a call's own. Appends to a row of one's own in a region that draws its order. A tree's nodes as pages, over plain lists. General laws on memory, for the texts on trees. The library's slices functions, laid at this program. Arenas: Used, Left, Limit, New, is. Rows of one's own, of one cell an element: read, written into, cut. Arenas: New, is, Alloc, Free. Arenas: Alloc of a page that was given back; Free; Store; Load. Arenas: Free. Arenas: Store, Load. slices.Clone, Insert, Delete, BinarySearch on rows of strings and ints. (printed by gen_tsl.py) Rows of one cell an element, read; slices.Delete, Clone, BinarySearch. (printed by gen_tsl2.py) Arenas: Load. -/
import Derived.WalkKit
import Derived.Maps.AppendAt
import Derived.Laws.AppendOwnNone
import Derived.Laws.Rows
import Derived.Deep.AppendLies
import Derived.Lib.Bytealg
import Derived.Test.YtcpahknlabnnbaaProg
import Derived.Laws.StructEq
import Derived.Deep.QuietTactic
import Derived.BigQuiet
import Derived.Deep.LoopGhost
import Derived.Deep.RegionHeld3
import Derived.Sort.Grow
import Derived.Sort.Walk0
import Derived.Shelf.SlGeneric
import Derived.Shelf.SlicesE.Clone
import Derived.Shelf.Spec.SlicesInsert
import Derived.Shelf.Spec.SlicesInsertGrow
import Derived.Shelf.Slices.Delete
import Derived.Shelf.Slices.Cells
import Derived.Shelf.Slices.Empties
import Derived.Shelf.Spec.SearchS
import Derived.Ground.SlgnProg
import Derived.Shelf.Lay
import Derived.Ground.Names2Prog
import Derived.Laws.OwnMore
import Derived.Deep.RegionLaw
import Derived.IntWalk
import Derived.Deep.WholeRow

namespace Go.Proofs.Ytcpahknlabnnbaa.Mem
open Go Go.RowKit

/-- Laid aside: the walk takes it for no rule. -/
structure Kp (p : Prop) : Prop where
  out : p
theorem put {p : Prop} (h : p) : Kp p := ⟨h⟩

theorem bytes_eq (a b : ByteArray) : (a.toList == b.toList) = decide (a = b) := by
  rw [Bool.eq_iff_iff]
  simp only [beq_iff_eq, decide_eq_true_eq]
  constructor
  · intro h
    have h1 : a.data.toList = b.data.toList := by rw [← ByteArray.toList_eq, ← ByteArray.toList_eq]; exact h
    cases a; cases b
    simp only at h1
    congr 1
    exact Array.toList_inj.1 h1
  · rintro rfl; rfl

theorem world_lt {w w1 : World} {k : Nat} (h : w1.heap[k]? = w.heap[k]?) (hlt : k < w.heap.size) : k < w1.heap.size := by
  rw [Array.getElem?_eq_getElem hlt] at h
  exact (Array.getElem?_eq_some_iff.1 h).1

/-- Behind a call that made memory: all that there was reads as it did. -/
theorem bcell {W w1 : World} (hb : Below W.heap.size W w1) : (∀ b o, b < W.heap.size → w1.cell? ⟨b, o, none⟩ = W.cell? ⟨b, o, none⟩) ∧ (∀ b o, b < W.heap.size → w1.frozen? ⟨b, o, none⟩ = W.frozen? ⟨b, o, none⟩) :=
  ⟨fun b o h => hb.cell (p := ⟨b, o, none⟩) h, fun b o h => hb.frozen (p := ⟨b, o, none⟩) h⟩

/-- How values of α lie in memory. ok: the blocks that they lead to. -/
structure Ty (α : Type) where
  sz : Nat
  R : (Nat → Prop) → World → α → List Value → Prop
  len : ∀ {ok w x cs}, R ok w x cs → cs.length = sz
  one : ∀ {ok w x cs}, R ok w x cs → ∀ u ∈ cs, u.oneCell' = true
  mono : ∀ {ok ok' w x cs}, (∀ k, ok k → ok' k) → R ok w x cs → R ok' w x cs
  move : ∀ {ok} {w w' : World} {x cs}, (∀ k, ok k → k < w.heap.size → w'.heap[k]? = w.heap[k]?) → R ok w x cs → R ok w' x cs
  bnd : ∀ {ok} {w : World} {x cs}, R ok w x cs → R (fun k => ok k ∧ k < w.heap.size) w x cs

section
variable {α : Type} {d : Ty α} {ok ok' : Nat → Prop} {w w' : World} {x : α} {cs : List Value}
theorem Ty.below (h : d.R ok w x cs) (hb : Below w.heap.size w w') : d.R ok w' x cs := d.move (fun k _ hk => hb.block k hk) h
/-- Read in a later world: what it leads to is elder. -/
theorem Ty.elder (h : d.R ok w x cs) (hb : Below w.heap.size w w') : d.R (fun k => ok k ∧ k < w.heap.size) w' x cs := d.move (fun k _ hk => hb.block k hk) (d.bnd h)
end

/-- The cells cs lie at ad, from o on. -/
def At (w : World) (ad : Addr) (o : Nat) (cs : List Value) : Prop := ∀ j u, cs[j]? = some u → w.cell? (ad.add (o + j)) = some u

def Row {α : Type} (d : Ty α) (ok : Nat → Prop) (w : World) (A : Option Addr) (xs : List α) : Prop :=
  xs ≠ [] → ∃ ad, A = some ad ∧ ok ad.block ∧ ad.block < w.heap.size ∧ ∀ i x, xs[i]? = some x → ∃ cs, d.R ok w x cs ∧ At w ad (i * d.sz) cs

/-- A slice that reads as xs. -/
def Sl {α : Type} (d : Ty α) (ok : Nat → Prop) (w : World) (v : Value) (xs : List α) : Prop :=
  ∃ A c, v = .slice A xs.length c ∧ xs.length ≤ c ∧ c ≤ 9223372036854775807 ∧ xs.length ≤ 140737488355328 ∧ (A = none → c = 0) ∧ Row d ok w A xs

theorem add_block (ad : Addr) (n : Nat) : (ad.add n).block = ad.block := by unfold Addr.add; split <;> rfl
theorem add_zero (ad : Addr) : ad.add 0 = ad := by simp [Addr.add]
theorem add_pos (ad : Addr) (n : Nat) (h : 0 < n) : ad.add n = ⟨ad.block, ad.off + n, none⟩ := by unfold Addr.add; rw [if_neg (by omega)]
theorem add_add (ad : Addr) (n m : Nat) : (ad.add n).add m = ad.add (n + m) := by
  by_cases hn : n = 0
  · subst hn; rw [add_zero, Nat.zero_add]
  · by_cases hm : m = 0
    · subst hm; rw [add_zero, Nat.add_zero]
    · rw [add_pos ad n (by omega), add_pos _ m (by omega), add_pos ad (n + m) (by omega)]; simp [Nat.add_assoc]
theorem add_plain (g n : Nat) : (⟨g, 0, none⟩ : Addr).add n = ⟨g, n, none⟩ := by
  by_cases hn : n = 0
  · subst hn; rw [add_zero]
  · rw [add_pos _ n (by omega)]; simp

section
variable {α : Type} {d : Ty α} {ok ok' : Nat → Prop} {w w' : World} {A : Option Addr} {v : Value} {xs : List α}

theorem At.move {ad : Addr} {o : Nat} {cs : List Value} (h : At w ad o cs) (hb : w'.heap[ad.block]? = w.heap[ad.block]?) : At w' ad o cs := fun j u hj => by
  rw [World.cell?_of_block (w := w) (by rw [add_block]; exact hb)]
  exact h j u hj

theorem Row.mono (h : Row d ok w A xs) (hok : ∀ k, ok k → ok' k) : Row d ok' w A xs := fun hne => by
  obtain ⟨ad, rfl, hb, hlt, hx⟩ := h hne
  exact ⟨ad, rfl, hok _ hb, hlt, fun i x hi => let ⟨cs, hr, ha⟩ := hx i x hi; ⟨cs, d.mono hok hr, ha⟩⟩
theorem Row.move (h : Row d ok w A xs) (hm : ∀ k, ok k → k < w.heap.size → w'.heap[k]? = w.heap[k]?) : Row d ok w' A xs := fun hne => by
  obtain ⟨ad, rfl, hb, hlt, hx⟩ := h hne
  exact ⟨ad, rfl, hb, world_lt (hm _ hb hlt) hlt, fun i x hi => let ⟨cs, hr, ha⟩ := hx i x hi; ⟨cs, d.move hm hr, ha.move (hm _ hb hlt)⟩⟩
theorem Row.bnd (h : Row d ok w A xs) : Row d (fun k => ok k ∧ k < w.heap.size) w A xs := fun hne => by
  obtain ⟨ad, rfl, hb, hlt, hx⟩ := h hne
  exact ⟨ad, rfl, ⟨hb, hlt⟩, hlt, fun i x hi => let ⟨cs, hr, ha⟩ := hx i x hi; ⟨cs, d.bnd hr, ha⟩⟩

theorem Sl.mono (h : Sl d ok w v xs) (hok : ∀ k, ok k → ok' k) : Sl d ok' w v xs := by
  obtain ⟨A, c, rfl, h1, h2, h3, hn, h4⟩ := h
  exact ⟨A, c, rfl, h1, h2, h3, hn, h4.mono hok⟩
theorem Sl.move (h : Sl d ok w v xs) (hm : ∀ k, ok k → k < w.heap.size → w'.heap[k]? = w.heap[k]?) : Sl d ok w' v xs := by
  obtain ⟨A, c, rfl, h1, h2, h3, hn, h4⟩ := h
  exact ⟨A, c, rfl, h1, h2, h3, hn, h4.move hm⟩
theorem Sl.bnd (h : Sl d ok w v xs) : Sl d (fun k => ok k ∧ k < w.heap.size) w v xs := by
  obtain ⟨A, c, rfl, h1, h2, h3, hn, h4⟩ := h
  exact ⟨A, c, rfl, h1, h2, h3, hn, h4.bnd⟩
theorem Sl.below (h : Sl d ok w v xs) (hb : Below w.heap.size w w') : Sl d ok w' v xs := h.move (fun k _ hk => hb.block k hk)
theorem Sl.elder (h : Sl d ok w v xs) (hb : Below w.heap.size w w') : Sl d (fun k => ok k ∧ k < w.heap.size) w' v xs := h.bnd.move (fun k _ hk => hb.block k hk)
/-- Below B, where all that it leads to lies below B. -/
theorem Sl.below' {B : Nat} (h : Sl d ok w v xs) (hb : Below B w w') (hok : ∀ k, ok k → k < B) : Sl d ok w' v xs := h.move (fun k hk _ => hb.block k (hok k hk))
theorem Sl.grown {row : Option Nat} (h : Sl d ok w v xs) (hg : w.grownBy w' row) (hok : ∀ k, ok k → some k ≠ row) : Sl d ok w' v xs := h.move (fun k hk hlt => hg.block k hlt (hok k hk))
theorem Sl.nil (d : Ty α) (ok : Nat → Prop) (w : World) : Sl d ok w (.slice none 0 0) [] := ⟨none, 0, rfl, Nat.le_refl _, by omega, by simp, fun _ => rfl, fun h => absurd rfl h⟩
theorem Sl.shape (h : Sl d ok w v xs) : ∃ A c, v = .slice A xs.length c ∧ xs.length ≤ c ∧ c ≤ 9223372036854775807 ∧ xs.length ≤ 140737488355328 := by
  obtain ⟨A, c, rfl, h1, h2, h3, _⟩ := h
  exact ⟨A, c, rfl, h1, h2, h3⟩
theorem Sl.row {A : Option Addr} {n c : Nat} (h : Sl d ok w (.slice A n c) xs) : Row d ok w A xs ∧ n = xs.length ∧ n ≤ c ∧ c ≤ 9223372036854775807 ∧ n ≤ 140737488355328 ∧ (A = none → c = 0) := by
  obtain ⟨A', c', e, h1, h2, h3, hn, h4⟩ := h
  injection e with e1 e2 e3
  subst e1; subst e2; subst e3
  exact ⟨h4, rfl, h1, h2, h3, hn⟩
/-- Element i. -/
theorem Row.get (h : Row d ok w A xs) (i : Nat) (hi : i < xs.length) : ∃ ad cs, A = some ad ∧ ok ad.block ∧ ad.block < w.heap.size ∧ d.R ok w xs[i] cs ∧ At w ad (i * d.sz) cs := by
  obtain ⟨ad, rfl, hb, hlt, hx⟩ := h (by intro e; subst e; simp at hi)
  obtain ⟨cs, hr, ha⟩ := hx i _ (List.getElem?_eq_getElem hi)
  exact ⟨ad, cs, rfl, hb, hlt, hr, ha⟩
theorem Row.take (h : Row d ok w A xs) (n : Nat) : Row d ok w A (xs.take n) := fun hne => by
  obtain ⟨ad, rfl, hb, hlt, hx⟩ := h (by intro e; subst e; simp at hne)
  refine ⟨ad, rfl, hb, hlt, fun i x hi => hx i x ?_⟩
  rw [List.getElem?_take] at hi
  split at hi
  · exact hi
  · cases hi
theorem Row.drop (h : Row d ok w A xs) (n : Nat) : Row d ok w (A.map (·.add (n * d.sz))) (xs.drop n) := fun hne => by
  obtain ⟨ad, rfl, hb, hlt, hx⟩ := h (by intro e; subst e; simp at hne)
  refine ⟨ad.add (n * d.sz), rfl, by rw [add_block]; exact hb, by rw [add_block]; exact hlt, fun i x hi => ?_⟩
  rw [List.getElem?_drop] at hi
  obtain ⟨cs, hr, ha⟩ := hx (n + i) x hi
  refine ⟨cs, hr, fun j u hj => ?_⟩
  rw [add_add, show n * d.sz + (i * d.sz + j) = (n + i) * d.sz + j by rw [Nat.add_mul, Nat.add_assoc]]
  exact ha j u hj
/-- s[n:], as the model spells its address. -/
theorem Sl.drop {c : Nat} {n m : Nat} (h : Sl d ok w (.slice A m c) xs) (hn : n ≤ m) : Sl d ok w (.slice (if c = n then A else A.map (·.add (n * d.sz))) (m - n) (c - n)) (xs.drop n) := by
  obtain ⟨hr, rfl, h1, h2, h3, h4⟩ := h.row
  refine ⟨_, _, by rw [List.length_drop], by rw [List.length_drop]; omega, by omega, by rw [List.length_drop]; omega, fun hA => ?_, ?_⟩
  · split at hA
    · omega
    · have := h4 (by simpa using hA); omega
  split
  · rename_i e
    have : xs.drop n = [] := List.drop_eq_nil_of_le (by omega)
    rw [this]; exact fun hne => absurd rfl hne
  · exact hr.drop n
theorem Sl.take {c : Nat} {n m : Nat} (h : Sl d ok w (.slice A m c) xs) (hn : n ≤ m) : Sl d ok w (.slice A n c) (xs.take n) := by
  obtain ⟨hr, rfl, h1, h2, h3, h4⟩ := h.row
  exact ⟨_, _, by rw [List.length_take, Nat.min_eq_left hn], by rw [List.length_take]; omega, h2, by rw [List.length_take]; omega, h4, hr.take n⟩
end

/-! ### the kinds -/
def tInt (k : IntKind) : Ty Int where
  sz := 1
  R := fun _ _ x cs => cs = [.int k x]
  len := fun h => by rw [h]; rfl
  one := fun h u hu => by rw [h] at hu; rw [List.mem_singleton.1 hu]; rfl
  mono := fun _ h => h
  move := fun _ h => h
  bnd := fun h => h
def tBool : Ty Bool where
  sz := 1
  R := fun _ _ x cs => cs = [.bool x]
  len := fun h => by rw [h]; rfl
  one := fun h u hu => by rw [h] at hu; rw [List.mem_singleton.1 hu]; rfl
  mono := fun _ h => h
  move := fun _ h => h
  bnd := fun h => h
def tStr : Ty ByteArray where
  sz := 1
  R := fun _ _ x cs => cs = [.string x]
  len := fun h => by rw [h]; rfl
  one := fun h u hu => by rw [h] at hu; rw [List.mem_singleton.1 hu]; rfl
  mono := fun _ h => h
  move := fun _ h => h
  bnd := fun h => h
theorem Sl.oneCell {α : Type} {d : Ty α} {ok : Nat → Prop} {w : World} {v : Value} {xs : List α} (h : Sl d ok w v xs) : v.oneCell' = true := by
  obtain ⟨A, c, rfl, _⟩ := h
  rfl
def tSl {α : Type} (d : Ty α) : Ty (List α) where
  sz := 1
  R := fun ok w xs cs => ∃ v, cs = [v] ∧ Sl d ok w v xs
  len := fun ⟨_, h, _⟩ => by rw [h]; rfl
  one := fun ⟨v, h, hs⟩ u hu => by rw [h] at hu; rw [List.mem_singleton.1 hu]; exact hs.oneCell
  mono := fun hok ⟨v, h, hs⟩ => ⟨v, h, hs.mono hok⟩
  move := fun hm ⟨v, h, hs⟩ => ⟨v, h, hs.move hm⟩
  bnd := fun ⟨v, h, hs⟩ => ⟨v, h, hs.bnd⟩

/-! ### rows of a call's own -/
/-- v is a row (of elements of type E) of the call's own, in a block from base on; what the elements lead to lies in ok, and is not this row. -/
def Own {α : Type} (d : Ty α) (E : TypeId) (ok : Nat → Prop) (w : World) (base : Nat) (v : Value) (xs : List α) : Prop :=
  ∃ cells : List (List Value), cells.length = xs.length ∧ w.ownsRow base E d.sz v xs.length cells.flatten ∧
    ∀ (i : Nat) (x : α) (c : List Value), xs[i]? = some x → cells[i]? = some c → d.R (fun k => ok k ∧ some k ≠ v.ownBlock) w x c

section
variable {α : Type} {d : Ty α} {E base : Nat} {ok ok' : Nat → Prop} {w w' : World} {v : Value} {xs : List α}

theorem flat_get {sz : Nat} : ∀ (cells : List (List Value)), (∀ c ∈ cells, c.length = sz) → ∀ (i : Nat) (c : List Value) (j : Nat) (u : Value), cells[i]? = some c → c[j]? = some u → cells.flatten[i * sz + j]? = some u
  | [], _, i, c, j, u, h, _ => by simp at h
  | c0 :: cells, hl, 0, c, j, u, h, hu => by
    simp only [List.getElem?_cons_zero, Option.some.injEq] at h
    subst h
    rw [List.flatten_cons, Nat.zero_mul, Nat.zero_add, List.getElem?_append_left (List.getElem?_eq_some_iff.1 hu).1]
    exact hu
  | c0 :: cells, hl, i + 1, c, j, u, h, hu => by
    have h0 := hl c0 List.mem_cons_self
    rw [List.flatten_cons, List.getElem?_append_right (by rw [h0, Nat.add_mul]; omega)]
    have := flat_get cells (fun c hc => hl c (List.mem_cons_of_mem _ hc)) i c j u (by simpa using h) hu
    rw [show (i + 1) * sz + j - c0.length = i * sz + j by rw [h0, Nat.add_mul]; omega]
    exact this

theorem Own.lens {cells : List (List Value)} (hl : cells.length = xs.length) (h : ∀ (i : Nat) (x : α) (c : List Value), xs[i]? = some x → cells[i]? = some c → d.R ok w x c) : ∀ c ∈ cells, c.length = d.sz := by
  intro c hc
  obtain ⟨i, hi, rfl⟩ := List.mem_iff_getElem.1 hc
  exact d.len (h i xs[i] cells[i] (List.getElem?_eq_getElem (by omega)) (List.getElem?_eq_getElem hi))

theorem Own.nil (d : Ty α) (E : TypeId) (ok : Nat → Prop) (w : World) (base : Nat) : Own d E ok w base (.slice none 0 0) [] :=
  ⟨[], rfl, World.ownsRow_nil _ _ _ _, fun i x c h => by simp at h⟩

theorem Own.lt (h : Own d E ok w base v xs) : ∀ k, v.ownBlock = some k → base ≤ k ∧ k < w.heap.size := by
  obtain ⟨cells, _, ho, _⟩ := h
  exact ho.lt

theorem Own.mono (h : Own d E ok w base v xs) (hok : ∀ k, ok k → ok' k) : Own d E ok' w base v xs := by
  obtain ⟨cells, hl, ho, hr⟩ := h
  exact ⟨cells, hl, ho, fun i x c hx hc => d.mono (fun k hk => ⟨hok k hk.1, hk.2⟩) (hr i x c hx hc)⟩

theorem Own.lower {base' : Nat} (h : Own d E ok w base v xs) (hb : base' ≤ base) : Own d E ok w base' v xs := by
  obtain ⟨cells, hl, ⟨h1, h2⟩, hr⟩ := h
  refine ⟨cells, hl, ⟨h1, ?_⟩, hr⟩
  rcases h2 with h2 | ⟨g, cap, cur, e, hg, r⟩
  · exact Or.inl h2
  · exact Or.inr ⟨g, cap, cur, e, Nat.le_trans hb hg, r⟩

theorem ownsRow_move {size n : Nat} {cs : List Value} (h : w.ownsRow base E size v n cs) (hm : ∀ k, v.ownBlock = some k → w'.heap[k]? = w.heap[k]?) : w'.ownsRow base E size v n cs := by
  obtain ⟨h1, h2⟩ := h
  refine ⟨h1, ?_⟩
  rcases h2 with h2 | ⟨g, cap, cur, rfl, hg, hh, r⟩
  · exact Or.inl h2
  · exact Or.inr ⟨g, cap, cur, rfl, hg, (hm g rfl).trans hh, r⟩

/-- Its block, and what its elements lead to, are as they were. -/
theorem Own.move (h : Own d E ok w base v xs) (hv : ∀ k, v.ownBlock = some k → w'.heap[k]? = w.heap[k]?) (hm : ∀ k, ok k → some k ≠ v.ownBlock → k < w.heap.size → w'.heap[k]? = w.heap[k]?) : Own d E ok w' base v xs := by
  obtain ⟨cells, hl, ho, hr⟩ := h
  exact ⟨cells, hl, ownsRow_move ho hv, fun i x c hx hc => d.move (fun k hk hlt => hm k hk.1 hk.2 hlt) (hr i x c hx hc)⟩

theorem Own.below (h : Own d E ok w base v xs) (hb : Below w.heap.size w w') : Own d E ok w' base v xs :=
  h.move (fun k hk => hb.block k (h.lt k hk).2) (fun k _ _ hk => hb.block k hk)

theorem Own.alloc (h : Own d E ok w base v xs) (o : Obj) : Own d E ok (w.alloc o) base v xs := h.below ((Below.refl _ _).alloc (Nat.le_refl _) o)

theorem Own.drew (h : Own d E ok w base v xs) : Own d E ok w.drew base v xs := h.below (Below.refl _ _).drew

theorem Own.far (h : Own d E ok w base v xs) {p : Addr} (hv : ∀ k, v.ownBlock = some k → k ≠ p.block) (hok : ∀ k, ok k → k ≠ p.block) (u : Value) : Own d E ok (w.setCell p u) base v xs :=
  h.move (fun k hk => Below.heap_setCell _ _ _ _ (hv k hk)) (fun k hk _ _ => Below.heap_setCell _ _ _ _ (hok k hk))
/-- A store below the call's own blocks. -/
theorem Own.store (h : Own d E ok w base v xs) {p : Addr} (hp : p.block < base) (hok : ∀ k, ok k → k ≠ p.block) (u : Value) : Own d E ok (w.setCell p u) base v xs :=
  h.far (fun k hk => by have := (h.lt k hk).1; omega) hok u

theorem Own.shape (h : Own d E ok w base v xs) : v = .slice none 0 0 ∧ xs = [] ∨ ∃ g cap, v = .slice (some ⟨g, 0, none⟩) xs.length cap ∧ base ≤ g ∧ g < w.heap.size ∧ xs.length ≤ cap ∧ cap ≤ 9223372036854775807 := by
  have hlt := h.lt
  obtain ⟨cells, hl, ⟨h1, h2⟩, hr⟩ := h
  rcases h2 with ⟨rfl, h0⟩ | ⟨g, cap, cur, rfl, hg, hh, hc, hm, _⟩
  · exact Or.inl ⟨rfl, List.eq_nil_of_length_eq_zero h0⟩
  · exact Or.inr ⟨g, cap, rfl, hg, (hlt g rfl).2, hc, by simpa [maxLen] using hm⟩

theorem Own.form (h : Own d E ok w base v xs) : ∃ A c, v = .slice A xs.length c ∧ xs.length ≤ c ∧ c ≤ 9223372036854775807 := by
  rcases h.shape with ⟨rfl, rfl⟩ | ⟨g, cap, rfl, _, _, h1, h2⟩
  · exact ⟨none, 0, rfl, Nat.le_refl _, by omega⟩
  · exact ⟨_, cap, rfl, h1, h2⟩

/-- By its type, a row is none of a block of another type. -/
theorem Own.ne_block (h : Own d E ok w base v xs) {g : Nat} {t : TypeId} {cs : Array Value} {fr : Nat × Nat} (hb : w.heap[g]? = some (.cells cs t fr)) (ht : E ≠ t) : some g ≠ v.ownBlock := by
  obtain ⟨cells, hl, ⟨h1, h2⟩, hr⟩ := h
  rcases h2 with ⟨rfl, h0⟩ | ⟨g', cap, cur, rfl, hg, hh, _⟩
  · simp [Value.ownBlock]
  · simp only [Value.ownBlock, ne_eq, Option.some.injEq]
    rintro rfl
    rw [hb] at hh
    injection hh with hh
    injection hh with _ hh
    exact ht hh.symm

/-- A row of one's own is a slice that reads. -/
theorem Own.sl (h : Own d E ok w base v xs) (hv : ∀ k, v.ownBlock = some k → ok' k) (hok : ∀ k, ok k → ok' k) (hn : xs.length ≤ 140737488355328) : Sl d ok' w v xs := by
  have hlt := h.lt
  obtain ⟨cells, hl, ho, hr⟩ := h
  have hcl := Own.lens hl hr
  have hcells := fun g hg => ho.cells (g := g) hg
  obtain ⟨h1, h2⟩ := ho
  rcases h2 with ⟨rfl, h0⟩ | ⟨g, cap, cur, rfl, hg, hh, hc, hm, _⟩
  · have : xs = [] := List.eq_nil_of_length_eq_zero h0
    subst this
    exact Sl.nil _ _ _
  · refine ⟨_, cap, rfl, hc, by simpa [maxLen] using hm, hn, fun h => (by cases h), fun _ => ⟨_, rfl, hv g rfl, (hlt g rfl).2, fun i x hx => ?_⟩⟩
    have hi : i < cells.length := by rw [hl]; exact (List.getElem?_eq_some_iff.1 hx).1
    refine ⟨cells[i], d.mono (fun k hk => hok k hk.1) (hr i x _ hx (List.getElem?_eq_getElem hi)), fun j u hj => ?_⟩
    exact hcells g rfl _ u (flat_get cells hcl i _ j u (List.getElem?_eq_getElem hi) hj)
end

/-- A literal's block. -/
theorem news_lit (W : World) (cs : List Value) (e : TypeId) : ∀ (j : Nat) (u : Value), cs[j]? = some u → (W.alloc (.cells cs.toArray e)).cell? ((⟨W.heap.size, 0, none⟩ : Addr).add j) = some u :=
  Go.World.news_of_block (cs := cs.toArray) (t := e) (fr := (0, 0)) (heap_alloc_new W _)

/-- What is owned behind an append. -/
theorem Own.appended {α : Type} {d : Ty α} {E base : Nat} {ok : Nat → Prop} {W w1 : World} {v v1 : Value} {xs ys : List α} {cells news : List (List Value)}
    (hl : cells.length = xs.length) (hr : ∀ (i : Nat) (x : α) (c : List Value), xs[i]? = some x → cells[i]? = some c → d.R (fun k => ok k ∧ some k ≠ v.ownBlock) W x c)
    (hnl : news.length = ys.length) (hnr : ∀ (i : Nat) (y : α) (c : List Value), ys[i]? = some y → news[i]? = some c → d.R (fun k => ok k ∧ some k ≠ v.ownBlock) W y c)
    (ho : w1.ownsRow base E d.sz v1 (xs.length + ys.length) (cells.flatten ++ news.flatten)) (hg : W.grownBy w1 v.ownBlock) (hat : v1.ownBlock = v.ownBlock ∨ ∃ b, v1.ownBlock = some b ∧ W.heap.size ≤ b) : Own d E ok w1 base v1 (xs ++ ys) := by
  have key : ∀ x c, d.R (fun k => ok k ∧ some k ≠ v.ownBlock) W x c → d.R (fun k => ok k ∧ some k ≠ v1.ownBlock) w1 x c := fun x c h =>
    d.mono (fun k hk => ⟨hk.1.1, by
      rcases hat with hat | ⟨b, hb, hle⟩
      · rw [hat]; exact hk.1.2
      · rw [hb]; intro e; injection e with e; omega⟩) (d.move (fun k hk hlt => hg.block k hlt hk.1.2) (d.bnd h))
  refine ⟨cells ++ news, by simp [hl, hnl], by rw [List.length_append, List.flatten_append]; exact ho, fun i x c hx hc => ?_⟩
  by_cases hi : i < xs.length
  · rw [List.getElem?_append_left hi] at hx
    rw [List.getElem?_append_left (by omega)] at hc
    exact key x c (hr i x c hx hc)
  · rw [List.getElem?_append_right (by omega)] at hx
    rw [List.getElem?_append_right (by omega)] at hc
    exact key x c (hnr (i - xs.length) x c hx (by rw [← hl]; exact hc))

section
variable {P : Program} {ops : Array Oper} {rest : List Oper} {o : Oper} {a : Act} {Q : Exit → Act → World → Prop} {α : Type}

/-- append(v, x), behind the literal's block. -/
theorem wpList_push (d : Ty α) {W : World} (base : Nat) (hgd : o.guard = none) (s x : Operand) (t e : TypeId) (z : Value) (bytes : Nat)
    (ho : o.op = .call { callee := .builtin .append, args := #[s, x], argTypes := #[t, t] })
    (ht : P.underlying t = some (.slice e)) (hinfo : (P.info? e).map (fun i => (i.zero, i.size, i.bytes)) = some (some z, d.sz, bytes)) (hz : z.cells.size = d.sz) (hs0 : 0 < d.sz) (hb0 : 0 < bytes)
    (v : Value) (xs : List α) (p : α) (cs : List Value) (ok : Nat → Prop) (hs : a.eval s = v) (hx : a.eval x = .slice (some ⟨W.heap.size, 0, none⟩) 1 1)
    (hp : d.R (fun k => ok k ∧ some k ≠ v.ownBlock) W p cs) (HO : Own d e ok W base v xs) (hbase : base ≤ W.heap.size) (hl : (xs.length + 1) * bytes ≤ 140737488355328)
    (h : ∀ v1 w1, Own d e ok w1 base v1 (xs ++ [p]) → W.grownBy w1 v.ownBlock → (v1.ownBlock = v.ownBlock ∨ ∃ b, v1.ownBlock = some b ∧ W.heap.size ≤ b) → wpList P ops Q rest (a.put o.dst v1) w1) :
    wpList P ops Q (o :: rest) a (W.alloc (.cells cs.toArray e)) := by
  obtain ⟨i0, hi, hzz⟩ := Option.map_eq_some_iff.1 hinfo
  simp only [Prod.mk.injEq] at hzz
  obtain ⟨hz0, hz1, hz2⟩ := hzz
  have hlen : xs.length + 1 ≤ 140737488355328 := Nat.le_trans (Nat.le_mul_of_pos_right _ hb0) hl
  obtain ⟨cells, hlc, hown, hr⟩ := HO
  refine wpList_append_own_at (W.alloc (.cells cs.toArray e)) hgd s x t ho base e i0 z d.sz bytes ht hi hz0 hz1 hz2 hz hs0 v xs.length cells.flatten hs (hown.alloc _) ⟨W.heap.size, 0, none⟩ 1 1 cs hx (by rw [d.len hp, Nat.one_mul])
    (news_lit W cs e) (d.one hp) (by simp only [maxLen]; omega) hl (by simp; omega) ?_
  intro v1 w1 hown1 hg _ hat
  have hg' : W.grownBy w1 v.ownBlock := World.grownBy.trans (World.grownBy_alloc W _ _) hg
  have hat' : v1.ownBlock = v.ownBlock ∨ ∃ b, v1.ownBlock = some b ∧ W.heap.size ≤ b := by
    rcases hat with hat | hat
    · exact .inl hat
    · exact .inr ⟨_, hat, by simp⟩
  refine h v1 w1 (Own.appended (ys := [p]) (news := [cs]) hlc hr rfl (fun i y c hy hc => ?_) (by simpa using hown1) hg' hat') hg' hat'
  rcases i with _ | i
  · simp only [List.getElem?_cons_zero, Option.some.injEq] at hy hc
    subst hy; subst hc; exact hp
  · simp at hy

/-- The cells of a row that reads. -/
theorem Row.cells {d : Ty α} {ok : Nat → Prop} {W : World} {ad : Addr} {ys : List α} (h : Row d ok W (some ad) ys) : ∃ news : List (List Value), news.length = ys.length ∧ (∀ (i : Nat) (y : α) (c : List Value), ys[i]? = some y → news[i]? = some c → d.R ok W y c) ∧ ∀ (j : Nat) (u : Value), news.flatten[j]? = some u → W.cell? (ad.add j) = some u := by
  have aux : ∀ (n : Nat) (zs : List α) (m : Nat), zs.length = n → (∀ (i : Nat) (x : α), zs[i]? = some x → ∃ cs, d.R ok W x cs ∧ At W ad ((m + i) * d.sz) cs) →
      ∃ news : List (List Value), news.length = zs.length ∧ (∀ (i : Nat) (y : α) (c : List Value), zs[i]? = some y → news[i]? = some c → d.R ok W y c) ∧ ∀ (j : Nat) (u : Value), news.flatten[j]? = some u → W.cell? (ad.add (m * d.sz + j)) = some u := by
    intro n
    induction n with
    | zero =>
      intro zs m hn _
      have : zs = [] := List.eq_nil_of_length_eq_zero hn
      subst this
      exact ⟨[], rfl, fun i y c hy => by simp at hy, fun j u hj => by simp at hj⟩
    | succ n ih =>
      intro zs m hn hx
      cases zs with
      | nil => simp at hn
      | cons z zs =>
        obtain ⟨c0, hr0, ha0⟩ := hx 0 z rfl
        obtain ⟨news, hl, hr, hc⟩ := ih zs (m + 1) (by simpa using hn) (fun i x hi => by
          have := hx (i + 1) x (by simpa using hi)
          rwa [show m + (i + 1) = m + 1 + i by omega] at this)
        refine ⟨c0 :: news, by simp [hl], fun i y c hy hc' => ?_, fun j u hj => ?_⟩
        · cases i with
          | zero =>
            simp only [List.getElem?_cons_zero, Option.some.injEq] at hy hc'
            subst hy; subst hc'; exact hr0
          | succ i => exact hr i y c (by simpa using hy) (by simpa using hc')
        · rw [List.flatten_cons] at hj
          have hlen0 := d.len hr0
          by_cases hj0 : j < c0.length
          · rw [List.getElem?_append_left hj0] at hj
            have := ha0 j u hj
            rwa [Nat.add_zero] at this
          · rw [List.getElem?_append_right (by omega)] at hj
            have := hc (j - c0.length) u hj
            rwa [show (m + 1) * d.sz + (j - c0.length) = m * d.sz + j by rw [Nat.add_mul, Nat.one_mul]; omega] at this
  by_cases hne : ys = []
  · subst hne
    exact ⟨[], rfl, fun i y c hy => by simp at hy, fun j u hj => by simp at hj⟩
  · obtain ⟨ad', e, hb, hlt, hx⟩ := h hne
    injection e with e
    subst e
    obtain ⟨news, h1, h2, h3⟩ := aux ys.length ys 0 rfl (fun i x hi => by rw [Nat.zero_add]; exact hx i x hi)
    exact ⟨news, h1, h2, fun j u hj => by have := h3 j u hj; rwa [Nat.zero_mul, Nat.zero_add] at this⟩

/-- append(v, ys...): ys reads. -/
theorem wpList_pushes (d : Ty α) {W : World} (base : Nat) (hgd : o.guard = none) (s x : Operand) (t e : TypeId) (z : Value) (bytes : Nat)
    (ho : o.op = .call { callee := .builtin .append, args := #[s, x], argTypes := #[t, t] })
    (ht : P.underlying t = some (.slice e)) (hinfo : (P.info? e).map (fun i => (i.zero, i.size, i.bytes)) = some (some z, d.sz, bytes)) (hz : z.cells.size = d.sz) (hs0 : 0 < d.sz) (hb0 : 0 < bytes)
    (v u : Value) (xs ys : List α) (ok okp : Nat → Prop) (hs : a.eval s = v) (hx : a.eval x = u)
    (HS : Sl d okp W u ys) (hokp : ∀ k, okp k → ok k ∧ some k ≠ v.ownBlock) (HO : Own d e ok W base v xs) (hbase : base ≤ W.heap.size) (hl : (xs.length + ys.length) * bytes ≤ 140737488355328)
    (h : ∀ v1 w1, Own d e ok w1 base v1 (xs ++ ys) → W.grownBy w1 v.ownBlock → (v1.ownBlock = v.ownBlock ∨ ∃ b, v1.ownBlock = some b ∧ W.heap.size ≤ b) → wpList P ops Q rest (a.put o.dst v1) w1) :
    wpList P ops Q (o :: rest) a W := by
  obtain ⟨i0, hi, hzz⟩ := Option.map_eq_some_iff.1 hinfo
  simp only [Prod.mk.injEq] at hzz
  obtain ⟨hz0, hz1, hz2⟩ := hzz
  have hlen : xs.length + ys.length ≤ 140737488355328 := Nat.le_trans (Nat.le_mul_of_pos_right _ hb0) hl
  obtain ⟨cells, hlc, hown, hr⟩ := HO
  obtain ⟨A, c, rfl, _, _, _, hnil, hrow⟩ := HS
  cases A with
  | some ad =>
    obtain ⟨news, hnl, hnr, hnc⟩ := hrow.cells
    have hcl := Own.lens hnl hnr
    have hfl : ∀ l : List (List Value), (∀ c ∈ l, c.length = d.sz) → l.flatten.length = l.length * d.sz := by
      intro l
      induction l with
      | nil => intro _; simp
      | cons c l ih => intro hl; rw [List.flatten_cons, List.length_append, ih (fun c hc => hl c (List.mem_cons_of_mem _ hc)), hl c List.mem_cons_self, List.length_cons, Nat.add_mul, Nat.one_mul, Nat.add_comm]
    refine wpList_append_own_at W hgd s x t ho base e i0 z d.sz bytes ht hi hz0 hz1 hz2 hz hs0 v xs.length cells.flatten hs hown ad ys.length c news.flatten hx (by rw [hfl _ hcl, hnl]) hnc (fun u hu => by
      obtain ⟨l, hl1, hl2⟩ := List.mem_flatten.1 hu
      obtain ⟨i, hi', rfl⟩ := List.mem_iff_getElem.1 hl1
      exact d.one (hnr i ys[i] _ (List.getElem?_eq_getElem (by omega)) (List.getElem?_eq_getElem hi')) u hl2) (by simp only [maxLen]; omega) hl hbase ?_
    intro v1 w1 hown1 hg _ hat
    have hat' : v1.ownBlock = v.ownBlock ∨ ∃ b, v1.ownBlock = some b ∧ W.heap.size ≤ b := by
      rcases hat with hat | hat
      · exact .inl hat
      · exact .inr ⟨_, hat, Nat.le_refl _⟩
    exact h v1 w1 (Own.appended hlc hr hnl (fun i y c hy hc => d.mono hokp (hnr i y c hy hc)) hown1 hg hat') hg hat'
  | none =>
    have hys : ys = [] := by
      by_cases hne : ys = []
      · exact hne
      · obtain ⟨ad, e, _⟩ := hrow hne; cases e
    subst hys
    obtain rfl := hnil rfl
    refine wpList_append_own_none hgd s x t ho base e i0 d.sz ht hi v xs.length cells.flatten hs hown hx ?_
    have hg : W.grownBy W v.ownBlock := ⟨rfl, rfl, rfl, Nat.le_refl _, fun _ _ _ => rfl⟩
    exact h v W (by rw [List.append_nil]; exact ⟨cells, hlc, hown, hr⟩) hg (.inl rfl)
end
end Go.Proofs.Ytcpahknlabnnbaa.Mem

namespace Go.Proofs.Ytcpahknlabnnbaa.Mem
open Go Go.RowKit
variable {P : Program} {α : Type}

theorem run_push (d : Ty α) {W : World} (base : Nat) (ty t e : TypeId) (z : Value) (bytes : Nat)
    (ht : P.underlying t = some (.slice e)) (hinfo : (P.info? e).map (fun i => (i.zero, i.size, i.bytes)) = some (some z, d.sz, bytes)) (hz : z.cells.size = d.sz) (hs0 : 0 < d.sz) (hb0 : 0 < bytes)
    (v : Value) (xs : List α) (p : α) (cs : List Value) (ok : Nat → Prop)
    (hp : d.R (fun k => ok k ∧ some k ≠ v.ownBlock) W p cs) (HO : Own d e ok W base v xs) (hbase : base ≤ W.heap.size) (hl : (xs.length + 1) * bytes ≤ 140737488355328) :
    ∃ v1 w1, (Builtin.append_ #[t, t] ty #[v, .slice (some ⟨W.heap.size, 0, none⟩) 1 1]).run P (W.alloc (.cells cs.toArray e)) = .ok v1 w1 ∧ Own d e ok w1 base v1 (xs ++ [p]) ∧ W.grownBy w1 v.ownBlock ∧ (v1.ownBlock = v.ownBlock ∨ ∃ b, v1.ownBlock = some b ∧ W.heap.size ≤ b) := by
  obtain ⟨i0, hi, hzz⟩ := Option.map_eq_some_iff.1 hinfo
  simp only [Prod.mk.injEq] at hzz
  obtain ⟨hz0, hz1, hz2⟩ := hzz
  have hlen : xs.length + 1 ≤ 140737488355328 := Nat.le_trans (Nat.le_mul_of_pos_right _ hb0) hl
  obtain ⟨cells, hlc, hown, hr⟩ := HO
  obtain ⟨v1, w1, hrun, hown1, hg, _, hat⟩ := run_append_own_at (P := P) (W.alloc (.cells cs.toArray e)) base t ty e i0 z d.sz bytes ht hi hz0 hz1 hz2 hz hs0 v xs.length cells.flatten (hown.alloc _) ⟨W.heap.size, 0, none⟩ 1 1 cs (by rw [d.len hp, Nat.one_mul])
    (news_lit W cs e) (d.one hp) (by simp only [maxLen]; omega) hl (by simp; omega)
  have hg' : W.grownBy w1 v.ownBlock := World.grownBy.trans (World.grownBy_alloc W _ _) hg
  have hat' : v1.ownBlock = v.ownBlock ∨ ∃ b, v1.ownBlock = some b ∧ W.heap.size ≤ b := by
    rcases hat with hat | hat
    · exact .inl hat
    · exact .inr ⟨_, hat, by simp⟩
  refine ⟨v1, w1, hrun, Own.appended (ys := [p]) (news := [cs]) hlc hr rfl (fun i y c hy hc => ?_) (by simpa using hown1) hg' hat', hg', hat'⟩
  rcases i with _ | i
  · simp only [List.getElem?_cons_zero, Option.some.injEq] at hy hc
    subst hy; subst hc; exact hp
  · simp at hy

theorem run_pushes (d : Ty α) {W : World} (base : Nat) (ty t e : TypeId) (z : Value) (bytes : Nat)
    (ht : P.underlying t = some (.slice e)) (hinfo : (P.info? e).map (fun i => (i.zero, i.size, i.bytes)) = some (some z, d.sz, bytes)) (hz : z.cells.size = d.sz) (hs0 : 0 < d.sz) (hb0 : 0 < bytes)
    (v u : Value) (xs ys : List α) (ok okp : Nat → Prop)
    (HS : Sl d okp W u ys) (hokp : ∀ k, okp k → ok k ∧ some k ≠ v.ownBlock) (HO : Own d e ok W base v xs) (hbase : base ≤ W.heap.size) (hl : (xs.length + ys.length) * bytes ≤ 140737488355328) :
    ∃ v1 w1, (Builtin.append_ #[t, t] ty #[v, u]).run P W = .ok v1 w1 ∧ Own d e ok w1 base v1 (xs ++ ys) ∧ W.grownBy w1 v.ownBlock ∧ (v1.ownBlock = v.ownBlock ∨ ∃ b, v1.ownBlock = some b ∧ W.heap.size ≤ b) := by
  obtain ⟨i0, hi, hzz⟩ := Option.map_eq_some_iff.1 hinfo
  simp only [Prod.mk.injEq] at hzz
  obtain ⟨hz0, hz1, hz2⟩ := hzz
  have hlen : xs.length + ys.length ≤ 140737488355328 := Nat.le_trans (Nat.le_mul_of_pos_right _ hb0) hl
  have HO' := HO
  obtain ⟨cells, hlc, hown, hr⟩ := HO
  obtain ⟨A, c, rfl, _, _, _, hnil, hrow⟩ := HS
  cases A with
  | some ad =>
    obtain ⟨news, hnl, hnr, hnc⟩ := hrow.cells
    have hcl := Own.lens hnl hnr
    have hfl : ∀ l : List (List Value), (∀ c ∈ l, c.length = d.sz) → l.flatten.length = l.length * d.sz := by
      intro l
      induction l with
      | nil => intro _; simp
      | cons c l ih => intro hl; rw [List.flatten_cons, List.length_append, ih (fun c hc => hl c (List.mem_cons_of_mem _ hc)), hl c List.mem_cons_self, List.length_cons, Nat.add_mul, Nat.one_mul, Nat.add_comm]
    obtain ⟨v1, w1, hrun, hown1, hg, _, hat⟩ := run_append_own_at (P := P) W base t ty e i0 z d.sz bytes ht hi hz0 hz1 hz2 hz hs0 v xs.length cells.flatten hown ad ys.length c news.flatten (by rw [hfl _ hcl, hnl]) hnc (fun u hu => by
      obtain ⟨l, hl1, hl2⟩ := List.mem_flatten.1 hu
      obtain ⟨i, hi', rfl⟩ := List.mem_iff_getElem.1 hl1
      exact d.one (hnr i ys[i] _ (List.getElem?_eq_getElem (by omega)) (List.getElem?_eq_getElem hi')) u hl2) (by simp only [maxLen]; omega) hl hbase
    have hat' : v1.ownBlock = v.ownBlock ∨ ∃ b, v1.ownBlock = some b ∧ W.heap.size ≤ b := by
      rcases hat with hat | hat
      · exact .inl hat
      · exact .inr ⟨_, hat, Nat.le_refl _⟩
    exact ⟨v1, w1, hrun, Own.appended hlc hr hnl (fun i y c hy hc => d.mono hokp (hnr i y c hy hc)) hown1 hg hat', hg, hat'⟩
  | none =>
    have hys : ys = [] := by
      by_cases hne : ys = []
      · exact hne
      · obtain ⟨ad, e, _⟩ := hrow hne; cases e
    subst hys
    obtain rfl := hnil rfl
    have hrun := run_append_owned_none (P := P) (w := W) base t ty e i0 d.sz ht hi v xs.length cells.flatten hown
    exact ⟨v, W, hrun, by simpa using HO', ⟨rfl, rfl, rfl, Nat.le_refl _, fun _ _ _ => rfl⟩, .inl rfl⟩

section
variable {ops : Array Oper} {o : Oper} {a : Act} {K : Act → World → Prop} {Q : Exit → Act → World → Prop} {E : Prop} {W : World}

theorem step_append (hgd : o.guard = none) (s x : Operand) (t : TypeId) (ho : o.op = .call { callee := .builtin .append, args := #[s, x], argTypes := #[t, t] }) (v u : Value) (hs : a.eval s = v) (hx : a.eval x = u) {v1 : Value} {w1 : World}
    (hr : (Builtin.append_ #[t, t] o.type #[v, u]).run P W = .ok v1 w1) (h : K (a.put o.dst v1) w1) : if Region.wanted o (yielded ops a.tmps) = true then Oper.wp P o a W K Q else E := by
  have hw : Region.wanted o (yielded ops a.tmps) = true := by simp [Region.wanted, hgd]
  rw [if_pos hw]
  unfold Oper.wp execOp
  simp only [ho, resolve, invoke, builtin, Sem.run_bind, Sem.run_pure, Result.andThen_ok, List.map_toArray, List.map_cons, List.map_nil, hs, hx, hr]
  exact h

/-- append(v, x) in a drawn region, behind the literal's block. -/
theorem step_push (d : Ty α) (base : Nat) (hgd : o.guard = none) (s x : Operand) (t e : TypeId) (z : Value) (bytes : Nat)
    (ho : o.op = .call { callee := .builtin .append, args := #[s, x], argTypes := #[t, t] })
    (ht : P.underlying t = some (.slice e)) (hinfo : (P.info? e).map (fun i => (i.zero, i.size, i.bytes)) = some (some z, d.sz, bytes)) (hz : z.cells.size = d.sz) (hs0 : 0 < d.sz) (hb0 : 0 < bytes)
    (v : Value) (xs : List α) (p : α) (cs : List Value) (ok : Nat → Prop) (hs : a.eval s = v) (hx : a.eval x = .slice (some ⟨W.heap.size, 0, none⟩) 1 1)
    (hp : d.R (fun k => ok k ∧ some k ≠ v.ownBlock) W p cs) (HO : Own d e ok W base v xs) (hbase : base ≤ W.heap.size) (hl : (xs.length + 1) * bytes ≤ 140737488355328)
    (h : ∀ v1 w1, Own d e ok w1 base v1 (xs ++ [p]) → W.grownBy w1 v.ownBlock → (v1.ownBlock = v.ownBlock ∨ ∃ b, v1.ownBlock = some b ∧ W.heap.size ≤ b) → K (a.put o.dst v1) w1) :
    if Region.wanted o (yielded ops a.tmps) = true then Oper.wp P o a (W.alloc (.cells cs.toArray e)) K Q else E := by
  obtain ⟨v1, w1, hr, h1, h2, h3⟩ := run_push (P := P) d base o.type t e z bytes ht hinfo hz hs0 hb0 v xs p cs ok hp HO hbase hl
  exact step_append hgd s x t ho v _ hs hx hr (h v1 w1 h1 h2 h3)

/-- append(v, ys...) in a drawn region. -/
theorem step_pushes (d : Ty α) (base : Nat) (hgd : o.guard = none) (s x : Operand) (t e : TypeId) (z : Value) (bytes : Nat)
    (ho : o.op = .call { callee := .builtin .append, args := #[s, x], argTypes := #[t, t] })
    (ht : P.underlying t = some (.slice e)) (hinfo : (P.info? e).map (fun i => (i.zero, i.size, i.bytes)) = some (some z, d.sz, bytes)) (hz : z.cells.size = d.sz) (hs0 : 0 < d.sz) (hb0 : 0 < bytes)
    (v u : Value) (xs ys : List α) (ok okp : Nat → Prop) (hs : a.eval s = v) (hx : a.eval x = u)
    (HS : Sl d okp W u ys) (hokp : ∀ k, okp k → ok k ∧ some k ≠ v.ownBlock) (HO : Own d e ok W base v xs) (hbase : base ≤ W.heap.size) (hl : (xs.length + ys.length) * bytes ≤ 140737488355328)
    (h : ∀ v1 w1, Own d e ok w1 base v1 (xs ++ ys) → W.grownBy w1 v.ownBlock → (v1.ownBlock = v.ownBlock ∨ ∃ b, v1.ownBlock = some b ∧ W.heap.size ≤ b) → K (a.put o.dst v1) w1) :
    if Region.wanted o (yielded ops a.tmps) = true then Oper.wp P o a W K Q else E := by
  obtain ⟨v1, w1, hr, h1, h2, h3⟩ := run_pushes (P := P) d base o.type t e z bytes ht hinfo hz hs0 hb0 v u xs ys ok okp HS hokp HO hbase hl
  exact step_append hgd s x t ho v u hs hx hr (h v1 w1 h1 h2 h3)
end

end Go.Proofs.Ytcpahknlabnnbaa.Mem

namespace Go.Proofs.Ytcpahknlabnnbaa.T
open Go

/-- A node. -/
structure Nd where
  leaf : Bool
  recs : List ByteArray
  kids : List Nat

def be2 (n : Nat) : List UInt8 := [UInt8.ofNat (n / 256), UInt8.ofNat n]
def be4 (n : Nat) : List UInt8 := be2 (n / 65536) ++ be2 n
/-- How much entries weigh. -/
def wt : List ByteArray → Nat
  | [] => 0
  | s :: l => 4 + s.size + wt l
def Nd.size (n : Nd) : Nat := 3 + 4 * n.kids.length + wt n.recs
/-- Where the entries lie, and how long they are. -/
def slots : Nat → List ByteArray → List UInt8
  | _, [] => []
  | e, s :: l => be2 (e - s.size) ++ (be2 s.size ++ slots (e - s.size) l)
/-- The entries' bytes, the last one first. -/
def datas : List ByteArray → List UInt8
  | [] => []
  | s :: l => datas l ++ s.data.toList
def kidsB (l : List Nat) : List UInt8 := l.flatMap be4
def Nd.head (n : Nd) : List UInt8 := (if n.leaf = true then (1 : UInt8) else 2) :: be2 n.recs.length
/-- A node's page. -/
def enc (n : Nd) : List UInt8 := n.head ++ (kidsB n.kids ++ (slots 1024 n.recs ++ (List.replicate (1024 - n.size) 0 ++ datas n.recs)))

def dl (l : List ByteArray) : Nat := (l.map ByteArray.size).sum
theorem wt_dl : ∀ l : List ByteArray, wt l = 4 * l.length + dl l
  | [] => rfl
  | s :: l => by rw [wt, wt_dl l]; unfold dl; simp only [List.length_cons, List.map_cons, List.sum_cons]; omega
theorem be2_len (n : Nat) : (be2 n).length = 2 := rfl
theorem be4_len (n : Nat) : (be4 n).length = 4 := rfl
theorem kidsB_len : ∀ l : List Nat, (kidsB l).length = 4 * l.length
  | [] => rfl
  | k :: l => by
    have := kidsB_len l
    unfold kidsB at *
    rw [List.flatMap_cons, List.length_append, this, be4_len, List.length_cons]; omega
theorem slots_len : ∀ (e : Nat) (l : List ByteArray), (slots e l).length = 4 * l.length
  | _, [] => rfl
  | e, s :: l => by rw [slots, List.length_append, List.length_append, slots_len _ l, be2_len, be2_len, List.length_cons]; omega
theorem size_toList (s : ByteArray) : s.data.toList.length = s.size := Array.length_toList
theorem datas_len : ∀ l : List ByteArray, (datas l).length = dl l
  | [] => rfl
  | s :: l => by rw [datas, List.length_append, datas_len l, size_toList]; unfold dl; simp only [List.map_cons, List.sum_cons]; omega
theorem enc_len (n : Nd) (h : n.size ≤ 1024) : (enc n).length = 1024 := by
  unfold enc Nd.head
  rw [List.length_append, List.length_append, List.length_append, List.length_append, kidsB_len, slots_len, datas_len, List.length_replicate, List.length_cons, be2_len]
  unfold Nd.size at h ⊢
  have := wt_dl n.recs
  omega

/-! ### reading -/
/-- Two bytes' number at i. -/
def get2 (bs : List UInt8) (i : Nat) : Nat := (bs.getD i 0).toNat * 256 + (bs.getD (i + 1) 0).toNat
theorem drop_get {bs : List UInt8} {i : Nat} {x : UInt8} {r : List UInt8} (h : bs.drop i = x :: r) : bs[i]? = some x ∧ bs.drop (i + 1) = r := by
  constructor
  · have := congrArg (fun l => l[0]?) h
    simpa using this
  · have := congrArg (fun l => l.drop 1) h
    simpa [List.drop_drop] using this
theorem be2_back {n : Nat} (h : n < 65536) : (UInt8.ofNat (n / 256)).toNat * 256 + (UInt8.ofNat n).toNat = n := by
  simp only [UInt8.toNat_ofNat']
  omega
theorem get2_be {bs : List UInt8} {i n : Nat} {r : List UInt8} (h : bs.drop i = be2 n ++ r) (hn : n < 65536) : get2 bs i = n ∧ bs.drop (i + 2) = r ∧ i + 2 ≤ bs.length := by
  obtain ⟨h1, h2⟩ := drop_get (show bs.drop i = UInt8.ofNat (n / 256) :: (UInt8.ofNat n :: r) from h)
  obtain ⟨h3, h4⟩ := drop_get h2
  refine ⟨?_, h4, (List.getElem?_eq_some_iff.1 h3).1⟩
  unfold get2
  rw [List.getD_eq_getElem?_getD, List.getD_eq_getElem?_getD, h1, h3]
  exact be2_back hn
theorem get4_be {bs : List UInt8} {i n : Nat} {r : List UInt8} (h : bs.drop i = be4 n ++ r) (hn : n < 4294967296) : get2 bs i = n / 65536 ∧ get2 bs (i + 2) = n % 65536 ∧ bs.drop (i + 4) = r ∧ i + 4 ≤ bs.length := by
  obtain ⟨h1, h2, _⟩ := get2_be (show bs.drop i = be2 (n / 65536) ++ (be2 n ++ r) by rw [h, be4, List.append_assoc]) (by omega)
  have e : be2 n = be2 (n % 65536) := by
    unfold be2
    congr 1
    · apply UInt8.toNat_inj.1; simp only [UInt8.toNat_ofNat']; omega
    · congr 1; apply UInt8.toNat_inj.1; simp only [UInt8.toNat_ofNat']; omega
  rw [e] at h2
  obtain ⟨h3, h4, h5⟩ := get2_be h2 (by omega)
  exact ⟨h1, h3, h4, h5⟩

/-- What stands behind i slots; where the next entry's bytes end. -/
def endAt (l : List ByteArray) (i : Nat) : Nat := 1024 - dl (l.take i)
theorem dl_take_succ {l : List ByteArray} {i : Nat} {s : ByteArray} (h : l[i]? = some s) : dl (l.take (i + 1)) = dl (l.take i) + s.size := by
  obtain ⟨hi, rfl⟩ := List.getElem?_eq_some_iff.1 h
  unfold dl
  rw [List.take_succ_eq_append_getElem hi, List.map_append, List.sum_append]
  simp
theorem slots_drop {l : List ByteArray} {i : Nat} {s : ByteArray} (h : l[i]? = some s) : slots (endAt l i) (l.drop i) = be2 (endAt l (i + 1)) ++ (be2 s.size ++ slots (endAt l (i + 1)) (l.drop (i + 1))) := by
  have e : endAt l (i + 1) = endAt l i - s.size := by unfold endAt; rw [dl_take_succ h]; omega
  obtain ⟨hi, rfl⟩ := List.getElem?_eq_some_iff.1 h
  rw [List.drop_eq_getElem_cons hi, slots, e]
theorem datas_append : ∀ a b : List ByteArray, datas (a ++ b) = datas b ++ datas a
  | [], b => by simp [datas]
  | s :: a, b => by rw [List.cons_append, datas, datas_append a b, datas, List.append_assoc]
/-- An entry's bytes stand where its slot says. -/
theorem datas_at {pre : List UInt8} {l : List ByteArray} {i : Nat} {s : ByteArray} (h : l[i]? = some s) (hp : pre.length + dl l = 1024) : ((pre ++ datas l).drop (endAt l (i + 1))).take s.size = s.data.toList ∧ endAt l (i + 1) + s.size ≤ 1024 := by
  obtain ⟨hi, rfl⟩ := List.getElem?_eq_some_iff.1 h
  have e : l = l.take i ++ (l[i] :: l.drop (i + 1)) := by rw [← List.drop_eq_getElem_cons hi, List.take_append_drop]
  have hd : dl l = dl (l.take i) + (l[i].size + dl (l.drop (i + 1))) := by
    conv => lhs; rw [e]
    unfold dl
    rw [List.map_append, List.sum_append, List.map_cons, List.sum_cons]
  have h1 := dl_take_succ (l := l) (i := i) (List.getElem?_eq_getElem hi)
  have hb : datas l = datas (l.drop (i + 1)) ++ (l[i].data.toList ++ datas (l.take i)) := by
    conv => lhs; rw [e]
    rw [datas_append, datas, List.append_assoc]
  have hpos : endAt l (i + 1) = (pre ++ datas (l.drop (i + 1))).length := by
    unfold endAt
    rw [List.length_append, datas_len, h1]; omega
  constructor
  · rw [hb, ← List.append_assoc, hpos, List.drop_left, ← size_toList, List.take_left]
  · unfold endAt; rw [h1]; omega
end Go.Proofs.Ytcpahknlabnnbaa.T

namespace Go.Proofs.Ytcpahknlabnnbaa.T
open Go Go.RowKit Go.Proofs.Ytcpahknlabnnbaa.Mem

theorem balloc {w w' : World} (h : Below w.heap.size w w') (o : Obj) : Below w.heap.size w (w'.alloc o) := h.alloc h.size o
theorem hag (w : World) (o : Obj) (k : Nat) : (w.alloc o).heap[k]? = if k = w.heap.size then some o else w.heap[k]? := by
  split
  · next h => rw [h]; exact heap_alloc_new _ _
  · next h =>
    by_cases hk : k < w.heap.size
    · exact Below.heap_alloc _ _ _ hk
    · rw [Array.getElem?_eq_none (by simp; omega), Array.getElem?_eq_none (by omega)]
theorem alloc_size (w : World) (o : Obj) : (w.alloc o).heap.size = w.heap.size + 1 := by simp
theorem below_set {N : Nat} {w0 w : World} {X o : Nat} {v : Value} (h : Below N w0 w) (hX : N ≤ X) : Below N w0 (w.setCell ⟨X, o, none⟩ v) := h.setCell hX v
theorem take_one {α : Type} {l : List α} {i : Nat} {x : α} (h : l[i]? = some x) : l.take (i + 1) = l.take i ++ [x] := by
  obtain ⟨hi, rfl⟩ := List.getElem?_eq_some_iff.1 h
  exact List.take_succ_eq_append_getElem hi
theorem cell_at {w w' : World} {a : Addr} {v : Value} (h : w.cell? a = some v) (hb : Below w.heap.size w w') : w'.cell? a = some v := (hb.cell (World.block_lt_of_cell? _ _ h)).trans h
theorem c2 {w : World} {X : Nat} {a0 a1 : Value} {t : TypeId} (h : w.heap[X]? = some (.cells #[a0, a1] t (0, 0))) : w.cell? ⟨X, 0, none⟩ = some a0 ∧ w.cell? ⟨X, 1, none⟩ = some a1 := by simp [World.cell?, h]
theorem c3 {w : World} {X : Nat} {a0 a1 a2 : Value} {t : TypeId} (h : w.heap[X]? = some (.cells #[a0, a1, a2] t (0, 0))) : w.cell? ⟨X, 0, none⟩ = some a0 ∧ w.cell? ⟨X, 1, none⟩ = some a1 ∧ w.cell? ⟨X, 2, none⟩ = some a2 := by simp [World.cell?, h]
theorem c4 {w : World} {X : Nat} {a0 a1 a2 a3 : Value} {t : TypeId} (h : w.heap[X]? = some (.cells #[a0, a1, a2, a3] t (0, 0))) : w.cell? ⟨X, 0, none⟩ = some a0 ∧ w.cell? ⟨X, 1, none⟩ = some a1 ∧ w.cell? ⟨X, 2, none⟩ = some a2 ∧ w.cell? ⟨X, 3, none⟩ = some a3 := by simp [World.cell?, h]
/-- A byte as a value. -/
def u8 (b : UInt8) : Value := .int .u8 (b.toNat : Int)
/-- A page's bytes, as a block. -/
def pgCells (bs : List UInt8) : Array Value := (bs.map u8).toArray
/-- A page: bytes in a block that is never written; none: no page. -/
def tPg : Ty (Option (List UInt8)) where
  sz := 1
  R := fun ok w x cs => match x with
    | none => cs = [.pointer none]
    | some bs => ∃ b, cs = [.pointer (some ⟨b, 0, none⟩)] ∧ ok b ∧ b < w.heap.size ∧ w.heap[b]? = some (.cells (pgCells bs) 103 (0, 0))
  len := fun {ok w x cs} h => by
    cases x with
    | none => rw [h]; rfl
    | some bs => obtain ⟨b, rfl, _⟩ := h; rfl
  one := fun {ok w x cs} h u hu => by
    cases x with
    | none => rw [h] at hu; rw [List.mem_singleton.1 hu]; rfl
    | some bs => obtain ⟨b, rfl, _⟩ := h; rw [List.mem_singleton.1 hu]; rfl
  mono := fun {ok ok' w x cs} hok h => by
    cases x with
    | none => exact h
    | some bs => obtain ⟨b, e, h1, h2⟩ := h; exact ⟨b, e, hok b h1, h2⟩
  move := fun {ok w w' x cs} hm h => by
    cases x with
    | none => exact h
    | some bs =>
      obtain ⟨b, e, h1, h2, h3⟩ := h
      have h4 := (hm b h1 h2).trans h3
      exact ⟨b, e, h1, (Array.getElem?_eq_some_iff.1 h4).1, h4⟩
  bnd := fun {ok w x cs} h => by
    cases x with
    | none => exact h
    | some bs => obtain ⟨b, e, h1, h2, h3⟩ := h; exact ⟨b, e, ⟨h1, h2⟩, h2, h3⟩
theorem own_ints {k : IntKind} {E base : Nat} {ok : Nat → Prop} {w : World} {v : Value} {xs : List Int} (h : Own (tInt k) E ok w base v xs) (ok' : Nat → Prop) : Own (tInt k) E ok' w base v xs := by
  obtain ⟨cells, hl, ho, hr⟩ := h
  exact ⟨cells, hl, ho, fun i x c hx hc => hr i x c hx hc⟩
/-- An arena: its pages, the numbers given back, its quota. -/
structure Ar where
  pages : List (Option (List UInt8))
  free : List Int
  quota : Int
def Ar.used (a : Ar) : Int := (a.pages.length : Int) - a.free.length
def Ar.left (a : Ar) : Int := max (a.quota - a.used) 0
/-- How an arena lies in memory: at a, with its rows vp and vf; all its blocks are ok. -/
structure ArR (ok : Nat → Prop) (w : World) (a : Nat) (vp vf : Value) (A : Ar) : Prop where
  at' : w.heap[a]? = some (.cells #[vp, vf, .int .i64 A.quota] 60 (0, 0))
  pages : Own tPg 102 (fun k => ok k ∧ k ≠ a ∧ some k ≠ vf.ownBlock) w 0 vp A.pages
  free : Own (tInt .i64) 3 (fun _ => True) w 0 vf A.free
  np : A.pages.length ≤ 4096
  nf : A.free.length ≤ A.pages.length
  oka : ok a
  okp : ∀ k, vp.ownBlock = some k → ok k
  okf : ∀ k, vf.ownBlock = some k → ok k
end Go.Proofs.Ytcpahknlabnnbaa.T

namespace Go.Proofs
open Go.Shelf
shelf_lay_g SlLaysE0.n41 Slgn 41 at Try 75 as Try.lClB
shelf_lay_g SlLaysE0.n41 Slgn 41 at Try 85 as Try.lClS
shelf_lay_g SlLaysE0.n41 Slgn 41 at Try 86 as Try.lClI
shelf_lay Lays2.n22 Nm2 22 at Try as Try.lInsS
shelf_lay Lays2.n21 Nm2 21 at Try as Try.lInsI
shelf_lay Lays2.n24 Nm2 24 at Try as Try.lDelS
shelf_lay Lays2.n23 Nm2 23 at Try as Try.lDelI
shelf_lay Lays2.n26 Nm2 26 at Try as Try.lBin
end Go.Proofs

namespace Go.Proofs.Ytcpahknlabnnbaa.T
open Go Go.RowKit Go.Sort Go.Proofs.Ytcpahknlabnnbaa.Mem
variable {ok : Nat → Prop}

set_option maxHeartbeats 4000000 in
set_option maxRecDepth 100000 in
theorem usedCalls (a : Nat) (vp vf : Value) (A : Ar) (w : World) (h : ArR ok w a vp vf A) :
    Calls Try.prog 46 #[.pointer (some ⟨a, 0, none⟩)] w fun e w' => e = .returned (.int .i64 A.used) ∧ ∃ q, w' = w.drewN q := by
  obtain ⟨Ap, cp, rfl, p1, p2⟩ := h.pages.form
  obtain ⟨Af, cf, rfl, f1, f2⟩ := h.free.form
  have h1 := h.np
  have h2 := h.nf
  obtain ⟨x0, x1, x2⟩ := c3 h.at'
  have y0 : ∀ n, (w.drewN n).cell? ⟨a, 0, none⟩ = some (.slice Ap A.pages.length cp) := fun n => x0
  have y1 : ∀ n, (w.drewN n).cell? ⟨a, 1, none⟩ = some (.slice Af A.free.length cf) := fun n => x1
  have HU : Kp (A.used = (A.pages.length : Int) - A.free.length) := put rfl
  obtain ⟨n, hn⟩ : ∃ n, n = A.pages.length := ⟨_, rfl⟩
  obtain ⟨m, hm⟩ : ∃ m, m = A.free.length := ⟨_, rfl⟩
  rw [← hn, ← hm] at HU
  simp only [← hn, ← hm] at *
  clear h hn hm
  go_enter Try.func46, Try.ntmps46
  go_wp2_with fail
  go_quiet (fail)
  go_wp2_with fail
  go_ret
  exact ⟨by rw [HU.out]; rfl, _, rfl⟩
/-- Nothing but the blocks of S has changed. -/
structure Kps (S : Nat → Prop) (w w' : World) : Prop where
  os : w'.os = w.os
  tape : w'.tape = w.tape
  output : w'.output = w.output
  size : w.heap.size ≤ w'.heap.size
  block : ∀ k, k < w.heap.size → ¬ S k → w'.heap[k]? = w.heap[k]?
theorem Kps.refl (S : Nat → Prop) (w : World) : Kps S w w := ⟨rfl, rfl, rfl, Nat.le_refl _, fun _ _ _ => rfl⟩
theorem Kps.drewN {S : Nat → Prop} {w w' : World} (h : Kps S w w') (q : Nat) : Kps S w (w'.drewN q) := ⟨h.os, h.tape, h.output, h.size, h.block⟩
theorem Kps.trans {S : Nat → Prop} {w w1 w2 : World} (h : Kps S w w1) (k : Kps S w1 w2) : Kps S w w2 := ⟨k.os.trans h.os, k.tape.trans h.tape, k.output.trans h.output, Nat.le_trans h.size k.size, fun i hi hs => (k.block i (Nat.lt_of_lt_of_le hi h.size) hs).trans (h.block i hi hs)⟩
theorem Kps.set {S : Nat → Prop} {w w' : World} (h : Kps S w w') {X : Nat} (hX : S X ∨ w.heap.size ≤ X) (o : Nat) (v : Value) : Kps S w (w'.setCell ⟨X, o, none⟩ v) := ⟨h.os, h.tape, h.output, by rw [World.size_setCell]; exact h.size, fun k hk hs => (Below.heap_setCell _ ⟨X, o, none⟩ _ k (by
  show k ≠ X
  rintro rfl
  rcases hX with hX | hX
  · exact hs hX
  · omega)).trans (h.block k hk hs)⟩
theorem Kps.alloc {S : Nat → Prop} {w w' : World} (h : Kps S w w') (o : Obj) : Kps S w (w'.alloc o) := ⟨h.os, h.tape, h.output, by simp; have := h.size; omega, fun k hk hs => (Below.heap_alloc _ _ _ (Nat.lt_of_lt_of_le hk h.size)).trans (h.block k hk hs)⟩
theorem Kps.below {S : Nat → Prop} {w w' : World} {B : Nat} (h : Kps S w w') (hS : ∀ k, S k → B ≤ k) (hB : B ≤ w.heap.size) : Below B w w' := ⟨h.os, h.tape, h.output, by have := h.size; omega, fun k hk => h.block k (Nat.lt_of_lt_of_le hk hB) (fun hs => by have := hS k hs; omega)⟩
theorem Kps.mono {S S' : Nat → Prop} {w w' : World} (h : Kps S w w') (hS : ∀ k, S k → S' k) : Kps S' w w' := ⟨h.os, h.tape, h.output, h.size, fun k hk hs => h.block k hk (fun h2 => hs (hS k h2))⟩
/-- The blocks that an arena's calls may write into. -/
def arS (a : Nat) (vp vf : Value) (k : Nat) : Prop := k = a ∨ vp.ownBlock = some k ∨ vf.ownBlock = some k
theorem ArR.drewN {w : World} {a : Nat} {vp vf : Value} {A : Ar} (h : ArR ok w a vp vf A) (q : Nat) : ArR ok (w.drewN q) a vp vf A :=
  ⟨h.at', h.pages.move (fun _ _ => rfl) (fun _ _ _ _ => rfl), h.free.move (fun _ _ => rfl) (fun _ _ _ _ => rfl), h.np, h.nf, h.oka, h.okp, h.okf⟩
/-- The rows' blocks are none of the arena's own block. -/
theorem ArR.ne {w : World} {a : Nat} {vp vf : Value} {A : Ar} (h : ArR ok w a vp vf A) : some a ≠ vp.ownBlock ∧ some a ≠ vf.ownBlock := ⟨h.pages.ne_block h.at' (by decide), h.free.ne_block h.at' (by decide)⟩

set_option maxHeartbeats 4000000 in
set_option maxRecDepth 100000 in
theorem leftCalls (a : Nat) (vp vf : Value) (A : Ar) (w : World) (h : ArR ok w a vp vf A) (hq : 0 ≤ A.quota ∧ A.quota ≤ 4096) :
    Calls Try.prog 28 #[.pointer (some ⟨a, 0, none⟩)] w fun e w' => e = .returned (.int .i64 A.left) ∧ ∃ q, w' = w.drewN q := by
  obtain ⟨x0, x1, x2⟩ := c3 h.at'
  have y2 : ∀ n, (w.drewN n).cell? ⟨a, 2, none⟩ = some (.int .i64 A.quota) := fun n => x2
  have C := put (fun n => usedCalls a vp vf A (w.drewN n) (h.drewN n))
  have hu : -4096 ≤ A.used ∧ A.used ≤ 4096 := by have h1 := h.np; have h2 := h.nf; unfold Ar.used; omega
  have HL : Kp (A.left = max (A.quota - A.used) 0) := put rfl
  obtain ⟨u, hu2⟩ : ∃ u, u = A.used := ⟨_, rfl⟩
  obtain ⟨q, hq2⟩ : ∃ q, q = A.quota := ⟨_, rfl⟩
  rw [← hu2, ← hq2] at HL
  rw [← hu2] at hu
  simp only [← hu2] at C
  simp only [← hq2] at x2 y2 hq
  clear h hu2 hq2 x0 x1
  go_enter Try.func28, Try.ntmps28
  go_wp2_with fail
  go_quiet (first | (go_at_call_of 46 (Value.pointer (some ⟨a, 0, none⟩)); exact Calls.quiet_of (C.out _)))
  go_wp2_with fail
  go_ret
  exact ⟨by rw [HL.out]; rfl, _, rfl⟩

set_option maxHeartbeats 4000000 in
set_option maxRecDepth 100000 in
/-- A quota that may be. -/
theorem limitCalls (a : Nat) (vp vf : Value) (A : Ar) (n : Int) (w : World) (h : ArR ok w a vp vf A) :
    Calls Try.prog 24 #[.pointer (some ⟨a, 0, none⟩), .int .i64 n] w fun e w' => (if 0 ≤ n ∧ n ≤ 4096 then e = .returned (.int .i64 0) ∧ ArR ok w' a vp vf { A with quota := n } else e = .returned (.int .i64 15) ∧ w' = w) ∧ Kps (fun k => k = a) w w' := by
  obtain ⟨x0, x1, x2⟩ := c3 h.at'
  have f2 : w.frozen? ⟨a, 2, none⟩ = false := by simp [World.frozen?, h.at']
  have hne := h.ne
  have HR := put h
  by_cases h0 : n < 0
  · have HF : Kp (¬ (0 ≤ n ∧ n ≤ 4096)) := put (by omega)
    clear h hne
    go_enter Try.func24, Try.ntmps24
    go_wp2_with fail
    go_ret
    exact ⟨⟨rfl, rfl⟩, Kps.refl _ _⟩
  · by_cases h1 : n > 4096
    · have HF : Kp (¬ (0 ≤ n ∧ n ≤ 4096)) := put (by omega)
      clear h hne
      go_enter Try.func24, Try.ntmps24
      go_wp2_with fail
      go_ret
      exact ⟨⟨rfl, rfl⟩, Kps.refl _ _⟩
    · have HF : Kp (0 ≤ n ∧ n ≤ 4096) := put (by omega)
      have HS : Kp (ArR ok (w.setCell ⟨a, 2, none⟩ (.int .i64 n)) a vp vf { A with quota := n }) := put ⟨by simp [World.setCell, Array.getElem?_modify, h.at'], h.pages.far (p := ⟨a, 2, none⟩) (fun k hk e => hne.1 (by rw [hk]; exact congrArg some e.symm)) (fun k hk => hk.2.1) _, own_ints ((own_ints h.free (fun _ => False)).far (p := ⟨a, 2, none⟩) (fun k hk e => hne.2 (by rw [hk]; exact congrArg some e.symm)) (fun k hk => hk.elim) _) _, h.np, h.nf, h.oka, h.okp, h.okf⟩
      have HK : Kp (Kps (fun k => k = a) w (w.setCell ⟨a, 2, none⟩ (.int .i64 n))) := put (Kps.set (S := fun k => k = a) (Kps.refl _ w) (X := a) (Or.inl rfl) 2 _)
      clear h hne
      go_enter Try.func24, Try.ntmps24
      go_wp2_with fail
      go_ret
      exact ⟨⟨rfl, HS.out⟩, HK.out⟩
end Go.Proofs.Ytcpahknlabnnbaa.T

namespace Go.Proofs.Ytcpahknlabnnbaa.T
open Go Go.RowKit Go.Sort Go.Proofs.Ytcpahknlabnnbaa.Mem
section
variable {α : Type} {d : Ty α} {E base : Nat} {ok : Nat → Prop} {w : World} {v : Value} {xs : List α}

theorem len1 {c : List Value} (h : c.length = 1) : ∃ u, c = [u] := by
  match c, h with
  | [u], _ => exact ⟨u, rfl⟩
/-- Element i. -/
theorem own1_get (h : Own d E ok w base v xs) (hs : d.sz = 1) {i : Nat} {x : α} (hx : xs[i]? = some x) : ∃ g c u, v = .slice (some ⟨g, 0, none⟩) xs.length c ∧ base ≤ g ∧ g < w.heap.size ∧ xs.length ≤ c ∧ c ≤ 9223372036854775807 ∧ w.cell? ⟨g, i, none⟩ = some u ∧ w.frozen? ⟨g, i, none⟩ = false ∧ d.R (fun k => ok k ∧ some k ≠ v.ownBlock) w x [u] := by
  have hi := (List.getElem?_eq_some_iff.1 hx).1
  rcases h.shape with ⟨rfl, rfl⟩ | ⟨g, cap, rfl, hg, hlt, hc, hm⟩
  · simp at hi
  obtain ⟨cells, hl, ho, hr⟩ := h
  have hcl := Own.lens (w := w) hl hr
  have hi2 : i < cells.length := by omega
  obtain ⟨u, hu⟩ := len1 (c := cells[i]) (by rw [hcl _ (List.getElem_mem _), hs])
  have hu2 : cells[i]? = some [u] := by rw [List.getElem?_eq_getElem hi2, hu]
  have hf := flat_get cells hcl i [u] 0 u hu2 rfl
  rw [hs, Nat.mul_one, Nat.add_zero] at hf
  refine ⟨g, cap, u, rfl, hg, hlt, hc, hm, ?_, ho.frozenAt i, hr i x [u] hx hu2⟩
  have := ho.cells (g := g) rfl i u hf
  rwa [add_plain] at this
theorem flat_set1 (cells : List (List Value)) (h : ∀ c ∈ cells, c.length = 1) (i : Nat) (u : Value) : (cells.set i [u]).flatten = cells.flatten.set i u := by
  induction cells generalizing i with
  | nil => rfl
  | cons c cells ih =>
    obtain ⟨y, rfl⟩ := len1 (h c List.mem_cons_self)
    cases i with
    | zero => rfl
    | succ i =>
      simp only [List.set_cons_succ, List.flatten_cons, List.singleton_append, List.cons.injEq, true_and]
      exact ih (fun c hc => h c (List.mem_cons_of_mem _ hc)) i
/-- Another element i: other elements must not lead to this row. -/
theorem own1_set {g c : Nat} (h : Own d E ok w base (.slice (some ⟨g, 0, none⟩) xs.length c) xs) (hs : d.sz = 1) {i : Nat} (hi : i < xs.length) {p : α} {u : Value} (hp : d.R (fun k => ok k ∧ some k ≠ (Value.slice (some ⟨g, 0, none⟩) xs.length c).ownBlock) w p [u]) : Own d E ok (w.setCell ⟨g, i, none⟩ u) base (.slice (some ⟨g, 0, none⟩) xs.length c) (xs.set i p) := by
  obtain ⟨cells, hl, ho, hr⟩ := h
  have hcl := Own.lens (w := w) hl hr
  have hmv : ∀ x cs, d.R (fun k => ok k ∧ some k ≠ (Value.slice (some ⟨g, 0, none⟩) xs.length c).ownBlock) w x cs → d.R (fun k => ok k ∧ some k ≠ (Value.slice (some ⟨g, 0, none⟩) xs.length c).ownBlock) (w.setCell ⟨g, i, none⟩ u) x cs := fun x cs hx => d.move (fun k hk _ => Below.heap_setCell _ ⟨g, i, none⟩ _ k (fun e => hk.2 (by rw [e]; rfl))) hx
  refine ⟨cells.set i [u], by simp [hl], ?_, fun k x cs hx hc => ?_⟩
  · rw [flat_set1 cells (fun c hc => (hcl c hc).trans hs), List.length_set]
    exact (ho.stored i u).1
  · rw [List.getElem?_set] at hx hc
    by_cases e : i = k
    · subst e
      rw [if_pos rfl] at hx hc
      rw [if_pos hi] at hx
      rw [if_pos (by omega)] at hc
      obtain rfl := Option.some.inj hx
      obtain rfl := Option.some.inj hc
      exact hmv _ _ hp
    · rw [if_neg e] at hx hc
      exact hmv _ _ (hr k x cs hx hc)
theorem flat_take {sz : Nat} : ∀ (cells : List (List Value)) (_ : ∀ c ∈ cells, c.length = sz) (q : Nat), (cells.take q).flatten = cells.flatten.take (q * sz)
  | [], _, q => by simp
  | c :: cells, h, 0 => by simp
  | c :: cells, h, q + 1 => by
    have hc := h c List.mem_cons_self
    rw [List.take_succ_cons, List.flatten_cons, List.flatten_cons, flat_take cells (fun c hc => h c (List.mem_cons_of_mem _ hc)) q, List.take_append, hc, Nat.add_mul, Nat.one_mul, Nat.add_sub_cancel, List.take_of_length_le (l := c) (by rw [hc]; exact Nat.le_add_left _ _)]
/-- The first q of them. -/
theorem own_cut {A : Option Addr} {n c q : Nat} (h : Own d E ok w base (.slice A n c) xs) (hn : n = xs.length) (hq : q ≤ n) : Own d E ok w base (.slice A q c) (xs.take q) := by
  obtain ⟨cells, hl, ⟨hlen, ho⟩, hr⟩ := h
  have hcl := Own.lens (w := w) hl hr
  refine ⟨cells.take q, by rw [List.length_take, List.length_take, hl], ⟨?_, ?_⟩, fun i x cs hx hc => ?_⟩
  · rw [flat_take cells hcl, List.length_take, List.length_take, hlen, ← hn]
    rw [Nat.min_eq_left (Nat.mul_le_mul_right _ hq), Nat.min_eq_left hq]
  · rw [List.length_take, ← hn, Nat.min_eq_left hq]
    rcases ho with ⟨e, h0⟩ | ⟨g, cap, cur, e, hg, hh, hnc, hcm, hsz, htk⟩
    · injection e with e1 e2 e3
      subst e1; subst e3
      exact .inl ⟨by rw [show q = 0 by omega], by omega⟩
    · injection e with e1 e2 e3
      subst e1; subst e3
      refine .inr ⟨g, c, cur, rfl, hg, hh, by omega, hcm, hsz, ?_⟩
      rw [flat_take cells hcl, ← htk, List.take_take, Nat.min_eq_left (Nat.mul_le_mul_right _ (by omega))]
  · rw [List.getElem?_take] at hx hc
    by_cases hi : i < q
    · rw [if_pos hi] at hx hc
      have := hr i x cs hx hc
      cases A <;> exact this
    · rw [if_neg hi] at hx; cases hx
end
end Go.Proofs.Ytcpahknlabnnbaa.T

namespace Go.Proofs.Ytcpahknlabnnbaa.T
open Go Go.RowKit Go.Sort Go.Proofs.Ytcpahknlabnnbaa.Mem
variable {ok : Nat → Prop}

set_option maxHeartbeats 4000000 in
set_option maxRecDepth 100000 in
/-- A page that is there. -/
theorem isCalls (a : Nat) (vp vf : Value) (A : Ar) (i : Nat) (bs : List UInt8) (w : World) (h : ArR ok w a vp vf A) (hx : A.pages[i]? = some (some bs)) :
    Calls Try.prog 61 #[.pointer (some ⟨a, 0, none⟩), .int .i64 ((i : Int) + 1)] w fun e w' => e = .returned (.int .i64 0) ∧ w' = w := by
  obtain ⟨g, c, u, rfl, _, hg, hc, hm, x3, _, b, hu, _⟩ := own1_get h.pages rfl hx
  simp only [List.cons.injEq, and_true] at hu
  subst hu
  obtain ⟨x0, x1, x2⟩ := c3 h.at'
  have hi := (List.getElem?_eq_some_iff.1 hx).1
  have hnp := h.np
  obtain ⟨n, hn⟩ : ∃ n, n = A.pages.length := ⟨_, rfl⟩
  rw [← hn] at x0 hi hnp hc
  have e1 : (i : Int) + 1 - 1 = (i : Int) := by omega
  have e2 : ¬ (i : Int) + 1 < 1 := by omega
  have e3 : ¬ (i : Int) + 1 > (n : Int) := by omega
  have e4 : (0 : Int) ≤ (i : Int) := by omega
  have e5 : (i : Int) < (n : Int) := by omega
  clear h hx hn
  go_enter Try.func61, Try.ntmps61
  go_wp2_with fail
  go_ret
  exact ⟨rfl, rfl⟩

set_option maxHeartbeats 4000000 in
set_option maxRecDepth 100000 in
theorem newCalls (n : Int) (w : World) (hn : 0 ≤ n ∧ n ≤ 4096) (hok : ∀ k, w.heap.size ≤ k → ok k) :
    Calls Try.prog 7 #[.int .i64 n] w fun e w' => e = .returned (.tuple #[.pointer (some ⟨w.heap.size, 0, none⟩), .int .i64 0]) ∧ ArR ok w' w.heap.size (.slice none 0 0) (.slice none 0 0) ⟨[], [], n⟩ ∧ Below w.heap.size w w' := by
  obtain ⟨w1, hw1⟩ : ∃ w1, w1 = w.alloc (.cells #[.slice none 0 0, .slice none 0 0, .int .i64 0] 60) := ⟨_, rfl⟩
  have hb1 : Below w.heap.size w w1 := by rw [hw1]; exact balloc (Below.refl _ _) _
  have hr1 : ArR ok w1 w.heap.size (.slice none 0 0) (.slice none 0 0) ⟨[], [], 0⟩ := ⟨by rw [hw1]; exact heap_alloc_new _ _, Own.nil _ _ _ _ _, Own.nil _ _ _ _ _, by simp, by simp, hok _ (Nat.le_refl _), fun k hk => by simp [Value.ownBlock] at hk, fun k hk => by simp [Value.ownBlock] at hk⟩
  have LC := put (limitCalls w.heap.size (.slice none 0 0) (.slice none 0 0) ⟨[], [], 0⟩ n w1 hr1)
  have HN := put hn
  have HB1 := put hb1
  clear hr1 hb1 hn hok
  go_enter Try.func7, Try.ntmps7
  go_wp2_with fail
  rw [← hw1]
  clear hw1
  refine LC.out.mono ?_
  rintro e w2 ⟨hl, hk2⟩
  rw [if_pos HN.out] at hl
  obtain ⟨rfl, hr2⟩ := hl
  have HR2 := put hr2
  have HB2 : Kp (Below w.heap.size w w2) := put (HB1.out.trans (hk2.below (fun k hk => by omega) HB1.out.size))
  clear hr2 hk2
  go_wp2_with fail
  go_ret2
  exact ⟨rfl, HR2.out, HB2.out⟩
theorem own_heap {α : Type} {d : Ty α} {E base : Nat} {ok : Nat → Prop} {w : World} {v : Value} {xs : List α} (h : Own d E ok w base v xs) {k : Nat} (hk : v.ownBlock = some k) : ∃ cs, w.heap[k]? = some (.cells cs E (0, 0)) := by
  obtain ⟨cells, _, ho, _⟩ := h
  rcases ho.2 with ⟨rfl, _⟩ | ⟨g, cap, cur, rfl, _, hg, _⟩
  · simp [Value.ownBlock] at hk
  · simp only [Value.ownBlock, Option.some.injEq] at hk
    subst hk
    exact ⟨_, hg⟩
/-- The two rows lie apart. -/
theorem ArR.apart {w : World} {a : Nat} {vp vf : Value} {A : Ar} (h : ArR ok w a vp vf A) : ∀ k, vp.ownBlock = some k → ¬ vf.ownBlock = some k := fun k hk hf => by
  obtain ⟨cs, hc⟩ := own_heap h.pages hk
  exact h.free.ne_block hc (by decide) hf.symm
/-- A new page's bytes. -/
def zeroPg : List UInt8 := List.replicate 1024 0
theorem zero_pg : Try.zeroCells103 = pgCells zeroPg := by kernel_rfl
theorem infoPg : (Try.prog.info? 102).map (fun i => (i.zero, i.size, i.bytes)) = some (some (.pointer none), tPg.sz, 8) := by kernel_rfl
/-- The number of the page that is given next. -/
def Ar.nextId (A : Ar) : Int := match A.free.getLast? with
  | none => (A.pages.length : Int) + 1
  | some n => n
def Ar.alloc (A : Ar) : Ar := match A.free.getLast? with
  | none => { A with pages := A.pages ++ [some zeroPg] }
  | some n => { A with pages := A.pages.set (n - 1).toNat (some zeroPg), free := A.free.dropLast }

set_option maxHeartbeats 4000000 in
set_option maxRecDepth 100000 in
theorem allocCalls0 (a : Nat) (vp vf : Value) (A : Ar) (w : World) (h : ArR ok w a vp vf A) (hq : 0 ≤ A.quota ∧ A.quota ≤ 4096) (hl : 0 < A.left) (hf : A.free = []) (hok : ∀ k, w.heap.size ≤ k → ok k) :
    Calls Try.prog 44 #[.pointer (some ⟨a, 0, none⟩)] w fun e w' => ∃ vp', e = .returned (.tuple #[.int .i64 A.nextId, .int .i64 0]) ∧ ArR ok w' a vp' vf A.alloc ∧ Kps (arS a vp vf) w w' := by
  obtain ⟨Ap, cp, rfl, p1, p2⟩ := h.pages.form
  obtain ⟨Af, cf, rfl, f1, f2⟩ := h.free.form
  have LC := put (leftCalls a _ _ A w h hq)
  have HR := put h
  obtain ⟨x0, x1, x2⟩ := c3 h.at'
  obtain ⟨l, hl2⟩ : ∃ l, l = A.left := ⟨_, rfl⟩
  rw [← hl2] at LC hl
  have lz : (l == 0) = false := by simp; omega
  have y0 : ∀ n, (w.drewN n).cell? ⟨a, 0, none⟩ = some (.slice Ap A.pages.length cp) := fun n => x0
  have y1 : ∀ n, (w.drewN n).cell? ⟨a, 1, none⟩ = some (.slice Af A.free.length cf) := fun n => x1
  have hfl : A.free.length = 0 := by rw [hf]; rfl
  rw [hfl] at y1
  have HF := put hf
  have HO := put hok
  have HL : Kp (0 < A.left) := put (by rw [← hl2]; exact hl)
  clear h hl2 hf hfl hok x0 x1 x2
  go_enter Try.func44, Try.ntmps44
  go_wp2_with fail
  refine LC.out.mono ?_
  rintro e w2 ⟨rfl, q, rfl⟩
  obtain ⟨w3, hw3⟩ : ∃ w3, w3 = (w.drewN q).alloc (.cells Try.zeroCells103 103) := ⟨_, rfl⟩
  have hb3 : Below w.heap.size w w3 := by rw [hw3]; exact (show Below w.heap.size w (w.drewN q) from ⟨rfl, rfl, rfl, Nat.le_refl _, fun _ _ => rfl⟩).alloc (Nat.le_refl _) _
  have hz3 : w3.heap[w.heap.size]? = some (.cells (pgCells zeroPg) 103 (0, 0)) := by rw [hw3, ← zero_pg]; exact heap_alloc_new (w.drewN q) _
  have hs3 : w3.heap.size = w.heap.size + 1 := by rw [hw3]; simp
  have HP3 : Kp (Own tPg 102 (fun k => ok k ∧ k ≠ a ∧ some k ≠ (Value.slice Af A.free.length cf).ownBlock) w3 0 (.slice Ap A.pages.length cp) A.pages) := put (HR.out.pages.below hb3)
  have HPG : Kp (tPg.R (fun k => (ok k ∧ k ≠ a ∧ some k ≠ (Value.slice Af A.free.length cf).ownBlock) ∧ some k ≠ (Value.slice Ap A.pages.length cp).ownBlock) w3 (some zeroPg) [.pointer (some ⟨w.heap.size, 0, none⟩)]) := put ⟨w.heap.size, rfl, ⟨⟨HO.out _ (Nat.le_refl _), fun e => by have h1 := (Array.getElem?_eq_some_iff.1 HR.out.at').1; omega, fun e => by have h1 := (HR.out.free.lt _ e.symm).2; omega⟩, fun e => by have h1 := (HR.out.pages.lt _ e.symm).2; omega⟩, by omega, hz3⟩
  have HB3 := put hb3
  have HS3 := put hs3
  have hnp := HR.out.np
  have HA3 : Kp (a < w3.heap.size ∧ some a ≠ (Value.slice Ap A.pages.length cp).ownBlock ∧ w3.heap[a]? = some (.cells #[.slice Ap A.pages.length cp, .slice Af A.free.length cf, .int .i64 A.quota] 60 (0, 0))) := put ⟨by have := (Array.getElem?_eq_some_iff.1 HR.out.at').1; omega, HR.out.ne.1, (hb3.block a (Array.getElem?_eq_some_iff.1 HR.out.at').1).trans HR.out.at'⟩
  have hn1 : A.pages.length + 1 ≤ 4096 := by have h1 := HL.out; unfold Ar.left Ar.used at h1; rw [HF.out] at h1; simp only [List.length_nil] at h1; omega
  clear hb3 hz3 hs3
  go_wp2_with (at_builtin; rw [← hw3]; refine wpList_push (W := w3) tPg 0 rfl _ _ 56 102 _ 8 rfl Try.underlying56 infoPg rfl (by decide) (by decide) (.slice Ap A.pages.length cp) A.pages (some zeroPg) [.pointer (some ⟨w.heap.size, 0, none⟩)] (fun k => ok k ∧ k ≠ a ∧ some k ≠ (Value.slice Af A.free.length cf).ownBlock) rfl (by rw [HS3.out]; try rfl) HPG.out HP3.out (Nat.zero_le _) (by omega) ?_; intro v1 w9 hown hg hat; obtain ⟨A9, c9, e9, _, _⟩ := hown.form; rw [show (A.pages ++ [some zeroPg]).length = A.pages.length + 1 by simp] at e9; subst e9; have h9 : w9.heap[a]? = some (.cells #[.slice Ap A.pages.length cp, .slice Af A.free.length cf, .int .i64 A.quota] 60 (0, 0)) := (hg.block a HA3.out.1 HA3.out.2.1).trans HA3.out.2.2; have g0 := (c3 h9).1; have g0f : w9.frozen? ⟨a, 0, none⟩ = false := (by simp [World.frozen?, h9]); have H9 := put h9; have HOWN := put hown; have HAT := put hat; have HG9 := put hg; clear h9 hown hg hat y0)
  have HFIN : Kp (ArR ok (w9.setCell ⟨a, 0, none⟩ (.slice A9 (A.pages.length + 1) c9)) a (.slice A9 (A.pages.length + 1) c9) (.slice Af A.free.length cf) A.alloc) := put (by
    have hne1 : some a ≠ (Value.slice A9 (A.pages.length + 1) c9).ownBlock := HOWN.out.ne_block H9.out (by decide)
    have e : A.alloc = { A with pages := A.pages ++ [some zeroPg] } := by unfold Ar.alloc; rw [HF.out]; rfl
    rw [e]
    refine ⟨by simp [World.setCell, Array.getElem?_modify, H9.out], HOWN.out.far (p := ⟨a, 0, none⟩) (fun k hk e => hne1 (by rw [hk]; exact congrArg some e.symm)) (fun k hk => hk.2.1) _, ?_, by simp; omega, by simp; have := HR.out.nf; omega, HR.out.oka, ?_, HR.out.okf⟩
    rotate_left
    · intro k hk
      rcases HAT.out with e | ⟨b, e, hb⟩
      · exact HR.out.okp k (by rw [← e]; exact hk)
      · rw [e] at hk
        have := Option.some.inj hk
        exact HO.out k (by have := HS3.out; omega)
    have hfree := (own_ints HR.out.free (fun _ => False)).move (w' := w9) (fun k hk => (HG9.out.block k (by have := (HR.out.free.lt k hk).2; have := HS3.out; omega) (fun e => HR.out.apart k e.symm hk)).trans (HB3.out.block k (HR.out.free.lt k hk).2)) (fun k hk => hk.elim)
    exact own_ints (hfree.far (p := ⟨a, 0, none⟩) (fun k hk e => HR.out.ne.2 (by rw [hk]; exact congrArg some e.symm)) (fun k hk => hk.elim) _) _)
  have HKP : Kp (Kps (arS a (.slice Ap A.pages.length cp) (.slice Af A.free.length cf)) w (w9.setCell ⟨a, 0, none⟩ (.slice A9 (A.pages.length + 1) c9))) := put (Kps.set (S := arS a (.slice Ap A.pages.length cp) (.slice Af A.free.length cf)) (X := a) (Kps.trans (Kps.mono (S := fun _ => False) ⟨HB3.out.os, HB3.out.tape, HB3.out.output, HB3.out.size, fun k hk _ => HB3.out.block k hk⟩ (fun _ h => h.elim)) ⟨HG9.out.os, HG9.out.tape, HG9.out.output, HG9.out.size, fun k hk hs => HG9.out.block k hk (fun e => hs (Or.inr (Or.inl e.symm)))⟩) (Or.inl (Or.inl rfl)) 0 _)
  have HID : Kp (A.nextId = (A.pages.length : Int) + 1) := put (by unfold Ar.nextId; rw [HF.out]; rfl)
  go_ret2
  exact ⟨.slice A9 (A.pages.length + 1) c9, by rw [HID.out]; rfl, HFIN.out, HKP.out⟩
end Go.Proofs.Ytcpahknlabnnbaa.T

namespace Go.Proofs.Ytcpahknlabnnbaa.T
open Go Go.RowKit Go.Sort Go.Proofs.Ytcpahknlabnnbaa.Mem
variable {ok : Nat → Prop}

theorem ArR.below {w w' : World} {a : Nat} {vp vf : Value} {A : Ar} (h : ArR ok w a vp vf A) (hb : Below w.heap.size w w') : ArR ok w' a vp vf A :=
  ⟨(hb.block a (Array.getElem?_eq_some_iff.1 h.at').1).trans h.at', h.pages.below hb, h.free.below hb, h.np, h.nf, h.oka, h.okp, h.okf⟩
theorem ArR.cutFree {w : World} {a : Nat} {vp : Value} {Af : Option Addr} {m cf : Nat} {A : Ar} (h : ArR ok w a vp (.slice Af (m + 1) cf) A) (hm : m + 1 = A.free.length) : ArR ok (w.setCell ⟨a, 1, none⟩ (.slice Af m cf)) a vp (.slice Af m cf) { A with free := A.free.dropLast } := by
  have hob : (Value.slice Af m cf).ownBlock = (Value.slice Af (m + 1) cf).ownBlock := by cases Af <;> rfl
  refine ⟨by simp [World.setCell, Array.getElem?_modify, h.at'], ?_, ?_, h.np, ?_, h.oka, h.okp, fun k hk => h.okf k (by rw [← hob]; exact hk)⟩
  · rw [hob]
    exact h.pages.far (p := ⟨a, 1, none⟩) (fun k hk e => h.ne.1 (by rw [hk]; exact congrArg some e.symm)) (fun k hk => hk.2.1) _
  · have h1 := own_cut (own_ints h.free (fun _ => False)) hm (Nat.le_succ m)
    have h2 := own_ints (h1.far (p := ⟨a, 1, none⟩) (fun k hk e => h.ne.2 (by rw [← hob, hk]; exact congrArg some e.symm)) (fun k hk => hk.elim) (.slice Af m cf)) (fun _ => True)
    rw [List.dropLast_eq_take, ← hm]
    exact h2
  · show A.free.dropLast.length ≤ A.pages.length
    rw [List.length_dropLast]; have := h.nf; omega
theorem ArR.setPage {w : World} {a g c : Nat} {vf : Value} {A : Ar} (h : ArR ok w a (.slice (some ⟨g, 0, none⟩) A.pages.length c) vf A) {i : Nat} (hi : i < A.pages.length) {p : Option (List UInt8)} {u : Value} (hp : tPg.R (fun k => (ok k ∧ k ≠ a ∧ some k ≠ vf.ownBlock) ∧ some k ≠ some g) w p [u]) : ArR ok (w.setCell ⟨g, i, none⟩ u) a (.slice (some ⟨g, 0, none⟩) A.pages.length c) vf { A with pages := A.pages.set i p } := by
  have hga : a ≠ g := fun e => h.ne.1 (by rw [e]; rfl)
  refine ⟨(Below.heap_setCell _ ⟨g, i, none⟩ _ a hga).trans h.at', own1_set h.pages rfl hi hp, ?_, by simpa using h.np, by simpa using h.nf, h.oka, h.okp, h.okf⟩
  exact own_ints ((own_ints h.free (fun _ => False)).far (p := ⟨g, i, none⟩) (fun k hk e => h.apart g rfl (by rw [hk]; exact congrArg some e)) (fun k hk => hk.elim) u) (fun _ => True)

set_option maxHeartbeats 4000000 in
set_option maxRecDepth 100000 in
theorem allocCalls1 (a : Nat) (vp vf : Value) (A : Ar) (n : Int) (w : World) (h : ArR ok w a vp vf A) (hq : 0 ≤ A.quota ∧ A.quota ≤ 4096) (hl : 0 < A.left) (hf : A.free.getLast? = some n) (hn : 1 ≤ n ∧ n ≤ A.pages.length) (hok : ∀ k, w.heap.size ≤ k → ok k) :
    Calls Try.prog 44 #[.pointer (some ⟨a, 0, none⟩)] w fun e w' => ∃ vf', e = .returned (.tuple #[.int .i64 A.nextId, .int .i64 0]) ∧ ArR ok w' a vp vf' A.alloc ∧ vf'.ownBlock = vf.ownBlock ∧ Kps (arS a vp vf) w w' := by
  obtain ⟨m, hm⟩ : ∃ m, m + 1 = A.free.length := by
    cases hfl : A.free with
    | nil => rw [hfl] at hf; simp at hf
    | cons x l => exact ⟨l.length, by simp⟩
  have hfm : A.free[m]? = some n := by rw [← hf, List.getLast?_eq_getElem?, ← hm]; rfl
  obtain ⟨gf, cf, u, rfl, _, hgf, hcf, hcf2, z0, _, hu⟩ := own1_get h.free rfl hfm
  obtain rfl : u = .int .i64 n := by simpa [tInt] using hu
  obtain ⟨i, hi⟩ : ∃ i : Nat, n - 1 = i := ⟨(n - 1).toNat, by omega⟩
  have hil : i < A.pages.length := by omega
  obtain ⟨gp, cp, u2, rfl, _, hgp, hcp, hcp2, _, zf, hux⟩ := own1_get h.pages rfl (List.getElem?_eq_getElem hil)
  have LC := put (leftCalls a _ _ A w h hq)
  rw [← hm] at h hcf ⊢
  have HR := put h
  obtain ⟨x0, x1, x2⟩ := c3 h.at'
  obtain ⟨l, hl2⟩ : ∃ l, l = A.left := ⟨_, rfl⟩
  rw [← hl2] at LC hl
  have lz : (l == 0) = false := by simp; omega
  have y0 : ∀ n, (w.drewN n).cell? ⟨a, 0, none⟩ = some (.slice (some ⟨gp, 0, none⟩) A.pages.length cp) := fun n => x0
  have y1 : ∀ n, (w.drewN n).cell? ⟨a, 1, none⟩ = some (.slice (some ⟨gf, 0, none⟩) (m + 1) cf) := fun n => x1
  have y2 : ∀ n', (w.drewN n').cell? ⟨gf, m, none⟩ = some (.int .i64 n) := fun n => z0
  have yf : ∀ n, (w.drewN n).frozen? ⟨a, 1, none⟩ = false := fun k => by simp [World.frozen?, World.drewN, h.at']
  have hmz : ((m + 1 : Nat) : Int) - 1 = (m : Int) := by omega
  have hmz2 : (m : Int) + 1 - 1 = (m : Int) := by omega
  have hmn : (((m + 1 : Nat) : Int) == 0) = false := by simp; omega
  have hmn2 : ((m : Int) + 1 == 0) = false := by simp; omega
  have m0 : (0 : Int) ≤ (m : Int) := by omega
  have hm9 : (m : Int) ≤ 4096 := by have h1 := h.np; have h2 := h.nf; omega
  have HI := put (And.intro hi hil)
  have HM := put hm
  have HO := put hok
  have HF : Kp (A.nextId = n ∧ A.alloc = { A with pages := A.pages.set i (some zeroPg), free := A.free.dropLast }) := put (by
    have e : (n - 1).toNat = i := by omega
    constructor
    · unfold Ar.nextId; rw [hf]
    · unfold Ar.alloc; rw [hf]; simp only [e])
  clear h hm hok hl2 hf hfm hu hux x0 x1 x2 z0 hi hil zf
  go_enter Try.func44, Try.ntmps44
  go_wp2_with fail
  refine LC.out.mono ?_
  rintro e w2 ⟨rfl, q, rfl⟩
  go_wp2_with fail
  go_quiet (fail)
  go_wp2_with fail
  obtain ⟨w4, hw4⟩ : ∃ w4, w4 = (w.drewN q).drewN nq := ⟨_, rfl⟩
  have K4 : Kp (Kps (fun _ => False) w w4) := put (by rw [hw4]; exact ((Kps.refl _ w).drewN q).drewN nq)
  have R4 : Kp (ArR ok w4 a (.slice (some ⟨gp, 0, none⟩) A.pages.length cp) (.slice (some ⟨gf, 0, none⟩) (m + 1) cf) A) := put (by rw [hw4]; exact (HR.out.drewN q).drewN nq)
  have u1 : ∀ n, (w4.drewN n).cell? ⟨a, 1, none⟩ = some (.slice (some ⟨gf, 0, none⟩) (m + 1) cf) := fun n => (c3 R4.out.at').2.1
  have uf : ∀ n, (w4.drewN n).frozen? ⟨a, 1, none⟩ = false := fun k => by simp [World.frozen?, World.drewN, R4.out.at']
  have v1 : w4.cell? ⟨a, 1, none⟩ = some (.slice (some ⟨gf, 0, none⟩) (m + 1) cf) := u1 0
  have vf : w4.frozen? ⟨a, 1, none⟩ = false := uf 0
  rw [← hw4]
  clear hw4 y0 y1 y2 yf
  have wm : IntKind.i64.wrap (m : Int) = (m : Int) := IntWalk.i64_in _ (by omega)
  have hmc : (m : Int) ≤ (cf : Int) := by omega
  refine wp_region_noPanic ?_
  go_region_law (fail)
  all_goals
    refine NoPanic.normal ?_
    obtain ⟨w5, hw5⟩ : ∃ w5, w5 = (w4.setCell ⟨a, 1, none⟩ (.slice (some ⟨gf, 0, none⟩) m cf)).drew := ⟨_, rfl⟩
    have R5 : Kp (ArR ok w5 a (.slice (some ⟨gp, 0, none⟩) A.pages.length cp) (.slice (some ⟨gf, 0, none⟩) m cf) { A with free := A.free.dropLast }) := put (by rw [hw5]; exact (R4.out.cutFree HM.out).drewN 1)
    have K5 : Kp (Kps (arS a (.slice (some ⟨gp, 0, none⟩) A.pages.length cp) (.slice (some ⟨gf, 0, none⟩) (m + 1) cf)) w w5) := put (by rw [hw5]; exact ((K4.out.mono (fun _ h => h.elim)).set (Or.inl (Or.inl rfl)) 1 _).drewN 1)
    rw [← hw5]
    obtain ⟨p5, e5, q5⟩ := c3 R5.out.at'
    obtain ⟨w6, hw6⟩ : ∃ w6, w6 = w5.alloc (.cells Try.zeroCells103 103) := ⟨_, rfl⟩
    have hb6 : Below w5.heap.size w5 w6 := by rw [hw6]; exact balloc (Below.refl _ _) _
    have R6 := put (R5.out.below hb6)
    have K6 : Kp (Kps (arS a (.slice (some ⟨gp, 0, none⟩) A.pages.length cp) (.slice (some ⟨gf, 0, none⟩) (m + 1) cf)) w w6) := put (by rw [hw6]; exact K5.out.alloc _)
    have Z6 : Kp (w6.heap[w5.heap.size]? = some (.cells (pgCells zeroPg) 103 (0, 0))) := put (by rw [hw6, ← zero_pg]; exact heap_alloc_new w5 _)
    have S6 : Kp (w6.heap.size = w5.heap.size + 1) := put (by rw [hw6]; simp)
    have hgp6 : gp < w5.heap.size := (R5.out.pages.lt gp rfl).2
    obtain ⟨gx, cx, u6, ex, _, _, _, _, c6, f6, _⟩ := own1_get R5.out.pages rfl (List.getElem?_eq_getElem (show i < A.pages.length from HI.out.2))
    simp only [Value.slice.injEq, Option.some.injEq, Addr.mk.injEq, and_true, true_and] at ex
    obtain ⟨rfl, rfl⟩ := ex
    have hn1 := HI.out.1
    have hi1 : (i : Int) < (A.pages.length : Int) := by have := HI.out.2; omega
    have hi0 : (0 : Int) ≤ (i : Int) := by omega
    have hn9 := R5.out.np
    have PG : Kp (tPg.R (fun k => (ok k ∧ k ≠ a ∧ some k ≠ (Value.slice (some ⟨gf, 0, none⟩) m cf).ownBlock) ∧ some k ≠ some gp) w6 (some zeroPg) [.pointer (some ⟨w5.heap.size, 0, none⟩)]) := put ⟨w5.heap.size, rfl, ⟨⟨HO.out _ K5.out.size, fun e => by have h1 := (Array.getElem?_eq_some_iff.1 R5.out.at').1; omega, fun e => by have h1 := (R5.out.free.lt _ e.symm).2; omega⟩, fun e => by simp only [Option.some.injEq] at e; omega⟩, by have := S6.out; omega, Z6.out⟩
    clear hw5 u1 uf v1 vf wm hmc hb6 e5 q5 hcf hcf2 hgf hm9 m0 hmz hmz2 hmn hmn2
    go_wp2_with (first | rw [← hw6] | fail)
    have R7 := put (ArR.setPage (A := { A with free := A.free.dropLast }) R6.out HI.out.2 PG.out)
    have e7 : w6.setCell ⟨gp, i, none⟩ (.pointer (some ⟨w5.heap.size, 0, none⟩)) = (w5.setCell ⟨gp, i, none⟩ (.pointer (some ⟨w5.heap.size, 0, none⟩))).alloc (.cells Try.zeroCells103 103) := by rw [hw6]; exact World.setCell_alloc_past _ _ _ _ hgp6
    have K7 := put (K6.out.set (X := gp) (Or.inl (Or.inr (Or.inl rfl))) i (.pointer (some ⟨w5.heap.size, 0, none⟩)))
    go_ret2
    rw [e7] at R7 K7
    refine ⟨by rw [HF.out.1]; rfl, .slice (some ⟨gf, 0, none⟩) m cf, ?_, rfl, K7.out⟩
    rw [HF.out.2]; exact R7.out

/-- An arena: all its blocks are ok. -/
def ArX (ok : Nat → Prop) (w : World) (a : Nat) (A : Ar) : Prop := ∃ vp vf, ArR ok w a vp vf A
/-- The quota may be; the numbers given back are pages' that aren't there, each once, and all such. -/
structure Ar.Ok (A : Ar) : Prop where
  q : 0 ≤ A.quota ∧ A.quota ≤ 4096
  free : ∀ n ∈ A.free, 1 ≤ n ∧ n ≤ A.pages.length ∧ A.pages[(n - 1).toNat]? = some none
  nd : A.free.Nodup

theorem allocCalls (a : Nat) (A : Ar) (w : World) (h : ArX ok w a A) (hA : A.Ok) (hl : 0 < A.left) (hok : ∀ k, w.heap.size ≤ k → ok k) :
    Calls Try.prog 44 #[.pointer (some ⟨a, 0, none⟩)] w fun e w' => e = .returned (.tuple #[.int .i64 A.nextId, .int .i64 0]) ∧ ArX ok w' a A.alloc ∧ Kps ok w w' := by
  obtain ⟨vp, vf, h⟩ := h
  have hS : ∀ k, arS a vp vf k → ok k := fun k hk => by
    rcases hk with rfl | hk | hk
    · exact h.oka
    · exact h.okp k hk
    · exact h.okf k hk
  by_cases hf : A.free = []
  · exact (allocCalls0 a vp vf A w h hA.q hl hf hok).mono fun e w' ⟨vp', h1, h2, h3⟩ => ⟨h1, ⟨vp', vf, h2⟩, h3.mono hS⟩
  · obtain ⟨n, hn⟩ : ∃ n, A.free.getLast? = some n := ⟨_, List.getLast?_eq_some_getLast hf⟩
    have hm := hA.free n (List.mem_of_getLast? hn)
    exact (allocCalls1 a vp vf A n w h hA.q hl hn ⟨hm.1, hm.2.1⟩ hok).mono fun e w' ⟨vf', h1, h2, _, h3⟩ => ⟨h1, ⟨vp, vf', h2⟩, h3.mono hS⟩
end Go.Proofs.Ytcpahknlabnnbaa.T

namespace Go.Proofs.Ytcpahknlabnnbaa.T
open Go Go.RowKit Go.Sort Go.Proofs.Ytcpahknlabnnbaa.Mem
variable {ok : Nat → Prop}

theorem infoInt : (Try.prog.info? 3).map (fun i => (i.zero, i.size, i.bytes)) = some (some (.int .i64 0), (tInt .i64).sz, 8) := by kernel_rfl
/-- Page i given back. -/
def Ar.give (A : Ar) (i : Nat) : Ar := { A with pages := A.pages.set i none, free := A.free ++ [(i : Int) + 1] }

set_option maxHeartbeats 4000000 in
set_option maxRecDepth 100000 in
theorem freeCalls0 (a : Nat) (vp vf : Value) (A : Ar) (i : Nat) (bs : List UInt8) (w : World) (h : ArR ok w a vp vf A) (hx : A.pages[i]? = some (some bs)) (hfl : A.free.length + 1 ≤ A.pages.length) (hok : ∀ k, w.heap.size ≤ k → ok k) :
    Calls Try.prog 42 #[.pointer (some ⟨a, 0, none⟩), .int .i64 ((i : Int) + 1)] w fun e w' => ∃ vf', e = .returned (.int .i64 0) ∧ ArR ok w' a vp vf' (A.give i) ∧ Kps ok w w' := by
  have IC := put (isCalls a vp vf A i bs w h hx)
  have hil : i < A.pages.length := (List.getElem?_eq_some_iff.1 hx).1
  obtain ⟨gp, cp, u, rfl, _, hgp, hcp, hcp2, z0, zf, hux⟩ := own1_get h.pages rfl hx
  obtain ⟨Af, cf, rfl, f1, f2⟩ := h.free.form
  have HR := put h
  have HI := put hil
  have HO := put hok
  have HFL := put hfl
  have hnp := h.np
  obtain ⟨x0, x1, x2⟩ := c3 h.at'
  have e1 : (i : Int) + 1 - 1 = (i : Int) := by omega
  have e4 : (0 : Int) ≤ (i : Int) := by omega
  have e5 : (i : Int) < (A.pages.length : Int) := by omega
  have R3 : Kp (ArR ok (w.setCell ⟨gp, i, none⟩ (.pointer none)) a (.slice (some ⟨gp, 0, none⟩) A.pages.length cp) (.slice Af A.free.length cf) { A with pages := A.pages.set i none }) := put (h.setPage hil rfl)
  have K3 : Kp (Kps ok w (w.setCell ⟨gp, i, none⟩ (.pointer none))) := put (Kps.set (Kps.refl _ w) (Or.inl (h.okp gp rfl)) i _)
  clear h hx hux hil hok hfl
  go_enter Try.func42, Try.ntmps42
  go_wp2_with fail
  refine IC.out.mono ?_
  rintro e w2 ⟨rfl, rfl⟩
  obtain ⟨y0, y1, y2⟩ := c3 R3.out.at'
  obtain ⟨w3, hw3⟩ : ∃ w3, w3 = w2.setCell ⟨gp, i, none⟩ (.pointer none) := ⟨_, rfl⟩
  have HW3 := put hw3
  have S3 : Kp (w3.heap.size = w2.heap.size) := put (by rw [hw3]; exact World.size_setCell _ _ _)
  rw [← hw3] at R3 K3
  have hA3 := R3.out.at'
  have HA3 : Kp (w3.heap[a]? = some (.cells #[.slice (some ⟨gp, 0, none⟩) A.pages.length cp, .slice Af A.free.length cf, .int .i64 A.quota] 60 (0, 0)) ∧ a < w3.heap.size ∧ some a ≠ (Value.slice Af A.free.length cf).ownBlock) := put ⟨hA3, (Array.getElem?_eq_some_iff.1 hA3).1, R3.out.ne.2⟩
  have hbd : A.free.length + 1 ≤ 4096 := by have := HFL.out; omega
  clear hw3 hA3 x1 x2
  go_wp2_with (at_builtin; rw [← HW3.out]; refine wpList_push (W := w3) (tInt .i64) 0 rfl _ _ 53 3 _ 8 rfl Try.underlying53 infoInt rfl (by decide) (by decide) (.slice Af A.free.length cf) A.free ((i : Int) + 1) [.int .i64 ((i : Int) + 1)] (fun _ => True) rfl (by rw [S3.out]; try rfl) rfl R3.out.free (Nat.zero_le _) (by omega) ?_; intro v1 w9 hown hg hat; obtain ⟨A9, c9, e9, _, _⟩ := hown.form; rw [show (A.free ++ [(i : Int) + 1]).length = A.free.length + 1 by simp] at e9; subst e9; have h9 : w9.heap[a]? = some (.cells #[.slice (some ⟨gp, 0, none⟩) A.pages.length cp, .slice Af A.free.length cf, .int .i64 A.quota] 60 (0, 0)) := (hg.block a HA3.out.2.1 HA3.out.2.2).trans HA3.out.1; have g0 := (c3 h9).2.1; have g0f : w9.frozen? ⟨a, 1, none⟩ = false := (by simp [World.frozen?, h9]); have H9 := put h9; have HOWN := put hown; have HAT := put hat; have HG9 := put hg; clear h9 hown hg hat x0 y0 y1 y2 zf z0)
  have HFIN : Kp (ArR ok (w9.setCell ⟨a, 1, none⟩ (.slice A9 (A.free.length + 1) c9)) a (.slice (some ⟨gp, 0, none⟩) A.pages.length cp) (.slice A9 (A.free.length + 1) c9) (A.give i)) := put (by
    have hne1 : some a ≠ (Value.slice A9 (A.free.length + 1) c9).ownBlock := HOWN.out.ne_block H9.out (by decide)
    have hap : ∀ k, (Value.slice (some ⟨gp, 0, none⟩) A.pages.length cp).ownBlock = some k → ¬ (Value.slice A9 (A.free.length + 1) c9).ownBlock = some k := by
      intro k hk hf
      rcases HAT.out with e | ⟨b, e, hb⟩
      · rw [e] at hf; exact R3.out.apart k hk hf
      · rw [e] at hf
        have e1 := Option.some.inj hf
        have e2 := (R3.out.pages.lt k hk).2
        omega
    have hpg : Own tPg 102 (fun k => (ok k ∧ k ≠ a ∧ some k ≠ (Value.slice Af A.free.length cf).ownBlock) ∧ k < w3.heap.size) w3 0 (.slice (some ⟨gp, 0, none⟩) A.pages.length cp) (A.pages.set i none) := by
      obtain ⟨cells, hl, ho, hr⟩ := R3.out.pages
      exact ⟨cells, hl, ho, fun j x c hx hc => tPg.mono (fun k hk => ⟨⟨hk.1.1, hk.2⟩, hk.1.2⟩) (tPg.bnd (hr j x c hx hc))⟩
    refine ⟨by simp [World.setCell, Array.getElem?_modify, H9.out, Ar.give], ?_, own_ints ((own_ints HOWN.out (fun _ => False)).far (p := ⟨a, 1, none⟩) (fun k hk e => hne1 (by rw [hk]; exact congrArg some e.symm)) (fun k hk => hk.elim) _) _, by simpa [Ar.give] using R3.out.np, by simpa [Ar.give] using HFL.out, R3.out.oka, R3.out.okp, ?_⟩
    · have h1 : Own tPg 102 (fun k => (ok k ∧ k ≠ a ∧ some k ≠ (Value.slice Af A.free.length cf).ownBlock) ∧ k < w3.heap.size) w9 0 (.slice (some ⟨gp, 0, none⟩) A.pages.length cp) (A.pages.set i none) := hpg.move (fun k hk => HG9.out.block k (R3.out.pages.lt k hk).2 (fun e => R3.out.apart k hk e.symm)) (fun k hk _ _ => HG9.out.block k hk.2 hk.1.2.2)
      have h2 := h1.far (p := ⟨a, 1, none⟩) (fun k hk e => R3.out.ne.1 (by rw [hk]; exact congrArg some e.symm)) (fun k hk => hk.1.2.1) (.slice A9 (A.free.length + 1) c9)
      refine h2.mono fun k hk => ⟨hk.1.1, hk.1.2.1, ?_⟩
      rcases HAT.out with e | ⟨b, e, hb⟩
      · rw [e]; exact hk.1.2.2
      · rw [e]; intro e2; have := Option.some.inj e2; have := hk.2; omega
    · intro k hk
      rcases HAT.out with e | ⟨b, e, hb⟩
      · exact R3.out.okf k (by rw [← e]; exact hk)
      · rw [e] at hk
        have e3 := Option.some.inj hk
        exact HO.out k (by have := K3.out.size; omega))
  have HKP : Kp (Kps ok w2 (w9.setCell ⟨a, 1, none⟩ (.slice A9 (A.free.length + 1) c9))) := put (Kps.set (X := a) (K3.out.trans ⟨HG9.out.os, HG9.out.tape, HG9.out.output, HG9.out.size, fun k hk hs => HG9.out.block k hk (fun e => hs (R3.out.okf k e.symm))⟩) (Or.inl R3.out.oka) 1 _)
  go_ret
  exact ⟨.slice A9 (A.free.length + 1) c9, rfl, HFIN.out, HKP.out⟩
/-- As many numbers were given back as there are pages that aren't there. -/
theorem nodup_le : ∀ (m : Nat) (l : List Int), l.Nodup → (∀ n ∈ l, 1 ≤ n ∧ n ≤ (m : Int)) → l.length ≤ m
  | 0, [], _, _ => Nat.le_refl _
  | 0, n :: l, _, h => by have := h n List.mem_cons_self; omega
  | m + 1, l, hd, h => by
    have h1 := nodup_le m (l.erase ((m : Int) + 1)) (hd.erase _) (fun n hn => by
      have h2 := h n (List.mem_of_mem_erase hn)
      have h3 : n ≠ (m : Int) + 1 := ((List.Nodup.mem_erase_iff hd).1 hn).1
      omega)
    have h2 := List.length_erase (a := (m : Int) + 1) (l := l)
    split at h2 <;> omega
theorem Ar.Ok.room {A : Ar} (h : A.Ok) {i : Nat} {bs : List UInt8} (hx : A.pages[i]? = some (some bs)) : A.free.length + 1 ≤ A.pages.length := by
  have hi := (List.getElem?_eq_some_iff.1 hx).1
  refine nodup_le A.pages.length (((i : Int) + 1) :: A.free) (List.nodup_cons.2 ⟨fun hm => ?_, h.nd⟩) (fun n hn => ?_)
  · have := (h.free _ hm).2.2
    rw [show ((i : Int) + 1 - 1).toNat = i by omega, hx] at this
    cases this
  · rcases List.mem_cons.1 hn with rfl | hn
    · omega
    · exact ⟨(h.free _ hn).1, (h.free _ hn).2.1⟩
theorem freeCalls (a : Nat) (A : Ar) (i : Nat) (bs : List UInt8) (w : World) (h : ArX ok w a A) (hA : A.Ok) (hx : A.pages[i]? = some (some bs)) (hok : ∀ k, w.heap.size ≤ k → ok k) :
    Calls Try.prog 42 #[.pointer (some ⟨a, 0, none⟩), .int .i64 ((i : Int) + 1)] w fun e w' => e = .returned (.int .i64 0) ∧ ArX ok w' a (A.give i) ∧ Kps ok w w' := by
  obtain ⟨vp, vf, h⟩ := h
  exact (freeCalls0 a vp vf A i bs w h hx (hA.room hx) hok).mono fun e w' ⟨vf', h1, h2, h3⟩ => ⟨h1, ⟨vp, vf', h2⟩, h3⟩
end Go.Proofs.Ytcpahknlabnnbaa.T

namespace Go.Proofs.Ytcpahknlabnnbaa.T
open Go Go.RowKit Go.Sort Go.Proofs.Ytcpahknlabnnbaa.Mem
variable {ok : Nat → Prop}

/-- Page i is another one. -/
def Ar.put (A : Ar) (i : Nat) (bs : List UInt8) : Ar := { A with pages := A.pages.set i (some bs) }

theorem u103 : Try.prog.underlying 103 = some (.array 1024 5) := by kernel_rfl
theorem z103 : (Try.prog.info? 103).map (·.size) = some 1024 := by kernel_rfl
theorem pg_size (bs : List UInt8) : (pgCells bs).size = bs.length := by unfold pgCells; simp
theorem pg_one (bs : List UInt8) : (pgCells bs).all (·.oneCell') = true := by
  unfold pgCells
  rw [Array.all_eq_true_iff_forall_mem]
  intro v hv
  simp only [List.mem_toArray, List.mem_map] at hv
  obtain ⟨x, _, rfl⟩ := hv
  rfl
theorem run_arrayAt (b : Nat) (w : World) : (Instr.arrayAt 103 (.slice (some ⟨b, 0, none⟩) 1024 1024)).run Try.prog w = .ok (.pointer (some ⟨b, 0, none⟩)) w := by
  simp [Instr.arrayAt, underlying, Result.andThen]
theorem wpList_arrayAt {ops : Array Oper} {rest : List Oper} {o : Oper} {a : Act} {w : World} {Q : Exit → Act → World → Prop} (hgd : o.guard = none) (x : Operand) (ho : o.op = .sliceToArrayPointer 103 x) (b : Nat) (hx : a.eval x = .slice (some ⟨b, 0, none⟩) 1024 1024)
    (h : wpList Try.prog ops Q rest (a.put o.dst (.pointer (some ⟨b, 0, none⟩))) w) : wpList Try.prog ops Q (o :: rest) a w := by
  refine wpList_plain hgd fun K hK => ?_
  unfold Oper.wp
  simp only [execOp, ho, hx, run_arrayAt, Sem.run_bind, Sem.run_pure, Result.andThen]
  exact hK _ _ h
theorem wpList_loadPg {ops : Array Oper} {rest : List Oper} {o : Oper} {a : Act} {w : World} {Q : Exit → Act → World → Prop} (hgd : o.guard = none) (x : Operand) (ho : o.op = .load 103 x) (b : Nat) (hx : a.eval x = .pointer (some ⟨b, 0, none⟩)) (t : TypeId) (bs : List UInt8) (hb : w.heap[b]? = some (.cells (pgCells bs) t (0, 0))) (hbs : bs.length = 1024)
    (h : wpList Try.prog ops Q rest (a.put o.dst (.agg (pgCells bs))) w) : wpList Try.prog ops Q (o :: rest) a w :=
  wpList_load_row hgd _ x ho b hx t _ (0, 0) _ hb u103 rfl (by rw [z103, pg_size, hbs]) h
theorem wpList_storePg {ops : Array Oper} {rest : List Oper} {o : Oper} {a : Act} {w : World} {Q : Exit → Act → World → Prop} (hgd : o.guard = none) (x y : Operand) (ho : o.op = .store 103 x y) (bs : List UInt8) (hx : a.eval x = .pointer (some ⟨w.heap.size, 0, none⟩)) (hy : a.eval y = .agg (pgCells bs)) (hbs : bs.length = 1024)
    (h : wpList Try.prog ops Q rest (a.put o.dst undef) (w.alloc (.cells (pgCells bs) 103))) : wpList Try.prog ops Q (o :: rest) a (w.alloc (.cells Try.zeroCells103 103)) := by
  rw [zero_pg]
  refine wpList_store_row hgd _ x y ho w.heap.size (pgCells bs) hx hy 103 (pgCells zeroPg) (heap_alloc_new _ _) (by rw [z103, pg_size, hbs]) (by rw [pg_size, pg_size, hbs, zeroPg, List.length_replicate]) (pg_one bs) ?_
  rw [World.setRow_alloc_new]
  exact h

set_option maxHeartbeats 4000000 in
set_option maxRecDepth 100000 in
theorem storeCalls0 (a : Nat) (vp vf : Value) (A : Ar) (i b : Nat) (old bs : List UInt8) (w : World) (h : ArR ok w a vp vf A) (hx : A.pages[i]? = some (some old)) (hb : w.heap[b]? = some (.cells (pgCells bs) 5 (0, 0))) (hbs : bs.length = 1024) (hok : ∀ k, w.heap.size ≤ k → ok k) :
    Calls Try.prog 63 #[.pointer (some ⟨a, 0, none⟩), .int .i64 ((i : Int) + 1), .slice (some ⟨b, 0, none⟩) 1024 1024] w fun e w' => e = .returned (.int .i64 0) ∧ ArR ok w' a vp vf (A.put i bs) ∧ Kps ok w w' := by
  have IC := put (isCalls a vp vf A i old w h hx)
  have hil : i < A.pages.length := (List.getElem?_eq_some_iff.1 hx).1
  obtain ⟨gp, cp, u, rfl, _, hgp, hcp, hcp2, z0, zf, hux⟩ := own1_get h.pages rfl hx
  have HR := Mem.put h
  have HI := Mem.put hil
  have HO := Mem.put hok
  have HB := Mem.put hb
  have hnp := h.np
  obtain ⟨x0, x1, x2⟩ := c3 h.at'
  have e1 : (i : Int) + 1 - 1 = (i : Int) := by omega
  have e4 : (0 : Int) ≤ (i : Int) := by omega
  have e5 : (i : Int) < (A.pages.length : Int) := by omega
  clear h hx hux hil hok hb
  have HBS := Mem.put hbs
  clear hbs
  go_enter Try.func63, Try.ntmps63
  go_wp2_with fail
  refine IC.out.mono ?_
  rintro e w2 ⟨rfl, rfl⟩
  obtain ⟨w6, hw6⟩ : ∃ w6, w6 = w2.alloc (.cells (pgCells bs) 103) := ⟨_, rfl⟩
  have hb6 : Below w2.heap.size w2 w6 := by rw [hw6]; exact balloc (Below.refl _ _) _
  have R6 := Mem.put (HR.out.below hb6)
  have K6 : Kp (Kps ok w2 w6) := Mem.put (by rw [hw6]; exact (Kps.refl ok w2).alloc _)
  have Z6 : Kp (w6.heap[w2.heap.size]? = some (.cells (pgCells bs) 103 (0, 0))) := Mem.put (by rw [hw6]; exact heap_alloc_new w2 _)
  have S6 : Kp (w6.heap.size = w2.heap.size + 1) := Mem.put (by rw [hw6]; simp)
  have PG : Kp (tPg.R (fun k => (ok k ∧ k ≠ a ∧ some k ≠ vf.ownBlock) ∧ some k ≠ some gp) w6 (some bs) [.pointer (some ⟨w2.heap.size, 0, none⟩)]) := Mem.put ⟨w2.heap.size, rfl, ⟨⟨HO.out _ (Nat.le_refl _), fun e => by have h1 := (Array.getElem?_eq_some_iff.1 HR.out.at').1; omega, fun e => by have h1 := (HR.out.free.lt _ e.symm).2; omega⟩, fun e => by simp only [Option.some.injEq] at e; omega⟩, by have := S6.out; omega, Z6.out⟩
  have HE : Kp (w6.setCell ⟨gp, i, none⟩ (.pointer (some ⟨w2.heap.size, 0, none⟩)) = (w2.setCell ⟨gp, i, none⟩ (.pointer (some ⟨w2.heap.size, 0, none⟩))).alloc (.cells (pgCells bs) 103)) := Mem.put (by rw [hw6]; exact World.setCell_alloc_past _ _ _ _ hgp)
  have ha2 := (Array.getElem?_eq_some_iff.1 HR.out.at').1
  clear hw6 hb6
  go_wp2_with (first | (refine wpList_arrayAt rfl _ rfl b rfl ?_) | (refine wpList_loadPg rfl _ rfl b rfl _ bs HB.out HBS.out ?_) | (refine wpList_storePg (w := w2) rfl _ _ rfl bs rfl rfl HBS.out ?_))
  have R7 := Mem.put (ArR.setPage R6.out HI.out PG.out)
  have K7 := Mem.put (K6.out.set (X := gp) (Or.inl (HR.out.okp gp rfl)) i (.pointer (some ⟨w2.heap.size, 0, none⟩)))
  rw [HE.out] at R7 K7
  go_ret
  exact ⟨rfl, R7.out, K7.out⟩
theorem storeCalls (a : Nat) (A : Ar) (i b : Nat) (old bs : List UInt8) (w : World) (h : ArX ok w a A) (hx : A.pages[i]? = some (some old)) (hb : w.heap[b]? = some (.cells (pgCells bs) 5 (0, 0))) (hbs : bs.length = 1024) (hok : ∀ k, w.heap.size ≤ k → ok k) :
    Calls Try.prog 63 #[.pointer (some ⟨a, 0, none⟩), .int .i64 ((i : Int) + 1), .slice (some ⟨b, 0, none⟩) 1024 1024] w fun e w' => e = .returned (.int .i64 0) ∧ ArX ok w' a (A.put i bs) ∧ Kps ok w w' := by
  obtain ⟨vp, vf, h⟩ := h
  exact (storeCalls0 a vp vf A i b old bs w h hx hb hbs hok).mono fun e w' ⟨h1, h2, h3⟩ => ⟨h1, ⟨vp, vf, h2⟩, h3⟩
end Go.Proofs.Ytcpahknlabnnbaa.T

namespace Go.Proofs.Ytcpahknlabnnbaa.T
open Go Go.RowKit Go.Sort Go.Proofs.Ytcpahknlabnnbaa.Mem

theorem own_enc {α : Type} {d : Ty α} {E base : Nat} {ok : Nat → Prop} {w : World} {v : Value} {xs : List α} (enc : α → Value) (hd : ∀ ok w x cs, d.R ok w x cs ↔ cs = [enc x]) (hs : d.sz = 1) : Own d E ok w base v xs ↔ w.ownsRow base E 1 v xs.length (xs.map enc) := by
  constructor
  · rintro ⟨cells, hl, ho, hr⟩
    have e : cells.flatten = xs.map enc := by
      have : cells = xs.map fun x => [enc x] := by
        apply List.ext_getElem (by simp [hl])
        intro i h1 h2
        simp only [List.getElem_map]
        exact (hd _ _ _ _).1 (hr i _ _ (List.getElem?_eq_getElem (by omega)) (List.getElem?_eq_getElem h1))
      rw [this]
      clear this hr ho hl
      induction xs with
      | nil => rfl
      | cons x xs ih => simp only [List.map_cons, List.flatten_cons, List.singleton_append, List.cons.injEq, true_and]; exact ih
    rw [e, hs] at ho
    exact ho
  · intro h
    refine ⟨xs.map fun x => [enc x], by simp, ?_, fun i x c hx hc => ?_⟩
    · have e : (xs.map fun x => [enc x]).flatten = xs.map enc := by
        clear h
        induction xs with
        | nil => rfl
        | cons x xs ih => simp only [List.map_cons, List.flatten_cons, List.singleton_append, List.cons.injEq, true_and]; exact ih
      rw [e, hs]; exact h
    · rw [List.getElem?_map, hx] at hc
      exact (hd _ _ _ _).2 (Option.some.inj hc).symm
theorem strD : ∀ (ok : Nat → Prop) (w : World) (x : ByteArray) (cs : List Value), tStr.R ok w x cs ↔ cs = [.string x] := fun _ _ _ _ => Iff.rfl
theorem intD : ∀ (ok : Nat → Prop) (w : World) (x : Int) (cs : List Value), (tInt .i64).R ok w x cs ↔ cs = [.int .i64 x] := fun _ _ _ _ => Iff.rfl
theorem setCell_heap {w : World} {b : Nat} {cur : Array Value} {E : TypeId} {fr : Nat × Nat} (h : w.heap[b]? = some (.cells cur E fr)) (o : Nat) (v : Value) : (w.setCell ⟨b, o, none⟩ v).heap[b]? = some (.cells (cur.setIfInBounds o v) E fr) := by
  simp [World.setCell, Array.getElem?_modify, h]
theorem setCells_heap {b : Nat} {E : TypeId} {fr : Nat × Nat} : ∀ (vs : List Value) (o : Nat) (w : World) (cur : Array Value), w.heap[b]? = some (.cells cur E fr) → o + vs.length ≤ cur.size → ∃ cur', (w.setCells b o vs).heap[b]? = some (.cells cur' E fr) ∧ cur'.size = cur.size ∧ cur'.toList = cur.toList.take o ++ (vs ++ cur.toList.drop (o + vs.length))
  | [], o, w, cur, h, _ => ⟨cur, h, rfl, by simp⟩
  | v :: vs, o, w, cur, h, ho => by
    have ho' : o + 1 + vs.length ≤ cur.size := by simp only [List.length_cons] at ho; omega
    obtain ⟨c', h1, h2, h3⟩ := setCells_heap vs (o + 1) (w.setCell ⟨b, o, none⟩ v) (cur.setIfInBounds o v) (setCell_heap h o v) (by rw [Array.size_setIfInBounds]; exact ho')
    refine ⟨c', h1, by rw [h2, Array.size_setIfInBounds], ?_⟩
    rw [h3, Array.toList_setIfInBounds]
    have hol : o < cur.toList.length := by rw [Array.length_toList]; omega
    rw [List.take_succ_eq_append_getElem (by rw [List.length_set]; exact hol), List.getElem_set_self, List.take_set_of_le (Nat.le_refl o), List.append_assoc]
    congr 1
    rw [List.singleton_append, List.cons_append, List.drop_set_of_lt (by omega)]
    simp only [List.length_cons]
    rw [show o + 1 + vs.length = o + (vs.length + 1) by omega]
theorem Kps.setCells {S : Nat → Prop} {w : World} {X : Nat} (hX : S X ∨ w.heap.size ≤ X) : ∀ (vs : List Value) (o : Nat) (w' : World), Kps S w w' → Kps S w (w'.setCells X o vs)
  | [], _, _, h => h
  | v :: vs, o, _, h => Kps.setCells hX vs (o + 1) _ (h.set hX o v)
theorem Kps.drew {S : Nat → Prop} {w w' : World} (h : Kps S w w') : Kps S w w'.drew := ⟨h.os, h.tape, h.output, h.size, h.block⟩
theorem own_case {w : World} {base E n : Nat} {v : Value} {cs : List Value} (h : w.ownsRow base E 1 v n cs) : (v = .slice none 0 0 ∧ n = 0 ∧ cs = []) ∨ ∃ g cap cur, v = .slice (some ⟨g, 0, none⟩) n cap ∧ base ≤ g ∧ g < w.heap.size ∧ w.heap[g]? = some (.cells cur E (0, 0)) ∧ n ≤ cap ∧ cap ≤ maxLen ∧ cur.size = cap ∧ cur.toList.take n = cs ∧ cs.length = n := by
  obtain ⟨h1, h2⟩ := h
  rw [Nat.mul_one] at h1
  rcases h2 with ⟨rfl, rfl⟩ | ⟨g, cap, cur, rfl, hg, hh, hc, hm, hs, ht⟩
  · exact .inl ⟨rfl, rfl, List.eq_nil_of_length_eq_zero h1⟩
  · rw [Nat.mul_one] at hs ht
    exact .inr ⟨g, cap, cur, rfl, hg, (Array.getElem?_eq_some_iff.1 hh).1, hh, hc, hm, hs, ht, h1⟩
theorem row_cells {w : World} {g E : Nat} {cur : Array Value} {n : Nat} {cs : List Value} (h : w.heap[g]? = some (.cells cur E (0, 0))) (ht : cur.toList.take n = cs) : ∀ j v, cs[j]? = some v → w.cell? ⟨g, 0 + j, none⟩ = some v := by
  intro j v hj
  rw [← ht, List.getElem?_take] at hj
  split at hj
  · rw [Nat.zero_add, cell_of_row _ _ _ _ _ _ h]; simpa using hj
  · cases hj
theorem row_some {w : World} {g E : Nat} {cur : Array Value} (h : w.heap[g]? = some (.cells cur E (0, 0))) (j : Nat) (hj : j < cur.size) : (w.cell? ⟨g, 0 + j, none⟩).isSome = true ∧ w.frozen? ⟨g, 0 + j, none⟩ = false := by
  rw [Nat.zero_add, cell_of_row _ _ _ _ _ _ h]
  refine ⟨by rw [Array.getElem?_eq_getElem hj]; rfl, by simp [World.frozen?, h]⟩
/-- What an insertion does to a row's block. -/
theorem shift_list {cur cur1 cur2 : List Value} {cs vs : List Value} {i n m : Nat} (hn : n + m ≤ cur.length) (ht : cur.take n = cs) (hcl : cs.length = n) (hi : i ≤ n) (hv : vs.length = m)
    (h1 : cur1 = cur.take (i + m) ++ (cs.drop i ++ cur.drop (i + m + (cs.drop i).length))) (h2 : cur2 = cur1.take i ++ (vs ++ cur1.drop (i + vs.length))) : cur2.take (n + m) = cs.take i ++ (vs ++ cs.drop i) := by
  have hdl : (cs.drop i).length = n - i := by rw [List.length_drop, hcl]
  have e1 : cur1.take i = cs.take i := by
    rw [h1, List.take_append_of_le_length (by rw [List.length_take]; omega), List.take_take, Nat.min_eq_left (by omega), ← ht, List.take_take, Nat.min_eq_left hi]
  have e2 : cur1.drop (i + m) = cs.drop i ++ cur.drop (i + m + (n - i)) := by
    rw [h1, hdl, List.drop_append_of_le_length (by rw [List.length_take]; omega), List.drop_eq_nil_of_le (by rw [List.length_take]; omega), List.nil_append]
  have e3 : cur2 = (cs.take i ++ (vs ++ cs.drop i)) ++ cur.drop (i + m + (n - i)) := by rw [h2, hv, e1, e2]; simp only [List.append_assoc]
  have e4 : (cs.take i ++ (vs ++ cs.drop i)).length = n + m := by simp only [List.length_append, List.length_take, hdl, hv, hcl]; omega
  rw [e3, List.take_append_of_le_length (by omega), List.take_of_length_le (by omega)]
theorem grow_list {X c1 c2 P q vs : List Value} {i n m : Nat} (hP : X.take i = P) (hPl : P.length = i) (hq : q.length = n - i) (hi : i ≤ n) (hv : vs.length = m)
    (h1 : c1 = X.take i ++ (vs ++ X.drop (i + vs.length))) (h2 : c2 = c1.take (i + m) ++ (q ++ c1.drop (i + m + q.length))) : c2.take (n + m) = P ++ (vs ++ q) := by
  have e1 : c1.take (i + m) = P ++ vs := by
    rw [h1, hP, ← List.append_assoc, List.take_append_of_le_length (by rw [List.length_append]; omega), List.take_of_length_le (by rw [List.length_append]; omega)]
  have e3 : c2 = (P ++ (vs ++ q)) ++ c1.drop (i + m + q.length) := by rw [h2, e1]; simp only [List.append_assoc]
  have e4 : (P ++ (vs ++ q)).length = n + m := by simp only [List.length_append]; omega
  rw [e3, List.take_append_of_le_length (by omega), List.take_of_length_le (by omega)]
theorem mxl : maxLen = 9223372036854775807 := rfl
theorem grown_own {w' : World} {E : TypeId} {base n cap g : Nat} {xs : List Value} (hb : base ≤ g) (h : ∃ cur : Array Value, w'.heap[g]? = some (.cells cur E (0, 0)) ∧ cur.size = cap ∧ cur.toList.take n = xs) (hn : n ≤ cap) (hc : cap ≤ maxLen) (hl : xs.length = n) : w'.ownsRow base E 1 (.slice (some ⟨g, 0, none⟩) n cap) n xs := by
  obtain ⟨cur, h1, h2, h3⟩ := h
  exact ⟨by rw [Nat.mul_one]; exact hl, .inr ⟨g, cap, cur, rfl, hb, h1, hn, hc, by rw [Nat.mul_one]; exact h2, by rw [Nat.mul_one]; exact h3⟩⟩

set_option maxHeartbeats 1000000 in
/-- slices.Insert of one element. -/
theorem insS (base i vb : Nat) (v : Value) (xs : List ByteArray) (x : ByteArray) (okx : Nat → Prop) (w : World) (h : Own tStr 9 okx w base v xs) (hi : i ≤ xs.length) (hvb : w.heap[vb]? = some (.cells #[Value.string x] 9 (0, 0))) (hne : some vb ≠ v.ownBlock) (hb : base ≤ w.heap.size) (hbig : xs.length ≤ 1000000) :
    Calls Try.prog 51 #[v, .int .i64 i, .slice (some ⟨vb, 0, none⟩) 1 1] w fun e w' => ∃ v', e = .returned v' ∧ Own tStr 9 okx w' base v' (xs.take i ++ x :: xs.drop i) ∧ Kps (fun k => v.ownBlock = some k) w w' ∧ (v'.ownBlock = v.ownBlock ∨ ∃ b, v'.ownBlock = some b ∧ w.heap.size ≤ b) := by
  rw [own_enc Value.string strD rfl] at h
  have hvs : ∀ j u, [Value.string x][j]? = some u → w.cell? ⟨vb, 0 + j, none⟩ = some u := fun j u hj => by
    rw [Nat.zero_add, cell_of_row _ _ _ _ _ _ hvb]; simpa using hj
  have h1v : ∀ u ∈ [Value.string x], u.oneCell' = true := fun u hu => by rw [List.mem_singleton.1 hu]; rfl
  have h1c : ∀ u ∈ xs.map Value.string, u.oneCell' = true := fun u hu => by obtain ⟨y, _, rfl⟩ := List.mem_map.1 hu; rfl
  have hfin : ∀ (v' : Value) (w' : World), w'.ownsRow base 9 1 v' (xs.length + 1) ((xs.map Value.string).take i ++ ([Value.string x] ++ (xs.map Value.string).drop i)) → Own tStr 9 okx w' base v' (xs.take i ++ x :: xs.drop i) := fun v' w' hh => by
    rw [own_enc Value.string strD rfl]
    have e1 : (xs.take i ++ x :: xs.drop i).length = xs.length + 1 := by simp only [List.length_append, List.length_cons, List.length_take, List.length_drop]; omega
    have e2 : (xs.take i ++ x :: xs.drop i).map Value.string = (xs.map Value.string).take i ++ ([Value.string x] ++ (xs.map Value.string).drop i) := by simp [List.map_take, List.map_drop]
    rw [e1, e2]; exact hh
  rcases own_case h with ⟨rfl, hn, hcs⟩ | ⟨g, cap, cur, rfl, hg, hgl, hh, hnc, hcm, hcs, htk, hcl⟩
  · have hi0 : i = 0 := by omega
    subst hi0
    have hx0 : xs = [] := List.eq_nil_of_length_eq_zero hn
    subst hx0
    refine (Any2.slices_Insert_string_end_grow Try.lInsS none 0 0 vb 0 1 1 [] [Value.string x] w (by omega) (by omega) (by omega) (by omega) rfl rfl (fun _ => rfl) (fun a ha => by cases ha) hvs h1v).mono ?_
    rintro e w' ⟨rfl, rfl⟩
    refine ⟨_, rfl, hfin _ _ (grown_own hb ⟨_, heap_alloc_new (w.drew) _, ?_, ?_⟩ (grownCap_ge _ _ _ _) (grownCap_le_maxLen _ _ _ _ (by rw [mxl]; omega)) rfl), ((Kps.refl _ w).drew).alloc _, .inr ⟨_, rfl, Nat.le_refl _⟩⟩
    · have h2 := grownCap_ge w 1 0 (Try.lInsS_ren.t 9)
      simp [Builtin.zeroCells, Value.cells]; omega
    · simp
  · have KS : ∀ vs o w', Kps (fun k => (Value.slice (some ⟨g, 0, none⟩) xs.length cap).ownBlock = some k) w w' → Kps (fun k => (Value.slice (some ⟨g, 0, none⟩) xs.length cap).ownBlock = some k) w (w'.setCells g o vs) := fun vs o w' h => Kps.setCells (S := fun k => (Value.slice (some ⟨g, 0, none⟩) xs.length cap).ownBlock = some k) (X := g) (Or.inl rfl) vs o w' h
    have KN : ∀ vs o w', Kps (fun k => (Value.slice (some ⟨g, 0, none⟩) xs.length cap).ownBlock = some k) w w' → Kps (fun k => (Value.slice (some ⟨g, 0, none⟩) xs.length cap).ownBlock = some k) w (w'.setCells w.heap.size o vs) := fun vs o w' h => Kps.setCells (S := fun k => (Value.slice (some ⟨g, 0, none⟩) xs.length cap).ownBlock = some k) (X := w.heap.size) (Or.inr (Nat.le_refl _)) vs o w' h
    have hne' : vb ≠ g := fun e => hne (by rw [e]; rfl)
    have hlen : (xs.map Value.string).length = xs.length := List.length_map _
    by_cases hroom : xs.length + 1 ≤ cap
    · by_cases hin : i < xs.length
      · refine (Any2.slices_Insert_string_shift Try.lInsS g 0 xs.length cap i vb 0 1 1 (xs.map Value.string) [Value.string x] w hin (by omega) hroom hcm hne' hlen rfl (row_cells hh htk) (fun j hj => (row_some hh j (by omega)).1) (fun j hj => (row_some hh j (by omega)).2) hvs h1c h1v 9 9 1 cap (by simp [World.shape?, hvb]) (by simp [World.shape?, hh, hcs]) (by omega) (by simp [World.frozen?, hvb]) (by simp [World.frozen?, hvb])).mono ?_
        rintro e w' ⟨rfl, rfl⟩
        obtain ⟨c1, q1, q2, q3⟩ := setCells_heap (b := g) ((xs.map Value.string).drop i) (0 + (i + 1)) w.drew cur hh (by rw [List.length_drop, hlen]; omega)
        obtain ⟨c2, r1, r2, r3⟩ := setCells_heap (b := g) [Value.string x] (0 + i) _ c1 q1 (by simp only [List.length_singleton]; omega)
        rw [Nat.zero_add] at q3 r3
        refine ⟨_, rfl, hfin _ _ (grown_own hg ⟨c2, r1, r2.trans (q2.trans hcs), shift_list (cur := cur.toList) (n := xs.length) (m := 1) (by rw [Array.length_toList (xs := cur), hcs]; exact hroom) htk hlen (Nat.le_of_lt hin) rfl q3 r3⟩ hroom hcm ?_), KS _ _ _ (KS _ _ _ ((Kps.refl _ w).drew)), .inl rfl⟩
        simp only [List.length_append, List.length_take, List.length_drop, List.length_singleton, hlen]; omega
      · have hie : i = xs.length := by omega
        subst hie
        refine (Any2.slices_Insert_string_end_room Try.lInsS g 0 xs.length cap vb 0 1 1 [Value.string x] w (by omega) hroom hcm rfl (fun j hj => by rw [Nat.add_assoc]; exact (row_some hh _ (by omega)).1) (fun j hj => by rw [Nat.add_assoc]; exact (row_some hh _ (by omega)).2) hvs h1v).mono ?_
        rintro e w' ⟨rfl, rfl⟩
        obtain ⟨c2, r1, r2, r3⟩ := setCells_heap (b := g) [Value.string x] (0 + xs.length) w cur hh (by simp only [List.length_singleton]; omega)
        rw [Nat.zero_add] at r3
        refine ⟨_, rfl, hfin _ _ (grown_own hg ⟨c2, r1, r2.trans hcs, ?_⟩ hroom hcm ?_), KS _ _ _ (Kps.refl _ w), .inl rfl⟩
        · rw [r3, htk, List.take_of_length_le (l := xs.map Value.string) (by omega), List.drop_eq_nil_of_le (show (xs.map Value.string).length ≤ xs.length by omega), List.append_nil, ← List.append_assoc, List.take_append_of_le_length (by simp), List.take_of_length_le (by simp)]
        · simp only [List.length_append, List.length_take, List.length_drop, List.length_singleton, hlen]; omega
    · by_cases hin : i < xs.length
      · refine (Any2.slices_Insert_string_grow Try.lInsS g 0 xs.length cap i vb 0 1 1 (xs.map Value.string) [Value.string x] w hin (by omega) hnc (by omega) (by omega) hlen rfl (row_cells hh htk) hvs h1c h1v).mono ?_
        rintro e w' ⟨rfl, rfl⟩
        have hgc := grownCap_ge w (xs.length + 1) cap (Try.lInsS_ren.t 9)
        have hgc2 := grownCap_ge w (xs.length + 1) cap 9
        obtain ⟨c1, q1, q2, q3⟩ := setCells_heap (b := w.heap.size) [Value.string x] i (w.alloc (.cells (((xs.map Value.string).take i).toArray ++ Builtin.zeroCells (Value.string ⟨#[]⟩).cells (xs.length + 1 - i) ++ Builtin.zeroCells (Value.string ⟨#[]⟩).cells (grownCap w (xs.length + 1) cap 9 - (xs.length + 1))) 9)).drew _ (heap_alloc_new w (.cells (((xs.map Value.string).take i).toArray ++ Builtin.zeroCells (Value.string ⟨#[]⟩).cells (xs.length + 1 - i) ++ Builtin.zeroCells (Value.string ⟨#[]⟩).cells (grownCap w (xs.length + 1) cap 9 - (xs.length + 1))) 9)) (by simp [Builtin.zeroCells, Value.cells]; omega)
        obtain ⟨c2, r1, r2, r3⟩ := setCells_heap (b := w.heap.size) ((xs.map Value.string).drop i) (i + 1) (World.drew (World.setCells (World.drew (w.alloc (.cells (((xs.map Value.string).take i).toArray ++ Builtin.zeroCells (Value.string ⟨#[]⟩).cells (xs.length + 1 - i) ++ Builtin.zeroCells (Value.string ⟨#[]⟩).cells (grownCap w (xs.length + 1) cap 9 - (xs.length + 1))) 9))) w.heap.size i [Value.string x])) c1 q1 (by rw [List.length_drop, hlen, q2]; simp [Builtin.zeroCells, Value.cells]; omega)
        refine ⟨_, rfl, hfin _ _ (grown_own hb ⟨c2, r1, ?_, ?_⟩ hgc (grownCap_le_maxLen _ _ _ _ (by rw [mxl]; omega)) ?_), KN _ _ _ (KN _ _ _ ((Kps.refl _ w).alloc _).drew).drew, .inr ⟨_, rfl, Nat.le_refl _⟩⟩
        · rw [r2, q2]; change _ = grownCap w (xs.length + 1) cap 9; simp [Builtin.zeroCells, Value.cells]; omega
        · have hil : ((xs.map Value.string).take i).length = i := by rw [List.length_take, hlen]; omega
          have e1 : ((((xs.map Value.string).take i).toArray ++ Builtin.zeroCells (Value.string ⟨#[]⟩).cells (xs.length + 1 - i) ++ Builtin.zeroCells (Value.string ⟨#[]⟩).cells (grownCap w (xs.length + 1) cap 9 - (xs.length + 1))) : Array Value).toList.take i = (xs.map Value.string).take i := by
            rw [Array.toList_append, Array.toList_append, List.append_assoc, List.take_append_of_le_length (by simp; omega), List.take_of_length_le (by simp; omega)]
          exact grow_list e1 hil (by rw [List.length_drop, hlen]) (Nat.le_of_lt hin) rfl q3 r3
        · simp only [List.length_append, List.length_take, List.length_drop, List.length_singleton, hlen]; omega
      · have hie : i = xs.length := by omega
        subst hie
        refine (Any2.slices_Insert_string_end_grow Try.lInsS (some ⟨g, 0, none⟩) xs.length cap vb 0 1 1 (xs.map Value.string) [Value.string x] w (by omega) hnc (by omega) (by omega) hlen rfl (fun e => by cases e) (fun a ha j u hj => by obtain rfl := Option.some.inj ha; rw [add_plain]; have := row_cells hh htk j u hj; rwa [Nat.zero_add] at this) hvs h1v).mono ?_
        rintro e w' ⟨rfl, rfl⟩
        have hgc := grownCap_ge w (xs.length + 1) cap (Try.lInsS_ren.t 9)
        have hgc2 := grownCap_ge w (xs.length + 1) cap 9
        refine ⟨_, rfl, hfin _ _ (grown_own hb ⟨_, heap_alloc_new (w.drew) _, ?_, ?_⟩ hgc (grownCap_le_maxLen _ _ _ _ (by rw [mxl]; omega)) ?_), ((Kps.refl _ w).drew).alloc _, .inr ⟨_, rfl, Nat.le_refl _⟩⟩
        · simp [Builtin.zeroCells, Value.cells]; omega
        · rw [List.take_of_length_le (l := xs.map Value.string) (by omega), List.drop_eq_nil_of_le (show (xs.map Value.string).length ≤ xs.length by omega), List.append_nil]
          rw [Array.toList_append, List.take_append_of_le_length (by simp), List.take_of_length_le (by simp)]
        · simp only [List.length_append, List.length_take, List.length_drop, List.length_singleton, hlen]; omega

set_option maxHeartbeats 1000000 in
/-- slices.Insert of one element. -/
theorem insI (base i vb : Nat) (v : Value) (xs : List Int) (x : Int) (okx : Nat → Prop) (w : World) (h : Own (tInt .i64) 3 okx w base v xs) (hi : i ≤ xs.length) (hvb : w.heap[vb]? = some (.cells #[(Value.int .i64) x] 3 (0, 0))) (hne : some vb ≠ v.ownBlock) (hb : base ≤ w.heap.size) (hbig : xs.length ≤ 1000000) :
    Calls Try.prog 52 #[v, .int .i64 i, .slice (some ⟨vb, 0, none⟩) 1 1] w fun e w' => ∃ v', e = .returned v' ∧ Own (tInt .i64) 3 okx w' base v' (xs.take i ++ x :: xs.drop i) ∧ Kps (fun k => v.ownBlock = some k) w w' ∧ (v'.ownBlock = v.ownBlock ∨ ∃ b, v'.ownBlock = some b ∧ w.heap.size ≤ b) := by
  rw [own_enc (Value.int .i64) intD rfl] at h
  have hvs : ∀ j u, [(Value.int .i64) x][j]? = some u → w.cell? ⟨vb, 0 + j, none⟩ = some u := fun j u hj => by
    rw [Nat.zero_add, cell_of_row _ _ _ _ _ _ hvb]; simpa using hj
  have h1v : ∀ u ∈ [(Value.int .i64) x], u.oneCell' = true := fun u hu => by rw [List.mem_singleton.1 hu]; rfl
  have h1c : ∀ u ∈ xs.map (Value.int .i64), u.oneCell' = true := fun u hu => by obtain ⟨y, _, rfl⟩ := List.mem_map.1 hu; rfl
  have hfin : ∀ (v' : Value) (w' : World), w'.ownsRow base 3 1 v' (xs.length + 1) ((xs.map (Value.int .i64)).take i ++ ([(Value.int .i64) x] ++ (xs.map (Value.int .i64)).drop i)) → Own (tInt .i64) 3 okx w' base v' (xs.take i ++ x :: xs.drop i) := fun v' w' hh => by
    rw [own_enc (Value.int .i64) intD rfl]
    have e1 : (xs.take i ++ x :: xs.drop i).length = xs.length + 1 := by simp only [List.length_append, List.length_cons, List.length_take, List.length_drop]; omega
    have e2 : (xs.take i ++ x :: xs.drop i).map (Value.int .i64) = (xs.map (Value.int .i64)).take i ++ ([(Value.int .i64) x] ++ (xs.map (Value.int .i64)).drop i) := by simp [List.map_take, List.map_drop]
    rw [e1, e2]; exact hh
  rcases own_case h with ⟨rfl, hn, hcs⟩ | ⟨g, cap, cur, rfl, hg, hgl, hh, hnc, hcm, hcs, htk, hcl⟩
  · have hi0 : i = 0 := by omega
    subst hi0
    have hx0 : xs = [] := List.eq_nil_of_length_eq_zero hn
    subst hx0
    refine (Any2.slices_Insert_int_end_grow Try.lInsI none 0 0 vb 0 1 1 [] [(Value.int .i64) x] w (by omega) (by omega) (by omega) (by omega) rfl rfl (fun _ => rfl) (fun a ha => by cases ha) hvs h1v).mono ?_
    rintro e w' ⟨rfl, rfl⟩
    refine ⟨_, rfl, hfin _ _ (grown_own hb ⟨_, heap_alloc_new (w.drew) _, ?_, ?_⟩ (grownCap_ge _ _ _ _) (grownCap_le_maxLen _ _ _ _ (by rw [mxl]; omega)) rfl), ((Kps.refl _ w).drew).alloc _, .inr ⟨_, rfl, Nat.le_refl _⟩⟩
    · have h2 := grownCap_ge w 1 0 (Try.lInsI_ren.t 3)
      simp [Builtin.zeroCells, Value.cells]; omega
    · simp
  · have KS : ∀ vs o w', Kps (fun k => (Value.slice (some ⟨g, 0, none⟩) xs.length cap).ownBlock = some k) w w' → Kps (fun k => (Value.slice (some ⟨g, 0, none⟩) xs.length cap).ownBlock = some k) w (w'.setCells g o vs) := fun vs o w' h => Kps.setCells (S := fun k => (Value.slice (some ⟨g, 0, none⟩) xs.length cap).ownBlock = some k) (X := g) (Or.inl rfl) vs o w' h
    have KN : ∀ vs o w', Kps (fun k => (Value.slice (some ⟨g, 0, none⟩) xs.length cap).ownBlock = some k) w w' → Kps (fun k => (Value.slice (some ⟨g, 0, none⟩) xs.length cap).ownBlock = some k) w (w'.setCells w.heap.size o vs) := fun vs o w' h => Kps.setCells (S := fun k => (Value.slice (some ⟨g, 0, none⟩) xs.length cap).ownBlock = some k) (X := w.heap.size) (Or.inr (Nat.le_refl _)) vs o w' h
    have hne' : vb ≠ g := fun e => hne (by rw [e]; rfl)
    have hlen : (xs.map (Value.int .i64)).length = xs.length := List.length_map _
    by_cases hroom : xs.length + 1 ≤ cap
    · by_cases hin : i < xs.length
      · refine (Any2.slices_Insert_int_shift Try.lInsI g 0 xs.length cap i vb 0 1 1 (xs.map (Value.int .i64)) [(Value.int .i64) x] w hin (by omega) hroom hcm hne' hlen rfl (row_cells hh htk) (fun j hj => (row_some hh j (by omega)).1) (fun j hj => (row_some hh j (by omega)).2) hvs h1c h1v 3 3 1 cap (by simp [World.shape?, hvb]) (by simp [World.shape?, hh, hcs]) (by omega) (by simp [World.frozen?, hvb]) (by simp [World.frozen?, hvb])).mono ?_
        rintro e w' ⟨rfl, rfl⟩
        obtain ⟨c1, q1, q2, q3⟩ := setCells_heap (b := g) ((xs.map (Value.int .i64)).drop i) (0 + (i + 1)) w.drew cur hh (by rw [List.length_drop, hlen]; omega)
        obtain ⟨c2, r1, r2, r3⟩ := setCells_heap (b := g) [(Value.int .i64) x] (0 + i) _ c1 q1 (by simp only [List.length_singleton]; omega)
        rw [Nat.zero_add] at q3 r3
        refine ⟨_, rfl, hfin _ _ (grown_own hg ⟨c2, r1, r2.trans (q2.trans hcs), shift_list (cur := cur.toList) (n := xs.length) (m := 1) (by rw [Array.length_toList (xs := cur), hcs]; exact hroom) htk hlen (Nat.le_of_lt hin) rfl q3 r3⟩ hroom hcm ?_), KS _ _ _ (KS _ _ _ ((Kps.refl _ w).drew)), .inl rfl⟩
        simp only [List.length_append, List.length_take, List.length_drop, List.length_singleton, hlen]; omega
      · have hie : i = xs.length := by omega
        subst hie
        refine (Any2.slices_Insert_int_end_room Try.lInsI g 0 xs.length cap vb 0 1 1 [(Value.int .i64) x] w (by omega) hroom hcm rfl (fun j hj => by rw [Nat.add_assoc]; exact (row_some hh _ (by omega)).1) (fun j hj => by rw [Nat.add_assoc]; exact (row_some hh _ (by omega)).2) hvs h1v).mono ?_
        rintro e w' ⟨rfl, rfl⟩
        obtain ⟨c2, r1, r2, r3⟩ := setCells_heap (b := g) [(Value.int .i64) x] (0 + xs.length) w cur hh (by simp only [List.length_singleton]; omega)
        rw [Nat.zero_add] at r3
        refine ⟨_, rfl, hfin _ _ (grown_own hg ⟨c2, r1, r2.trans hcs, ?_⟩ hroom hcm ?_), KS _ _ _ (Kps.refl _ w), .inl rfl⟩
        · rw [r3, htk, List.take_of_length_le (l := xs.map (Value.int .i64)) (by omega), List.drop_eq_nil_of_le (show (xs.map (Value.int .i64)).length ≤ xs.length by omega), List.append_nil, ← List.append_assoc, List.take_append_of_le_length (by simp), List.take_of_length_le (by simp)]
        · simp only [List.length_append, List.length_take, List.length_drop, List.length_singleton, hlen]; omega
    · by_cases hin : i < xs.length
      · refine (Any2.slices_Insert_int_grow Try.lInsI g 0 xs.length cap i vb 0 1 1 (xs.map (Value.int .i64)) [(Value.int .i64) x] w hin (by omega) hnc (by omega) (by omega) hlen rfl (row_cells hh htk) hvs h1c h1v).mono ?_
        rintro e w' ⟨rfl, rfl⟩
        have hgc := grownCap_ge w (xs.length + 1) cap (Try.lInsI_ren.t 3)
        have hgc2 := grownCap_ge w (xs.length + 1) cap 3
        obtain ⟨c1, q1, q2, q3⟩ := setCells_heap (b := w.heap.size) [(Value.int .i64) x] i (w.alloc (.cells (((xs.map (Value.int .i64)).take i).toArray ++ Builtin.zeroCells (Value.int .i64 0).cells (xs.length + 1 - i) ++ Builtin.zeroCells (Value.int .i64 0).cells (grownCap w (xs.length + 1) cap 3 - (xs.length + 1))) 3)).drew _ (heap_alloc_new w (.cells (((xs.map (Value.int .i64)).take i).toArray ++ Builtin.zeroCells (Value.int .i64 0).cells (xs.length + 1 - i) ++ Builtin.zeroCells (Value.int .i64 0).cells (grownCap w (xs.length + 1) cap 3 - (xs.length + 1))) 3)) (by simp [Builtin.zeroCells, Value.cells]; omega)
        obtain ⟨c2, r1, r2, r3⟩ := setCells_heap (b := w.heap.size) ((xs.map (Value.int .i64)).drop i) (i + 1) (World.drew (World.setCells (World.drew (w.alloc (.cells (((xs.map (Value.int .i64)).take i).toArray ++ Builtin.zeroCells (Value.int .i64 0).cells (xs.length + 1 - i) ++ Builtin.zeroCells (Value.int .i64 0).cells (grownCap w (xs.length + 1) cap 3 - (xs.length + 1))) 3))) w.heap.size i [(Value.int .i64) x])) c1 q1 (by rw [List.length_drop, hlen, q2]; simp [Builtin.zeroCells, Value.cells]; omega)
        refine ⟨_, rfl, hfin _ _ (grown_own hb ⟨c2, r1, ?_, ?_⟩ hgc (grownCap_le_maxLen _ _ _ _ (by rw [mxl]; omega)) ?_), KN _ _ _ (KN _ _ _ ((Kps.refl _ w).alloc _).drew).drew, .inr ⟨_, rfl, Nat.le_refl _⟩⟩
        · rw [r2, q2]; change _ = grownCap w (xs.length + 1) cap 3; simp [Builtin.zeroCells, Value.cells]; omega
        · have hil : ((xs.map (Value.int .i64)).take i).length = i := by rw [List.length_take, hlen]; omega
          have e1 : ((((xs.map (Value.int .i64)).take i).toArray ++ Builtin.zeroCells (Value.int .i64 0).cells (xs.length + 1 - i) ++ Builtin.zeroCells (Value.int .i64 0).cells (grownCap w (xs.length + 1) cap 3 - (xs.length + 1))) : Array Value).toList.take i = (xs.map (Value.int .i64)).take i := by
            rw [Array.toList_append, Array.toList_append, List.append_assoc, List.take_append_of_le_length (by simp; omega), List.take_of_length_le (by simp; omega)]
          exact grow_list e1 hil (by rw [List.length_drop, hlen]) (Nat.le_of_lt hin) rfl q3 r3
        · simp only [List.length_append, List.length_take, List.length_drop, List.length_singleton, hlen]; omega
      · have hie : i = xs.length := by omega
        subst hie
        refine (Any2.slices_Insert_int_end_grow Try.lInsI (some ⟨g, 0, none⟩) xs.length cap vb 0 1 1 (xs.map (Value.int .i64)) [(Value.int .i64) x] w (by omega) hnc (by omega) (by omega) hlen rfl (fun e => by cases e) (fun a ha j u hj => by obtain rfl := Option.some.inj ha; rw [add_plain]; have := row_cells hh htk j u hj; rwa [Nat.zero_add] at this) hvs h1v).mono ?_
        rintro e w' ⟨rfl, rfl⟩
        have hgc := grownCap_ge w (xs.length + 1) cap (Try.lInsI_ren.t 3)
        have hgc2 := grownCap_ge w (xs.length + 1) cap 3
        refine ⟨_, rfl, hfin _ _ (grown_own hb ⟨_, heap_alloc_new (w.drew) _, ?_, ?_⟩ hgc (grownCap_le_maxLen _ _ _ _ (by rw [mxl]; omega)) ?_), ((Kps.refl _ w).drew).alloc _, .inr ⟨_, rfl, Nat.le_refl _⟩⟩
        · simp [Builtin.zeroCells, Value.cells]; omega
        · rw [List.take_of_length_le (l := xs.map (Value.int .i64)) (by omega), List.drop_eq_nil_of_le (show (xs.map (Value.int .i64)).length ≤ xs.length by omega), List.append_nil]
          rw [Array.toList_append, List.take_append_of_le_length (by simp), List.take_of_length_le (by simp)]
        · simp only [List.length_append, List.length_take, List.length_drop, List.length_singleton, hlen]; omega
end Go.Proofs.Ytcpahknlabnnbaa.T

namespace Go.Proofs.Ytcpahknlabnnbaa.T
open Go Go.RowKit Go.Sort Go.Proofs.Ytcpahknlabnnbaa.Mem

/-- A slice that reads as xs; its block is ok. -/
def RdE {α : Type} (enc : α → Value) (ok : Nat → Prop) (w : World) (v : Value) (xs : List α) : Prop :=
  (v = .slice none 0 0 ∧ xs = []) ∨ ∃ g o c, v = .slice (some ⟨g, o, none⟩) xs.length c ∧ ok g ∧ g < w.heap.size ∧ xs.length ≤ c ∧ c ≤ maxLen ∧ ∀ (j : Nat) (x : α), xs[j]? = some x → w.cell? ⟨g, o + j, none⟩ = some (enc x)
section
variable {α : Type} {enc : α → Value} {ok ok' : Nat → Prop} {w w' : World} {v : Value} {xs : List α}
theorem RdE.move (h : RdE enc ok w v xs) (hm : ∀ k, ok k → k < w.heap.size → w'.heap[k]? = w.heap[k]?) : RdE enc ok w' v xs := by
  rcases h with h | ⟨g, o, c, rfl, h1, h2, h3, h4, h5⟩
  · exact .inl h
  · have hb := hm g h1 h2
    exact .inr ⟨g, o, c, rfl, h1, world_lt hb h2, h3, h4, fun j x hx => by rw [World.cell?_of_block (w := w) hb]; exact h5 j x hx⟩
theorem RdE.mono (h : RdE enc ok w v xs) (hok : ∀ k, ok k → ok' k) : RdE enc ok' w v xs := by
  rcases h with h | ⟨g, o, c, rfl, h1, h2, h3, h4, h5⟩
  · exact .inl h
  · exact .inr ⟨g, o, c, rfl, hok g h1, h2, h3, h4, h5⟩
theorem RdE.kps {S : Nat → Prop} (h : RdE enc ok w v xs) (k : Kps S w w') (hs : ∀ k, ok k → k < w.heap.size → ¬ S k) : RdE enc ok w' v xs := h.move fun i hi hl => k.block i hl (hs i hi hl)
theorem RdE.below (h : RdE enc ok w v xs) (hb : Below w.heap.size w w') : RdE enc ok w' v xs := h.move fun k _ hk => hb.block k hk
theorem RdE.bnd (h : RdE enc ok w v xs) : RdE enc (fun k => ok k ∧ k < w.heap.size) w v xs := by
  rcases h with h | ⟨g, o, c, rfl, h1, h2, h3, h4, h5⟩
  · exact .inl h
  · exact .inr ⟨g, o, c, rfl, ⟨h1, h2⟩, h2, h3, h4, h5⟩
theorem RdE.nil (enc : α → Value) (ok : Nat → Prop) (w : World) : RdE enc ok w (.slice none 0 0) [] := .inl ⟨rfl, rfl⟩
/-- Of a row of one's own. -/
theorem own_rd {d : Ty α} {E base : Nat} (hd : ∀ ok w x cs, d.R ok w x cs ↔ cs = [enc x]) (hs : d.sz = 1) (h : Own d E ok' w base v xs) : RdE enc (fun k => v.ownBlock = some k) w v xs := by
  rw [own_enc enc hd hs] at h
  rcases own_case h with ⟨rfl, hn, _⟩ | ⟨g, cap, cur, rfl, hg, hgl, hh, hnc, hcm, hcs, htk, hcl⟩
  · exact .inl ⟨rfl, List.eq_nil_of_length_eq_zero hn⟩
  · exact .inr ⟨g, 0, cap, rfl, rfl, hgl, hnc, hcm, fun j x hx => row_cells hh htk j _ (by rw [List.getElem?_map, hx]; rfl)⟩
/-- Its length, and its shape. -/
theorem RdE.shape (h : RdE enc ok w v xs) : ∃ A c, v = .slice A xs.length c ∧ xs.length ≤ c ∧ c ≤ 9223372036854775807 ∧ ((A = none ∧ c = 0 ∧ xs = []) ∨ ∃ g o, A = some ⟨g, o, none⟩ ∧ ok g ∧ g < w.heap.size ∧ ∀ (j : Nat) (x : α), xs[j]? = some x → w.cell? ⟨g, o + j, none⟩ = some (enc x)) := by
  rcases h with ⟨rfl, rfl⟩ | ⟨g, o, c, rfl, h1, h2, h3, h4, h5⟩
  · exact ⟨none, 0, rfl, Nat.le_refl _, by omega, .inl ⟨rfl, rfl, rfl⟩⟩
  · exact ⟨_, c, rfl, h3, h4, .inr ⟨g, o, rfl, h1, h2, h5⟩⟩
/-- Element i. -/
theorem RdE.get {A : Option Addr} {n c : Nat} (h : RdE enc ok w (.slice A n c) xs) {i : Nat} {x : α} (hx : xs[i]? = some x) : ∃ g o, A = some ⟨g, o, none⟩ ∧ g < w.heap.size ∧ w.cell? ⟨g, o + i, none⟩ = some (enc x) := by
  rcases h with ⟨_, rfl⟩ | ⟨g, o, c', e, h1, h2, h3, h4, h5⟩
  · simp at hx
  · injection e with e1 e2 e3
    exact ⟨g, o, e1, h2, h5 i x hx⟩
end
theorem kps_below {S : Nat → Prop} {w w' : World} {B : Nat} (h : Kps S w w') (hS : ∀ k, S k → B ≤ k) (hB : B ≤ w.heap.size) : Below B w w' := h.below hS hB
theorem below_kps {w w' : World} (h : Below w.heap.size w w') (S : Nat → Prop) : Kps S w w' := ⟨h.os, h.tape, h.output, h.size, fun k hk _ => h.block k hk⟩
theorem erase_list {α β : Type} {xs : List α} {i : Nat} (hi : i < xs.length) (enc : α → β) (z : β) (cur : List β) : (((xs.take i ++ xs.drop (i + 1)).map enc ++ [z]) ++ cur).take (xs.length - 1) = (xs.take i ++ xs.drop (i + 1)).map enc := by
  have e : ((xs.take i ++ xs.drop (i + 1)).map enc).length = xs.length - 1 := by simp only [List.length_map, List.length_append, List.length_take, List.length_drop]; omega
  rw [List.append_assoc, List.take_append_of_le_length (by omega), List.take_of_length_le (by omega)]
theorem erase_len {α : Type} {xs : List α} {i : Nat} (hi : i < xs.length) : (xs.take i ++ xs.drop (i + 1)).length = xs.length - 1 := by simp only [List.length_append, List.length_take, List.length_drop]; omega

theorem strs_list (xs : List ByteArray) : Lib.strsOf (fun j => xs.getD j ⟨#[]⟩) xs.length = xs.map fun x => x.data.toList := by
  unfold Lib.strsOf
  apply List.ext_getElem (by simp)
  intro i h1 h2
  have hi : i < xs.length := by simpa using h2
  simp [List.getD, List.getElem?_eq_getElem hi]
theorem infoStr : (Try.prog.info? 9).map (fun i => (i.zero, i.size, i.bytes)) = some (some (.string ⟨#[]⟩), 1, 16) := by kernel_rfl

set_option maxHeartbeats 1000000 in
/-- slices.Delete of one element. -/
theorem delS (base i : Nat) (v : Value) (xs : List ByteArray) (okx : Nat → Prop) (w : World) (h : Own tStr 9 okx w base v xs) (hi : i < xs.length) :
    Calls Try.prog 55 #[v, .int .i64 i, .int .i64 ((i : Int) + 1)] w fun e w' => ∃ v', e = .returned v' ∧ Own tStr 9 okx w' base v' (xs.take i ++ xs.drop (i + 1)) ∧ Kps (fun k => v.ownBlock = some k) w w' ∧ v'.ownBlock = v.ownBlock := by
  rw [own_enc Value.string strD rfl] at h
  rcases own_case h with ⟨rfl, hn, hcs⟩ | ⟨g, cap, cur, rfl, hg, hgl, hh, hnc, hcm, hcs, htk, hcl⟩
  · omega
  · have hlen : (xs.map Value.string).length = xs.length := List.length_map _
    have hcell := row_cells hh htk
    have e9 : ((i : Int) + 1) = ((i + 1 : Nat) : Int) := by omega
    rw [e9]
    refine (Any.slices_Delete_string_cells Try.lDelS g 0 xs.length cap i (i + 1) (fun j => xs.getD j ⟨#[]⟩) w hnc hcm (by omega) (by omega) (fun j hj => hcell j _ (by rw [List.getElem?_map, List.getElem?_eq_getElem hj]; simp [List.getD, List.getElem?_eq_getElem hj])) (fun j hj => (row_some hh j (by omega)).2)).mono ?_
    rintro e w' ⟨rfl, q, rfl⟩
    rw [show i + 1 - i = 1 by omega]
    rw [show List.map encStr (List.take i (Lib.strsOf (fun j => xs.getD j ⟨#[]⟩) xs.length) ++ List.drop (i + 1) (Lib.strsOf (fun j => xs.getD j ⟨#[]⟩) xs.length) ++ List.replicate 1 []) = List.map Value.string (xs.take i ++ xs.drop (i + 1)) ++ [Value.string ⟨#[]⟩] by rw [strs_list]; simp [encStr, List.map_take, List.map_drop, Function.comp_def]]
    obtain ⟨c2, r1, r2, r3⟩ := setCells_heap (b := g) ((xs.take i ++ xs.drop (i + 1)).map Value.string ++ [Value.string ⟨#[]⟩]) 0 (w.drewN q) cur hh (by simp only [List.length_append, List.length_map, List.length_singleton, List.length_take, List.length_drop]; omega)
    refine ⟨_, rfl, ?_, Kps.setCells (S := fun k => (Value.slice (some ⟨g, 0, none⟩) xs.length cap).ownBlock = some k) (X := g) (Or.inl rfl) _ _ _ ((Kps.refl _ w).drewN q), rfl⟩
    rw [own_enc Value.string strD rfl, erase_len hi]
    refine grown_own hg ⟨c2, r1, r2.trans hcs, ?_⟩ (by omega) hcm (by rw [List.length_map, erase_len hi])
    rw [r3, List.take_zero, List.nil_append]
    exact erase_list hi Value.string _ _

set_option maxHeartbeats 1000000 in
/-- slices.Delete of one element. -/
theorem delI (base i : Nat) (v : Value) (xs : List Int) (okx : Nat → Prop) (w : World) (h : Own (tInt .i64) 3 okx w base v xs) (hi : i < xs.length) :
    Calls Try.prog 74 #[v, .int .i64 i, .int .i64 ((i : Int) + 1)] w fun e w' => ∃ v', e = .returned v' ∧ Own (tInt .i64) 3 okx w' base v' (xs.take i ++ xs.drop (i + 1)) ∧ Kps (fun k => v.ownBlock = some k) w w' ∧ v'.ownBlock = v.ownBlock := by
  rw [own_enc (Value.int .i64) intD rfl] at h
  rcases own_case h with ⟨rfl, hn, hcs⟩ | ⟨g, cap, cur, rfl, hg, hgl, hh, hnc, hcm, hcs, htk, hcl⟩
  · omega
  · have hlen : (xs.map (Value.int .i64)).length = xs.length := List.length_map _
    have hcell := row_cells hh htk
    have e9 : ((i : Int) + 1) = ((i + 1 : Nat) : Int) := by omega
    rw [e9]
    refine (Any.slices_Delete_int_cells Try.lDelI g 0 xs.length cap i (i + 1) xs w (Nat.le_refl _) hnc hcm (by omega) (by omega) (fun j hj => hcell j _ (by rw [List.getElem?_map, List.getElem?_eq_getElem hj]; simp [List.getD, List.getElem?_eq_getElem hj])) (fun j hj => (row_some hh j (by omega)).2)).mono ?_
    rintro e w' ⟨rfl, q, rfl⟩
    rw [show i + 1 - i = 1 by omega]
    rw [show List.map (Value.int .i64) (List.take i (List.take xs.length xs) ++ List.drop (i + 1) (List.take xs.length xs) ++ List.replicate 1 0) = List.map (Value.int .i64) (xs.take i ++ xs.drop (i + 1)) ++ [Value.int .i64 0] by rw [List.take_length]; simp]
    obtain ⟨c2, r1, r2, r3⟩ := setCells_heap (b := g) ((xs.take i ++ xs.drop (i + 1)).map (Value.int .i64) ++ [Value.int .i64 0]) 0 (w.drewN q) cur hh (by simp only [List.length_append, List.length_map, List.length_singleton, List.length_take, List.length_drop]; omega)
    refine ⟨_, rfl, ?_, Kps.setCells (S := fun k => (Value.slice (some ⟨g, 0, none⟩) xs.length cap).ownBlock = some k) (X := g) (Or.inl rfl) _ _ _ ((Kps.refl _ w).drewN q), rfl⟩
    rw [own_enc (Value.int .i64) intD rfl, erase_len hi]
    refine grown_own hg ⟨c2, r1, r2.trans hcs, ?_⟩ (by omega) hcm (by rw [List.length_map, erase_len hi])
    rw [r3, List.take_zero, List.nil_append]
    exact erase_list hi (Value.int .i64) _ _

set_option maxHeartbeats 1000000 in
/-- slices.Clone. -/
theorem cloneS (ok okx : Nat → Prop) (v : Value) (xs : List ByteArray) (w : World) (h : RdE Value.string ok w v xs) (hl : xs.length ≤ 1000000) :
    Calls Try.prog 85 #[v] w fun e w' => ∃ v', e = .returned v' ∧ Own tStr 9 okx w' w.heap.size v' xs ∧ Below w.heap.size w w' := by
  rcases h with ⟨rfl, rfl⟩ | ⟨g, o, c, rfl, h1, h2, h3, h4, h5⟩
  · refine (AnyE.slices_Clone_nil Try.lClS 0 0 w).mono ?_
    rintro e w' ⟨rfl, rfl⟩
    exact ⟨_, rfl, Own.nil _ _ _ _ _, Below.refl _ _⟩
  · obtain ⟨i0, hi, hzz⟩ := Option.map_eq_some_iff.1 infoStr
    simp only [Prod.mk.injEq] at hzz
    obtain ⟨hz0, hz1, hz2⟩ := hzz
    refine (AnyE.slices_Clone Try.lClS i0 _ 1 16 hi hz0 hz1 hz2 rfl (by decide) Try.sizeOf9 g o xs.length c (xs.map Value.string) w (by rw [List.length_map, Nat.mul_one]) (by rw [mxl]; omega) (by omega) (fun j u hj => ?_) (fun u hu => by obtain ⟨y, _, rfl⟩ := List.mem_map.1 hu; rfl)).mono ?_
    · rw [List.getElem?_map] at hj
      obtain ⟨x, hx, rfl⟩ := Option.map_eq_some_iff.1 hj
      exact h5 j x hx
    · rintro e w' ⟨v', rfl, ho, _, hb⟩
      exact ⟨v', rfl, by rw [own_enc Value.string strD rfl]; exact ho, hb⟩

set_option maxHeartbeats 1000000 in
/-- slices.Clone. -/
theorem cloneI (ok okx : Nat → Prop) (v : Value) (xs : List Int) (w : World) (h : RdE (Value.int .i64) ok w v xs) (hl : xs.length ≤ 1000000) :
    Calls Try.prog 86 #[v] w fun e w' => ∃ v', e = .returned v' ∧ Own (tInt .i64) 3 okx w' w.heap.size v' xs ∧ Below w.heap.size w w' := by
  rcases h with ⟨rfl, rfl⟩ | ⟨g, o, c, rfl, h1, h2, h3, h4, h5⟩
  · refine (AnyE.slices_Clone_nil Try.lClI 0 0 w).mono ?_
    rintro e w' ⟨rfl, rfl⟩
    exact ⟨_, rfl, Own.nil _ _ _ _ _, Below.refl _ _⟩
  · obtain ⟨i0, hi, hzz⟩ := Option.map_eq_some_iff.1 infoInt
    simp only [Prod.mk.injEq] at hzz
    obtain ⟨hz0, hz1, hz2⟩ := hzz
    refine (AnyE.slices_Clone Try.lClI i0 _ 1 8 hi hz0 hz1 hz2 rfl (by decide) Try.sizeOf3 g o xs.length c (xs.map (Value.int .i64)) w (by rw [List.length_map, Nat.mul_one]) (by rw [mxl]; omega) (by omega) (fun j u hj => ?_) (fun u hu => by obtain ⟨y, _, rfl⟩ := List.mem_map.1 hu; rfl)).mono ?_
    · rw [List.getElem?_map] at hj
      obtain ⟨x, hx, rfl⟩ := Option.map_eq_some_iff.1 hj
      exact h5 j x hx
    · rintro e w' ⟨v', rfl, ho, _, hb⟩
      exact ⟨v', rfl, by rw [own_enc (Value.int .i64) intD rfl]; exact ho, hb⟩

/-- Where s is, or would be. -/
def posS (xs : List ByteArray) (s : ByteArray) : Nat := Lib.bsGo (fun t => Op.bytesLess (xs.getD t ⟨#[]⟩).toList s.toList) xs.length 0 xs.length
theorem binS (ok : Nat → Prop) (v : Value) (xs : List ByteArray) (s : ByteArray) (w : World) (h : RdE Value.string ok w v xs) (hl : xs.length ≤ 1000000) :
    Calls Try.prog 64 #[v, .string s] w fun e w' => e = .returned (.tuple #[.int .i64 (posS xs s), .bool (decide (xs[posS xs s]? = some s))]) ∧ ∃ q, w' = w.drewN q := by
  rcases h with ⟨rfl, rfl⟩ | ⟨g, o, c, rfl, h1, h2, h3, h4, h5⟩
  · refine (Any2.slices_BinarySearch_string_empty Try.lBin none 0 s w).mono ?_
    rintro e w' ⟨rfl, rfl⟩
    exact ⟨rfl, 0, rfl⟩
  · refine (Any2.slices_BinarySearch_string Try.lBin g o xs.length c (fun j => xs.getD j ⟨#[]⟩) s w (by omega) (fun j hj => ?_)).mono ?_
    · rw [h5 j _ (List.getElem?_eq_getElem hj)]; simp [List.getD, List.getElem?_eq_getElem hj]
    · rintro e w' ⟨rfl, hw⟩
      refine ⟨?_, hw⟩
      have e2 : (posS xs s < xs.length ∧ xs.getD (posS xs s) ⟨#[]⟩ = s) ↔ xs[posS xs s]? = some s := by
        constructor
        · rintro ⟨h1, h2⟩; rw [List.getElem?_eq_getElem h1]; rw [List.getD_eq_getElem?_getD, List.getElem?_eq_getElem h1] at h2; exact congrArg some h2
        · intro h; exact ⟨(List.getElem?_eq_some_iff.1 h).1, by rw [List.getD_eq_getElem?_getD, h]; rfl⟩
      have e3 : decide (posS xs s < xs.length ∧ xs.getD (posS xs s) ⟨#[]⟩ = s) = decide (xs[posS xs s]? = some s) := decide_eq_decide.2 e2
      rw [← e3]
      rfl
end Go.Proofs.Ytcpahknlabnnbaa.T

namespace Go.Proofs.Ytcpahknlabnnbaa.T
open Go Go.RowKit Go.Sort Go.Proofs.Ytcpahknlabnnbaa.Mem
variable {ok : Nat → Prop}

theorem infoByte : (Try.prog.info? 5).map (fun i => (i.zero, i.size, i.bytes)) = some (some (.int .u8 0), 1, 1) := by kernel_rfl
theorem cloneB (b : Nat) (t : TypeId) (bs : List UInt8) (w : World) (hb : w.heap[b]? = some (.cells (pgCells bs) t (0, 0))) (hbs : bs.length = 1024) :
    Calls Try.prog 75 #[.slice (some ⟨b, 0, none⟩) 1024 1024] w fun e w' => ∃ v', e = .returned v' ∧ RdE u8 (fun k => w.heap.size ≤ k) w' v' bs ∧ Below w.heap.size w w' := by
  obtain ⟨i0, hi, hzz⟩ := Option.map_eq_some_iff.1 infoByte
  simp only [Prod.mk.injEq] at hzz
  obtain ⟨hz0, hz1, hz2⟩ := hzz
  refine (AnyE.slices_Clone Try.lClB i0 _ 1 1 hi hz0 hz1 hz2 rfl (by decide) Try.sizeOf5 b 0 1024 1024 (bs.map u8) w (by rw [List.length_map, hbs]) (by rw [mxl]; omega) (by omega) (fun j u hj => ?_) (fun u hu => by obtain ⟨y, _, rfl⟩ := List.mem_map.1 hu; rfl)).mono ?_
  · rw [Nat.zero_add, cell_of_row _ _ _ _ _ _ hb]; unfold pgCells; simpa using hj
  · rintro e w' ⟨v', rfl, ho, _, hbl⟩
    refine ⟨v', rfl, ?_, hbl⟩
    rcases own_case ho with ⟨rfl, hn, _⟩ | ⟨g, cap, cur, rfl, hg, hgl, hh, hnc, hcm, hcs, htk, hcl⟩
    · omega
    · exact .inr ⟨g, 0, cap, by rw [hbs], hg, hgl, by omega, hcm, fun j x hx => row_cells hh htk j _ (by rw [List.getElem?_map, hx]; rfl)⟩

set_option maxHeartbeats 4000000 in
set_option maxRecDepth 100000 in
theorem loadCalls0 (a : Nat) (vp vf : Value) (A : Ar) (i : Nat) (bs : List UInt8) (w : World) (h : ArR ok w a vp vf A) (hx : A.pages[i]? = some (some bs)) (hbs : bs.length = 1024) :
    Calls Try.prog 58 #[.pointer (some ⟨a, 0, none⟩), .int .i64 ((i : Int) + 1)] w fun e w' => ∃ v', e = .returned (.tuple #[v', .int .i64 0]) ∧ RdE u8 (fun k => w.heap.size ≤ k) w' v' bs ∧ Below w.heap.size w w' := by
  have IC := Mem.put (isCalls a vp vf A i bs w h hx)
  have hil : i < A.pages.length := (List.getElem?_eq_some_iff.1 hx).1
  obtain ⟨gp, cp, u, rfl, _, hgp, hcp, hcp2, z0, zf, b, hub, hok, hbl, hb⟩ := own1_get h.pages rfl hx
  simp only [List.cons.injEq, and_true] at hub
  subst hub
  have hnp := h.np
  obtain ⟨x0, x1, x2⟩ := c3 h.at'
  have CB := Mem.put (cloneB b _ bs w hb hbs)
  have e1 : (i : Int) + 1 - 1 = (i : Int) := by omega
  have e4 : (0 : Int) ≤ (i : Int) := by omega
  have e5 : (i : Int) < (A.pages.length : Int) := by omega
  clear h hx hil hok hb hbs
  go_enter Try.func58, Try.ntmps58
  go_wp2_with fail
  refine IC.out.mono ?_
  rintro e w2 ⟨rfl, rfl⟩
  go_wp2_with fail
  refine CB.out.mono ?_
  rintro e w3 ⟨v', rfl, hrd, hb3⟩
  have HRD := Mem.put hrd
  have HB3 := Mem.put hb3
  clear hrd hb3
  go_wp2_with fail
  go_ret2
  exact ⟨v', rfl, HRD.out, HB3.out⟩
theorem loadCalls (a : Nat) (A : Ar) (i : Nat) (bs : List UInt8) (w : World) (h : ArX ok w a A) (hx : A.pages[i]? = some (some bs)) (hbs : bs.length = 1024) :
    Calls Try.prog 58 #[.pointer (some ⟨a, 0, none⟩), .int .i64 ((i : Int) + 1)] w fun e w' => ∃ v', e = .returned (.tuple #[v', .int .i64 0]) ∧ RdE u8 (fun k => w.heap.size ≤ k) w' v' bs ∧ Below w.heap.size w w' := by
  obtain ⟨vp, vf, h⟩ := h
  exact loadCalls0 a vp vf A i bs w h hx hbs
end Go.Proofs.Ytcpahknlabnnbaa.T
