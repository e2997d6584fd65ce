/- For the document's Net. -/
import Derived.Test.YtkfoknjflpklpaaDLists
import Derived.Test.YtkfoknjflpklpaaDRefPure
import Derived.Test.YtkfoknjflpklpaaDGreat
import Derived.Test.YtkfoknjflpklpaaDRefSame
import Derived.Test.YtkfoknjflpklpaaMem2
namespace Go.Proofs.Ytkfoknjflpklpaa.D
open Go Go.RowKit Go.Proofs.Ytkfoknjflpklpaa.Mem Go.Proofs.Ytkfoknjflpklpaa.Cmp

theorem Own.lit' {α : Type} (d : Ty α) {E : TypeId} {ok : Nat → Prop} {w : World} {base b : Nat} (h : w.heap[b]? = some (.cells #[] E (0, 0))) (hb : base ≤ b) : Own d E ok w base (.slice (some ⟨b, 0, none⟩) 0 0) [] :=
  ⟨[], rfl, ⟨by simp, .inr ⟨b, 0, #[], rfl, hb, h, Nat.le_refl _, by simp, by simp, by simp⟩⟩, fun i x c h => by simp at h⟩

theorem lit_sl {α : Type} {d : Ty α} {E : TypeId} {ok : Nat → Prop} {w : World} {b : Nat} {p : α} {cs : List Value} (h : w.heap[b]? = some (.cells cs.toArray E (0, 0))) (hr : d.R ok w p cs) (hb : ok b) : Sl d ok w (.slice (some ⟨b, 0, none⟩) 1 1) [p] :=
  ⟨_, 1, rfl, Nat.le_refl _, by omega, by simp, (fun e => by cases e), fun _ => ⟨_, rfl, hb, (Array.getElem?_eq_some_iff.1 h).1, fun i x hx => by
    rcases i with _ | i
    · simp only [List.getElem?_cons_zero, Option.some.injEq] at hx
      subst hx
      refine ⟨cs, hr, fun j u hu => ?_⟩
      rw [Nat.zero_mul, Nat.zero_add]
      exact Go.World.news_of_block h j u (by simpa using hu)
    · simp at hx⟩⟩

theorem same_b (x y : Chg) : (y.table.toList == x.table.toList && y.id == x.id) = y.same x := by
  rw [bytes_eq]
  simp only [Chg.same]
  congr 1

theorem balloc {w w' : World} (h : Below w.heap.size w w') (o : Obj) : Below w.heap.size w (w'.alloc o) := h.alloc h.size o

theorem ne_new {k B b n c : Nat} (h : k < B) (hb : B ≤ b) : some k ≠ (Value.slice (some ⟨b, 0, none⟩) n c).ownBlock := fun e => by
  simp only [Value.ownBlock, Option.some.injEq] at e
  omega
theorem lit_block {B b n c : Nat} (hb : B ≤ b) : ∀ k, (Value.slice (some ⟨b, 0, none⟩) n c).ownBlock = some k → B ≤ k := fun k e => by
  simp only [Value.ownBlock, Option.some.injEq] at e
  omega
theorem ne_own {α : Type} {d : Ty α} {E base k : Nat} {ok : Nat → Prop} {w : World} {v : Value} {xs : List α} (h : Own d E ok w base v xs) (hk : k < base) : some k ≠ v.ownBlock := fun e => by have := (h.lt k e.symm).1; omega
theorem ne_fresh {α : Type} {d : Ty α} {E base : Nat} {ok : Nat → Prop} {w : World} {v : Value} {xs : List α} (h : Own d E ok w base v xs) : some w.heap.size ≠ v.ownBlock := fun e => by have := (h.lt _ e.symm).2; omega
theorem ne_grown {v1 v : Value} {S b : Nat} (hat : v1.ownBlock = v.ownBlock ∨ ∃ b', v1.ownBlock = some b' ∧ S ≤ b') (h1 : some b ≠ v.ownBlock) (h2 : b < S) : some b ≠ v1.ownBlock := fun e => by
  rcases hat with h | ⟨b', h3, h4⟩
  · exact h1 (e.trans h)
  · rw [h3] at e
    simp only [Option.some.injEq] at e
    omega
theorem ne_lit {b b' n c : Nat} (h : b ≠ b') : some b ≠ (Value.slice (some ⟨b', 0, none⟩) n c).ownBlock := fun e => h (by simpa [Value.ownBlock] using e)
theorem heap_alloc_get (w : World) (o : Obj) (k : Nat) : (w.alloc o).heap[k]? = if k = w.heap.size then some o else w.heap[k]? := by
  split
  · next h => rw [h]; exact heap_alloc_new _ _
  · next h =>
    by_cases hk : k < w.heap.size
    · exact Below.heap_alloc _ _ _ hk
    · rw [Array.getElem?_eq_none (by simp; omega), Array.getElem?_eq_none (by omega)]
theorem heap_drew_get (w : World) (k : Nat) : w.drew.heap[k]? = w.heap[k]? := rfl

theorem lastNew_take {x y : Chg} {xs : List Chg} {i k : Nat} (hik : i ≤ k) (hy : xs[k]? = some y) : lastNew x x.new ((xs.take (k + 1)).drop i) = (if y.same x then y.new else lastNew x x.new ((xs.take k).drop i)) := by
  have hlt := (List.getElem?_eq_some_iff.1 hy).1
  rw [take_one_more hy, List.drop_append_of_le_length (by rw [List.length_take]; omega)]
  unfold lastNew
  rw [List.foldl_append]
  rfl

theorem bsize {w w' : World} (h : Below w.heap.size w w') : w.heap.size ≤ w'.heap.size := h.size

theorem lt_b (x y : Chg) : (Op.bytesLess x.table.toList y.table.toList || (x.table.toList == y.table.toList && decide (x.id < y.id))) = x.lt y := by
  rw [bytes_eq]
  rfl

theorem Below.drewn {N n : Nat} {w w' : World} (h : Below N w w') : Below N w (w'.drewN n) := h.trans ⟨rfl, rfl, rfl, by simp, fun k _ => by simp⟩

end Go.Proofs.Ytkfoknjflpklpaa.D
