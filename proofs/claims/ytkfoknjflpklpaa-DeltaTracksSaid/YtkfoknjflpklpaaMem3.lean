/- append of one element out of a literal's block that lies anywhere. -/
import Derived.Test.YtkfoknjflpklpaaMem2
namespace Go.Proofs.Ytkfoknjflpklpaa.Mem
open Go Go.RowKit
variable {P : Program} {α : Type}

theorem run_push1 (d : Ty α) {W : World} (base : Nat) (ty t e : TypeId) (z : Value) (bytes : Nat)
    (ht : P.underlying t = some (.slice e)) (hinfo : (P.info? e).map (fun i => (i.zero, i.size, i.bytes)) = some (some z, d.sz, bytes)) (hz : z.cells.size = d.sz) (hs0 : 0 < d.sz) (hb0 : 0 < bytes)
    (v : Value) (b : Nat) (xs : List α) (p : α) (cs : List Value) (ok : Nat → Prop)
    (hb : W.heap[b]? = some (.cells cs.toArray e (0, 0))) (hp : d.R (fun k => ok k ∧ some k ≠ v.ownBlock) W p cs) (HO : Own d e ok W base v xs) (hbase : base ≤ W.heap.size) (hl : (xs.length + 1) * bytes ≤ 140737488355328) :
    ∃ v1 w1, (Builtin.append_ #[t, t] ty #[v, .slice (some ⟨b, 0, none⟩) 1 1]).run P W = .ok v1 w1 ∧ Own d e ok w1 base v1 (xs ++ [p]) ∧ W.grownBy w1 v.ownBlock ∧ (v1.ownBlock = v.ownBlock ∨ ∃ b, v1.ownBlock = some b ∧ W.heap.size ≤ b) := by
  obtain ⟨i0, hi, hzz⟩ := Option.map_eq_some_iff.1 hinfo
  simp only [Prod.mk.injEq] at hzz
  obtain ⟨hz0, hz1, hz2⟩ := hzz
  have hlen : xs.length + 1 ≤ 140737488355328 := Nat.le_trans (Nat.le_mul_of_pos_right _ hb0) hl
  obtain ⟨cells, hlc, hown, hr⟩ := HO
  obtain ⟨v1, w1, hrun, hown1, hg, _, hat⟩ := run_append_own_at (P := P) W base t ty e i0 z d.sz bytes ht hi hz0 hz1 hz2 hz hs0 v xs.length cells.flatten hown ⟨b, 0, none⟩ 1 1 cs (by rw [d.len hp, Nat.one_mul])
    (fun j u hu => Go.World.news_of_block hb j u (by simpa using hu)) (d.one hp) (by simp only [maxLen]; omega) hl hbase
  have hat' : v1.ownBlock = v.ownBlock ∨ ∃ b, v1.ownBlock = some b ∧ W.heap.size ≤ b := by
    rcases hat with hat | hat
    · exact .inl hat
    · exact .inr ⟨_, hat, Nat.le_refl _⟩
  refine ⟨v1, w1, hrun, Own.appended (ys := [p]) (news := [cs]) hlc hr rfl (fun i y c hy hc => ?_) (by simpa using hown1) hg hat', hg, hat'⟩
  rcases i with _ | i
  · simp only [List.getElem?_cons_zero, Option.some.injEq] at hy hc
    subst hy; subst hc; exact hp
  · simp at hy

section
variable {ops : Array Oper} {o : Oper} {a : Act} {K : Act → World → Prop} {Q : Exit → Act → World → Prop} {E : Prop} {W : World}
/-- append(v, x) in a drawn region; the literal lies in block b. -/
theorem step_push1 (d : Ty α) (base : Nat) (hgd : o.guard = none) (s x : Operand) (t e : TypeId) (z : Value) (bytes : Nat)
    (ho : o.op = .call { callee := .builtin .append, args := #[s, x], argTypes := #[t, t] })
    (ht : P.underlying t = some (.slice e)) (hinfo : (P.info? e).map (fun i => (i.zero, i.size, i.bytes)) = some (some z, d.sz, bytes)) (hz : z.cells.size = d.sz) (hs0 : 0 < d.sz) (hb0 : 0 < bytes)
    (v : Value) (b : Nat) (xs : List α) (p : α) (cs : List Value) (ok : Nat → Prop) (hs : a.eval s = v) (hx : a.eval x = .slice (some ⟨b, 0, none⟩) 1 1)
    (hb : W.heap[b]? = some (.cells cs.toArray e (0, 0))) (hp : d.R (fun k => ok k ∧ some k ≠ v.ownBlock) W p cs) (HO : Own d e ok W base v xs) (hbase : base ≤ W.heap.size) (hl : (xs.length + 1) * bytes ≤ 140737488355328)
    (h : ∀ v1 w1, Own d e ok w1 base v1 (xs ++ [p]) → W.grownBy w1 v.ownBlock → (v1.ownBlock = v.ownBlock ∨ ∃ b, v1.ownBlock = some b ∧ W.heap.size ≤ b) → K (a.put o.dst v1) w1) :
    if Region.wanted o (yielded ops a.tmps) = true then Oper.wp P o a W K Q else E := by
  obtain ⟨v1, w1, hr, h1, h2, h3⟩ := run_push1 (P := P) d base o.type t e z bytes ht hinfo hz hs0 hb0 v b xs p cs ok hb hp HO hbase hl
  exact step_append hgd s x t ho v _ hs hx hr (h v1 w1 h1 h2 h3)
end
end Go.Proofs.Ytkfoknjflpklpaa.Mem
