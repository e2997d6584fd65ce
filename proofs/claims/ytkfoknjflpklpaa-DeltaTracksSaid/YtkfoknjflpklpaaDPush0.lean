/- append onto an empty literal, in a drawn region. -/
import Derived.Test.YtkfoknjflpklpaaDRefB
namespace Go.Proofs.Ytkfoknjflpklpaa.D.P0
open Go Go.RowKit Go.Proofs.Ytkfoknjflpklpaa.Mem Go.Proofs.Ytkfoknjflpklpaa.D

section
variable {P : Program} {α : Type} {ops : Array Oper} {o : Oper} {a : Act} {K : Act → World → Prop} {Q : Exit → Act → World → Prop} {E : Prop} {W : World}
/-- append(T{}, ys...) in a drawn region. -/
theorem step_pushes0 (d : Ty α) (base : Nat) (hgd : o.guard = none) (s x : Operand) (t e : TypeId) (z : Value) (bytes : Nat)
    (ho : o.op = .call { callee := .builtin .append, args := #[s, x], argTypes := #[t, t] })
    (ht : P.underlying t = some (.slice e)) (hinfo : (P.info? e).map (fun i => (i.zero, i.size, i.bytes)) = some (some z, d.sz, bytes)) (hz : z.cells.size = d.sz) (hs0 : 0 < d.sz) (hb0 : 0 < bytes)
    (b : Nat) (u : Value) (ys : List α) (hs : a.eval s = .slice (some ⟨b, 0, none⟩) 0 0) (hx : a.eval x = u)
    (hb : W.heap[b]? = some (.cells #[] e (0, 0))) (hbb : base ≤ b) (HS : Sl d (fun k => k ≠ b) W u ys) (hbase : base ≤ W.heap.size) (hl : (([] : List α).length + ys.length) * bytes ≤ 140737488355328)
    (h : ∀ v1 w1, Own d e (fun _ => True) w1 base v1 ys → W.grownBy w1 (some b) → (v1.ownBlock = some b ∨ ∃ b, v1.ownBlock = some b ∧ W.heap.size ≤ b) → K (a.put o.dst v1) w1) :
    if Region.wanted o (yielded ops a.tmps) = true then Oper.wp P o a W K Q else E :=
  step_pushes d base hgd s x t e z bytes ho ht hinfo hz hs0 hb0 (.slice (some ⟨b, 0, none⟩) 0 0) u [] ys (fun _ => True) (fun k => k ≠ b) hs hx HS (fun k hk => ⟨trivial, fun e => hk (by simpa [Value.ownBlock] using e)⟩) (Own.lit' d hb hbb) hbase hl h
end

end Go.Proofs.Ytkfoknjflpklpaa.D.P0
