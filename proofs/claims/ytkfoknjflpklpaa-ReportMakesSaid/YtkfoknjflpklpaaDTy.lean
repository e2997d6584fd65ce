/- Values and changes: how they lie in memory; '==' of values. -/
import Derived.Test.YtkfoknjflpklpaaProg
import Derived.Test.YtkfoknjflpklpaaMem
import Derived.Laws.StructEq
import Derived.Deep.QuietTactic
import Derived.BigQuiet
import Derived.Deep.LoopGhost
namespace Go.Proofs.Ytkfoknjflpklpaa.D
open Go Go.RowKit Go.Proofs.Ytkfoknjflpklpaa.Mem

structure Val where
  kind : Int
  n : Int
  s : ByteArray
deriving DecidableEq

def Val.cells (x : Val) : List Value := [.int .i64 x.kind, .int .i64 x.n, .string x.s]
def tVal : Ty Val where
  sz := 3
  R := fun _ _ x cs => cs = x.cells
  len := fun h => by rw [h]; rfl
  one := fun {_ _ x _} h u hu => by
    rw [h] at hu
    simp only [Val.cells, List.mem_cons, List.not_mem_nil, or_false] at hu
    rcases hu with rfl | rfl | rfl <;> rfl
  mono := fun _ h => h
  move := fun _ h => h
  bnd := fun h => h

/-- Values lead to no memory. -/
theorem Own.vals {E base : Nat} {ok ok' : Nat → Prop} {w : World} {v : Value} {xs : List Val} (h : Own tVal E ok w base v xs) : Own tVal E ok' w base v xs := h

structure Chg where
  table : ByteArray
  id : Int
  old : List Val
  new : List Val
deriving DecidableEq

def tChg : Ty Chg where
  sz := 4
  R := fun ok w x cs => ∃ v2 v3, cs = [.string x.table, .int .i64 x.id, v2, v3] ∧ Sl tVal ok w v2 x.old ∧ Sl tVal ok w v3 x.new
  len := fun ⟨_, _, h, _⟩ => by rw [h]; rfl
  one := fun ⟨v2, v3, h, h2, h3⟩ u hu => by
    rw [h] at hu
    simp only [List.mem_cons, List.not_mem_nil, or_false] at hu
    rcases hu with rfl | rfl | rfl | rfl
    · rfl
    · rfl
    · exact h2.oneCell
    · exact h3.oneCell
  mono := fun hok ⟨v2, v3, h, h2, h3⟩ => ⟨v2, v3, h, h2.mono hok, h3.mono hok⟩
  move := fun hm ⟨v2, v3, h, h2, h3⟩ => ⟨v2, v3, h, h2.move hm, h3.move hm⟩
  bnd := fun ⟨v2, v3, h, h2, h3⟩ => ⟨v2, v3, h, h2.bnd, h3.bnd⟩

theorem At.c0 {w : World} {ad : Addr} {o : Nat} {cs : List Value} (h : At w ad o cs) {u : Value} (hu : cs[0]? = some u) : w.cell? (ad.add o) = some u := h 0 u hu
theorem At.cj {w : World} {ad : Addr} {o : Nat} {cs : List Value} (h : At w ad o cs) (j : Nat) (hj : 0 < j) {u : Value} (hu : cs[j]? = some u) : w.cell? ⟨(ad.add o).block, (ad.add o).off + j, none⟩ = some u := by
  have := h j u hu
  rw [← add_add, add_pos _ j hj] at this
  exact this

theorem val_eq (x y : Val) : (x.kind == y.kind && (x.n == y.n && (x.s.toList == y.s.toList))) = decide (x = y) := by
  rw [bytes_eq, Bool.eq_iff_iff]
  cases x; cases y
  simp

theorem val_ne (x y : Val) : (!(x.kind == y.kind) || (!(x.n == y.n) || !(x.s.toList == y.s.toList))) = !decide (x = y) := by
  rw [← val_eq]
  simp [Bool.not_and]

section
variable {P : Program} {d : Nat} {xs ys : Array Value} {f : Field} {fs : List Field} {a b : Value} {r s : Bool} {w : World}
theorem eqF_last (hn : (f.name == "_") = false) (ha : (part f.type xs f.offset).run P w = .ok a w) (hb : (part f.type ys f.offset).run P w = .ok b w) (he : (Op.equalIn d f.type a b).run P w = .ok r w) : (Op.eqFields d xs ys [f]).run P w = .ok r w := by
  have hn' : f.name ≠ "_" := by simpa using hn
  simp only [Op.eqFields, if_pos hn', Sem.run_bind, ha, hb, he, Result.andThen_ok]
  cases r <;> simp
theorem eqF_cons (hn : (f.name == "_") = false) (ha : (part f.type xs f.offset).run P w = .ok a w) (hb : (part f.type ys f.offset).run P w = .ok b w) (he : (Op.equalIn d f.type a b).run P w = .ok r w) (hr : (Op.eqFields d xs ys fs).run P w = .ok s w) : (Op.eqFields d xs ys (f :: fs)).run P w = .ok (r && s) w := by
  have hn' : f.name ≠ "_" := by simpa using hn
  rw [Op.eqFields]
  simp only [if_pos hn', Sem.run_bind, ha, hb, he, Result.andThen_ok]
  cases r
  · simp
  · simpa using hr
theorem eqF_of {t : TypeId} {fs : Array Field} (hu : P.underlying t = some (.struct fs)) (hp : P.stoodInHeld t = false) (h : (Op.eqFields d xs ys fs.toList).run P w = .ok r w) : (Op.equalIn (d + 1) t (.agg xs) (.agg ys)).run P w = .ok r w := by
  have hf : P.fieldsOf t = fs := by simp [Program.fieldsOf, hu]
  rw [run_equalIn_struct (P := P) w d t xs ys (by rw [hf]; exact hu) hp, hf]
  exact h
end

/-- '==' of two values, as the walk comes to it. -/
theorem eqVal (d : Nat) (w : World) (x0 y0 x1 y1 : Int) (x2 y2 : ByteArray) :
    (Op.equalIn (d + 2) 55 (.agg #[.int .i64 x0, .int .i64 x1, .string x2]) (.agg #[.int .i64 y0, .int .i64 y1, .string y2])).run Try.prog w = .ok (x0 == y0 && (x1 == y1 && (x2.toList == y2.toList))) w := by
  refine eqF_of Try.underlying55 (by kernel_rfl) ?_
  refine eqF_cons (by rfl) (by go_simp; rfl) (by go_simp; rfl) (by go_simp) ?_
  refine eqF_cons (by rfl) (by go_simp; rfl) (by go_simp; rfl) (by go_simp) ?_
  exact eqF_last (by rfl) (by go_simp; rfl) (by go_simp; rfl) (by go_simp)

/-- Element i of a slice of values. -/
theorem vals_get {ok : Nat → Prop} {w : World} {A : Option Addr} {xs : List Val} (h : Row tVal ok w A xs) (i : Nat) (hi : i < xs.length) :
    ∃ ad, A = some ad ∧ w.cell? (ad.add (i * 3)) = some (.int .i64 xs[i].kind) ∧ w.cell? ⟨(ad.add (i * 3)).block, (ad.add (i * 3)).off + 1, none⟩ = some (.int .i64 xs[i].n) ∧ w.cell? ⟨(ad.add (i * 3)).block, (ad.add (i * 3)).off + 2, none⟩ = some (.string xs[i].s) := by
  obtain ⟨ad, cs, rfl, _, _, rfl, ha⟩ := h.get i hi
  exact ⟨ad, rfl, At.c0 ha rfl, At.cj ha 1 (by omega) rfl, At.cj ha 2 (by omega) rfl⟩

end Go.Proofs.Ytkfoknjflpklpaa.D
