/- Rows, keys and specs, as a row of the laws hands them in. -/
import Derived.Test.YtkfoknjflpklpaaPSpec
import Derived.Test.YtkfoknjflpklpaaOpen
import Derived.ChangeSame
import Derived.Test.YtkfoknjflpklpaaPPlus
namespace Go.Proofs.Ytkfoknjflpklpaa.P
open Go Go.RowKit Go.Proofs.Ytkfoknjflpklpaa.Mem Go.Proofs.Ytkfoknjflpklpaa.Cmp Go.Proofs.Ytkfoknjflpklpaa.D

/-- What reads as d reads as d', and p holds of each. -/
theorem Sl.imp {α : Type} {d d' : Ty α} {ok : Nat → Prop} {w : World} {p : α → Prop} (hsz : d.sz = d'.sz) (hd : ∀ x cs, d.R ok w x cs → d'.R ok w x cs ∧ p x) {v : Value} {xs : List α} (h : Sl d ok w v xs) : Sl d' ok w v xs ∧ ∀ x ∈ xs, p x := by
  obtain ⟨A, c, rfl, h1, h2, h3, hn, hr⟩ := h
  refine ⟨⟨A, c, rfl, h1, h2, h3, hn, fun hne => ?_⟩, fun x hx => ?_⟩
  · obtain ⟨ad, rfl, hb, hlt, hx⟩ := hr hne
    refine ⟨ad, rfl, hb, hlt, fun i x hi => ?_⟩
    obtain ⟨cs, hcs, ha⟩ := hx i x hi
    exact ⟨cs, (hd x cs hcs).1, by rw [← hsz]; exact ha⟩
  · obtain ⟨ad, _, _, _, hr⟩ := hr (by rintro rfl; cases hx)
    obtain ⟨i, hi, rfl⟩ := List.mem_iff_getElem.1 hx
    obtain ⟨cs, hcs, _⟩ := hr i _ (List.getElem?_eq_getElem hi)
    exact (hd _ cs hcs).2

/-- A value with its number's range. -/
def tValI : Ty Val where
  sz := 3
  R := fun _ _ x cs => cs = x.cells ∧ InR x.n
  len := fun h => by rw [h.1]; rfl
  one := fun {ok w _ _} h u hu => tVal.one (ok := ok) (w := w) h.1 u hu
  mono := fun _ h => h
  move := fun _ h => h
  bnd := fun h => h
theorem wf_in {n : Int} (h : (Lit.int .i64 n).wf = true) : InR n := by
  unfold Lit.wf at h
  rw [Bool.and_eq_true, decide_eq_true_eq, decide_eq_true_eq] at h
  exact ⟨h.1, h.2⟩
section
variable {H : Type} {enc : TypeId × Value → H} {W : World}
theorem opn_valI : Opn enc tValI 55 W := by
  intro fuel cs x h _
  obtain ⟨y0, y1, y2, n, rfl, hl, h0, h1, h2⟩ := Deep.trod_struct3 Try.underlying55 h
  rw [show Try.prog.cellsOf 55 = 3 from by kernel_rfl] at hl
  dsimp only at h0 h1 h2
  rw [cells_int] at h0 h1
  rw [cells_str] at h2
  match cs, hl with
  | [c0, c1, c2], _ =>
    simp only [List.drop_zero, List.drop_succ_cons, List.take_succ_cons, List.take_zero] at h0 h1 h2
    obtain ⟨n0, e0, _, _⟩ := DataW.trod_int Try.underlying3 h0
    obtain ⟨n1, e1, _, hw⟩ := DataW.trod_int Try.underlying3 h1
    obtain ⟨s2, e2, _, _⟩ := DataW.trod_string Try.underlying9 h2
    simp only [List.cons.injEq, and_true] at e0 e1 e2
    exact ⟨⟨n0, n1, s2⟩, by rw [e0, e1, e2]; rfl, wf_in hw⟩
theorem opn_rowI : Opn enc (tSl tValI) 30 W := opn_slice Try.underlying30 (by kernel_rfl) (of_decide_eq_true (by kernel_rfl)) (by decide) opn_valI
theorem opn_rowsI : Opn enc (tSl (tSl tValI)) 78 W := opn_slice Try.underlying78 (by kernel_rfl) (of_decide_eq_true (by kernel_rfl)) (by decide) opn_rowI
/-- Rows. -/
theorem opn_rows {fuel : Nat} {v : Value} {x : DataW H × List MemPlace} (h : DataW.trod enc Try.prog W 0 (fun _ => true) true fuel 78 [v] = some x) (hl : Light Try.prog 78 x.1) : ∃ rows, Sl tRow (fun _ => True) W v rows ∧ ∀ r ∈ rows, ∀ y ∈ r, InR y.n := by
  obtain ⟨rows, u, e, hs⟩ := opn_rowsI fuel _ _ h hl
  obtain rfl : v = u := by simpa using e
  refine ⟨rows, Sl.imp (d := tSl tValI) (d' := tRow) rfl (fun r cs hr => ?_) hs⟩
  obtain ⟨u, e, hr⟩ := hr
  have := Sl.imp (d := tValI) (d' := tVal) (p := fun y => InR y.n) rfl (fun y cs hy => hy) hr
  exact ⟨⟨u, e, this.1⟩, this.2⟩
instance : Inhabited Key := ⟨⟨0, false⟩⟩
instance : Inhabited Smm := ⟨⟨0, 0⟩⟩
theorem cells_bool : Try.prog.cellsOf 4 = 1 := by kernel_rfl
theorem opn_key : Opn enc tKey 105 W := by
  intro fuel cs x h _
  obtain ⟨y0, y1, n, rfl, hl, h0, h1⟩ := ChangeShapes.trod_struct2 Try.underlying105 h
  rw [show Try.prog.cellsOf 105 = 2 from by kernel_rfl] at hl
  dsimp only at h0 h1
  rw [cells_int] at h0
  rw [cells_bool] at h1
  match cs, hl with
  | [c0, c1], _ =>
    simp only [List.drop_zero, List.drop_succ_cons, List.take_succ_cons, List.take_zero] at h0 h1
    obtain ⟨n0, e0, _, _⟩ := DataW.trod_int Try.underlying3 h0
    obtain ⟨b1, e1, _⟩ := DataW.trod_bool Try.underlying4 h1
    simp only [List.cons.injEq, and_true] at e0 e1
    exact ⟨⟨n0, b1⟩, by rw [e0, e1]; rfl⟩
theorem opn_smm : Opn enc tSmm 102 W := by
  intro fuel cs x h _
  obtain ⟨y0, y1, n, rfl, hl, h0, h1⟩ := ChangeShapes.trod_struct2 Try.underlying102 h
  rw [show Try.prog.cellsOf 102 = 2 from by kernel_rfl] at hl
  dsimp only at h0 h1
  rw [cells_int] at h0 h1
  match cs, hl with
  | [c0, c1], _ =>
    simp only [List.drop_zero, List.drop_succ_cons, List.take_succ_cons, List.take_zero] at h0 h1
    obtain ⟨n0, e0, _, _⟩ := DataW.trod_int Try.underlying3 h0
    obtain ⟨n1, e1, _, _⟩ := DataW.trod_int Try.underlying3 h1
    simp only [List.cons.injEq, and_true] at e0 e1
    exact ⟨⟨n0, n1⟩, by rw [e0, e1]; rfl⟩
theorem opn_keys : Opn enc (tSl tKey) 80 W := opn_slice Try.underlying80 (by kernel_rfl) (of_decide_eq_true (by kernel_rfl)) (by decide) opn_key
theorem opn_smms : Opn enc (tSl tSmm) 79 W := opn_slice Try.underlying79 (by kernel_rfl) (of_decide_eq_true (by kernel_rfl)) (by decide) opn_smm
theorem opn_int : Opn enc (tInt .i64) 3 W := by
  intro fuel cs x h _
  obtain ⟨n, e, _, _⟩ := DataW.trod_int Try.underlying3 h
  exact ⟨n, e⟩
theorem opn_ints' : Opn enc (tSl (tInt .i64)) 61 W := opn_slice Try.underlying61 (by kernel_rfl) (of_decide_eq_true (by kernel_rfl)) (by decide) opn_int
/-- A list handed in. -/
theorem opn_one {α : Type} {d : Ty α} {t : TypeId} (ho : Opn enc (tSl d) t W) {fuel : Nat} {v : Value} {x : DataW H × List MemPlace} (h : DataW.trod enc Try.prog W 0 (fun _ => true) true fuel t [v] = some x) (hl : Light Try.prog t x.1) : ∃ xs, Sl d (fun _ => True) W v xs := by
  obtain ⟨xs, u, e, hs⟩ := ho fuel _ _ h hl
  obtain rfl : v = u := by simpa using e
  exact ⟨xs, hs⟩
end
end Go.Proofs.Ytkfoknjflpklpaa.P
