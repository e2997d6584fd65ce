/- The row of the law ReportMakes. -/
import Derived.Test.YtkfoknjflpklpaaPOpen
import Derived.Test.YtkfoknjflpklpaaRows
import Derived.Test.YtkfoknjflpklpaaPMakesM
import Derived.WalkKit
import Derived.ProofKit
import Derived.OpenShut
import Derived.ShutString
import Derived.ChangeOld
import Derived.Below
import Derived.Carry
import Derived.SizedLaws
namespace Go.Proofs.Ytkfoknjflpklpaa.P
open Go Go.RowKit Go.Proofs.Ytkfoknjflpklpaa.Mem Go.Proofs.Ytkfoknjflpklpaa.Cmp Go.Proofs.Ytkfoknjflpklpaa.D
section
variable {H : Type} {enc : TypeId × Value → H} {W : World}
theorem cells_ints : Try.prog.cellsOf 61 = 1 := by kernel_rfl
theorem cells_smms : Try.prog.cellsOf 79 = 1 := by kernel_rfl
theorem cells_keys : Try.prog.cellsOf 80 = 1 := by kernel_rfl
theorem opn_spec {fuel : Nat} {cs : List Value} {x : DataW H × List MemPlace} (h : DataW.trod enc Try.prog W 0 (fun _ => true) true fuel 82 cs = some x) (hw : Light Try.prog 82 x.1) :
    ∃ (v0 v1 v2 : Value) (s : Spc), cs = [v0, v1, v2, .int .i64 s.limit] ∧ Sl (tInt .i64) (fun _ => True) W v0 s.cols ∧ Sl tSmm (fun _ => True) W v1 s.sums ∧ Sl tKey (fun _ => True) W v2 s.order := by
  obtain ⟨y0, y1, y2, y3, n, rfl, hl, h0, h1, h2, h3⟩ := Joins.trod_struct4 Try.underlying82 h
  rw [show Try.prog.cellsOf 82 = 4 from by kernel_rfl] at hl
  have hw' : ∀ n ∈ DataW.weights Try.prog 82 (.agg [y0.1, y1.1, y2.1, y3.1]), n ≤ reachBytes := hw
  simp only [DataW.weights, Try.underlying82] at hw'
  have w0 := light_each hw' (j := 0) rfl rfl
  have w1 := light_each hw' (j := 1) rfl rfl
  have w2 := light_each hw' (j := 2) rfl rfl
  dsimp only at h0 h1 h2 h3 w0 w1 w2
  rw [cells_ints] at h0
  rw [cells_smms] at h1
  rw [cells_keys] at h2
  rw [cells_int] at h3
  match cs, hl with
  | [c0, c1, c2, c3], _ =>
    simp only [List.drop_zero, List.drop_succ_cons, List.take_succ_cons, List.take_zero] at h0 h1 h2 h3
    obtain ⟨cols, hc⟩ := opn_one opn_ints' h0 w0
    obtain ⟨sums, hs⟩ := opn_one opn_smms h1 w1
    obtain ⟨order, ho⟩ := opn_one opn_keys h2 w2
    obtain ⟨lim, e3, _, _⟩ := DataW.trod_int Try.underlying3 h3
    simp only [List.cons.injEq, and_true] at e3
    subst e3
    exact ⟨c0, c1, c2, ⟨cols, sums, order, lim⟩, rfl, hc, hs, ho⟩
end
end Go.Proofs.Ytkfoknjflpklpaa.P

namespace Go.Proofs.Ytkfoknjflpklpaa.reportMakes
open Go.ChangeShapes Go.WideShapes Go.ChangeAt Go.RowKit
open Go.ChangeMaps (open_string shut_string)
open Go.Proofs.Ytkfoknjflpklpaa.Mem Go.Proofs.Ytkfoknjflpklpaa.D Go.Proofs.Ytkfoknjflpklpaa.P
theorem own : ownKnob Try.prog.godebug = none := by kernel_rfl
theorem laidOut : laidOutB Try.prog = true := by kernel_rfl

set_option maxRecDepth 100000 in
theorem lifted (os : Os) (started : os.Started) (H : Type) (enc : TypeId × Value → H) :
    ReturnsInHanded {} Try.checked os 9 .any (Rows.reportMakesSpec.pre6 enc Try.prog Try.f9 Rows.reportMakesRow.domain false) (Rows.reportMakesSpec.post enc Try.prog Try.f9 false true false false) := by
  refine returnsInHanded_of_change_sized (C := Try.checked) own started (by kernel_rfl) Try.func9
    (ChangeSpec.witness6 (enc := enc) (C := Try.checked) false ⟨#[], #[.slice none 0 0, .agg #[.slice none 0 0, .slice none 0 0, .slice none 0 0, .int .i64 0]], []⟩ 8 (by kernel_rfl) (by kernel_rfl) (by kernel_rfl) (by kernel_rfl)) ?_
  intro W base args ds gs before hval0 hW hcnd hsz0 _
  have hsz : (DataW.weightsEach Try.prog (Try.f9.params.toList ++ Rows.reportMakesSpec.plain.varTypes Try.prog) (ds ++ gs)).all (· ≤ reachBytes) = true := hsz0
  have hval : ∀ (j : Nat) t v, Try.f9.params[j]? = some t → args[j]? = some v → Value.okWide Try.prog W .any base t v := hval0
  have hW' := hW
  obtain ⟨p, q, hA0, hV, rfl, hfz, hnd⟩ := hW
  have hA : DataW.TrodAll enc Try.prog W 0 (fun _ => true) true Try.f9.params.toList args.toList ds p := hA0
  rw [Try.params9] at hA hval hsz
  obtain ⟨v0, vs0, d0, ds0, p0, q0, hargs, rfl, rfl, h0, r0⟩ := trodAll_cons hA
  obtain ⟨v1, vs1, d1, ds1, p1, q1, rfl, rfl, rfl, h1, r1⟩ := trodAll_cons r0
  obtain ⟨rfl, rfl, rfl⟩ := trodAll_nil r1
  obtain rfl : args = #[v0, v1] := by cases args; simp_all
  obtain ⟨rfl, rfl⟩ := trodVars_none hV
  obtain ⟨a0, len0, cap0, rfl⟩ := okWide_slice Try.underlying78 (hval 0 78 v0 rfl rfl)
  obtain ⟨cs1, rfl, hcs1⟩ := okWide_struct Try.underlying82 (hval 1 82 v1 rfl rfl)
  have k0 := h0
  have k1 := h1
  have lt0 : ∀ x ∈ p0, x.block < W.heap.size := by obtain ⟨m, hm⟩ := k0; exact DataW.trod_lt m _ _ _ hm
  have lt1 : ∀ x ∈ p1, x.block < W.heap.size := by obtain ⟨m, hm⟩ := k1; exact DataW.trod_lt m _ _ _ hm
  have light0 : Light Try.prog 78 d0 := light_each (fun n hn => of_decide_eq_true (List.all_eq_true.1 hsz n hn)) (j := 0) rfl rfl
  have light1 : Light Try.prog 82 d1 := light_each (fun n hn => of_decide_eq_true (List.all_eq_true.1 hsz n hn)) (j := 1) rfl rfl
  obtain ⟨rows, hrows, hin⟩ : ∃ rows, Sl tRow (fun _ => True) W (.slice a0 len0 cap0) rows ∧ ∀ r ∈ rows, ∀ y ∈ r, InR y.n := by
    obtain ⟨fuel, hf⟩ := h0
    exact opn_rows hf light0
  obtain ⟨u0, u1, u2, s, rfl, hs0, hs1, hs2⟩ : ∃ (u0 u1 u2 : Value) (s : Spc), cs1 = #[u0, u1, u2, .int .i64 s.limit] ∧ Sl (tInt .i64) (fun _ => True) W u0 s.cols ∧ Sl tSmm (fun _ => True) W u1 s.sums ∧ Sl tKey (fun _ => True) W u2 s.order := by
    obtain ⟨fuel, hf⟩ := h1
    obtain ⟨u0, u1, u2, s, e, x⟩ := opn_spec hf light1
    exact ⟨u0, u1, u2, s, Array.toList_inj.1 (by simpa [Value.cells] using e), x⟩
  clear hA0 hval0 hsz0 hsz
  refine (reportMakesCalls _ _ _ _ _ rows s W hrows hs0 hs1 hs2 hin).mono fun e W' ⟨he, bel⟩ => ?_
  subst he
  exact ⟨_, rfl, _, _, _, [], _, [], hW', trodAll_mk1 (shut_bool Try.underlying4 _), (trodAll_cons_mk (Below.trod laidOut (by kernel_rfl) (of_decide_eq_true (by kernel_rfl)) k0 bel lt0) (trodAll_cons_mk (Below.trod laidOut (by kernel_rfl) (of_decide_eq_true (by kernel_rfl)) k1 bel lt1) trodAll_mk0)), rfl, bel.frame _, fun h => by cases h⟩

theorem over : Rows.reportMakesRow.holds Try.pinned (OpenSpec.ofChange Rows.reportMakesSpec) :=
  OpenClaim.holds_of_wide 9 Try.f9 rfl rfl rfl rfl rfl rfl rfl ⟨rfl, rfl, rfl, rfl, rfl⟩ rfl rfl rfl rfl rfl (by kernel_rfl) Try.func9 (by kernel_rfl)
    (of_decide_eq_true (by kernel_rfl)) (by unfold Func.isWrapper; first | (rw [if_pos (by decide +kernel)]; kernel_rfl) | (rw [if_neg (by decide +kernel)]; exact ⟨rfl, rfl⟩))
    (fun os started H enc _ => lifted os started H enc)
theorem proved : Rows.ReportMakesSaid := over
end Go.Proofs.Ytkfoknjflpklpaa.reportMakes
namespace Go.Proofs.Ytkfoknjflpklpaa
/-- The row, under a short name, for the claim. -/
theorem reportMakes_holds : Rows.ReportMakesSaid := reportMakes.proved
end Go.Proofs.Ytkfoknjflpklpaa
