/- A tracker's steps as an argument. -/
import Derived.Test.YtkfoknjflpklpaaOpen
import Derived.Test.YtkfoknjflpklpaaDLists
namespace Go.Proofs.Ytkfoknjflpklpaa.D
open Go Go.RowKit Go.Proofs.Ytkfoknjflpklpaa.Mem

structure Stp where
  k : Int
  n : Int
  c : Chg

def tStp : Ty Stp where
  sz := 6
  R := fun ok w x cs => ∃ cc, cs = .int .i64 x.k :: .int .i64 x.n :: cc ∧ tChg.R ok w x.c cc
  len := fun ⟨cc, h, hc⟩ => by rw [h, List.length_cons, List.length_cons, tChg.len hc]; rfl
  one := fun ⟨cc, h, hc⟩ u hu => by
    rw [h] at hu
    simp only [List.mem_cons] at hu
    rcases hu with rfl | rfl | hu
    · rfl
    · rfl
    · exact tChg.one hc u hu
  mono := fun hok ⟨cc, h, hc⟩ => ⟨cc, h, tChg.mono hok hc⟩
  move := fun hm ⟨cc, h, hc⟩ => ⟨cc, h, tChg.move hm hc⟩
  bnd := fun ⟨cc, h, hc⟩ => ⟨cc, h, tChg.bnd hc⟩

instance : Inhabited Stp := ⟨⟨0, 0, default⟩⟩

theorem stps_at {ok : Nat → Prop} {w : World} {A : Option Addr} {xs : List Stp} (h : Row tStp ok w A xs) (i : Nat) (hi : i < xs.length) :
    ∃ ad x A2 k2 A3 k3, A = some ad ∧ xs[i]? = some x ∧ w.cell? (ad.add (i * 6)) = some (.int .i64 x.k) ∧ w.cell? ⟨(ad.add (i * 6)).block, (ad.add (i * 6)).off + 1, none⟩ = some (.int .i64 x.n) ∧ w.cell? ⟨(ad.add (i * 6)).block, (ad.add (i * 6)).off + 2, none⟩ = some (.string x.c.table) ∧ w.cell? ⟨(ad.add (i * 6)).block, (ad.add (i * 6)).off + 3, none⟩ = some (.int .i64 x.c.id) ∧ w.cell? ⟨(ad.add (i * 6)).block, (ad.add (i * 6)).off + 4, none⟩ = some (.slice A2 x.c.old.length k2) ∧ w.cell? ⟨(ad.add (i * 6)).block, (ad.add (i * 6)).off + 5, none⟩ = some (.slice A3 x.c.new.length k3) ∧ Kp (tChg.R ok w x.c [.string x.c.table, .int .i64 x.c.id, .slice A2 x.c.old.length k2, .slice A3 x.c.new.length k3]) := by
  obtain ⟨ad, cs, rfl, _, _, ⟨cc, rfl, ⟨v2, v3, rfl, s2, s3⟩⟩, ha⟩ := h.get i hi
  obtain ⟨A2, k2, rfl, _⟩ := s2.shape
  obtain ⟨A3, k3, rfl, _⟩ := s3.shape
  exact ⟨ad, xs[i], A2, k2, A3, k3, rfl, List.getElem?_eq_getElem hi, At.c0 ha rfl, At.cj ha 1 (by omega) rfl, At.cj ha 2 (by omega) rfl, At.cj ha 3 (by omega) rfl, At.cj ha 4 (by omega) rfl, At.cj ha 5 (by omega) rfl, put ⟨_, _, rfl, s2, s3⟩⟩

section
variable {H : Type} {enc : TypeId × Value → H} {W : World}
theorem cells_chg : Try.prog.cellsOf 40 = 4 := by kernel_rfl
theorem opn_stp : Opn enc tStp 52 W := by
  intro fuel cs x h hw
  obtain ⟨y0, y1, y2, n, rfl, hl, h0, h1, h2⟩ := Deep.trod_struct3 Try.underlying52 h
  rw [show Try.prog.cellsOf 52 = 6 from by kernel_rfl] at hl
  have hw' : ∀ n ∈ DataW.weights Try.prog 52 (.agg [y0.1, y1.1, y2.1]), n ≤ reachBytes := hw
  simp only [DataW.weights, Try.underlying52] at hw'
  have w2 := light_each hw' (j := 2) rfl rfl
  dsimp only at h0 h1 h2 w2
  rw [cells_int] at h0 h1
  rw [cells_chg] at h2
  match cs, hl with
  | [c0, c1, c2, c3, c4, c5], _ =>
    simp only [List.drop_zero, List.drop_succ_cons, List.take_succ_cons, List.take_zero] at h0 h1 h2
    obtain ⟨n0, e0, _, _⟩ := DataW.trod_int Try.underlying3 h0
    obtain ⟨n1, e1, _, _⟩ := DataW.trod_int Try.underlying3 h1
    obtain ⟨c, hc⟩ := opn_chg n _ _ h2 w2
    simp only [List.cons.injEq, and_true] at e0 e1
    subst e0; subst e1
    exact ⟨⟨n0, n1, c⟩, _, rfl, hc⟩
theorem opn_stps : Opn enc (tSl tStp) 48 W := opn_slice Try.underlying48 (by kernel_rfl) (of_decide_eq_true (by kernel_rfl)) (by decide) opn_stp
end
end Go.Proofs.Ytkfoknjflpklpaa.D
