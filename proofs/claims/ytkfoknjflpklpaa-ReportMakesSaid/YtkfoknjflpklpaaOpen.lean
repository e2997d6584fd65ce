/- An argument as a row of the laws hands it in: it reads as my kinds of values do. -/
import Derived.Test.YtkfoknjflpklpaaDTy
import Derived.Deep.Slices
import Derived.Deep.Strs
import Derived.Lib.SmallJoins
import Derived.SizedLaws
namespace Go.Proofs.Ytkfoknjflpklpaa.D
open Go Go.RowKit Go.Proofs.Ytkfoknjflpklpaa.Mem

def Light {H : Type} (P : Program) (t : TypeId) (d : DataW H) : Prop := ∀ n ∈ d.weights P t, n ≤ reachBytes

theorem light_all {H : Type} {P : Program} {e : TypeId} : ∀ {l : List (DataW H)}, (∀ n ∈ DataW.weightsAll P e l, n ≤ reachBytes) → ∀ d ∈ l, Light P e d
  | [], _, d, hd => by cases hd
  | x :: l, h, d, hd => by
    simp only [DataW.weightsAll, List.mem_append] at h
    rcases List.mem_cons.1 hd with rfl | hd
    · exact fun n hn => h n (.inl hn)
    · exact light_all (fun n hn => h n (.inr hn)) d hd

theorem light_each {H : Type} {P : Program} {ts : List TypeId} {ds : List (DataW H)} (h : ∀ n ∈ DataW.weightsEach P ts ds, n ≤ reachBytes) {j : Nat} {t : TypeId} {d : DataW H} (ht : ts[j]? = some t) (hd : ds[j]? = some d) : Light P t d :=
  fun n hn => h n (DataW.weights_mem_each ht hd n hn)

/-- What is handed in at type t reads as d says. -/
def Opn {H α : Type} (enc : TypeId × Value → H) (d : Ty α) (t : TypeId) (W : World) : Prop :=
  ∀ (fuel : Nat) (cs : List Value) (x : DataW H × List MemPlace), DataW.trod enc Try.prog W 0 (fun _ => true) true fuel t cs = some x → Light Try.prog t x.1 → ∃ a, d.R (fun _ => True) W a cs

section
variable {H : Type} {enc : TypeId × Value → H} {W : World}

theorem opn_slice {α : Type} [Inhabited α] {d : Ty α} {t e : TypeId} (ht : Try.prog.underlying t = some (.slice e)) (hc : Try.prog.cellsOf e = d.sz) (hb : 0 < Try.prog.bytesOf e) (hz : 0 < d.sz) (ho : Opn enc d e W) : Opn enc (tSl d) t W := by
  intro fuel cs x h hl
  rcases Deep.open_slice ht h with ⟨rfl, rfl⟩ | ⟨a, len, cap, m, n, D, Pl, rfl, _, hlc, hcm, hmm, rfl, hx⟩
  · exact ⟨[], _, rfl, Sl.nil _ _ _⟩
  · simp only [if_true] at hmm
    subst hmm
    have hw : ∀ n ∈ DataW.weights Try.prog t (.slice ((List.range len).map D) ((List.range (m - len)).map fun j => D (len + j))), n ≤ reachBytes := hl
    simp only [DataW.weights, ht, List.mem_cons, List.mem_append] at hw
    have h0 := hw _ (.inl rfl)
    have hall := light_all (fun n hn => hw n (.inr (.inl hn)))
    have hlen : len ≤ 140737488355328 := by
      simp only [List.length_map, List.length_range] at h0
      have h1 : len ≤ len + (m - len) := by omega
      have h2 : len * 1 ≤ (len + (m - len)) * Try.prog.bytesOf e := Nat.mul_le_mul h1 hb
      have h3 := reachBytes_lt
      omega
    obtain ⟨f, hf⟩ := Deep.choose_lt (n := len) (p := fun i b => ∃ cs, W.cells? 0 (a.add (i * d.sz)) d.sz = some cs ∧ d.R (fun _ => True) W b cs) (fun i hi => by
      obtain ⟨cs', h1, h2⟩ := hx i (by omega)
      rw [hc] at h1
      obtain ⟨b, hb'⟩ := ho n cs' _ h2 (hall (D i) (List.mem_map.2 ⟨i, List.mem_range.2 hi, rfl⟩))
      exact ⟨b, cs', h1, hb'⟩)
    refine ⟨(List.range len).map f, _, rfl, some a, m, by simp, by simpa using hlc, by simpa [maxLen] using hcm, by simpa using hlen, (fun e => by cases e), fun hne => ?_⟩
    have hpos : 0 < len := by
      rcases Nat.eq_zero_or_pos len with h | h
      · subst h; simp at hne
      · exact h
    refine ⟨a, rfl, trivial, ?_, fun i x hx => ?_⟩
    · obtain ⟨cs', h1, hr⟩ := hf 0 hpos
      have hsz : 0 < d.sz := hz
      obtain ⟨_, hcl, hcg⟩ := World.cells?_some h1
      have h2 := hcg 0 hsz
      rw [List.getElem?_eq_getElem (by omega), Nat.zero_mul, add_zero, add_zero] at h2
      unfold World.cell? at h2
      cases hh : W.heap[a.block]? with
      | none => rw [hh] at h2; simp at h2
      | some o => exact (Array.getElem?_eq_some_iff.1 hh).1
    · rw [List.getElem?_map] at hx
      cases hr : (List.range len)[i]? with
      | none => rw [hr] at hx; cases hx
      | some j =>
        rw [hr] at hx
        obtain ⟨hi, hj⟩ := List.getElem?_eq_some_iff.1 hr
        rw [List.getElem_range] at hj
        subst hj
        simp only [Option.map_some, Option.some.injEq] at hx
        subst hx
        obtain ⟨cs', h1, hr'⟩ := hf i (by simpa using hi)
        obtain ⟨_, hcl, hcg⟩ := World.cells?_some h1
        refine ⟨cs', hr', fun j u hu => ?_⟩
        have hjl := (List.getElem?_eq_some_iff.1 hu).1
        have := hcg j (by omega)
        rw [add_add] at this
        rw [this, hu]

theorem cells_int : Try.prog.cellsOf 3 = 1 := by kernel_rfl
theorem cells_str : Try.prog.cellsOf 9 = 1 := by kernel_rfl
theorem cells_vals : Try.prog.cellsOf 30 = 1 := by kernel_rfl

theorem opn_val : Opn enc tVal 55 W := by
  intro fuel cs x h _
  obtain ⟨y0, y1, y2, n, rfl, hl, h0, h1, h2⟩ := Deep.trod_struct3 Try.underlying55 h
  rw [show Try.prog.cellsOf 55 = 3 from by kernel_rfl] at hl
  dsimp only at h0 h1 h2
  rw [cells_int] at h0 h1
  rw [cells_str] at h2
  match cs, hl with
  | [c0, c1, c2], _ =>
    simp only [List.drop_zero, List.drop_succ_cons, List.take_succ_cons, List.take_zero] at h0 h1 h2
    obtain ⟨n0, e0, _, _⟩ := DataW.trod_int Try.underlying3 h0
    obtain ⟨n1, e1, _, _⟩ := DataW.trod_int Try.underlying3 h1
    obtain ⟨s2, e2, _, _⟩ := DataW.trod_string Try.underlying9 h2
    simp only [List.cons.injEq, and_true] at e0 e1 e2
    exact ⟨⟨n0, n1, s2⟩, by rw [e0, e1, e2]; rfl⟩

instance : Inhabited Val := ⟨⟨0, 0, ⟨#[]⟩⟩⟩
instance : Inhabited Chg := ⟨⟨⟨#[]⟩, 0, [], []⟩⟩

theorem opn_vals : Opn enc (tSl tVal) 30 W := opn_slice Try.underlying30 (by kernel_rfl) (of_decide_eq_true (by kernel_rfl)) (by decide) opn_val

theorem opn_chg : Opn enc tChg 40 W := by
  intro fuel cs x h hw
  obtain ⟨y0, y1, y2, y3, n, rfl, hl, h0, h1, h2, h3⟩ := Joins.trod_struct4 Try.underlying40 h
  rw [show Try.prog.cellsOf 40 = 4 from by kernel_rfl] at hl
  have hw' : ∀ n ∈ DataW.weights Try.prog 40 (.agg [y0.1, y1.1, y2.1, y3.1]), n ≤ reachBytes := hw
  simp only [DataW.weights, Try.underlying40] at hw'
  have w2 := light_each hw' (j := 2) rfl rfl
  have w3 := light_each hw' (j := 3) rfl rfl
  dsimp only at h0 h1 h2 h3 w2 w3
  rw [cells_str] at h0
  rw [cells_int] at h1
  rw [cells_vals] at h2 h3
  match cs, hl with
  | [c0, c1, c2, c3], _ =>
    simp only [List.drop_zero, List.drop_succ_cons, List.take_succ_cons, List.take_zero] at h0 h1 h2 h3
    obtain ⟨s0, e0, _, _⟩ := DataW.trod_string Try.underlying9 h0
    obtain ⟨n1, e1, _, _⟩ := DataW.trod_int Try.underlying3 h1
    obtain ⟨old, v2, e2, r2⟩ := opn_vals n _ _ h2 w2
    obtain ⟨new, v3, e3, r3⟩ := opn_vals n _ _ h3 w3
    simp only [List.cons.injEq, and_true] at e0 e1 e2 e3
    subst e0; subst e1; subst e2; subst e3
    exact ⟨⟨s0, n1, old, new⟩, _, _, rfl, r2, r3⟩

theorem opn_chgs : Opn enc (tSl tChg) 27 W := opn_slice Try.underlying27 (by kernel_rfl) (of_decide_eq_true (by kernel_rfl)) (by decide) opn_chg
end

end Go.Proofs.Ytkfoknjflpklpaa.D
