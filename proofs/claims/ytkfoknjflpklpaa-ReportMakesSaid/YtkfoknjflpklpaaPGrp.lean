/- Rows of rows of numbers that are the call's own: each group's block is known. -/
import Derived.Test.YtkfoknjflpklpaaPAlike
namespace Go.Proofs.Ytkfoknjflpklpaa.P
open Go Go.RowKit Go.Sort Go.Proofs.Ytkfoknjflpklpaa.Mem Go.Proofs.Ytkfoknjflpklpaa.Cmp Go.Proofs.Ytkfoknjflpklpaa.D

/-- A group: its numbers, and the block that they lie in. -/
def tGrp (base : Nat) : Ty (List Int × Nat) where
  sz := 1
  R := fun ok w x cs => ∃ v, cs = [v] ∧ Own (tInt .i64) 3 (fun _ => False) w base v x.1 ∧ v.ownBlock = some x.2 ∧ ok x.2 ∧ x.1.length ≤ 1000
  len := fun ⟨_, h, _⟩ => by rw [h]; rfl
  one := fun ⟨v, h, ho, _⟩ u hu => by
    rw [h] at hu
    rw [List.mem_singleton.1 hu]
    obtain ⟨A, c, rfl, _⟩ := ho.form
    rfl
  mono := fun hok ⟨v, h, ho, hb, hk, hl⟩ => ⟨v, h, ho, hb, hok _ hk, hl⟩
  move := fun {ok w w' x cs} hm ⟨v, h, ho, hb, hk, hl⟩ => ⟨v, h, ho.move (fun k hk' => by
    rw [hb] at hk'
    obtain rfl := Option.some.inj hk'
    exact hm _ hk (ho.lt _ hb).2) (fun _ h => h.elim), hb, hk, hl⟩
  bnd := fun ⟨v, h, ho, hb, hk, hl⟩ => ⟨v, h, ho, hb, ⟨hk, (ho.lt _ hb).2⟩, hl⟩

theorem infoInt : (Try.prog.info? 3).map (fun i => (i.zero, i.size, i.bytes)) = some (some (.int .i64 0), (tInt .i64).sz, 8) := by kernel_rfl
theorem infoGrp (base : Nat) : (Try.prog.info? 61).map (fun i => (i.zero, i.size, i.bytes)) = some (some (.slice none 0 0), (tGrp base).sz, 24) := by
  show _ = some (some (Value.slice none 0 0), 1, 24)
  kernel_rfl

/-- A group reads. -/
theorem grp_sl {base : Nat} {ok : Nat → Prop} {w : World} {x : List Int × Nat} {v : Value} (h : (tGrp base).R ok w x [v]) : Sl (tInt .i64) ok w v x.1 := by
  obtain ⟨u, e, ho, hb, hk, hl⟩ := h
  simp only [List.cons.injEq, and_true] at e
  subst e
  exact ho.sl (fun k hk' => by rw [hb] at hk'; obtain rfl := Option.some.inj hk'; exact hk) (fun _ h => h.elim) (by omega)
/-- Groups read. -/
theorem grps_row {base : Nat} {ok : Nat → Prop} {w : World} {A : Option Addr} {gs : List (List Int × Nat)} (h : Row (tGrp base) ok w A gs) : Row (tSl (tInt .i64)) ok w A (gs.map (·.1)) := fun hne => by
  obtain ⟨ad, rfl, hb, hlt, hx⟩ := h (by intro e; subst e; simp at hne)
  refine ⟨ad, rfl, hb, hlt, fun i x hi => ?_⟩
  rw [List.getElem?_map] at hi
  obtain ⟨y, hy, rfl⟩ := Option.map_eq_some_iff.1 hi
  obtain ⟨cs, hr, ha⟩ := hx i y hy
  have hr' := hr
  obtain ⟨v, e, _⟩ := hr'
  subst e
  exact ⟨[v], ⟨v, rfl, grp_sl hr⟩, ha⟩

theorem flat_set (cells : List (List Value)) (h : ∀ c ∈ cells, c.length = 1) (i : Nat) (u : Value) : (cells.set i [u]).flatten = cells.flatten.set i u := by
  induction cells generalizing i with
  | nil => rfl
  | cons c cells ih =>
    have h0 := h c List.mem_cons_self
    obtain ⟨a, rfl⟩ := List.length_eq_one_iff.1 h0
    cases i with
    | zero => rfl
    | succ i =>
      simp only [List.set_cons_succ, List.flatten_cons, List.singleton_append]
      rw [ih (fun c hc => h c (List.mem_cons_of_mem _ hc))]

/-- Element i of a row of the call's own is another one: what it led to has been written, then its cell. -/
theorem grp_step {base : Nat} {w w7 : World} {g cap n : Nat} {gs : List (List Int × Nat)} {i b b' : Nat} {xs xs' : List Int} {v1 : Value}
    (h : Own (tGrp base) 61 (fun k => base ≤ k) w base (.slice (some ⟨g, 0, none⟩) n cap) gs) (hi : gs[i]? = some (xs, b)) (hnd : (gs.map (·.2)).Nodup)
    (hbl : ∀ k, k < w.heap.size → k ≠ b → w7.heap[k]? = w.heap[k]?) (ho : Own (tInt .i64) 3 (fun _ => False) w7 base v1 xs') (hb1 : v1.ownBlock = some b') (hb' : b' = b ∨ w.heap.size ≤ b') (hl : xs'.length ≤ 1000) :
    Own (tGrp base) 61 (fun k => base ≤ k) (w7.setCell ⟨g, i, none⟩ v1) base (.slice (some ⟨g, 0, none⟩) n cap) (gs.set i (xs', b')) ∧ ((gs.set i (xs', b')).map (·.2)).Nodup := by
  have hlt := h.lt
  obtain ⟨cells, hlc, hown, hr⟩ := h
  have hcl := Own.lens hlc hr
  have hii : i < gs.length := (List.getElem?_eq_some_iff.1 hi).1
  have hgw : g < w.heap.size := (hlt g rfl).2
  have hbg : base ≤ g := (hlt g rfl).1
  have hci := hr i _ cells[i] hi (List.getElem?_eq_getElem (by omega))
  have hbne : b ≠ g := by
    obtain ⟨v, _, _, _, hk, _⟩ := hci
    exact fun e => hk.2 (by rw [show ((xs, b) : List Int × Nat).2 = b from rfl, e]; rfl)
  have hblt : b < w.heap.size := by
    obtain ⟨v, _, hov, hbv, _, _⟩ := hci
    exact (hov.lt b hbv).2
  have hb'ne : b' ≠ g := by rcases hb' with rfl | hb' <;> omega
  have hbg' : ∀ (j : Nat) (y : List Int × Nat), gs[j]? = some y → j ≠ i → y.2 ≠ b := fun j y hj hne e => by
    have hn := List.pairwise_iff_getElem.1 hnd
    obtain ⟨hjl, e1⟩ := List.getElem?_eq_some_iff.1 hj
    obtain ⟨_, e2⟩ := List.getElem?_eq_some_iff.1 hi
    have m1 : (gs.map (·.2))[j]'(by simpa using hjl) = b := by rw [List.getElem_map, e1]; exact e
    have m2 : (gs.map (·.2))[i]'(by simpa using hii) = b := by rw [List.getElem_map, e2]
    rcases Nat.lt_or_gt_of_ne hne with hc | hc
    · exact hn j i (by simpa using hjl) (by simpa using hii) hc (m1.trans m2.symm)
    · exact hn i j (by simpa using hii) (by simpa using hjl) hc (m2.trans m1.symm)
  have hg7 : w7.heap[g]? = w.heap[g]? := hbl g hgw (fun e => hbne e.symm)
  have hmv : ∀ k, k < w.heap.size → k ≠ b → k ≠ g → (w7.setCell ⟨g, i, none⟩ v1).heap[k]? = w.heap[k]? := fun k h1 h2 h3 => (Below.heap_setCell _ ⟨g, i, none⟩ _ k h3).trans (hbl k h1 h2)
  refine ⟨⟨cells.set i [v1], by simp [hlc], ?_, fun j y c hj hc => ?_⟩, ?_⟩
  · rw [flat_set cells (fun c hc => hcl c hc), List.length_set]
    obtain ⟨q1, q2⟩ := hown
    refine ⟨by simpa using q1, .inr ?_⟩
    rcases q2 with ⟨e, _⟩ | ⟨g', cap', cur, he, hbg2, hh, hcc, hcm, hcs, htk⟩
    · cases e
    · injection he with he1 he2 he3
      injection he1 with he1
      injection he1 with he1
      subst he1; subst he2; subst he3
      refine ⟨g, cap, cur.setIfInBounds i v1, rfl, hbg2, ?_, hcc, hcm, by simpa using hcs, ?_⟩
      · have e7 := hg7.trans hh
        simp [World.setCell, Array.getElem?_modify, e7]
      · rw [Array.toList_setIfInBounds, List.take_set, htk]
  · by_cases hji : j = i
    · subst hji
      rw [List.getElem?_set_self hii] at hj
      rw [List.getElem?_set_self (by omega)] at hc
      obtain rfl := Option.some.inj hj
      obtain rfl := Option.some.inj hc
      refine ⟨v1, rfl, ho.far (p := ⟨g, j, none⟩) (fun k hk => by rw [hb1] at hk; obtain rfl := Option.some.inj hk; exact hb'ne) (fun _ h => h.elim) _, hb1, ⟨?_, fun e => hb'ne (Option.some.inj e)⟩, hl⟩
      exact (ho.lt b' hb1).1
    · rw [List.getElem?_set_ne (fun e => hji e.symm)] at hj hc
      obtain ⟨u, rfl, hov, hbv, hk, hl2⟩ := hr j y c hj hc
      have hy := hbg' j y hj hji
      refine ⟨u, rfl, hov.move (fun k hk' => ?_) (fun _ h => h.elim), hbv, hk, hl2⟩
      rw [hbv] at hk'
      obtain rfl := Option.some.inj hk'
      exact hmv _ (hov.lt _ hbv).2 hy (fun e => hk.2 (by rw [e]; rfl))
  · rw [List.map_set]
    rcases hb' with rfl | hb'
    · have : (gs.map (·.2)).set i b' = gs.map (·.2) := by
        apply List.ext_getElem?
        intro j
        by_cases hji : i = j
        · subst hji
          rw [List.getElem?_set_self (by simpa using hii), List.getElem?_map, hi]; rfl
        · rw [List.getElem?_set_ne hji]
      rw [this]; exact hnd
    · have hnin : b' ∉ gs.map (·.2) := fun hm => by
        obtain ⟨y, hy, e⟩ := List.mem_map.1 hm
        obtain ⟨j, hj, rfl⟩ := List.mem_iff_getElem.1 hy
        obtain ⟨u, _, hov, hbv, _, _⟩ := hr j gs[j] (cells[j]'(by omega)) (List.getElem?_eq_getElem hj) (List.getElem?_eq_getElem (by omega))
        have := (hov.lt _ hbv).2
        omega
      refine List.pairwise_iff_getElem.2 (fun p q hp hq hpq => ?_)
      rw [List.length_set] at hp hq
      rw [List.getElem_set, List.getElem_set]
      split
      · rename_i h1
        rw [if_neg (by omega)]
        exact fun e => hnin (List.mem_of_getElem (i := q) (h := hq) e.symm)
      · split
        · exact fun e => hnin (List.mem_of_getElem (i := p) (h := hp) e)
        · exact List.pairwise_iff_getElem.1 hnd p q hp hq hpq
end Go.Proofs.Ytkfoknjflpklpaa.P
