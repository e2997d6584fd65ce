/- The net effect: in order, no row twice, what a row was first and is last; it is the document's. -/
import Derived.Test.YtkfoknjflpklpaaDPure
namespace Go.Proofs.Ytkfoknjflpklpaa.D
open Go Go.Sort Go.Proofs.Ytkfoknjflpklpaa.Stab

/-- c tells of its row, what it was first, and is last. -/
def IsNet (l : List Chg) (c : Chg) : Prop := c.kind ≠ 0 ∧ (l.filter c.same).head?.map Chg.old = some c.old ∧ (l.filter c.same).getLast?.map Chg.new = some c.new

def Rising (l : List Chg) : Prop := l.Pairwise (fun a b => a.lt b = true)

theorem Rising.ext {l m : List Chg} (h1 : Rising l) (h2 : Rising m) (h : ∀ c, c ∈ l ↔ c ∈ m) : l = m := by
  have nd : ∀ {l : List Chg}, Rising l → l.Nodup := fun h => List.Pairwise.imp (fun {a b} hab e => by rw [e, Chg.lt_irrefl] at hab; cases hab) h
  have hp : l.Perm m := (List.perm_ext_iff_of_nodup (nd h1) (nd h2)).2 h
  unfold Rising at h1 h2
  refine List.Perm.eq_of_pairwise (le := fun a b => a.lt b = true) (fun a b _ _ hab hba => ?_) h1 h2 hp
  rw [Chg.lt_asymm hab] at hba
  cases hba

theorem same_eq_filter {x c : Chg} (h : c.same x = true) : c.same = x.same := by
  funext y
  rw [Bool.eq_iff_iff]
  exact ⟨fun hy => Chg.same_trans (Chg.same_symm h) hy, fun hy => Chg.same_trans h hy⟩

theorem net_unique {l : List Chg} {c d : Chg} (hc : IsNet l c) (hd : IsNet l d) (h : c.same d = true) : c = d := by
  obtain ⟨_, h1, h2⟩ := hc
  obtain ⟨_, h3, h4⟩ := hd
  rw [same_eq_filter h, h3] at h1
  rw [same_eq_filter h, h4] at h2
  obtain ⟨t, i, o, n⟩ := c
  obtain ⟨t', i', o', n'⟩ := d
  simp only [Option.some.injEq] at h1 h2
  rw [Chg.same_iff] at h
  simp only at h
  rw [h.1, h.2, h1, h2]

/-! ### netScan -/
theorem scan_above {x : Chg} {l : List Chg} (hs : (x :: l).Pairwise (fun a b => b.lt a = false)) : ∀ y ∈ l.dropWhile x.same, x.lt y = true := by
  obtain ⟨h1, h2⟩ := List.pairwise_cons.1 hs
  have hsub := List.dropWhile_sublist (l := l) x.same
  have h3 := h2.sublist hsub
  have h4 : ∀ y ∈ l.dropWhile x.same, y.lt x = false := fun y hy => h1 y (hsub.subset hy)
  cases hd : l.dropWhile x.same with
  | nil => intro y hy; cases hy
  | cons z r =>
    have hz : x.same z = false := by
      have := List.head?_dropWhile_not x.same l
      rw [hd] at this
      simpa using this
    rw [hd] at h3 h4
    have hxz : x.lt z = true := by
      cases h : x.lt z with
      | true => rfl
      | false => rw [Chg.lt_tri h (h4 z List.mem_cons_self)] at hz; cases hz
    intro y hy
    rcases List.mem_cons.1 hy with rfl | hy
    · exact hxz
    · cases h : x.lt y with
      | true => rfl
      | false =>
        have h5 := (List.pairwise_cons.1 h3).1 y hy
        rw [Chg.lt_ntrans h h5] at hxz
        cases hxz

theorem filter_all {α : Type} {p : α → Bool} {l : List α} (h : ∀ x ∈ l, p x = true) : l.filter p = l := List.filter_eq_self.2 h
theorem filter_none {α : Type} {p : α → Bool} {l : List α} (h : ∀ x ∈ l, p x = false) : l.filter p = [] := List.filter_eq_nil_iff.2 (fun x hx => by rw [h x hx]; simp)

theorem tw_imp {α : Type} {p : α → Bool} {l : List α} {y : α} (h : y ∈ l.takeWhile p) : p y = true := List.all_eq_true.1 List.all_takeWhile y h

theorem scan_filter {x : Chg} {l : List Chg} (hs : (x :: l).Pairwise (fun a b => b.lt a = false)) : (x :: l).filter x.same = x :: l.takeWhile x.same := by
  have ha := scan_above hs
  rw [List.filter_cons, if_pos (Chg.same_refl x)]
  congr 1
  conv => lhs; rw [← List.takeWhile_append_dropWhile (p := x.same) (l := l)]
  rw [List.filter_append, filter_all (fun y hy => by have := tw_imp hy; exact this), filter_none (fun y hy => by
    cases h : x.same y with
    | false => rfl
    | true => have := ha y hy; rw [Chg.same_not_lt h] at this; cases this), List.append_nil]

theorem scan_filter_ne {x c : Chg} {l : List Chg} (hc : c.same x = false) : (x :: l).filter c.same = (l.dropWhile x.same).filter c.same := by
  rw [List.filter_cons, hc]
  simp only [Bool.false_eq_true, if_false]
  conv => lhs; rw [← List.takeWhile_append_dropWhile (p := x.same) (l := l)]
  rw [List.filter_append, filter_none (fun y hy => ?_), List.nil_append]
  have hy2 : x.same y = true := tw_imp hy
  cases h : c.same y with
  | false => rfl
  | true => rw [Chg.same_trans h (Chg.same_symm hy2)] at hc; cases hc

theorem scan_spec : ∀ (n : Nat) (l : List Chg), l.length = n → l.Pairwise (fun a b => b.lt a = false) → Rising (netScan l) ∧ ∀ c, c ∈ netScan l ↔ IsNet l c := by
  intro n
  induction n using Nat.strongRecOn with
  | _ n ih =>
    intro l hn hs
    cases l with
    | nil =>
      rw [netScan]
      exact ⟨List.Pairwise.nil, fun c => ⟨fun h => (by cases h), fun h => by have := h.2.1; simp at this⟩⟩
    | cons x l =>
      have hsub := List.dropWhile_sublist (l := l) x.same
      obtain ⟨i1, i2⟩ := ih (l.dropWhile x.same).length (by have := hsub.length_le; simp only [List.length_cons] at hn; omega) _ rfl ((List.pairwise_cons.1 hs).2.sublist hsub)
      have ha := scan_above hs
      have hf := scan_filter hs
      rw [netScan]
      obtain ⟨c0, hc0⟩ : ∃ c0 : Chg, c0 = { x with new := ((x :: l.takeWhile x.same).getLast (by simp)).new } := ⟨_, rfl⟩
      simp only [← hc0]
      have hcs : c0.same x = true := by rw [hc0]; exact Chg.same_refl x
      have hnet : c0.kind ≠ 0 → IsNet (x :: l) c0 := fun hk => ⟨hk, by rw [same_eq_filter hcs, hf, hc0]; rfl, by rw [same_eq_filter hcs, hf, List.getLast?_eq_some_getLast (by simp), hc0]; rfl⟩
      have hr : ∀ c ∈ netScan (l.dropWhile x.same), x.lt c = true := fun c hc => by
        have := (i2 c).1 hc
        obtain ⟨_, h1, _⟩ := this
        cases hfl : (l.dropWhile x.same).filter c.same with
        | nil => rw [hfl] at h1; simp at h1
        | cons y ys =>
          have hy : y ∈ (l.dropWhile x.same).filter c.same := by rw [hfl]; exact List.mem_cons_self
          obtain ⟨hy1, hy2⟩ := List.mem_filter.1 hy
          rw [Chg.lt_of_same_right hy2]
          exact ha y hy1
      have hmem : ∀ c, c ∈ (if c0.kind = 0 then [] else [c0]) ++ netScan (l.dropWhile x.same) ↔ IsNet (x :: l) c := by
        intro c
        cases hcx : c.same x with
        | true =>
          have hno : ¬ c ∈ netScan (l.dropWhile x.same) := fun h => by have := hr c h; rw [Chg.same_not_lt (Chg.same_symm hcx)] at this; cases this
          have hcc : c.same c0 = true := Chg.same_trans hcx (Chg.same_symm hcs)
          rw [List.mem_append]
          constructor
          · intro h
            rcases h with h | h
            · split at h
              · cases h
              · next hk => rw [List.mem_singleton.1 h]; exact hnet hk
            · exact absurd h hno
          · intro h
            have e : c0.kind ≠ 0 → c = c0 := fun hk => net_unique h (hnet hk) hcc
            by_cases hk : c0.kind = 0
            · exfalso
              obtain ⟨h0, h1, h2⟩ := h
              rw [same_eq_filter hcx, hf] at h1 h2
              apply h0
              have e : c = c0 := by
                rw [List.getLast?_eq_some_getLast (by simp)] at h2
                simp only [List.head?_cons, Option.map_some, Option.some.injEq] at h1 h2
                rw [Chg.same_iff] at hcx
                obtain ⟨t, i, o, m⟩ := c
                rw [hc0]
                simp only at h1 h2 hcx
                rw [← h1, ← h2, hcx.1, hcx.2]
              rw [e]; exact hk
            · rw [if_neg hk]; exact .inl (List.mem_singleton.2 (e hk))
        | false =>
          have hno : ¬ c ∈ (if c0.kind = 0 then [] else [c0]) := fun h => by
            split at h
            · cases h
            · rw [List.mem_singleton.1 h, hcs] at hcx; cases hcx
          rw [List.mem_append]
          have e : IsNet (x :: l) c ↔ IsNet (l.dropWhile x.same) c := by unfold IsNet; rw [scan_filter_ne hcx]
          rw [e, ← i2 c]
          exact ⟨fun h => h.resolve_left hno, fun h => .inr h⟩
      refine ⟨?_, hmem⟩
      refine List.pairwise_append.2 ⟨by split <;> simp, i1, fun a ha' b hb => ?_⟩
      split at ha'
      · cases ha'
      · rw [List.mem_singleton.1 ha', Chg.lt_of_same_left hcs]
        exact hr b hb

/-! ### the sort -/
theorem ins_sorted {x : Chg} : ∀ {out : List Chg}, out.Pairwise (fun a b => b.lt a = false) → (ins (ltOf chgCmp) x out).Pairwise (fun a b => b.lt a = false)
  | [], _ => by simp [ins]
  | y :: ys, h => by
    obtain ⟨h1, h2⟩ := List.pairwise_cons.1 h
    rw [ins]
    split
    · next hlt =>
      rw [ltOf_chg] at hlt
      refine List.pairwise_cons.2 ⟨fun z hz => ?_, h⟩
      rcases List.mem_cons.1 hz with rfl | hz
      · exact Chg.lt_asymm hlt
      · cases hh : z.lt x with
        | false => rfl
        | true => have := Chg.lt_trans hh hlt; rw [h1 z hz] at this; cases this
    · next hlt =>
      refine List.pairwise_cons.2 ⟨fun z hz => ?_, ins_sorted h2⟩
      rcases (ins_perm x ys).subset hz |> List.mem_cons.1 with rfl | hz
      · rw [← ltOf_chg]; simpa using hlt
      · exact h1 z hz

theorem ins_filter {x c : Chg} : ∀ {out : List Chg}, out.Pairwise (fun a b => b.lt a = false) → (ins (ltOf chgCmp) x out).filter c.same = out.filter c.same ++ (if c.same x then [x] else [])
  | [], _ => by rw [ins, List.filter_cons, List.filter_nil]; rfl
  | y :: ys, h => by
    obtain ⟨h1, h2⟩ := List.pairwise_cons.1 h
    rw [ins]
    split
    · next hlt =>
      rw [ltOf_chg] at hlt
      cases hcx : c.same x with
      | false => rw [List.filter_cons, hcx]; simp
      | true =>
        have hn : ∀ z ∈ y :: ys, c.same z = false := fun z hz => by
          cases hcz : c.same z with
          | false => rfl
          | true =>
            have hxz : x.same z = true := Chg.same_trans (Chg.same_symm hcx) hcz
            rcases List.mem_cons.1 hz with rfl | hz
            · rw [Chg.same_not_lt hxz] at hlt; cases hlt
            · have := h1 z hz
              rw [Chg.lt_of_same_left (Chg.same_symm hxz), hlt] at this
              cases this
        rw [List.filter_cons, hcx, filter_none hn]
        rfl
    · rw [List.filter_cons, ins_filter h2, List.filter_cons]
      split <;> simp

theorem isort_spec (l : List Chg) : (isort (ltOf chgCmp) l).Pairwise (fun a b => b.lt a = false) ∧ ∀ c : Chg, (isort (ltOf chgCmp) l).filter c.same = l.filter c.same := by
  have key : ∀ (l out : List Chg), out.Pairwise (fun a b => b.lt a = false) → (l.foldl (fun out x => ins (ltOf chgCmp) x out) out).Pairwise (fun a b => b.lt a = false) ∧ ∀ c : Chg, (l.foldl (fun out x => ins (ltOf chgCmp) x out) out).filter c.same = out.filter c.same ++ l.filter c.same := by
    intro l
    induction l with
    | nil => intro out h; exact ⟨h, fun c => by simp⟩
    | cons x l ih =>
      intro out h
      obtain ⟨i1, i2⟩ := ih _ (ins_sorted (x := x) h)
      refine ⟨i1, fun c => ?_⟩
      rw [List.foldl_cons, i2 c, ins_filter h, List.append_assoc]
      congr 1
      rw [List.filter_cons]
      split <;> simp
  obtain ⟨h1, h2⟩ := key l [] List.Pairwise.nil
  exact ⟨h1, fun c => by simpa [isort] using h2 c⟩

/-- THE NET EFFECT: in order, no row twice; each change's row, what it was first, what it is last. -/
theorem net_rising (l : List Chg) : Rising (net l) := (scan_spec _ _ rfl (isort_spec l).1).1
theorem mem_net (l : List Chg) (c : Chg) : c ∈ net l ↔ IsNet l c := by
  have h := (scan_spec _ _ rfl (isort_spec l).1).2 c
  rw [show IsNet l c ↔ IsNet (isort (ltOf chgCmp) l) c by unfold IsNet; rw [(isort_spec l).2 c]]
  exact h

end Go.Proofs.Ytkfoknjflpklpaa.D
