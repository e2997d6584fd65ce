/- The document's net effect, as it is reckoned: it is the net effect. -/
import Derived.Test.YtkfoknjflpklpaaDLaw
namespace Go.Proofs.Ytkfoknjflpklpaa.D
open Go Go.Sort Go.Proofs.Ytkfoknjflpklpaa.Stab

/-- What a row is last, among changes, if it was nv. -/
def lastNew (x : Chg) (nv : List Val) (l : List Chg) : List Val := l.foldl (fun nv y => if y.same x then y.new else nv) nv

/-- Put where it stands. -/
def insAt (c : Chg) (out : List Chg) : List Chg := out.takeWhile (·.lt c) ++ [c] ++ out.dropWhile (·.lt c)

theorem insAt_length (c : Chg) (out : List Chg) : (insAt c out).length = out.length + 1 := by
  have := congrArg List.length (List.takeWhile_append_dropWhile (p := (·.lt c)) (l := out))
  rw [List.length_append] at this
  unfold insAt
  simp only [List.length_append, List.length_singleton]
  omega

def Chg.upto (x : Chg) (l : List Chg) : Chg := { x with new := lastNew x x.new l }

def refStep (l : List Chg) (i : Nat) (x : Chg) (out : List Chg) : List Chg :=
  if (l.take i).all (fun y => !y.same x) then
    if (x.upto (l.drop i)).kind = 0 then out else insAt (x.upto (l.drop i)) out
  else out

def refOuts (l : List Chg) : Nat → List Chg
  | 0 => []
  | i + 1 => match l[i]? with
    | none => refOuts l i
    | some x => refStep l i x (refOuts l i)

/-- The document's net effect. -/
def refNet (l : List Chg) : List Chg := refOuts l l.length

theorem refOuts_succ {l : List Chg} {i : Nat} {x : Chg} (h : l[i]? = some x) : refOuts l (i + 1) = refStep l i x (refOuts l i) := by rw [refOuts, h]

theorem lastNew_eq (x : Chg) : ∀ (l : List Chg) (nv : List Val), lastNew x nv l = ((l.filter (fun y => y.same x)).getLast?.map Chg.new).getD nv
  | [], nv => rfl
  | y :: l, nv => by
    have h := lastNew_eq x l (if y.same x then y.new else nv)
    unfold lastNew at h ⊢
    rw [List.foldl_cons, h, List.filter_cons]
    cases hy : y.same x with
    | false => simp
    | true =>
      simp only [if_true]
      cases hf : l.filter (fun y => y.same x) with
      | nil => simp
      | cons z zs => rw [List.getLast?_cons_cons]; simp [List.getLast?_eq_some_getLast]

theorem flip_same (x : Chg) : (fun y : Chg => y.same x) = x.same := by
  funext y
  rw [Bool.eq_iff_iff]
  exact ⟨Chg.same_symm, Chg.same_symm⟩

theorem insAt_mem {c d : Chg} {out : List Chg} : d ∈ insAt c out ↔ d = c ∨ d ∈ out := by
  unfold insAt
  have h : d ∈ out ↔ d ∈ out.takeWhile (·.lt c) ∨ d ∈ out.dropWhile (·.lt c) := by rw [← List.mem_append, List.takeWhile_append_dropWhile]
  rw [List.mem_append, List.mem_append, List.mem_singleton, h]
  constructor
  · rintro ((h | h) | h)
    · exact .inr (.inl h)
    · exact .inl h
    · exact .inr (.inr h)
  · rintro (h | h | h)
    · exact .inl (.inr h)
    · exact .inl (.inl h)
    · exact .inr h

theorem insAt_rising {c : Chg} {out : List Chg} (h : Rising out) (hn : ∀ d ∈ out, d.same c = false) : Rising (insAt c out) := by
  have h1 : Rising (out.takeWhile (·.lt c)) := List.Pairwise.sublist (List.takeWhile_sublist _) h
  have h2 : Rising (out.dropWhile (·.lt c)) := List.Pairwise.sublist (List.dropWhile_sublist _) h
  have h3 : ∀ d ∈ out.takeWhile (·.lt c), d.lt c = true := fun d hd => tw_imp (p := fun x : Chg => x.lt c) hd
  have h4 : ∀ d ∈ out.dropWhile (·.lt c), c.lt d = true := by
    cases hd : out.dropWhile (·.lt c) with
    | nil => intro d hd; cases hd
    | cons z r =>
      have hz : z.lt c = false := by
        have := List.head?_dropWhile_not (·.lt c) out
        rw [hd] at this
        simpa using this
      have hzo : z ∈ out := (List.dropWhile_sublist (l := out) (·.lt c)).subset (by rw [hd]; exact List.mem_cons_self)
      have hcz : c.lt z = true := by
        cases hh : c.lt z with
        | true => rfl
        | false => have := Chg.lt_tri hz hh; rw [hn z hzo] at this; cases this
      rw [hd] at h2
      intro d hd'
      rcases List.mem_cons.1 hd' with rfl | hd'
      · exact hcz
      · exact Chg.lt_trans hcz ((List.pairwise_cons.1 h2).1 d hd')
  unfold insAt
  refine List.pairwise_append.2 ⟨List.pairwise_append.2 ⟨h1, by simp, fun a ha b hb => by rw [List.mem_singleton.1 hb]; exact h3 a ha⟩, h2, fun a ha b hb => ?_⟩
  rcases List.mem_append.1 ha with ha | ha
  · exact Chg.lt_trans (h3 a ha) (h4 b hb)
  · rw [List.mem_singleton.1 ha]; exact h4 b hb

theorem refOuts_spec (l : List Chg) : ∀ i, i ≤ l.length → Rising (refOuts l i) ∧ ∀ c, c ∈ refOuts l i ↔ IsNet l c ∧ ∃ y ∈ l.take i, y.same c = true
  | 0, _ => by
    refine ⟨List.Pairwise.nil, fun c => ⟨fun h => (by cases h), fun h => ?_⟩⟩
    obtain ⟨_, y, hy, _⟩ := h
    simp at hy
  | i + 1, hi => by
    obtain ⟨i1, i2⟩ := refOuts_spec l i (by omega)
    obtain ⟨x, hx⟩ : ∃ x, l[i]? = some x := ⟨_, List.getElem?_eq_getElem (by omega)⟩
    have htk : l.take (i + 1) = l.take i ++ [x] := by
      obtain ⟨hlt, rfl⟩ := List.getElem?_eq_some_iff.1 hx
      exact List.take_succ_eq_append_getElem hlt
    have hdr : l.drop i = x :: l.drop (i + 1) := by
      obtain ⟨hlt, rfl⟩ := List.getElem?_eq_some_iff.1 hx
      exact List.drop_eq_getElem_cons hlt
    rw [refOuts_succ hx]
    unfold refStep
    have hex : ∀ c, (∃ y ∈ l.take (i + 1), y.same c = true) ↔ (∃ y ∈ l.take i, y.same c = true) ∨ x.same c = true := by
      intro c
      rw [htk]
      constructor
      · rintro ⟨y, hy, hc⟩
        rcases List.mem_append.1 hy with hy | hy
        · exact .inl ⟨y, hy, hc⟩
        · rw [List.mem_singleton.1 hy] at hc; exact .inr hc
      · rintro (⟨y, hy, hc⟩ | h)
        · exact ⟨y, List.mem_append.2 (.inl hy), hc⟩
        · exact ⟨x, List.mem_append.2 (.inr (List.mem_singleton.2 rfl)), h⟩
    by_cases hf : (l.take i).all (fun y => !y.same x) = true
    · rw [if_pos hf]
      have hf' : ∀ y ∈ l.take i, y.same x = false := fun y hy => by have := List.all_eq_true.1 hf y hy; simpa using this
      obtain ⟨c0, hc0⟩ : ∃ c0 : Chg, c0 = x.upto (l.drop i) := ⟨_, rfl⟩
      rw [← hc0]
      have hcs : c0.same x = true := by rw [hc0]; exact Chg.same_refl x
      have hfil : l.filter c0.same = x :: (l.drop (i + 1)).filter x.same := by
        rw [same_eq_filter hcs]
        conv => lhs; rw [← List.take_append_drop i l]
        rw [List.filter_append, filter_none (fun y hy => by
          cases h : x.same y with
          | false => rfl
          | true => have := hf' y hy; rw [Chg.same_symm h] at this; cases this), List.nil_append, hdr, List.filter_cons, if_pos (Chg.same_refl x)]
      have hh : (l.filter c0.same).head?.map Chg.old = some c0.old := by rw [hfil, hc0]; rfl
      have hl : (l.filter c0.same).getLast?.map Chg.new = some c0.new := by
        have e : c0.new = lastNew x x.new (l.drop i) := by rw [hc0]; rfl
        rw [e, lastNew_eq, flip_same, hfil, hdr, List.filter_cons, if_pos (Chg.same_refl x), List.getLast?_eq_some_getLast (by simp)]
        rfl
      have hnew : ∀ c, IsNet l c → x.same c = true → c0.kind ≠ 0 ∧ c = c0 := fun c hc hxc => by
        have hcc : c.same c0 = true := Chg.same_trans (Chg.same_symm hxc) (Chg.same_symm hcs)
        have e : c = c0 := by
          obtain ⟨_, h1, h2⟩ := hc
          rw [same_eq_filter hcc, hh] at h1
          rw [same_eq_filter hcc, hl] at h2
          rw [Chg.same_iff] at hcc
          obtain ⟨t, i', o, n⟩ := c
          obtain ⟨t', i'', o', n'⟩ := c0
          simp only [Option.some.injEq] at h1 h2 hcc
          rw [hcc.1, hcc.2, h1, h2]
        exact ⟨by rw [← e]; exact hc.1, e⟩
      by_cases hk : c0.kind = 0
      · rw [if_pos hk]
        refine ⟨i1, fun c => ?_⟩
        rw [i2 c, hex c]
        constructor
        · rintro ⟨h1, h2⟩; exact ⟨h1, .inl h2⟩
        · rintro ⟨h1, h2 | h2⟩
          · exact ⟨h1, h2⟩
          · exact absurd hk (hnew c h1 h2).1
      · rw [if_neg hk]
        refine ⟨insAt_rising i1 (fun d hd => ?_), fun c => ?_⟩
        · obtain ⟨_, y, hy, hyd⟩ := (i2 d).1 hd
          cases h : d.same c0 with
          | false => rfl
          | true => have := hf' y hy; rw [Chg.same_trans hyd (Chg.same_trans h hcs)] at this; cases this
        · rw [insAt_mem, i2 c, hex c]
          constructor
          · rintro (rfl | ⟨h1, h2⟩)
            · exact ⟨⟨hk, hh, hl⟩, .inr (Chg.same_symm hcs)⟩
            · exact ⟨h1, .inl h2⟩
          · rintro ⟨h1, h2 | h2⟩
            · exact .inr ⟨h1, h2⟩
            · exact .inl (hnew c h1 h2).2
    · rw [if_neg hf]
      refine ⟨i1, fun c => ?_⟩
      rw [i2 c, hex c]
      constructor
      · rintro ⟨h1, h2⟩; exact ⟨h1, .inl h2⟩
      · rintro ⟨h1, h2 | h2⟩
        · exact ⟨h1, h2⟩
        · refine ⟨h1, ?_⟩
          have : ∃ y ∈ l.take i, y.same x = true := by
            refine Classical.byContradiction fun hne => hf (List.all_eq_true.2 fun y hy => ?_)
            cases h : y.same x with
            | false => rfl
            | true => exact absurd ⟨y, hy, h⟩ hne
          obtain ⟨y, hy, h⟩ := this
          exact ⟨y, hy, Chg.same_trans h h2⟩

/-- The document's net effect is the net effect. -/
theorem refNet_eq (l : List Chg) : refNet l = net l := by
  obtain ⟨h1, h2⟩ := refOuts_spec l l.length (Nat.le_refl _)
  refine Rising.ext h1 (net_rising l) (fun c => ?_)
  rw [mem_net]
  have := h2 c
  unfold refNet
  rw [this, List.take_length]
  constructor
  · exact fun h => h.1
  · intro h
    refine ⟨h, ?_⟩
    have h3 := h.2.1
    cases hf : l.filter c.same with
    | nil => rw [hf] at h3; simp at h3
    | cons y ys =>
      have hy : y ∈ l.filter c.same := by rw [hf]; exact List.mem_cons_self
      obtain ⟨hy1, hy2⟩ := List.mem_filter.1 hy
      exact ⟨y, hy1, Chg.same_symm hy2⟩

end Go.Proofs.Ytkfoknjflpklpaa.D
