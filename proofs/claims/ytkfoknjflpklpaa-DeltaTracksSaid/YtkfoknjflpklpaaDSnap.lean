/- Rows that change one after another: what their changes come to. -/
import Derived.Test.YtkfoknjflpklpaaDLaw
namespace Go.Proofs.Ytkfoknjflpklpaa.D
open Go Go.Sort Go.Proofs.Ytkfoknjflpklpaa.Stab

/-- The row i of the table t becomes row. -/
structure Ope where
  t : Nat
  i : Nat
  row : List Val

/-- Rows by table and id. -/
abbrev Rs := Nat → Nat → List Val
def nameOf (t : Nat) : ByteArray := ⟨#[116, UInt8.ofNat (48 + t)]⟩
def stepR (f : Rs) (o : Ope) : Rs := fun a b => if a = o.t % 3 ∧ b = o.i % 6 then o.row else f a b
def chgAt (f : Rs) (o : Ope) : Chg := ⟨nameOf (o.t % 3), ((o.i % 6 : Nat) : Int), f (o.t % 3) (o.i % 6), o.row⟩
def chgsOf : Rs → List Ope → List Chg
  | _, [] => []
  | f, o :: l => chgAt f o :: chgsOf (stepR f o) l
def runR (f : Rs) (l : List Ope) : Rs := l.foldl stepR f

def cellC (f g : Rs) (p : Nat × Nat) : Chg := ⟨nameOf p.1, (p.2 : Int), f p.1 p.2, g p.1 p.2⟩
def places : List (Nat × Nat) := (List.range 3).flatMap fun t => (List.range 6).map fun i => (t, i)
def differR (f g : Rs) : List Chg := (places.filter fun p => !decide (f p.1 p.2 = g p.1 p.2)).map (cellC f g)

theorem mem_places (p : Nat × Nat) : p ∈ places ↔ p.1 < 3 ∧ p.2 < 6 := by
  simp only [places, List.mem_flatMap, List.mem_range, List.mem_map]
  constructor
  · rintro ⟨t, ht, i, hi, rfl⟩; exact ⟨ht, hi⟩
  · intro h; exact ⟨p.1, h.1, p.2, h.2, rfl⟩

def keyC (p : Nat × Nat) : Chg := ⟨nameOf p.1, (p.2 : Int), [], []⟩

theorem keys_apart : ∀ p ∈ places, ∀ q ∈ places, (keyC p).same (keyC q) = true → p = q := by decide +kernel
theorem keys_rise : places.Pairwise (fun p q => (keyC p).lt (keyC q) = true) := by decide +kernel

theorem cell_same (f g : Rs) (p : Nat × Nat) (c : Chg) : c.same (cellC f g p) = c.same (keyC p) := rfl
theorem key_same (f g : Rs) (p : Nat × Nat) (c : Chg) : (cellC f g p).same c = (keyC p).same c := rfl

theorem differ_rising (f g : Rs) : Rising (differR f g) := by
  unfold Rising differR
  rw [List.pairwise_map]
  exact (keys_rise.sublist List.filter_sublist).imp (fun h => h)

theorem kind_zero (c : Chg) : c.kind = 0 ↔ c.old = c.new := by
  unfold Chg.kind
  constructor
  · intro h
    by_cases h1 : c.old = c.new
    · exact h1
    · rw [if_neg h1] at h
      split at h
      · cases h
      · split at h <;> cases h
  · intro h; rw [if_pos h]

theorem mem_differ (f g : Rs) (c : Chg) : c ∈ differR f g ↔ ∃ p ∈ places, c = cellC f g p ∧ c.kind ≠ 0 := by
  simp only [differR, List.mem_map, List.mem_filter, Bool.not_eq_true', decide_eq_false_iff_not]
  constructor
  · rintro ⟨p, ⟨hp, hne⟩, rfl⟩
    exact ⟨p, hp, rfl, fun h => hne ((kind_zero _).1 h)⟩
  · rintro ⟨p, hp, rfl, hk⟩
    exact ⟨p, ⟨hp, fun h => hk ((kind_zero _).2 h)⟩, rfl⟩

/-- What l says of each row: nothing, and it stays; or first what it was, and last what it is. -/
structure Tells (f g : Rs) (l : List Chg) : Prop where
  keys : ∀ c ∈ l, ∃ p ∈ places, (keyC p).same c = true
  rows : ∀ p ∈ places, (l.filter (keyC p).same = [] ∧ g p.1 p.2 = f p.1 p.2) ∨ ((l.filter (keyC p).same).head?.map Chg.old = some (f p.1 p.2) ∧ (l.filter (keyC p).same).getLast?.map Chg.new = some (g p.1 p.2))

theorem Tells.net {f g : Rs} {l : List Chg} (h : Tells f g l) : net l = differR f g := by
  refine Rising.ext (net_rising l) (differ_rising f g) fun c => ?_
  rw [mem_net, mem_differ]
  constructor
  · intro hn
    obtain ⟨hk, h1, h2⟩ := hn
    cases hf : l.filter c.same with
    | nil => rw [hf] at h1; simp at h1
    | cons y ys =>
      have hy : y ∈ l.filter c.same := by rw [hf]; exact List.mem_cons_self
      obtain ⟨hy1, hy2⟩ := List.mem_filter.1 hy
      obtain ⟨p, hp, hps⟩ := h.keys y hy1
      have hpc : (keyC p).same c = true := Chg.same_trans hps (Chg.same_symm hy2)
      refine ⟨p, hp, ?_, hk⟩
      rw [same_eq_filter (Chg.same_symm hpc)] at h1 h2
      rcases h.rows p hp with ⟨h3, _⟩ | ⟨h3, h4⟩
      · rw [h3] at h1; simp at h1
      · rw [h3] at h1
        rw [h4] at h2
        simp only [Option.some.injEq] at h1 h2
        obtain ⟨k1, k2⟩ := (Chg.same_iff _ _).1 hpc
        obtain ⟨t, i, o, n⟩ := c
        simp only at h1 h2 k1 k2
        rw [cellC, h1, h2]
        simp only [Chg.mk.injEq, and_true]
        exact ⟨k1.symm, k2.symm⟩
  · rintro ⟨p, hp, rfl, hk⟩
    refine ⟨hk, ?_⟩
    rw [show (cellC f g p).same = (keyC p).same from rfl]
    rcases h.rows p hp with ⟨_, h3⟩ | ⟨h3, h4⟩
    · exact absurd ((kind_zero _).2 h3.symm) hk
    · exact ⟨h3, h4⟩

theorem last_app {α : Type} (l : List α) {m : List α} (h : m ≠ []) : (l ++ m).getLast? = m.getLast? := by
  rw [List.getLast?_append, List.getLast?_eq_some_getLast h]
  rfl
theorem head_app {α : Type} {l : List α} (m : List α) (h : l ≠ []) : (l ++ m).head? = l.head? := by
  cases l with
  | nil => exact absurd rfl h
  | cons x xs => rfl

theorem Tells.nil (f : Rs) : Tells f f [] := ⟨fun c h => (by cases h), fun p _ => .inl ⟨rfl, rfl⟩⟩

theorem Tells.append {f g h : Rs} {l m : List Chg} (a : Tells f g l) (b : Tells g h m) : Tells f h (l ++ m) := by
  refine ⟨fun c hc => ?_, fun p hp => ?_⟩
  · rcases List.mem_append.1 hc with hc | hc
    · exact a.keys c hc
    · exact b.keys c hc
  · rw [List.filter_append]
    rcases a.rows p hp with ⟨a1, a2⟩ | ⟨a1, a2⟩
    · rw [a1, List.nil_append, ← a2]
      exact b.rows p hp
    · have hne : l.filter (keyC p).same ≠ [] := fun e => by rw [e] at a1; simp at a1
      right
      refine ⟨by rw [head_app _ hne]; exact a1, ?_⟩
      rcases b.rows p hp with ⟨b1, b2⟩ | ⟨b1, b2⟩
      · rw [b1, List.append_nil, b2]; exact a2
      · have hne2 : m.filter (keyC p).same ≠ [] := fun e => by rw [e] at b2; simp at b2
        rw [last_app _ hne2]; exact b2

theorem tells_one (f : Rs) (o : Ope) : Tells f (stepR f o) [chgAt f o] := by
  have hpl : (o.t % 3, o.i % 6) ∈ places := (mem_places _).2 ⟨Nat.mod_lt _ (by decide), Nat.mod_lt _ (by decide)⟩
  have hs : (keyC (o.t % 3, o.i % 6)).same (chgAt f o) = true := (Chg.same_iff _ _).2 ⟨rfl, rfl⟩
  refine ⟨fun c hc => ?_, fun p hp => ?_⟩
  · rw [List.mem_singleton.1 hc]; exact ⟨_, hpl, hs⟩
  · cases hpc : (keyC p).same (chgAt f o) with
    | true =>
      obtain rfl := keys_apart p hp _ hpl (Chg.same_trans hpc (Chg.same_symm hs))
      right
      simp only [List.filter_cons, hpc, if_true, List.filter_nil]
      simp [chgAt, stepR]
    | false =>
      left
      have hne : p ≠ (o.t % 3, o.i % 6) := fun e => by rw [e, hs] at hpc; cases hpc
      simp only [List.filter_cons, hpc, List.filter_nil]
      refine ⟨rfl, ?_⟩
      unfold stepR
      rw [if_neg (fun e => hne (Prod.ext e.1 e.2))]

theorem runR_cons (f : Rs) (o : Ope) (l : List Ope) : runR f (o :: l) = runR (stepR f o) l := rfl

theorem tells_chgs : ∀ (l : List Ope) (f : Rs), Tells f (runR f l) (chgsOf f l)
  | [], f => Tells.nil f
  | o :: l, f => by
    rw [runR_cons]
    exact (tells_one f o).append (tells_chgs l (stepR f o))

theorem tells_differ (f g : Rs) : Tells f g (differR f g) := by
  refine ⟨fun c hc => ?_, fun p hp => ?_⟩
  · obtain ⟨p, hp, rfl, _⟩ := (mem_differ f g c).1 hc
    exact ⟨p, hp, Chg.same_refl (keyC p)⟩
  · by_cases he : f p.1 p.2 = g p.1 p.2
    · left
      refine ⟨filter_none fun c hc => ?_, he.symm⟩
      obtain ⟨q, hq, rfl, hk⟩ := (mem_differ f g c).1 hc
      cases hs : (keyC p).same (cellC f g q) with
      | false => rfl
      | true =>
        obtain rfl := keys_apart p hp q hq hs
        exact absurd ((kind_zero _).2 he) hk
    · right
      have h1 : cellC f g p ∈ differR f g := (mem_differ f g _).2 ⟨p, hp, rfl, fun h => he ((kind_zero _).1 h)⟩
      have h2 : ∀ c ∈ (differR f g).filter (keyC p).same, c = cellC f g p := fun c hc => by
        obtain ⟨hc1, hc2⟩ := List.mem_filter.1 hc
        obtain ⟨q, hq, rfl, _⟩ := (mem_differ f g c).1 hc1
        rw [keys_apart p hp q hq hc2]
      have h3 : cellC f g p ∈ (differR f g).filter (keyC p).same := List.mem_filter.2 ⟨h1, Chg.same_refl (keyC p)⟩
      cases hd : (differR f g).filter (keyC p).same with
      | nil => rw [hd] at h3; cases h3
      | cons y ys =>
        rw [hd] at h2
        refine ⟨by rw [List.head?_cons, h2 y List.mem_cons_self]; rfl, ?_⟩
        rw [List.getLast?_eq_some_getLast (by simp), h2 _ (List.getLast_mem _)]
        rfl

theorem net_chgs (f : Rs) (l : List Ope) : net (chgsOf f l) = differR f (runR f l) := (tells_chgs l f).net

theorem chgs_append : ∀ (l m : List Ope) (f : Rs), chgsOf f (l ++ m) = chgsOf f l ++ chgsOf (runR f l) m
  | [], _, _ => rfl
  | o :: l, m, f => by
    rw [List.cons_append, chgsOf, chgsOf, chgs_append l m, runR_cons, List.cons_append]
theorem chgs_length : ∀ (l : List Ope) (f : Rs), (chgsOf f l).length = l.length
  | [], _ => rfl
  | o :: l, f => by rw [chgsOf, List.length_cons, chgs_length l, List.length_cons]
theorem chgs_take (f : Rs) (l : List Ope) (k : Nat) : (chgsOf f l).take k = chgsOf f (l.take k) := by
  conv => lhs; rw [← List.take_append_drop k l]
  rw [chgs_append]
  by_cases h : k ≤ l.length
  · rw [List.take_append_of_le_length (by rw [chgs_length, List.length_take]; omega), List.take_of_length_le (by rw [chgs_length, List.length_take]; omega)]
  · rw [List.take_of_length_le (by simp [chgs_length, List.length_take, List.length_drop]; omega), (List.drop_eq_nil_of_le (by omega) : l.drop k = [])]
    simp [chgsOf]
theorem chgs_drop (f : Rs) (l : List Ope) (k : Nat) : (chgsOf f l).drop k = chgsOf (runR f (l.take k)) (l.drop k) := by
  conv => lhs; rw [← List.take_append_drop k l]
  rw [chgs_append]
  by_cases h : k ≤ l.length
  · rw [List.drop_append_of_le_length (by rw [chgs_length, List.length_take]; omega), List.drop_eq_nil_of_le (by rw [chgs_length, List.length_take]; omega), List.nil_append]
  · rw [List.drop_eq_nil_of_le (by simp [chgs_length, List.length_take, List.length_drop]; omega), (List.drop_eq_nil_of_le (by omega) : l.drop k = [])]
    simp [chgsOf]
theorem runR_append (f : Rs) (l m : List Ope) : runR f (l ++ m) = runR (runR f l) m := List.foldl_append

/-- The net effect of two parts' net effects is that of the whole. -/
theorem net_parts (f : Rs) (l : List Ope) (k : Nat) : net (net ((chgsOf f l).take k) ++ net ((chgsOf f l).drop k)) = net (chgsOf f l) := by
  rw [chgs_take, chgs_drop, net_chgs, net_chgs, ((tells_differ _ _).append (tells_differ _ _)).net, net_chgs, ← runR_append, List.take_append_drop]

def Chg.turned (c : Chg) : Chg := { c with old := c.new, new := c.old }

/-- Changes, and behind them the same turned round, come to nothing. -/
theorem net_turned (l : List Chg) : net (l ++ l.reverse.map Chg.turned) = [] := by
  cases hn : net (l ++ l.reverse.map Chg.turned) with
  | nil => rfl
  | cons c r =>
    exfalso
    have hc : c ∈ net (l ++ l.reverse.map Chg.turned) := by rw [hn]; exact List.mem_cons_self
    obtain ⟨hk, h1, h2⟩ := (mem_net _ _).1 hc
    rw [List.filter_append, List.filter_map, show c.same ∘ Chg.turned = c.same from rfl, List.filter_reverse] at h1 h2
    apply hk
    rw [kind_zero]
    cases hf : l.filter c.same with
    | nil => rw [hf] at h1; simp at h1
    | cons y ys =>
      rw [hf] at h1 h2
      simp only [List.cons_append, List.head?_cons, Option.map_some, Option.some.injEq] at h1
      rw [last_app _ (by simp), List.getLast?_map, List.getLast?_reverse] at h2
      simp only [List.head?_cons, Option.map_some, Option.some.injEq] at h2
      rw [← h1, ← h2]
      rfl

end Go.Proofs.Ytkfoknjflpklpaa.D
