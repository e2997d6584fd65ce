/- The law's own list grows by one. -/
import Derived.Test.YtkfoknjflpklpaaDTrack2
import Derived.Test.YtkfoknjflpklpaaDLists
namespace Go.Proofs.Ytkfoknjflpklpaa.D
open Go Go.RowKit Go.Proofs.Ytkfoknjflpklpaa.Mem

theorem wpList_append' {P : Program} {ops : Array Oper} {rest : List Oper} {o : Oper} {a : Act} {Q : Exit → Act → World → Prop} {W w1 : World} (hgd : o.guard = none) (s x : Operand) (t : TypeId) (ho : o.op = .call { callee := .builtin .append, args := #[s, x], argTypes := #[t, t] }) {v u v1 : Value} (hs : a.eval s = v) (hx : a.eval x = u)
    (hr : (Builtin.append_ #[t, t] o.type #[v, u]).run P W = .ok v1 w1) (h : wpList P ops Q rest (a.put o.dst v1) w1) : wpList P ops Q (o :: rest) a W := by
  refine wpList_plain hgd fun K hK => ?_
  unfold Oper.wp execOp
  simp only [ho, resolve, invoke, builtin, Sem.run_bind, Sem.run_pure, Result.andThen_ok, List.map_toArray, List.map_cons, List.map_nil, hs, hx, hr]
  exact hK _ _ h

section
variable {P : Program} {α : Type}
/-- append(v, x) where v is full; what v's elements lead to, apart from v's own row. -/
theorem run_push_full2 (d : Ty α) {W : World} (ty t e : TypeId) (z : Value) (bytes : Nat)
    (ht : P.underlying t = some (.slice e)) (hinfo : (P.info? e).map (fun i => (i.zero, i.size, i.bytes)) = some (some z, d.sz, bytes)) (hz : z.cells.size = d.sz) (hs0 : 0 < d.sz) (hb0 : 0 < bytes)
    (ad : Addr) (n b : Nat) (xs : List α) (p : α) (cs : List Value) (ok : Nat → Prop) (hn : n = xs.length)
    (had : xs ≠ [] → ad.block < W.heap.size) (hel : ∀ i x, xs[i]? = some x → ∃ c, d.R ok W x c ∧ At W ad (i * d.sz) c)
    (hb : W.heap[b]? = some (.cells cs.toArray e (0, 0))) (hp : d.R ok W p cs) (hl : (xs.length + 1) * bytes ≤ 140737488355328) (hlt : ∀ k, ok k → k < W.heap.size) :
    ∃ v1 w1, (Builtin.append_ #[t, t] ty #[.slice (some ad) n n, .slice (some ⟨b, 0, none⟩) 1 1]).run P W = .ok v1 w1 ∧ Own d e ok w1 W.heap.size v1 (xs ++ [p]) ∧ W.grownBy w1 none := by
  obtain ⟨i0, hi, hzz⟩ := Option.map_eq_some_iff.1 hinfo
  simp only [Prod.mk.injEq] at hzz
  obtain ⟨hz0, hz1, hz2⟩ := hzz
  have hlen : xs.length + 1 ≤ 140737488355328 := Nat.le_trans (Nat.le_mul_of_pos_right _ hb0) hl
  subst hn
  have hrow : Row d (fun _ => True) W (some ad) xs := fun hne => ⟨ad, rfl, trivial, had hne, fun i x hx => by
    obtain ⟨c, h1, h2⟩ := hel i x hx
    exact ⟨c, d.mono (fun _ _ => trivial) h1, h2⟩⟩
  obtain ⟨news, hnl, hnr, hnc⟩ := hrow.cells
  have hcl := Own.lens hnl hnr
  have hnr2 : ∀ (i : Nat) (y : α) (c : List Value), xs[i]? = some y → news[i]? = some c → d.R ok W y c := fun i y c hy hc => by
    obtain ⟨c2, h1, h2⟩ := hel i y hy
    have e1 := d.len h1
    have e2 := d.len (hnr i y c hy hc)
    have : c = c2 := by
      refine List.ext_getElem (by omega) fun j hj1 hj2 => ?_
      have q1 := hnc _ _ (flat_get news hcl i c j _ hc (List.getElem?_eq_getElem hj1))
      have q2 := h2 j _ (List.getElem?_eq_getElem hj2)
      rw [q1] at q2
      exact Option.some.inj q2
    rw [this]
    exact h1
  have hfl : ∀ l : List (List Value), (∀ c ∈ l, c.length = d.sz) → l.flatten.length = l.length * d.sz := by
    intro l
    induction l with
    | nil => intro _; simp
    | cons c l ih => intro hl; rw [List.flatten_cons, List.length_append, ih (fun c hc => hl c (List.mem_cons_of_mem _ hc)), hl c List.mem_cons_self, List.length_cons, Nat.add_mul, Nat.one_mul, Nat.add_comm]
  obtain ⟨v1, w1, hrun, hown, hg⟩ := run_append_arg_grows (P := P) W t ty e i0 z d.sz bytes ht hi hz0 hz1 hz2 hz hs0 ad xs.length xs.length news.flatten (by rw [hfl _ hcl, hnl]) hnc ⟨b, 0, none⟩ 1 1 cs (by rw [d.len hp, Nat.one_mul])
    (fun j u hu => Go.World.news_of_block hb j u (by simpa using hu)) (by omega) (by simp only [maxLen]; omega) hl
  have hmv : ∀ {x : α} {c : List Value}, d.R ok W x c → d.R (fun k => ok k ∧ some k ≠ v1.ownBlock) w1 x c := fun {x c} h => by
    refine d.mono (fun k hk => ⟨hk, fun e => ?_⟩) (d.move (fun k hk hlt => hg.block k hlt (by simp)) h)
    have := (hown.lt k e.symm).1
    have := hlt k hk
    omega
  refine ⟨v1, w1, hrun, ⟨news ++ [cs], by simp [hnl], ?_, fun i x c hx hc => ?_⟩, hg⟩
  · rw [List.flatten_append, List.length_append, List.length_singleton]
    simpa using hown
  · rcases Nat.lt_or_ge i xs.length with h | h
    · rw [List.getElem?_append_left h] at hx
      rw [List.getElem?_append_left (by omega)] at hc
      exact hmv (hnr2 i x c hx hc)
    · obtain ⟨j, rfl⟩ : ∃ j, i = xs.length + j := ⟨i - xs.length, by omega⟩
      rw [List.getElem?_append_right (by omega), Nat.add_sub_cancel_left] at hx
      rw [List.getElem?_append_right (by omega), hnl, Nat.add_sub_cancel_left] at hc
      rcases j with _ | j
      · simp only [List.getElem?_cons_zero, Option.some.injEq] at hx hc
        subst hx; subst hc
        exact hmv hp
      · simp at hx
end

/-- The elements at ad; they lead below N. -/
def Elts (w : World) (N : Nat) (ad : Addr) (ws : List Chg) : Prop := ∀ i x, ws[i]? = some x → ∃ cs, tChg.R (fun k => k < N) w x cs ∧ At w ad (i * 4) cs
/-- A full slice of changes as the document has them, in a row of one's own. -/
def Full (w : World) (N : Nat) (A : Option Addr) (n : Nat) (ws : List Chg) : Prop := n = 0 ∨ ∃ ad cur, A = some ad ∧ N ≤ ad.block ∧ w.heap[ad.block]? = some (.cells cur 43 (0, 0)) ∧ Elts w N ad ws
/-- The law's own list of what was noted. -/
def Wrt (w : World) (N : Nat) (A : Option Addr) (n c : Nat) (ws : List Chg) : Prop :=
  (Own tChg 43 (fun k => k < N) w N (.slice A n c) ws ∨ (c = n ∧ (A = none → n = 0) ∧ Full w N A n ws)) ∧ n = ws.length ∧ ∀ k, (Value.slice A n c).ownBlock = some k → N ≤ k ∧ ∃ cur, w.heap[k]? = some (.cells cur 43 (0, 0))

theorem own_elts {w : World} {N b n c : Nat} {E : TypeId} {A : Option Addr} {ws : List Chg} (h : Own tChg E (fun k => k < N) w b (.slice A n c) ws) (hn : n = ws.length) : n = 0 ∨ ∃ ad cur, A = some ad ∧ b ≤ ad.block ∧ w.heap[ad.block]? = some (.cells cur E (0, 0)) ∧ Elts w N ad ws := by
  obtain ⟨cells, hl, ho, hr⟩ := h
  rcases ho.2 with ⟨e, h0⟩ | ⟨g, cap, cur, e, hg, hh, _⟩
  · left; rw [hn]; exact h0
  · right
    have e2 : A = some ⟨g, 0, none⟩ := by injection e
    subst e2
    refine ⟨⟨g, 0, none⟩, cur, rfl, hg, hh, fun i x hx => ?_⟩
    have hil := (List.getElem?_eq_some_iff.1 hx).1
    have hc : cells[i]? = some (cells[i]'(by omega)) := List.getElem?_eq_getElem (by omega)
    have hcl := Own.lens (d := tChg) hl (fun i x c hx hc => hr i x c hx hc)
    exact ⟨_, tChg.mono (fun k hk => hk.1) (hr i x _ hx hc), fun j u hu => ho.cells (g := g) rfl _ _ (flat_get cells hcl i _ j u hc hu)⟩

section
variable {w w' : World} {N n c : Nat} {A : Option Addr} {ws : List Chg}
theorem own_heap {α : Type} {d : Ty α} {E base : Nat} {ok : Nat → Prop} {v : Value} {xs : List α} (h : Own d E ok w base v xs) {k : Nat} (hk : v.ownBlock = some k) : base ≤ k ∧ ∃ cur, w.heap[k]? = some (.cells cur E (0, 0)) := by
  obtain ⟨cells, _, ho, _⟩ := h
  rcases ho.2 with ⟨rfl, _⟩ | ⟨g, cap, cur, rfl, hg, hh, _⟩
  · simp [Value.ownBlock] at hk
  · simp only [Value.ownBlock, Option.some.injEq] at hk
    subst hk
    exact ⟨hg, cur, hh⟩
theorem Wrt.move (h : Wrt w N A n c ws) (hm : ∀ k, k < w.heap.size → (k < N ∨ (N ≤ k ∧ ∃ cur, w.heap[k]? = some (.cells cur 43 (0, 0)))) → w'.heap[k]? = w.heap[k]?) : Wrt w' N A n c ws := by
  refine ⟨?_, h.2.1, fun k hk => by
    obtain ⟨h1, cur, hc⟩ := h.2.2 k hk
    exact ⟨h1, cur, (hm k (Array.getElem?_eq_some_iff.1 hc).1 (.inr ⟨h1, cur, hc⟩)).trans hc⟩⟩
  rcases h.1 with h1 | ⟨e, h0, h1 | ⟨ad, cur, rfl, h2, h3, h4⟩⟩
  · exact .inl (h1.move (fun k hk => hm k (h1.lt k hk).2 (.inr (own_heap h1 hk))) (fun k hk _ hlt => hm k hlt (.inl hk)))
  · exact .inr ⟨e, h0, .inl h1⟩
  · have hs := hm ad.block (Array.getElem?_eq_some_iff.1 h3).1 (.inr ⟨h2, cur, h3⟩)
    exact .inr ⟨e, h0, .inr ⟨ad, cur, rfl, h2, hs.trans h3, fun i x hx => by
      obtain ⟨cs, h5, h6⟩ := h4 i x hx
      exact ⟨cs, tChg.move (fun k hk hlt => hm k hlt (.inl hk)) h5, h6.move hs⟩⟩⟩
theorem Wrt.below (h : Wrt w N A n c ws) (hb : Below w.heap.size w w') : Wrt w' N A n c ws := h.move (fun k hk _ => hb.block k hk)
theorem Wrt.sl (h : Wrt w N A n c ws) (hl : ws.length ≤ 80) : Sl tChg (fun _ => True) w (.slice A n c) ws := by
  obtain ⟨h1, hn, _⟩ := h
  rcases h1 with h1 | ⟨rfl, h0, h1⟩
  · exact h1.sl (fun _ _ => trivial) (fun _ _ => trivial) (by omega)
  · refine ⟨A, _, by rw [hn], by omega, by omega, by omega, h0, fun hne => ?_⟩
    rcases h1 with h1 | ⟨ad, cur, rfl, h2, h3, h4⟩
    · exact absurd (List.eq_nil_of_length_eq_zero (by omega)) hne
    · exact ⟨ad, rfl, trivial, (Array.getElem?_eq_some_iff.1 h3).1, fun i x hx => by
        obtain ⟨cs, h5, h6⟩ := h4 i x hx
        exact ⟨cs, tChg.mono (fun _ _ => trivial) h5, h6⟩⟩
theorem Wrt.short (h : Wrt w N A n c ws) {k : Nat} (hk : k ≤ n) : Wrt w N A k k (ws.take k) := by
  obtain ⟨h1, hn, hw⟩ := h
  have hlen : k = (ws.take k).length := by rw [List.length_take]; omega
  have key : (n = 0 ∨ ∃ ad cur, A = some ad ∧ N ≤ ad.block ∧ w.heap[ad.block]? = some (.cells cur 43 (0, 0)) ∧ Elts w N ad ws) ∧ (A = none → n = 0) := by
    rcases h1 with h1 | ⟨rfl, h0, h1⟩
    · have h2 := own_elts h1 hn
      refine ⟨h2, fun e => ?_⟩
      rcases h2 with h2 | ⟨ad, cur, e2, _⟩
      · exact h2
      · rw [e] at e2; cases e2
    · exact ⟨h1, h0⟩
  refine ⟨.inr ⟨rfl, fun e => by have := key.2 e; omega, ?_⟩, hlen, fun j hj => hw j (by cases A <;> exact hj)⟩
  rcases key.1 with h2 | ⟨ad, cur, e, h3, h4, h5⟩
  · left; omega
  · exact .inr ⟨ad, cur, e, h3, h4, fun i x hx => h5 i x (by rw [List.getElem?_take] at hx; split at hx; exact hx; cases hx)⟩
end

/-- append(w, p): into w's own row, or, where w is full, into a new one. -/
theorem wrt_push {w : World} {N n c : Nat} {A : Option Addr} {ws : List Chg} {p : Chg} {cs : List Value} (ty : TypeId)
    (h : Wrt w N A n c ws) (hN : N ≤ w.heap.size) (hp : ∀ W, Below w.heap.size w W → tChg.R (fun k => k < N) W p cs) (hl : ws.length ≤ 1000) :
    ∃ A' c' w1, (Builtin.append_ #[32, 32] ty #[.slice A n c, .slice (some ⟨w.heap.size, 0, none⟩) 1 1]).run Try.prog (w.alloc (.cells cs.toArray 43)) = .ok (.slice A' (n + 1) c') w1 ∧ n + 1 ≤ c' ∧ c' ≤ 9223372036854775807 ∧ Wrt w1 N A' (n + 1) c' (ws ++ [p]) ∧ (∀ k, (Value.slice A' (n + 1) c').ownBlock = some k → (Value.slice A n c).ownBlock = some k ∨ w.heap.size ≤ k) ∧ But (fun k => (Value.slice A n c).ownBlock = some k) w w1 := by
  have fin : ∀ v1 w1, (Builtin.append_ #[32, 32] ty #[.slice A n c, .slice (some ⟨w.heap.size, 0, none⟩) 1 1]).run Try.prog (w.alloc (.cells cs.toArray 43)) = .ok v1 w1 → Own tChg 43 (fun k => k < N) w1 N v1 (ws ++ [p]) → (∀ k, v1.ownBlock = some k → (Value.slice A n c).ownBlock = some k ∨ w.heap.size ≤ k) → But (fun k => (Value.slice A n c).ownBlock = some k) w w1 → ∃ A' c' w1, (Builtin.append_ #[32, 32] ty #[.slice A n c, .slice (some ⟨w.heap.size, 0, none⟩) 1 1]).run Try.prog (w.alloc (.cells cs.toArray 43)) = .ok (.slice A' (n + 1) c') w1 ∧ n + 1 ≤ c' ∧ c' ≤ 9223372036854775807 ∧ Wrt w1 N A' (n + 1) c' (ws ++ [p]) ∧ (∀ k, (Value.slice A' (n + 1) c').ownBlock = some k → (Value.slice A n c).ownBlock = some k ∨ w.heap.size ≤ k) ∧ But (fun k => (Value.slice A n c).ownBlock = some k) w w1 := fun v1 w1 hr ho hw hg => by
    have hln : (ws ++ [p]).length = n + 1 := by rw [List.length_append, ← h.2.1]; rfl
    obtain ⟨A', c', e, l1, l2⟩ := ho.form
    rw [hln] at e l1
    subst e
    exact ⟨A', c', w1, hr, l1, l2, ⟨.inl ho, hln.symm, fun k hk => own_heap ho hk⟩, hw, hg⟩
  have key : Own tChg 43 (fun k => k < N) w N (.slice A n c) ws → ∃ v1 w1, (Builtin.append_ #[32, 32] ty #[.slice A n c, .slice (some ⟨w.heap.size, 0, none⟩) 1 1]).run Try.prog (w.alloc (.cells cs.toArray 43)) = .ok v1 w1 ∧ Own tChg 43 (fun k => k < N) w1 N v1 (ws ++ [p]) ∧ (∀ k, v1.ownBlock = some k → (Value.slice A n c).ownBlock = some k ∨ w.heap.size ≤ k) ∧ But (fun k => (Value.slice A n c).ownBlock = some k) w w1 := fun h1 => by
    obtain ⟨v1, w1, a1, a2, a3, a4⟩ := run_push (P := Try.prog) tChg N ty 32 43 _ 72 Try.underlying32 infoRef rfl (by decide) (by decide) _ ws p cs (fun k => k < N) (tChg.mono (fun k hk => ⟨hk, fun e => by have := (h1.lt k e.symm).1; omega⟩) (hp w (Below.refl _ _))) h1 hN (by omega)
    exact ⟨v1, w1, a1, a2, (fun k hk => by
      rcases a4 with a4 | ⟨b, a4, a5⟩
      · exact .inl (a4.symm.trans hk)
      · right; have := Option.some.inj (hk.symm.trans a4); omega), a3.os, a3.tape, a3.output, a3.size, fun k hk hne => a3.block k hk (fun e => hne e.symm)⟩
  have hb : Below w.heap.size w (w.alloc (.cells cs.toArray 43)) := (Below.refl _ _).alloc (Nat.le_refl _) _
  have hsz : (w.alloc (.cells cs.toArray 43)).heap.size = w.heap.size + 1 := by simp
  rcases h.1 with h1 | ⟨hc, h0, h1⟩
  · obtain ⟨v1, w1, a1, a2, a4, a3⟩ := key h1
    exact fin v1 w1 a1 a2 a4 a3
  · subst hc
    cases A with
    | none =>
      have e0 := h0 rfl
      subst e0
      obtain rfl : ws = [] := List.eq_nil_of_length_eq_zero h.2.1.symm
      obtain ⟨v1, w1, a1, a2, a4, a3⟩ := key (Own.nil _ _ _ _ _)
      exact fin v1 w1 a1 a2 a4 a3
    | some ad =>
      have hel : (ws ≠ [] → ad.block < (w.alloc (.cells cs.toArray 43)).heap.size) ∧ ∀ i x, ws[i]? = some x → ∃ c, tChg.R (fun k => k < N) (w.alloc (.cells cs.toArray 43)) x c ∧ At (w.alloc (.cells cs.toArray 43)) ad (i * tChg.sz) c := by
        rcases h1 with h1 | ⟨ad', cur, e, _, h3, h4⟩
        · have e : ws = [] := List.eq_nil_of_length_eq_zero (by rw [← h.2.1]; exact h1)
          exact ⟨fun hne => absurd e hne, fun i x hx => by rw [e] at hx; simp at hx⟩
        · injection e with e
          subst e
          have hlt := (Array.getElem?_eq_some_iff.1 h3).1
          exact ⟨fun _ => by rw [hsz]; omega, fun i x hx => by
            obtain ⟨c, h5, h6⟩ := h4 i x hx
            exact ⟨c, Ty.below h5 hb, h6.move (hb.block _ hlt)⟩⟩
      obtain ⟨v1, w1, hr, ho, hg⟩ := run_push_full2 (P := Try.prog) tChg (W := w.alloc (.cells cs.toArray 43)) ty 32 43 _ 72 Try.underlying32 infoRef rfl (by decide) (by decide) ad _ w.heap.size ws p cs (fun k => k < N) h.2.1 hel.1 hel.2 (heap_alloc_new w _) (hp _ hb) (by omega) (fun k hk => by rw [hsz]; omega)
      exact fin v1 w1 hr (ho.lower (by rw [hsz]; omega)) (fun k hk => .inr (by have := (ho.lt k hk).1; rw [hsz] at this; omega)) ⟨hg.os, hg.tape, hg.output, Nat.le_trans hb.size hg.size, fun k hk _ => (hg.block k (by rw [hsz]; omega) (by simp)).trans (hb.block k hk)⟩
end Go.Proofs.Ytkfoknjflpklpaa.D
