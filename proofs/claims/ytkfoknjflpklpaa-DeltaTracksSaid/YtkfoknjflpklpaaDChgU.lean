/- Changes whose new rows may be written into. -/
import Derived.Test.YtkfoknjflpklpaaDNet
import Derived.Test.YtkfoknjflpklpaaMem3
import Derived.ArgAppend
namespace Go.Proofs.Ytkfoknjflpklpaa.D
open Go Go.RowKit Go.Proofs.Ytkfoknjflpklpaa.Mem

/-- v's own block, if it has one, is a row that nothing shares. -/
def Loose (w : World) (v : Value) : Prop := ∀ k, v.ownBlock = some k → ∃ cs t, w.heap[k]? = some (.cells cs t (0, 0))

def tChgU : Ty Chg where
  sz := 4
  R := fun ok w x cs => tChg.R ok w x cs ∧ ∀ v3, cs[3]? = some v3 → x.new ≠ [] → Loose w v3
  len := fun h => tChg.len h.1
  one := fun h => tChg.one h.1
  mono := fun hok h => ⟨tChg.mono hok h.1, h.2⟩
  move := fun {ok w w' x cs} hm h => ⟨tChg.move hm h.1, fun v3 h3 hne k hk => by
    obtain ⟨cells, t, hc⟩ := h.2 v3 h3 hne k hk
    obtain ⟨u2, u3, e, _, s3⟩ := h.1
    subst e
    simp only [List.getElem?_cons_succ, List.getElem?_cons_zero, Option.some.injEq] at h3
    subst h3
    obtain ⟨A, c, rfl, _, _, _, _, hrow⟩ := s3
    obtain ⟨ad, rfl, hok, hlt, _⟩ := hrow hne
    simp only [Value.ownBlock, Option.some.injEq] at hk
    subst hk
    exact ⟨cells, t, (hm _ hok hlt).trans hc⟩⟩
  bnd := fun h => ⟨tChg.bnd h.1, h.2⟩

theorem Own.plainer {E base : Nat} {ok : Nat → Prop} {w : World} {v : Value} {xs : List Chg} (h : Own tChgU E ok w base v xs) : Own tChg E ok w base v xs := by
  obtain ⟨cells, hl, ho, hr⟩ := h
  exact ⟨cells, hl, ho, fun i x c hx hc => (hr i x c hx hc).1⟩

theorem Own.bnd {α : Type} {d : Ty α} {E base : Nat} {ok : Nat → Prop} {w : World} {v : Value} {xs : List α} (h : Own d E ok w base v xs) : Own d E (fun k => ok k ∧ k < w.heap.size) w base v xs := by
  obtain ⟨cells, hl, ho, hr⟩ := h
  exact ⟨cells, hl, ho, fun i x c hx hc => d.mono (fun k hk => ⟨⟨hk.1.1, hk.2⟩, hk.1.2⟩) (d.bnd (hr i x c hx hc))⟩

theorem cloned_RU {W : World} {BW N B : Nat} {vo v2 v3 : Value} {cc : Chg} (h1 : N ≤ BW) (h2 : BW ≤ B) (ho : ∀ k, vo.ownBlock = some k → N ≤ k ∧ k < BW) (h3 : Own tVal 55 (fun _ => False) W B v2 cc.old) (h4 : Own tVal 55 (fun _ => False) W B v3 cc.new) (n1 : cc.old.length ≤ 140737488355328) (n2 : cc.new.length ≤ 140737488355328) :
    tChgU.R (fun k => N ≤ k ∧ some k ≠ vo.ownBlock) W cc [.string cc.table, .int .i64 cc.id, v2, v3] :=
  ⟨cloned_R h1 h2 ho h3 h4 n1 n2, fun u hu _ k hk => by
    simp only [List.getElem?_cons_succ, List.getElem?_cons_zero, Option.some.injEq] at hu
    subst hu
    obtain ⟨cells, _, hown, _⟩ := h4
    rcases hown.2 with ⟨rfl, _⟩ | ⟨g, cap, cur, rfl, _, hg, _⟩
    · simp [Value.ownBlock] at hk
    · simp only [Value.ownBlock, Option.some.injEq] at hk
      subst hk
      exact ⟨_, _, hg⟩⟩

section
variable {P : Program} {α : Type}
/-- append(v, x) where v is full: it is copied into a row of one's own. -/
theorem run_push_full (d : Ty α) {W : World} (ty t e : TypeId) (z : Value) (bytes : Nat)
    (ht : P.underlying t = some (.slice e)) (hinfo : (P.info? e).map (fun i => (i.zero, i.size, i.bytes)) = some (some z, d.sz, bytes)) (hz : z.cells.size = d.sz) (hs0 : 0 < d.sz) (hb0 : 0 < bytes)
    (ad : Addr) (n b : Nat) (xs : List α) (p : α) (cs : List Value) (okv ok : Nat → Prop)
    (hv : Sl d okv W (.slice (some ad) n n) xs)
    (hb : W.heap[b]? = some (.cells cs.toArray e (0, 0))) (hp : d.R ok W p cs) (hl : (xs.length + 1) * bytes ≤ 140737488355328)
    (hok1 : ∀ k, okv k → k < W.heap.size → ok k) (hlt : ∀ k, ok k → k < W.heap.size) :
    ∃ v1 w1, (Builtin.append_ #[t, t] ty #[.slice (some ad) n n, .slice (some ⟨b, 0, none⟩) 1 1]).run P W = .ok v1 w1 ∧ Own d e ok w1 W.heap.size v1 (xs ++ [p]) ∧ W.grownBy w1 none := by
  obtain ⟨i0, hi, hzz⟩ := Option.map_eq_some_iff.1 hinfo
  simp only [Prod.mk.injEq] at hzz
  obtain ⟨hz0, hz1, hz2⟩ := hzz
  have hlen : xs.length + 1 ≤ 140737488355328 := Nat.le_trans (Nat.le_mul_of_pos_right _ hb0) hl
  obtain ⟨hrow, hn, _, _, _, _⟩ := hv.bnd.row
  subst hn
  obtain ⟨news, hnl, hnr, hnc⟩ := hrow.cells
  have hcl := Own.lens hnl hnr
  have hfl : ∀ l : List (List Value), (∀ c ∈ l, c.length = d.sz) → l.flatten.length = l.length * d.sz := by
    intro l
    induction l with
    | nil => intro _; simp
    | cons c l ih => intro hl; rw [List.flatten_cons, List.length_append, ih (fun c hc => hl c (List.mem_cons_of_mem _ hc)), hl c List.mem_cons_self, List.length_cons, Nat.add_mul, Nat.one_mul, Nat.add_comm]
  obtain ⟨v1, w1, hrun, hown, hg⟩ := run_append_arg_grows (P := P) W t ty e i0 z d.sz bytes ht hi hz0 hz1 hz2 hz hs0 ad xs.length xs.length news.flatten (by rw [hfl _ hcl, hnl]) hnc ⟨b, 0, none⟩ 1 1 cs (by rw [d.len hp, Nat.one_mul])
    (fun j u hu => Go.World.news_of_block hb j u (by simpa using hu)) (by omega) (by simp only [maxLen]; omega) hl
  have hmv : ∀ {x : α} {c : List Value}, d.R ok W x c → d.R (fun k => ok k ∧ some k ≠ v1.ownBlock) w1 x c := fun {x c} h => by
    refine d.mono (fun k hk => ⟨hk, fun e => ?_⟩) (d.move (fun k hk hlt => hg.block k hlt (by simp)) h)
    have := (hown.lt k e.symm).1
    have := hlt k hk
    omega
  refine ⟨v1, w1, hrun, ⟨news ++ [cs], by simp [hnl], ?_, fun i x c hx hc => ?_⟩, hg⟩
  · rw [List.flatten_append, List.length_append, List.length_singleton]
    simpa using hown
  · rcases Nat.lt_or_ge i xs.length with h | h
    · rw [List.getElem?_append_left h] at hx
      rw [List.getElem?_append_left (by omega)] at hc
      exact hmv (d.mono (fun k hk => hok1 k hk.1 hk.2) (hnr i x c hx hc))
    · obtain ⟨j, rfl⟩ : ∃ j, i = xs.length + j := ⟨i - xs.length, by omega⟩
      rw [List.getElem?_append_right (by omega), Nat.add_sub_cancel_left] at hx
      rw [List.getElem?_append_right (by omega), hnl, Nat.add_sub_cancel_left] at hc
      rcases j with _ | j
      · simp only [List.getElem?_cons_zero, Option.some.injEq] at hx hc
        subst hx; subst hc
        exact hmv hp
      · simp at hx
end
end Go.Proofs.Ytkfoknjflpklpaa.D
