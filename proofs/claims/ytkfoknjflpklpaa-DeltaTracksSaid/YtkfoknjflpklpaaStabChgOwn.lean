/- slices.SortStableFunc on a row of the call's own, at tripwire/delta.Change. -/
import Derived.Test.YtkfoknjflpklpaaStabChgTop
import Derived.Test.YtkfoknjflpklpaaMem
namespace Go.Proofs.Ytkfoknjflpklpaa.StabChg
open Go.Shelf Go.RowKit Go.Lib Go.Sort Go.Proofs Go.Proofs.Ytkfoknjflpklpaa.Stab Go.Proofs.Ytkfoknjflpklpaa.Mem

/-- An element as it is sorted: its cells, what they read as, where it stood. -/
structure El {β : Type} (d : Ty β) (ok : Nat → Prop) (w : World) where
  cells : List Value
  x : β
  tag : Nat
  hr : d.R ok w x cells

theorem isort_map {α β : Type} (f : α → β) (lt : β → β → Bool) (l : List α) : (isort (fun a b => lt (f a) (f b)) l).map f = isort lt (l.map f) := by
  have hi : ∀ (x : α) (l : List α), (ins (fun a b => lt (f a) (f b)) x l).map f = ins lt (f x) (l.map f) := by
    intro x l
    induction l with
    | nil => rfl
    | cons y ys ih =>
      rw [ins, List.map_cons, ins]
      split
      · rfl
      · rw [List.map_cons, ih]
  have hf : ∀ (l out : List α), (l.foldl (fun out x => ins (fun a b => lt (f a) (f b)) x out) out).map f = (l.map f).foldl (fun out x => ins lt x out) (out.map f) := by
    intro l
    induction l with
    | nil => intro out; rfl
    | cons x l ih => intro out; rw [List.foldl_cons, ih, hi, List.map_cons, List.foldl_cons]
  exact hf l []

/-- The block of a row that is put. -/
theorem putRow_block (w : World) (g : Nat) (F : Array Value) (cur : Array Value) (e : TypeId) (fr : Nat × Nat) (h : w.heap[g]? = some (.cells cur e fr)) : (putRow id w g 0 F).heap[g]? = some (.cells (putCells id 0 F cur) e fr) := by
  simp [putRow, mapBlock, Array.getElem?_modify, h, onCells]
theorem putRow_other (w : World) (g k : Nat) (F : Array Value) (h : k ≠ g) : (putRow id w g 0 F).heap[k]? = w.heap[k]? := by
  simp [putRow, mapBlock, Array.getElem?_modify, Ne.symm h]

theorem sortWorld_other {α : Type} [Inhabited α] (enc : α → List Value) (k : Nat) (w : World) (g m : Nat) (dk : Array α) (os : Array Obj) (j : Nat) (hj : j < w.heap.size) (hne : j ≠ g) : (sortWorldK enc k w g 0 m dk os).heap[j]? = w.heap[j]? := by
  unfold sortWorldK putRowK
  show (grow (putRow id (Sort.ahead w m) g 0 (flatK enc k dk)) os).heap[j]? = _
  have hs : (putRow id (Sort.ahead w m) g 0 (flatK enc k dk)).heap.size = w.heap.size := by simp [putRow, mapBlock, Sort.ahead]
  show (_ ++ os)[j]? = _
  rw [Array.getElem?_append_left (by rw [hs]; exact hj), putRow_other _ _ _ _ hne]
  rfl

theorem putCells_take (F cur : Array Value) (h : F.size ≤ cur.size) : (putCells id 0 F cur).toList.take F.size = F.toList := by
  apply List.ext_getElem?
  intro i
  rw [List.getElem?_take]
  by_cases hi : i < F.size
  · rw [if_pos hi]
    have h1 : i < cur.size := by omega
    simp only [putCells, Array.toList_mapIdx, List.getElem?_mapIdx]
    rw [List.getElem?_eq_getElem (by simpa using h1), List.getElem?_eq_getElem (by simpa using hi)]
    simp only [Option.map_some, Nat.zero_le, Nat.zero_add, true_and, if_pos hi, Nat.sub_zero, id]
    rw [getElem!_pos F i hi, Array.getElem_toList]
  · rw [if_neg hi, List.getElem?_eq_none (by simp; omega)]

theorem flatK_toList {α : Type} [Inhabited α] (enc : α → List Value) (k : Nat) (hk : ∀ x, (enc x).length = k) (d : Array α) : (flatK enc k d).toList = (d.toList.map enc).flatten := by
  apply List.ext_getElem?
  intro t
  by_cases ht : t < d.size * k
  · have k0 : 0 < k := by rcases Nat.eq_zero_or_pos k with h | h
                          · subst h; simp at ht
                          · exact h
    have hq : t / k < d.size := (Nat.div_lt_iff_lt_mul k0).2 ht
    have hm : t % k < k := Nat.mod_lt _ k0
    have h1 : (flatK enc k d).toList[t]? = some (flatK enc k d)[t]! := by
      have hts : t < (flatK enc k d).size := by rw [size_flatK]; exact ht
      rw [List.getElem?_eq_getElem (by simpa using ht), Array.getElem_toList, getElem!_pos (flatK enc k d) t hts]
    have h2 : ((d.toList.map enc).flatten)[t / k * k + t % k]? = some (enc d[t / k]!)[t % k]! := by
      refine flat_get (sz := k) _ (fun c hc => ?_) (t / k) (enc d[t / k]!) (t % k) _ ?_ ?_
      · obtain ⟨x, _, rfl⟩ := List.mem_map.1 hc
        exact hk x
      · rw [List.getElem?_map, List.getElem?_eq_getElem (by simpa using hq), Option.map_some, Array.getElem_toList, getElem!_pos d _ hq]
      · have hm2 : t % k < (enc d[t / k]!).length := by rw [hk]; exact hm
        rw [List.getElem?_eq_getElem hm2, getElem!_pos (enc d[t / k]!) (t % k) hm2]
    rw [h1, get_flatK _ _ _ _ ht]
    rw [show t / k * k + t % k = t by rw [Nat.mul_comm]; exact Nat.div_add_mod t k] at h2
    exact h2.symm
  · have hl : ((d.toList.map enc).flatten).length = d.size * k := by
      have : ∀ l : List α, ((l.map enc).flatten).length = l.length * k := by
        intro l
        induction l with
        | nil => simp
        | cons x l ih => rw [List.map_cons, List.flatten_cons, List.length_append, ih, hk, List.length_cons, Nat.add_mul, Nat.one_mul, Nat.add_comm]
      rw [this]; simp
    rw [List.getElem?_eq_none (by simp; omega), List.getElem?_eq_none (by omega)]

theorem holds_of_owns (w : World) (base E k : Nat) (g n cap : Nat) (cs : List Value) (ho : w.ownsRow base E k (.slice (some ⟨g, 0, none⟩) n cap) n cs) (F : Array Value) (hF : F.toList = cs) : Holds id w g 0 F := by
  intro j hj
  have hj' : cs[j]? = some F[j]! := by
    rw [← hF, List.getElem?_eq_getElem (by simpa using hj), Array.getElem_toList, getElem!_pos F j hj]
  have h1 := ho.cells (g := g) rfl j _ hj'
  rw [add_plain] at h1
  refine ⟨by rw [Nat.zero_add]; exact h1, ?_⟩
  rcases ho.2 with ⟨h, _⟩ | ⟨g', cap', cur, he, _, hh, _⟩
  · cases h
  · injection he with he _ _
    injection he with he
    injection he with he
    subst he
    simp [World.frozen?, hh]

theorem wf_tags {β : Type} {d : Ty β} {ok : Nat → Prop} {w : World} (xs : List β) : ∀ (cells : List (List Value)) (m : Nat), cells.length = xs.length → (∀ (i : Nat) (x : β) (c : List Value), xs[i]? = some x → cells[i]? = some c → d.R ok w x c) →
    ∃ l : List (El d ok w), l.map El.x = xs ∧ l.map El.cells = cells ∧ ∀ (i : Nat) (e : El d ok w), l[i]? = some e → e.tag = m + i := by
  induction xs with
  | nil => intro cells m hl _; exact ⟨[], rfl, by cases cells; rfl; simp at hl, fun i e h => by simp at h⟩
  | cons x xs ih =>
    intro cells m hl hr
    cases cells with
    | nil => simp at hl
    | cons c cells =>
      obtain ⟨l, h1, h2, h3⟩ := ih cells (m + 1) (by simpa using hl) (fun i x c hx hc => hr (i + 1) x c (by simpa using hx) (by simpa using hc))
      refine ⟨⟨c, x, m, hr 0 x c rfl rfl⟩ :: l, by simp [h1], by simp [h2], fun i e he => ?_⟩
      cases i with
      | zero =>
        simp only [List.getElem?_cons_zero, Option.some.injEq] at he
        subst he; rfl
      | succ i => rw [h3 i e (by simpa using he)]; omega

set_option maxHeartbeats 4000000 in
set_option maxRecDepth 100000 in
theorem sort_none (A : Option Addr) (c g : Nat) (cb : Array Value) (w : World) :
    Calls Try.prog 54 #[.slice A 0 c, .func (.func g) #[] cb] w fun e w' => e = .returned (.tuple #[]) ∧ w = w' := by
  go_enter Try.func54, Try.ntmps54
  go_wp2
  refine wp_loop_rounds 1 ?_
  rw [rounds_succ]
  go_wp2
  refine wp_loop_rounds 1 ?_
  rw [rounds_succ]
  go_wp2
  go_end0
  go_wp2
  refine wp_loop_rounds 1 ?_
  rw [rounds_succ]
  go_wp2
  go_end0
  go_wp2
  go_end0
  exact ⟨rfl, rfl⟩

theorem sortOwn {β : Type} (d : Ty β) (hk : d.sz = 4) (ok : Nat → Prop) (w : World) (base : Nat) (v : Value) (xs : List β) (h : Own d 40 ok w base v xs) (cf : β → β → Int) (hS : SWO (ltOf cf)) (g : Nat) (cb : Array Value)
    (eg : ∀ args w, (callFunc g args).run Try.prog w = .ok (.enter g args) w)
    (hcmp : ∀ (x y : β) (cx cy : List Value) (W : World), d.R (fun k => ok k ∧ some k ≠ v.ownBlock) W x cx → d.R (fun k => ok k ∧ some k ≠ v.ownBlock) W y cy →
      Calls Try.prog g (#[.agg cx.toArray, .agg cy.toArray] ++ cb) W fun e w' => e = .returned (.int .i64 (cf x y)) ∧ ∃ q os, w' = grow (W.drewN q) os) (hsz : xs.length < 1152921504606846976) :
    Calls Try.prog 54 #[v, .func (.func g) #[] cb] w fun e w' => e = .returned (.tuple #[]) ∧ Own d 40 ok w' base v (isort (ltOf cf) xs) ∧ w.grownBy w' v.ownBlock := by
  rcases h.shape with ⟨rfl, rfl⟩ | ⟨g0, cap, rfl, hb, hlt, hc, hc2⟩
  · refine (sort_none none 0 g cb w).mono ?_
    rintro e w' ⟨rfl, rfl⟩
    exact ⟨rfl, Own.nil _ _ _ _ _, ⟨rfl, rfl, rfl, Nat.le_refl _, fun _ _ _ => rfl⟩⟩
  · by_cases hx : xs = []
    · subst hx
      refine (sort_none _ cap g cb w).mono ?_
      rintro e w' ⟨rfl, rfl⟩
      exact ⟨rfl, h, ⟨rfl, rfl, rfl, Nat.le_refl _, fun _ _ _ => rfl⟩⟩
    · obtain ⟨cells, hlc, ho, hr⟩ := h
      have hne : ∀ k, (ok k ∧ some k ≠ (Value.slice (some ⟨g0, 0, none⟩) xs.length cap).ownBlock) → k ≠ g0 := fun k hk e => hk.2 (by rw [e]; rfl)
      obtain ⟨l, hl1, hl2, hl3⟩ := wf_tags xs cells 0 hlc hr
      have hll : l.length = xs.length := by have := congrArg List.length hl1; rwa [List.length_map] at this
      have e0 : El d (fun k => ok k ∧ some k ≠ (Value.slice (some ⟨g0, 0, none⟩) xs.length cap).ownBlock) w := by
        cases l with
        | nil => exact absurd (by simpa using hl1.symm) hx
        | cons e _ => exact e
      haveI : Inhabited (El d (fun k => ok k ∧ some k ≠ (Value.slice (some ⟨g0, 0, none⟩) xs.length cap).ownBlock) w) := ⟨e0⟩
      have hkk : ∀ x : El d (fun k => ok k ∧ some k ≠ (Value.slice (some ⟨g0, 0, none⟩) xs.length cap).ownBlock) w, x.cells.length = 4 := fun x => by rw [d.len x.hr, hk]
      have hF : (flatK El.cells 4 l.toArray).toList = cells.flatten := by rw [flatK_toList _ _ hkk]; simp [hl2]
      rw [hk] at ho
      have hH : HoldsK El.cells 4 w g0 0 l.toArray := holds_of_owns w base _ 4 g0 _ cap _ ho _ hF
      have R : RowK El.cells 4 w g0 0 l.toArray := ⟨hkk, fun x => d.one x.hr, hH, hlt⟩
      have hC : CmpLays Try.prog g cb El.cells 4 (fun a b => cf a.x b.x) g0 0 l.toArray.size w := fun m os dk _ x y => by
        have mv : ∀ k, (ok k ∧ some k ≠ (Value.slice (some ⟨g0, 0, none⟩) xs.length cap).ownBlock) → k < w.heap.size → (sortWorldK (α := El d (fun k => ok k ∧ some k ≠ (Value.slice (some ⟨g0, 0, none⟩) xs.length cap).ownBlock) w) El.cells 4 w g0 0 m dk os).heap[k]? = w.heap[k]? := fun k hk hkl => sortWorld_other _ _ _ _ _ _ _ _ hkl (hne k hk)
        exact hcmp x.x y.x x.cells y.cells _ (d.move mv x.hr) (d.move mv y.hr)
      have hSE : SWO (ltOf fun a b : El d (fun k => ok k ∧ some k ≠ (Value.slice (some ⟨g0, 0, none⟩) xs.length cap).ownBlock) w => cf a.x b.x) :=
        ⟨fun x => hS.irrefl x.x, fun x y z => hS.trans x.x y.x z.x, fun x y z => hS.ntrans x.x y.x z.x⟩
      have hs : l.toArray.size = xs.length := by simpa using hll
      have C := sortCalls (P := Try.prog) laid El.cells (fun a b => cf a.x b.x) g cb g0 0 cap l.toArray w eg hC R (by rw [hs]; exact hsz)
      rw [hs] at C
      refine C.mono ?_
      rintro e w' ⟨rfl, n, os, hw⟩
      have hst : (stable (ltOf fun a b : El d (fun k => ok k ∧ some k ≠ (Value.slice (some ⟨g0, 0, none⟩) xs.length cap).ownBlock) w => cf a.x b.x) l.toArray).toList = isort (ltOf fun a b => cf a.x b.x) l := by
        refine stable_isort (tag := El.tag) hSE l.toArray (fun i j hij hj => ?_)
        have hj' : j < l.length := by simpa using hj
        have t1 := hl3 i l[i] (List.getElem?_eq_getElem (by omega))
        have t2 := hl3 j l[j] (List.getElem?_eq_getElem hj')
        rw [getElem!_pos l.toArray i (by simp; omega), getElem!_pos l.toArray j (by simpa using hj')]
        simp only [List.getElem_toArray]
        omega
      have hmap : (isort (ltOf fun a b : El d (fun k => ok k ∧ some k ≠ (Value.slice (some ⟨g0, 0, none⟩) xs.length cap).ownBlock) w => cf a.x b.x) l).map El.x = isort (ltOf cf) xs := by
        rw [← hl1]
        exact isort_map (El.x (d := d)) (ltOf cf) l
      generalize stable (ltOf fun a b : El d (fun k => ok k ∧ some k ≠ (Value.slice (some ⟨g0, 0, none⟩) xs.length cap).ownBlock) w => cf a.x b.x) l.toArray = ds at hw hst
      have hdl : ds.toList.map El.x = isort (ltOf cf) xs := by rw [hst]; exact hmap
      have hdn : ds.size = xs.length := by
        have h1 := congrArg List.length hdl
        rw [List.length_map, (isort_perm xs).length_eq] at h1
        simpa using h1
      have hg : w.grownBy w' (some g0) := by
        rw [hw]
        refine ⟨rfl, rfl, rfl, ?_, fun k hk hkn => sortWorld_other El.cells 4 w g0 n ds os k hk (fun e => hkn (by rw [e]))⟩
        unfold sortWorldK putRowK
        simp [grow, putRow, mapBlock, Sort.ahead]
      refine ⟨rfl, ⟨ds.toList.map El.cells, by rw [List.length_map, ← hdl, List.length_map], ?_, fun i x c hx hc => ?_⟩, hg⟩
      · have hn : (isort (ltOf cf) xs).length = xs.length := (isort_perm xs).length_eq
        rcases ho with ⟨q1, q2⟩
        rcases q2 with ⟨q2, _⟩ | ⟨g', cap', cur, he, hbg, hh, hcc, hcm, hcs, htk⟩
        · cases q2
        · injection he with he1 he2 he3
          injection he1 with he1
          injection he1 with he1
          subst he1; subst he3
          have hFs : (flatK El.cells 4 ds).size = xs.length * 4 := by rw [size_flatK, hdn]
          have hfl : (flatK El.cells 4 ds).toList = (ds.toList.map El.cells).flatten := flatK_toList _ _ hkk ds
          rw [hn, hk]
          refine ⟨by rw [← hfl, Array.length_toList, hFs], .inr ⟨g0, cap, putCells id 0 (flatK El.cells 4 ds) cur, rfl, hbg, ?_, hcc, hcm, by simp [putCells, hcs], ?_⟩⟩
          · rw [hw]
            unfold sortWorldK putRowK
            show (_ ++ os)[g0]? = _
            have hs2 : (putRow id (Sort.ahead w n) g0 0 (flatK El.cells 4 ds)).heap.size = w.heap.size := by simp [putRow, mapBlock, Sort.ahead]
            rw [Array.getElem?_append_left (by rw [hs2]; exact hlt)]
            exact putRow_block _ _ _ _ _ _ hh
          · rw [← hfl, ← hFs]
            exact putCells_take _ _ (by rw [hFs, hcs]; exact Nat.mul_le_mul_right _ hcc)
      · rw [← hdl, List.getElem?_map] at hx
        rw [List.getElem?_map] at hc
        cases he : ds.toList[i]? with
        | none => rw [he] at hx; cases hx
        | some el =>
          rw [he] at hx hc
          simp only [Option.map_some, Option.some.injEq] at hx hc
          subst hx; subst hc
          have hn : (isort (ltOf cf) xs).length = xs.length := (isort_perm xs).length_eq
          exact d.move (fun k hk hkl => hg.block k hkl (fun e => hk.2 (by rw [e]; rfl))) el.hr

end Go.Proofs.Ytkfoknjflpklpaa.StabChg
