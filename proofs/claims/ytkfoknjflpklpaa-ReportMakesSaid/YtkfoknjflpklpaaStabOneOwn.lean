/- slices.SortStableFunc on a row of the call's own, at elements of one cell, the comparison bound to a receiver. -/
import Derived.Test.YtkfoknjflpklpaaStabOneTop
import Derived.Test.YtkfoknjflpklpaaMem
namespace Go.Proofs.Ytkfoknjflpklpaa.StabOne
open Go.Shelf Go.RowKit Go.Lib Go.Sort Go.Proofs Go.Proofs.Ytkfoknjflpklpaa.Stab Go.Proofs.Ytkfoknjflpklpaa.Mem

/-- An element as it is sorted: its cell, what it reads as, where it stood. -/
structure El {β : Type} (d : Ty β) (ok : Nat → Prop) (w : World) where
  v : Value
  x : β
  tag : Nat
  hr : d.R ok w x [v]

theorem isort_map {α β : Type} (f : α → β) (lt : β → β → Bool) (l : List α) : (isort (fun a b => lt (f a) (f b)) l).map f = isort lt (l.map f) := by
  have hi : ∀ (x : α) (l : List α), (ins (fun a b => lt (f a) (f b)) x l).map f = ins lt (f x) (l.map f) := by
    intro x l
    induction l with
    | nil => rfl
    | cons y ys ih =>
      rw [ins, List.map_cons, ins]
      split
      · rfl
      · rw [List.map_cons, ih]
  have hf : ∀ (l out : List α), (l.foldl (fun out x => ins (fun a b => lt (f a) (f b)) x out) out).map f = (l.map f).foldl (fun out x => ins lt x out) (out.map f) := by
    intro l
    induction l with
    | nil => intro out; rfl
    | cons x l ih => intro out; rw [List.foldl_cons, ih, hi, List.map_cons, List.foldl_cons]
  exact hf l []

theorem putRow_block {α : Type} [Inhabited α] (enc : α → Value) (w : World) (g : Nat) (F : Array α) (cur : Array Value) (e : TypeId) (fr : Nat × Nat) (h : w.heap[g]? = some (.cells cur e fr)) : (putRow enc w g 0 F).heap[g]? = some (.cells (putCells enc 0 F cur) e fr) := by
  simp [putRow, mapBlock, Array.getElem?_modify, h, onCells]
theorem putRow_other {α : Type} [Inhabited α] (enc : α → Value) (w : World) (g k : Nat) (F : Array α) (h : k ≠ g) : (putRow enc w g 0 F).heap[k]? = w.heap[k]? := by
  simp [putRow, mapBlock, Array.getElem?_modify, Ne.symm h]
theorem sortWorld_other {α : Type} [Inhabited α] (enc : α → Value) (w : World) (g m : Nat) (dk : Array α) (os : Array Obj) (j : Nat) (hj : j < w.heap.size) (hne : j ≠ g) : (sortWorld enc w g 0 m dk os).heap[j]? = w.heap[j]? := by
  unfold sortWorld
  show (grow (putRow enc (Sort.ahead w m) g 0 dk) os).heap[j]? = _
  have hs : (putRow enc (Sort.ahead w m) g 0 dk).heap.size = w.heap.size := by simp [putRow, mapBlock, Sort.ahead]
  show (_ ++ os)[j]? = _
  rw [Array.getElem?_append_left (by rw [hs]; exact hj), putRow_other _ _ _ _ _ hne]
  rfl
theorem putCells_take {α : Type} [Inhabited α] (enc : α → Value) (F : Array α) (cur : Array Value) (h : F.size ≤ cur.size) : (putCells enc 0 F cur).toList.take F.size = F.toList.map enc := by
  apply List.ext_getElem?
  intro i
  rw [List.getElem?_take]
  by_cases hi : i < F.size
  · rw [if_pos hi]
    have h1 : i < cur.size := by omega
    simp only [putCells, Array.toList_mapIdx, List.getElem?_mapIdx]
    rw [List.getElem?_eq_getElem (by simpa using h1), List.getElem?_map, List.getElem?_eq_getElem (by simpa using hi)]
    simp only [Option.map_some, Nat.zero_le, Nat.zero_add, true_and, if_pos hi, Nat.sub_zero]
    rw [getElem!_pos F i hi, Array.getElem_toList]
  · rw [if_neg hi, List.getElem?_eq_none (by simp; omega)]
theorem holds_of_owns {α : Type} [Inhabited α] (enc : α → Value) (w : World) (base E : Nat) (g n cap : Nat) (cs : List Value) (ho : w.ownsRow base E 1 (.slice (some ⟨g, 0, none⟩) n cap) n cs) (F : Array α) (hF : F.toList.map enc = cs) : Holds enc w g 0 F := by
  intro j hj
  have hj' : cs[j]? = some (enc F[j]!) := by
    rw [← hF, List.getElem?_map, List.getElem?_eq_getElem (by simpa using hj), Array.getElem_toList, getElem!_pos F j hj]; rfl
  have h1 := ho.cells (g := g) rfl j _ hj'
  rw [add_plain] at h1
  refine ⟨by rw [Nat.zero_add]; exact h1, ?_⟩
  rcases ho.2 with ⟨h, _⟩ | ⟨g', cap', cur, he, _, hh, _⟩
  · cases h
  · injection he with he _ _
    injection he with he
    injection he with he
    subst he
    simp [World.frozen?, hh]
theorem wf_tags {β : Type} {d : Ty β} (hk : d.sz = 1) {ok : Nat → Prop} {w : World} (xs : List β) : ∀ (cells : List (List Value)) (m : Nat), cells.length = xs.length → (∀ (i : Nat) (x : β) (c : List Value), xs[i]? = some x → cells[i]? = some c → d.R ok w x c) →
    ∃ l : List (El d ok w), l.map El.x = xs ∧ l.map (fun e => [e.v]) = cells ∧ ∀ (i : Nat) (e : El d ok w), l[i]? = some e → e.tag = m + i := by
  induction xs with
  | nil => intro cells m hl _; exact ⟨[], rfl, by cases cells; rfl; simp at hl, fun i e h => by simp at h⟩
  | cons x xs ih =>
    intro cells m hl hr
    cases cells with
    | nil => simp at hl
    | cons c cells =>
      obtain ⟨l, h1, h2, h3⟩ := ih cells (m + 1) (by simpa using hl) (fun i x c hx hc => hr (i + 1) x c (by simpa using hx) (by simpa using hc))
      have h0 := hr 0 x c rfl rfl
      obtain ⟨v, rfl⟩ : ∃ v, c = [v] := by
        have := d.len h0
        rw [hk] at this
        exact List.length_eq_one_iff.1 this
      refine ⟨⟨v, x, m, h0⟩ :: l, by simp [h1], by simp [h2], fun i e he => ?_⟩
      cases i with
      | zero =>
        simp only [List.getElem?_cons_zero, Option.some.injEq] at he
        subst he; rfl
      | succ i => rw [h3 i e (by simpa using he)]; omega
theorem flat_one {γ : Type} (f : γ → Value) : ∀ l : List γ, (l.map (fun e => [f e])).flatten = l.map f
  | [] => rfl
  | x :: l => by simp [flat_one f l]

set_option maxHeartbeats 4000000 in
set_option maxRecDepth 100000 in
theorem sort_none (A : Option Addr) (c g : Nat) (o : Value) (cb : Array Value) (w : World) :
    Calls Try.prog 77 #[.slice A 0 c, .func (.func g) #[o] cb] w fun e w' => e = .returned (.tuple #[]) ∧ w = w' := by
  go_enter Try.func77, Try.ntmps77
  go_wp2
  refine wp_loop_rounds 1 ?_
  rw [rounds_succ]
  go_wp2
  refine wp_loop_rounds 1 ?_
  rw [rounds_succ]
  go_wp2
  go_end0
  go_wp2
  refine wp_loop_rounds 1 ?_
  rw [rounds_succ]
  go_wp2
  go_end0
  go_wp2
  go_end0
  exact ⟨rfl, rfl⟩

theorem sortOwn {β : Type} (d : Ty β) (hk : d.sz = 1) (ok : Nat → Prop) (w : World) (base : Nat) (v : Value) (xs : List β) (h : Own d 30 ok w base v xs) (cf : β → β → Int) (hS : SWO (ltOf cf)) (g : Nat) (o : Value) (cb : Array Value)
    (eg : ∀ args w, (callFunc g args).run Try.prog w = .ok (.enter g args) w)
    (hcmp : ∀ (x y : β) (vx vy : Value) (W : World), (∀ k, k < w.heap.size → some k ≠ v.ownBlock → W.heap[k]? = w.heap[k]?) → d.R (fun k => ok k ∧ some k ≠ v.ownBlock) W x [vx] → d.R (fun k => ok k ∧ some k ≠ v.ownBlock) W y [vy] →
      Calls Try.prog g (#[o, vx, vy] ++ cb) W fun e w' => e = .returned (.int .i64 (cf x y)) ∧ ∃ q os, w' = grow (W.drewN q) os) (hsz : xs.length < 1152921504606846976) :
    Calls Try.prog 77 #[v, .func (.func g) #[o] cb] w fun e w' => e = .returned (.tuple #[]) ∧ Own d 30 ok w' base v (isort (ltOf cf) xs) ∧ w.grownBy w' v.ownBlock := by
  rcases h.shape with ⟨rfl, rfl⟩ | ⟨g0, cap, rfl, hb, hlt, hc, hc2⟩
  · refine (sort_none none 0 g o cb w).mono ?_
    rintro e w' ⟨rfl, rfl⟩
    exact ⟨rfl, Own.nil _ _ _ _ _, ⟨rfl, rfl, rfl, Nat.le_refl _, fun _ _ _ => rfl⟩⟩
  · by_cases hx : xs = []
    · subst hx
      refine (sort_none _ cap g o cb w).mono ?_
      rintro e w' ⟨rfl, rfl⟩
      exact ⟨rfl, h, ⟨rfl, rfl, rfl, Nat.le_refl _, fun _ _ _ => rfl⟩⟩
    · obtain ⟨cells, hlc, ho, hr⟩ := h
      obtain ⟨l, hl1, hl2, hl3⟩ := wf_tags hk xs cells 0 hlc hr
      have hll : l.length = xs.length := by have := congrArg List.length hl1; rwa [List.length_map] at this
      have e0 : El d (fun k => ok k ∧ some k ≠ (Value.slice (some ⟨g0, 0, none⟩) xs.length cap).ownBlock) w := by
        cases l with
        | nil => exact absurd (by simpa using hl1.symm) hx
        | cons e _ => exact e
      haveI : Inhabited (El d (fun k => ok k ∧ some k ≠ (Value.slice (some ⟨g0, 0, none⟩) xs.length cap).ownBlock) w) := ⟨e0⟩
      have hF : l.toArray.toList.map El.v = cells.flatten := by rw [← hl2, flat_one]
      rw [hk] at ho
      have hH : Holds El.v w g0 0 l.toArray := holds_of_owns El.v w base _ g0 _ cap _ ho _ hF
      have R : Row1 El.v w g0 0 l.toArray := ⟨fun x => d.one x.hr x.v (List.mem_singleton.2 rfl), hH, hlt⟩
      have hC : CmpLaysF Try.prog g o cb El.v (fun a b => cf a.x b.x) g0 0 l.toArray.size w := fun m os dk _ x y => by
        have mv : ∀ k, k < w.heap.size → some k ≠ (Value.slice (some ⟨g0, 0, none⟩) xs.length cap).ownBlock → (sortWorld (α := El d (fun k => ok k ∧ some k ≠ (Value.slice (some ⟨g0, 0, none⟩) xs.length cap).ownBlock) w) El.v w g0 0 m dk os).heap[k]? = w.heap[k]? := fun k hkl hk => sortWorld_other _ _ _ _ _ _ _ hkl (fun e => hk (by rw [e]; rfl))
        exact hcmp x.x y.x x.v y.v _ mv (d.move (fun k hk hkl => mv k hkl hk.2) x.hr) (d.move (fun k hk hkl => mv k hkl hk.2) y.hr)
      have hSE : SWO (ltOf fun a b : El d (fun k => ok k ∧ some k ≠ (Value.slice (some ⟨g0, 0, none⟩) xs.length cap).ownBlock) w => cf a.x b.x) :=
        ⟨fun x => hS.irrefl x.x, fun x y z => hS.trans x.x y.x z.x, fun x y z => hS.ntrans x.x y.x z.x⟩
      have hs : l.toArray.size = xs.length := by simpa using hll
      have C := sortCalls (P := Try.prog) laid El.v (fun a b => cf a.x b.x) g o cb g0 0 cap l.toArray w eg hC R (by rw [hs]; exact hsz)
      rw [hs] at C
      refine C.mono ?_
      rintro e w' ⟨rfl, n, os, hw⟩
      have hst : (stable (ltOf fun a b : El d (fun k => ok k ∧ some k ≠ (Value.slice (some ⟨g0, 0, none⟩) xs.length cap).ownBlock) w => cf a.x b.x) l.toArray).toList = isort (ltOf fun a b => cf a.x b.x) l := by
        refine stable_isort (tag := El.tag) hSE l.toArray (fun i j hij hj => ?_)
        have hj' : j < l.length := by simpa using hj
        have t1 := hl3 i l[i] (List.getElem?_eq_getElem (by omega))
        have t2 := hl3 j l[j] (List.getElem?_eq_getElem hj')
        rw [getElem!_pos l.toArray i (by simp; omega), getElem!_pos l.toArray j (by simpa using hj')]
        simp only [List.getElem_toArray]
        omega
      have hmap : (isort (ltOf fun a b : El d (fun k => ok k ∧ some k ≠ (Value.slice (some ⟨g0, 0, none⟩) xs.length cap).ownBlock) w => cf a.x b.x) l).map El.x = isort (ltOf cf) xs := by
        rw [← hl1]
        exact isort_map (El.x (d := d)) (ltOf cf) l
      generalize stable (ltOf fun a b : El d (fun k => ok k ∧ some k ≠ (Value.slice (some ⟨g0, 0, none⟩) xs.length cap).ownBlock) w => cf a.x b.x) l.toArray = ds at hw hst
      have hdl : ds.toList.map El.x = isort (ltOf cf) xs := by rw [hst]; exact hmap
      have hdn : ds.size = xs.length := by
        have h1 := congrArg List.length hdl
        rw [List.length_map, (isort_perm xs).length_eq] at h1
        simpa using h1
      have hg : w.grownBy w' (some g0) := by
        rw [hw]
        refine ⟨rfl, rfl, rfl, ?_, fun k hk hkn => sortWorld_other El.v w g0 n ds os k hk (fun e => hkn (by rw [e]))⟩
        unfold sortWorld
        simp [grow, putRow, mapBlock, Sort.ahead]
      refine ⟨rfl, ⟨ds.toList.map (fun e => [e.v]), by rw [List.length_map, ← hdl, List.length_map], ?_, fun i x c hx hc => ?_⟩, hg⟩
      · have hn : (isort (ltOf cf) xs).length = xs.length := (isort_perm xs).length_eq
        rcases ho with ⟨q1, q2⟩
        rcases q2 with ⟨q2, _⟩ | ⟨g', cap', cur, he, hbg, hh, hcc, hcm, hcs, htk⟩
        · cases q2
        · injection he with he1 he2 he3
          injection he1 with he1
          injection he1 with he1
          subst he1; subst he3
          rw [hn, hk, flat_one]
          refine ⟨by simp [hdn], .inr ⟨g0, cap, putCells El.v 0 ds cur, rfl, hbg, ?_, hcc, hcm, by simp [putCells, hcs], ?_⟩⟩
          · rw [hw]
            unfold sortWorld
            show (_ ++ os)[g0]? = _
            have hs2 : (putRow El.v (Sort.ahead w n) g0 0 ds).heap.size = w.heap.size := by simp [putRow, mapBlock, Sort.ahead]
            rw [Array.getElem?_append_left (by rw [hs2]; exact hlt)]
            exact putRow_block _ _ _ _ _ _ _ hh
          · have := putCells_take El.v ds cur (by omega)
            rw [hdn] at this
            rw [Nat.mul_one]
            exact this
      · rw [← hdl, List.getElem?_map] at hx
        rw [List.getElem?_map] at hc
        cases he : ds.toList[i]? with
        | none => rw [he] at hx; cases hx
        | some el =>
          rw [he] at hx hc
          simp only [Option.map_some, Option.some.injEq] at hx hc
          subst hx; subst hc
          exact d.move (fun k hk hkl => hg.block k hkl (fun e => hk.2 (by rw [e]; rfl))) el.hr
end Go.Proofs.Ytkfoknjflpklpaa.StabOne
