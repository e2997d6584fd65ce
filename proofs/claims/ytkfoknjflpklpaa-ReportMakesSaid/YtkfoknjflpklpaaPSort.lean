/- report.clone and report.Sort: rows in new memory, in order. -/
import Derived.Test.YtkfoknjflpklpaaPCmp
import Derived.Test.YtkfoknjflpklpaaPPlus
import Derived.Test.YtkfoknjflpklpaaDCloneV
import Derived.Test.YtkfoknjflpklpaaStabOneOwn
namespace Go.Proofs.Ytkfoknjflpklpaa.P
open Go Go.RowKit Go.Sort Go.Proofs.Ytkfoknjflpklpaa.Mem Go.Proofs.Ytkfoknjflpklpaa.Cmp Go.Proofs.Ytkfoknjflpklpaa.Stab Go.Proofs.Ytkfoknjflpklpaa.D

/-- v's own block, if it has one, is a row that nothing shares. -/
def Loose (w : World) (v : Value) : Prop := ∀ k, v.ownBlock = some k → ∃ cs t, w.heap[k]? = some (.cells cs t (0, 0))
abbrev tRow : Ty (List Val) := tSl tVal
/-- Rows whose cells may be written into. -/
def tRowU : Ty (List Val) where
  sz := 1
  R := fun ok w x cs => tRow.R ok w x cs ∧ (x ≠ [] → ∀ v, cs = [v] → Loose w v)
  len := fun h => tRow.len h.1
  one := fun h => tRow.one h.1
  mono := fun hok h => ⟨tRow.mono hok h.1, h.2⟩
  move := fun {ok w w' x cs} hm h => ⟨tRow.move hm h.1, fun hne v hv k hk => by
    obtain ⟨cells, t, hc⟩ := h.2 hne v hv k hk
    obtain ⟨u, e, A, c, rfl, _, _, _, _, hrow⟩ := h.1
    subst e
    simp only [List.cons.injEq, and_true] at hv
    subst hv
    obtain ⟨ad, rfl, hok, hlt, _⟩ := hrow hne
    simp only [Value.ownBlock, Option.some.injEq] at hk
    subst hk
    exact ⟨cells, t, (hm _ hok hlt).trans hc⟩⟩
  bnd := fun h => ⟨tRow.bnd h.1, h.2⟩
theorem Own.plain {E base : Nat} {ok : Nat → Prop} {w : World} {v : Value} {xs : List (List Val)} (h : Own tRowU E ok w base v xs) : Own tRow E ok w base v xs := by
  obtain ⟨cells, hl, ho, hr⟩ := h
  exact ⟨cells, hl, ho, fun i x c hx hc => (hr i x c hx hc).1⟩
theorem Own.bnd {α : Type} {d : Ty α} {E base : Nat} {ok : Nat → Prop} {w : World} {v : Value} {xs : List α} (h : Own d E ok w base v xs) : Own d E (fun k => ok k ∧ k < w.heap.size) w base v xs := by
  obtain ⟨cells, hl, ho, hr⟩ := h
  exact ⟨cells, hl, ho, fun i x c hx hc => d.mono (fun k hk => ⟨⟨hk.1.1, hk.2⟩, hk.1.2⟩) (d.bnd (hr i x c hx hc))⟩
theorem infoRow : (Try.prog.info? 30).map (fun i => (i.zero, i.size, i.bytes)) = some (some (.slice none 0 0), tRow.sz, 24) := by kernel_rfl
theorem infoRowU : (Try.prog.info? 30).map (fun i => (i.zero, i.size, i.bytes)) = some (some (.slice none 0 0), tRowU.sz, 24) := by kernel_rfl
theorem take_one {α : Type} {l : List α} {i : Nat} {x : α} (h : l[i]? = some x) : l.take (i + 1) = l.take i ++ [x] := by
  obtain ⟨hi, rfl⟩ := List.getElem?_eq_some_iff.1 h
  exact List.take_succ_eq_append_getElem hi

/-- Row i. -/
theorem rows_get {ok : Nat → Prop} {w : World} {A : Option Addr} {xs : List (List Val)} (h : Row tRow ok w A xs) (i : Nat) (hi : i < xs.length) :
    ∃ ad r A1 c1, A = some ad ∧ xs[i]? = some r ∧ w.cell? (ad.add i) = some (.slice A1 r.length c1) ∧ Sl tVal ok w (.slice A1 r.length c1) r := by
  obtain ⟨ad, cs, rfl, _, _, ⟨v, rfl, hs⟩, ha⟩ := h.get i hi
  obtain ⟨A1, c1, rfl, _⟩ := hs.shape
  refine ⟨ad, xs[i], A1, c1, rfl, List.getElem?_eq_getElem hi, ?_, hs⟩
  have := At.c0 ha rfl
  rwa [show i * tRow.sz = i by show i * 1 = i; omega] at this

/-- A row of the call's own, as an element that may be written into. -/
theorem row_R {E B : Nat} {ok ok' : Nat → Prop} {w : World} {v : Value} {r : List Val} (h : Own tVal E ok w B v r) (hok : ∀ k, B ≤ k → k < w.heap.size → ok' k) (hl : r.length ≤ 1000) : tRowU.R ok' w r [v] := by
  have hlt := h.lt
  refine ⟨⟨v, rfl, (Own.vals h : Own tVal E (fun _ => False) w B v r).sl (fun k hk => hok k (hlt k hk).1 (hlt k hk).2) (fun _ h => h.elim) (by omega)⟩, fun _ u hu k hk => ?_⟩
  simp only [List.cons.injEq, and_true] at hu
  subst hu
  obtain ⟨cells, _, hown, _⟩ := h
  rcases hown.2 with ⟨rfl, _⟩ | ⟨g, cap, cur, rfl, _, hg, _⟩
  · simp [Value.ownBlock] at hk
  · simp only [Value.ownBlock, Option.some.injEq] at hk
    subst hk
    exact ⟨_, _, hg⟩

set_option maxHeartbeats 8000000 in
set_option maxRecDepth 100000 in
theorem cloneRows (ok : Nat → Prop) (v : Value) (rows : List (List Val)) (w : World) (h : Sl tRow ok w v rows) (hl : rows.length ≤ 1000) (hb : ∀ r ∈ rows, r.length ≤ 1000) :
    Calls Try.prog 76 #[v] w fun e w' => ∃ vo, e = .returned vo ∧ Own tRowU 30 (fun k => w.heap.size ≤ k) w' w.heap.size vo rows ∧ Below w.heap.size w w' := by
  obtain ⟨A, c, rfl, l1, l2, l3⟩ := h.shape
  have KS := put h
  have HL := put (And.intro hl hb)
  obtain ⟨m, hm⟩ : ∃ m, m = rows.length := ⟨_, rfl⟩
  rw [← hm] at l1 l3 KS HL ⊢
  have HM := put hm
  clear h hl hb hm
  go_enter Try.func76, Try.ntmps76
  go_wp2_with fail
  go_loopg [3, 8] m (fun kx s3 s8 wr => ∃ (i : Nat) (A8 : Option Addr) (c8 : Nat), s3 = .slice A8 i c8 ∧ s8 = .int .i64 i ∧ i ≤ m ∧ m - i ≤ kx ∧ Kp (Own tRowU 30 (fun k => w.heap.size ≤ k) wr w.heap.size (.slice A8 i c8) (rows.take i)) ∧ Kp (Below w.heap.size w wr))
  case atStart => exact ⟨0, none, 0, rfl, rfl, Nat.zero_le _, Nat.le_refl _, put (Own.nil _ _ _ _ _), put (Below.refl _ _)⟩
  case round =>
    obtain ⟨i, A8, c8, rfl, rfl, hi, hkx, KO, KB⟩ := hrel
    by_cases hlt : i < m
    · have hlz : (i : Int) < (m : Int) := by omega
      have i0 : (0 : Int) ≤ (i : Int) := by omega
      have hm9 := HL.out.1
      obtain ⟨ad, r, A1, c1, rfl, hx, x0, hs⟩ := rows_get (KS.out.below KB.out).row.1 i (by rw [← HM.out]; exact hlt)
      have KX := put hx
      have HRL : Kp (r.length ≤ 1000) := put (HL.out.2 r (List.mem_of_getElem? hx))
      have HR := put hs
      clear hx hs
      go_wp2_with (first
        | (go_at_call 84; refine (cloneVal ok _ r _ HR.out (by have := HRL.out; omega)).mono ?_; rintro e w5 ⟨A5, c5, rfl, ho5, hb5⟩; have HO5 := put ho5; have HB5 := put hb5; have HOW := put (KO.out.below hb5); have HP : Kp (tRowU.R (fun k => w.heap.size ≤ k ∧ some k ≠ (Value.slice A8 i c8).ownBlock) w5 r [.slice A5 r.length c5]) := put (row_R ho5 (fun k hk _ => ⟨Nat.le_trans KB.out.size hk, fun e => by have := (KO.out.lt k e.symm).2; omega⟩) HRL.out); clear ho5 hb5)
        | (at_builtin; refine wpList_push tRowU w.heap.size rfl _ _ 78 30 _ 24 rfl Try.underlying78 infoRowU rfl (by decide) (by decide) (.slice A8 i c8) (rows.take i) r [.slice A5 r.length c5] (fun k => w.heap.size ≤ k) rfl rfl HP.out HOW.out (Nat.le_trans KB.out.size HB5.out.size) (by rw [List.length_take]; have := HL.out.1; omega) ?_; intro v1 w7 hown hg hat; obtain ⟨A9, c9, e9, _, _⟩ := hown.form; rw [show (rows.take i ++ [r]).length = i + 1 by rw [List.length_append, List.length_take, List.length_singleton, ← HM.out]; omega] at e9; subst e9; have hb7 : Below w.heap.size w w7 := (KB.out.trans (HB5.out.mono KB.out.size)).grown hg (Nat.le_trans KB.out.size HB5.out.size) (fun k hk => (HOW.out.lt k hk).1); have HB7 := put hb7; have HOWN := put hown; clear hown hg hat hb7))
      go_roundg (m - (i + 1))
      case measure => omega
      case rel => exact ⟨i + 1, A9, c9, rfl, by go_num, by omega, Nat.le_refl _, put (by rw [take_one KX.out]; exact HOWN.out), HB7⟩
    · have hlz : ¬ (i : Int) < (m : Int) := by omega
      obtain rfl : m = i := by omega
      have ho := KO.out
      rw [List.take_of_length_le (by rw [HM.out]; exact Nat.le_refl _)] at ho
      have HO := put ho
      clear ho
      go_wp2_with fail
      go_ret
      exact ⟨_, rfl, HO.out, KB.out⟩

set_option maxHeartbeats 8000000 in
set_option maxRecDepth 100000 in
theorem sortCalls (ok okk : Nat → Prop) (v vk : Value) (rows : List (List Val)) (ks : List Key) (w : World) (h : Sl tRow ok w v rows) (hk : Sl tKey okk w vk ks) (hl : rows.length ≤ 1000) (hb : ∀ r ∈ rows, r.length ≤ 1000) (hkl : ks.length ≤ 1000) :
    Calls Try.prog 48 #[v, vk] w fun e w' => ∃ vo, e = .returned vo ∧ Own tRowU 30 (fun k => w.heap.size ≤ k) w' w.heap.size vo (sortR ks rows) ∧ Below w.heap.size w w' := by
  have HS := put h
  have HK := put hk
  have HL := put (And.intro hl (And.intro hb hkl))
  obtain ⟨Ak, ck, rfl, _, _, _⟩ := hk.shape
  clear h hk hl hb hkl
  have hmf : ∀ (fn : Fn) (first cap : Array Value) (w : World), (Instr.makeFunc fn first cap).run Try.prog w = .ok (.func fn first cap) w := fun _ _ _ _ => rfl
  go_enter Try.func48, Try.ntmps48
  go_wp2_with fail
  refine (cloneRows ok _ rows _ HS.out HL.out.1 HL.out.2.1).mono ?_
  rintro e w5 ⟨vo, rfl, ho, hb5⟩
  have HO := put ho
  have HB5 := put hb5
  have HKW := put (HK.out.bnd.below hb5)
  clear ho hb5
  go_wp2_with fail
  refine (StabOne.sortOwn tRowU rfl _ w5 _ vo rows HO.out (cmpR ks) (swo_cmpR ks) 78 (.slice Ak ks.length ck) #[] (fun args w => by rfl) (fun x y vx vy W hW hx hy => ?_) (by have := HL.out.1; omega)).mono ?_
  · obtain ⟨⟨_, ex, hsx⟩, _⟩ := hx
    obtain ⟨⟨_, ey, hsy⟩, _⟩ := hy
    simp only [List.cons.injEq, and_true] at ex ey
    subst ex; subst ey
    obtain ⟨X, cx, rfl, _⟩ := hsx.shape
    obtain ⟨Y, cy, rfl, _⟩ := hsy.shape
    exact cmpCalls (fun k => okk k ∧ k < w.heap.size) _ _ Ak X Y ck cx cy ks x y W (HKW.out.row.1.move (fun k hk hlt => hW k hlt (fun e => by have := (HO.out.lt k e.symm).1; have := hk.2; omega))) hsx.row.1 hsy.row.1 HL.out.2.2
  · rintro e w6 ⟨rfl, ho6, hg6⟩
    have HO6 := put ho6
    have HB6 : Kp (Below w.heap.size w w6) := put (HB5.out.grown hg6 HB5.out.size (fun k hk => (HO.out.lt k hk).1))
    clear ho6 hg6
    go_wp2_with fail
    go_ret
    exact ⟨_, rfl, HO6.out, HB6.out⟩
end Go.Proofs.Ytkfoknjflpklpaa.P
