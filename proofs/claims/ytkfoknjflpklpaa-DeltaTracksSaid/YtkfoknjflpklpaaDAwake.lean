/- The document's example. -/
import Derived.Test.YtkfoknjflpklpaaDLists
import Derived.Test.YtkfoknjflpklpaaDLaw
import Derived.Test.YtkfoknjflpklpaaDGreat
namespace Go.Proofs.Ytkfoknjflpklpaa.D
open Go Go.RowKit Go.Sort Go.Proofs.Ytkfoknjflpklpaa.Mem Go.Proofs.Ytkfoknjflpklpaa.Stab

theorem net_two {x y : Chg} (h : x.same y = true) : net [x, y] = if Chg.kind { x with new := y.new } = 0 then [] else [{ x with new := y.new }] := by
  have h1 : ltOf chgCmp y x = false := by rw [ltOf_chg, Chg.same_not_lt (Chg.same_symm h)]
  have h2 : isort (ltOf chgCmp) [x, y] = [x, y] := by simp [isort, ins, h1]
  unfold net
  rw [h2, netScan]
  simp only [List.takeWhile_cons, List.dropWhile_cons, h, if_true, List.takeWhile_nil, List.dropWhile_nil, netScan, List.append_nil]
  rfl

def rowOf (n : Int) : List Val := [⟨2, n, ⟨#[]⟩⟩]
def chgOf (old new : List Val) : Chg := ⟨⟨#[116]⟩, 1, old, new⟩

set_option maxHeartbeats 4000000 in
theorem rowCalls (n : Int) (w : World) : Calls Try.prog 51 #[.int .i64 n] w fun e w' => e = .returned (.slice (some ⟨w.heap.size, 0, none⟩) 1 1) ∧ w.alloc (.cells #[.int .i64 2, .int .i64 n, .string ⟨#[]⟩] 55) = w' := by
  go_enter Try.func51, Try.ntmps51
  go_wp2
  go_ret
  exact ⟨rfl, rfl⟩

theorem vals_lit {ok : Nat → Prop} {w : World} {b : Nat} {n : Int} (h : w.heap[b]? = some (.cells #[.int .i64 2, .int .i64 n, .string ⟨#[]⟩] 55 (0, 0))) (hb : ok b) : Sl tVal ok w (.slice (some ⟨b, 0, none⟩) 1 1) (rowOf n) :=
  ⟨_, 1, rfl, Nat.le_refl _, by omega, by simp [rowOf], (fun e => by cases e), fun _ => ⟨_, rfl, hb, (Array.getElem?_eq_some_iff.1 h).1, fun i x hx => by
    rcases i with _ | i
    · simp only [rowOf, List.getElem?_cons_zero, Option.some.injEq] at hx
      subst hx
      refine ⟨_, rfl, fun j u hu => ?_⟩
      rw [Nat.zero_mul, Nat.zero_add]
      exact Go.World.news_of_block h j u (by simpa [Val.cells] using hu)
    · simp [rowOf] at hx⟩⟩

/-- Two changes of a literal. -/
theorem chgs_lit {ok : Nat → Prop} {w : World} {b : Nat} {x y : Chg} {v2 v3 u2 u3 : Value} (h : w.heap[b]? = some (.cells #[.string x.table, .int .i64 x.id, v2, v3, .string y.table, .int .i64 y.id, u2, u3] 40 (0, 0))) (hb : ok b) (h2 : Sl tVal ok w v2 x.old) (h3 : Sl tVal ok w v3 x.new) (k2 : Sl tVal ok w u2 y.old) (k3 : Sl tVal ok w u3 y.new) : Sl tChg ok w (.slice (some ⟨b, 0, none⟩) 2 2) [x, y] :=
  ⟨_, 2, rfl, Nat.le_refl _, by omega, by simp, (fun e => by cases e), fun _ => ⟨_, rfl, hb, (Array.getElem?_eq_some_iff.1 h).1, fun i z hz => by
    have hc := Go.World.news_of_block h
    rcases i with _ | _ | i
    · simp only [List.getElem?_cons_zero, Option.some.injEq] at hz
      subst hz
      refine ⟨_, ⟨v2, v3, rfl, h2, h3⟩, fun j u hu => ?_⟩
      rw [Nat.zero_mul, Nat.zero_add]
      refine hc j u ?_
      rcases j with _ | _ | _ | _ | j <;> simp at hu ⊢ <;> exact hu
    · simp only [List.getElem?_cons_succ, List.getElem?_cons_zero, Option.some.injEq] at hz
      subst hz
      refine ⟨_, ⟨u2, u3, rfl, k2, k3⟩, fun j u hu => ?_⟩
      refine hc _ u ?_
      show _[(0 + 1) * 4 + j]? = _
      rcases j with _ | _ | _ | _ | j <;> simp at hu ⊢ <;> exact hu
    · simp at hz⟩⟩

theorem balloc {w w' : World} (h : Below w.heap.size w w') (o : Obj) : Below w.heap.size w (w'.alloc o) := h.alloc h.size o

theorem top_get {w : World} {o : Obj} {k : Nat} (h : k = w.heap.size) : (w.alloc o).heap[k]? = some o := by rw [h]; exact heap_alloc_new _ _
theorem old_get {w : World} {o x : Obj} {k : Nat} (h : k < w.heap.size) (e : w.heap[k]? = some x) : (w.alloc o).heap[k]? = some x := (Below.heap_alloc _ _ _ h).trans e

theorem net_first : net [chgOf [] (rowOf 1), chgOf (rowOf 1) []] = [] := by
  rw [net_two (by decide)]
  decide
theorem net_second : net [chgOf [] (rowOf 1), chgOf (rowOf 1) (rowOf 2)] = [chgOf [] (rowOf 2)] := by
  rw [net_two (by decide)]
  decide

set_option maxHeartbeats 8000000 in
set_option maxRecDepth 100000 in
theorem awakeCalls (w : World) : Calls Try.prog 13 #[] w fun e w' => e = .returned (.bool true) ∧ Below w.heap.size w w' := by
  go_enter Try.func13, Try.ntmps13
  go_wp2_with (first | (go_at_call 51; refine (rowCalls _ _).mono ?_; rintro e w' ⟨rfl, rfl⟩))
  refine (netCalls (fun _ => True) _ [chgOf [] (rowOf 1), chgOf (rowOf 1) []] _ (chgs_lit (x := chgOf [] (rowOf 1)) (y := chgOf (rowOf 1) []) (v2 := .slice none 0 0) (v3 := .slice (some ⟨w.heap.size, 0, none⟩) 1 1) (u2 := .slice (some ⟨w.heap.size + 1, 0, none⟩) 1 1) (u3 := .slice none 0 0) (top_get (by simp)) trivial (Sl.nil _ _ _) (vals_lit (n := 1) (old_get (by simp <;> omega) (old_get (by simp <;> omega) (top_get rfl))) trivial) (vals_lit (n := 1) (old_get (by simp <;> omega) (top_get (by simp))) trivial) (Sl.nil _ _ _)) (by simp) (by decide)).mono ?_
  rintro e w5 ⟨vo, rfl, ho5, hb5⟩
  rw [net_first] at ho5
  obtain ⟨A5, c5, rfl, _, _⟩ := ho5.form
  have HB5 : Kp (Below w.heap.size w w5) := put ((balloc (balloc (balloc (Below.refl _ w) _) _) _).trans (hb5.mono (by simp; omega)))
  clear ho5 hb5
  go_wp2_with (first | (go_at_call 51; refine (rowCalls _ _).mono ?_; rintro e w' ⟨rfl, rfl⟩))
  refine (netCalls (fun _ => True) _ [chgOf [] (rowOf 1), chgOf (rowOf 1) (rowOf 2)] _ (chgs_lit (x := chgOf [] (rowOf 1)) (y := chgOf (rowOf 1) (rowOf 2)) (v2 := .slice none 0 0) (v3 := .slice (some ⟨w5.heap.size, 0, none⟩) 1 1) (u2 := .slice (some ⟨w5.heap.size + 1, 0, none⟩) 1 1) (u3 := .slice (some ⟨w5.heap.size + 1 + 1, 0, none⟩) 1 1) (top_get (by simp)) trivial (Sl.nil _ _ _) (vals_lit (n := 1) (old_get (by simp <;> omega) (old_get (by simp <;> omega) (old_get (by simp <;> omega) (top_get rfl)))) trivial) (vals_lit (n := 1) (old_get (by simp <;> omega) (old_get (by simp <;> omega) (top_get (by simp)))) trivial) (vals_lit (n := 2) (old_get (by simp <;> omega) (top_get (by simp))) trivial)) (by simp) (by decide)).mono ?_
  rintro e w6 ⟨vo, rfl, ho6, hb6⟩
  rw [net_second] at ho6
  obtain ⟨A6, c6, rfl, _, _⟩ := ho6.form
  have HB6 : Kp (Below w.heap.size w w6) := put (HB5.out.trans ((balloc (balloc (balloc (balloc (Below.refl _ w5) _) _) _) _).trans (hb6.mono (by simp; omega)) |>.mono HB5.out.size))
  have hs6 := ho6.sl (ok' := fun _ => True) (fun _ _ => trivial) (fun _ _ => trivial) (by simp)
  obtain ⟨ad, x, X2, k2, X3, k3, rfl, hx, x0, x1, x2, x3, KR, _⟩ := chgs_at hs6.row.1 0 (by simp)
  simp only [List.getElem?_cons_zero, Option.some.injEq] at hx
  subst hx
  obtain ⟨bd, rfl, n0, n1, n2⟩ := vals_get (R_parts KR.out).2.row.1 0 (by decide)
  have x3' : w6.cell? ⟨ad.block, ad.off + 3, none⟩ = some (.slice (some bd) 1 k3) := by simpa [chgOf, rowOf, add_zero] using x3
  have n1' : w6.cell? ⟨bd.block, bd.off + 1, none⟩ = some (.int .i64 2) := by simpa [chgOf, rowOf, add_zero] using n1
  simp only [Nat.zero_mul, add_zero] at x0 x1 x2
  have hb7 : ad.block < w6.heap.size := cell_lt x0
  have hb8 : bd.block < w6.heap.size := cell_lt (a := ⟨bd.block, bd.off + 1, none⟩) n1'
  have hkd : (chgOf [] (rowOf 2)).kind = 1 := by decide
  go_wp2_with (first | (go_at_call 20; refine (kindCalls _ (chgOf [] (rowOf 2)) _ w6 KR.out).mono ?_; rintro e w7 ⟨rfl, hb⟩; have y3 := (hb.cell (p := ⟨ad.block, ad.off + 3, none⟩) hb7).trans x3'; have m1 := (hb.cell (p := ⟨bd.block, bd.off + 1, none⟩) hb8).trans n1'; have HB7 := put (HB6.out.trans (hb.mono HB6.out.size)); clear hb))
  go_ret
  exact ⟨rfl, HB7.out⟩

end Go.Proofs.Ytkfoknjflpklpaa.D
