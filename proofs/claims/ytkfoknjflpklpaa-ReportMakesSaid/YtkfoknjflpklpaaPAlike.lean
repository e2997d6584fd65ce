/- Are two rows in one group? report.alike; the closures of report.Groups. -/
import Derived.Test.YtkfoknjflpklpaaPOf
namespace Go.Proofs.Ytkfoknjflpklpaa.P
open Go Go.RowKit Go.Sort Go.Proofs.Ytkfoknjflpklpaa.Mem Go.Proofs.Ytkfoknjflpklpaa.Cmp Go.Proofs.Ytkfoknjflpklpaa.D
attribute [local go_sem high] eqVal

theorem bne_val (x y : Val) : (!(x.kind == y.kind) || (!(x.n == y.n) || !(x.s.toList == y.s.toList))) = !decide (x = y) := val_ne x y
theorem any_alike (cols : List Int) (a b : List Val) : (!cols.any (fun c => !decide (atV a c = atV b c))) = alikeV cols a b := by
  unfold alikeV
  induction cols with
  | nil => rfl
  | cons c l ih => rw [List.any_cons, List.all_cons, ← ih]; cases decide (atV a c = atV b c) <;> simp

set_option maxHeartbeats 8000000 in
set_option maxRecDepth 100000 in
theorem alike1Calls (oka okb : Nat → Prop) (pa pb : Addr) (A1 A2 : Option Addr) (c1 c2 : Nat) (a b : List Val) (i : Int) (w : World) (ha : Row tVal oka w A1 a) (hb : Row tVal okb w A2 b) (ya : w.cell? pa = some (.slice A1 a.length c1)) (yb : w.cell? pb = some (.slice A2 b.length c2)) (h1 : inC a.length i = true) (h2 : inC b.length i = true) :
    Calls Try.prog 141 #[.int .i64 i, .pointer (some pa), .pointer (some pb)] w fun e w' => e = .returned (.bool (!decide (atV a i = atV b i))) ∧ G w w' := by
  unfold inC at h1 h2
  simp only [Bool.and_eq_true, decide_eq_true_eq] at h1 h2
  obtain ⟨j, rfl⟩ : ∃ j : Nat, i = j := ⟨i.toNat, by omega⟩
  have ja : j < a.length := by omega
  have jb : j < b.length := by omega
  have EA : atV a j = a[j] := by unfold atV; rw [if_pos ⟨by omega, by omega⟩, Int.toNat_natCast, List.getD_eq_getElem?_getD, List.getElem?_eq_getElem ja]; rfl
  have EB : atV b j = b[j] := by unfold atV; rw [if_pos ⟨by omega, by omega⟩, Int.toNat_natCast, List.getD_eq_getElem?_getD, List.getElem?_eq_getElem jb]; rfl
  obtain ⟨ad, rfl, x0, x1, x2⟩ := vals_get ha j ja
  obtain ⟨bd, rfl, z0, z1, z2⟩ := vals_get hb j jb
  rw [EA, EB]
  generalize a[j] = x at *
  generalize b[j] = y at *
  have E : Kp ((!decide (x = y)) = (!(x.kind == y.kind) || (!(x.n == y.n) || !(x.s.toList == y.s.toList)))) := put (val_ne x y).symm
  have j0 : (0 : Int) ≤ (j : Int) := by omega
  have jaz : (j : Int) < (a.length : Int) := by omega
  have jbz : (j : Int) < (b.length : Int) := by omega
  have YA := put ya
  have YB := put yb
  have X0 := put x0
  have X1 := put x1
  have X2 := put x2
  have Z0 := put z0
  have Z1 := put z1
  have Z2 := put z2
  clear ha hb ya yb h1 h2 EA EB x0 x1 x2 z0 z1 z2 ja jb
  go_enter Try.func141, Try.ntmps141
  go_wp2_with fail
  refine wp_region_noPanic ?_
  refine wp_region_held_drew (S := (fun w' => G w w')) (by kernel_rfl) (G.refl _).drew (fun hHeld => ?_)
  refine wpAnyH_take (i := 0) (v := ?_) rfl (by kernel_rfl) (by kernel_rfl) (by kernel_rfl) (fun _ _ _ h => h) (Or.inl ⟨by kernel_rfl, ?_⟩) (by assumption) ?_
  rotate_left
  · intro w hSw; (try dsimp only at hSw); have ya := G.cellOf hSw YA.out; have yb := G.cellOf hSw YB.out; have x0 := G.cellOf hSw X0.out; have x1 := G.cellOf hSw X1.out; have x2 := G.cellOf hSw X2.out; have z0 := G.cellOf hSw Z0.out; have z1 := G.cellOf hSw Z1.out; have z2 := G.cellOf hSw Z2.out; go_simp; try with_reducible rfl
  try simp only [List.getElem_toArray, List.getElem_cons_zero, Act.put, List.setIfInBounds_toArray, List.set_cons_zero, List.set_cons_succ]
  refine wpAnyH_take (i := 1) (v := ?_) rfl (by kernel_rfl) (by kernel_rfl) (by kernel_rfl) (fun _ _ _ h => h) (Or.inl ⟨by kernel_rfl, ?_⟩) (by assumption) ?_
  rotate_left
  · intro w hSw; (try dsimp only at hSw); go_simp; try with_reducible rfl
  try simp only [List.getElem_toArray, List.getElem_cons_succ, List.getElem_cons_zero, Act.put, List.setIfInBounds_toArray, List.set_cons_zero, List.set_cons_succ]
  refine wpAnyH_take (i := 2) (v := ?_) rfl (by kernel_rfl) (by kernel_rfl) (by kernel_rfl) (fun _ _ _ h => h) (Or.inl ⟨by kernel_rfl, ?_⟩) (by assumption) ?_
  rotate_left
  · intro w hSw; (try dsimp only at hSw); go_simp; try with_reducible rfl
  try simp only [List.getElem_toArray, List.getElem_cons_succ, List.getElem_cons_zero, Act.put, List.setIfInBounds_toArray, List.set_cons_zero, List.set_cons_succ]
  refine wpAnyH_take (i := 3) (v := ?_) rfl (by kernel_rfl) (by kernel_rfl) (by kernel_rfl) (fun _ _ _ h => h) (Or.inl ⟨by kernel_rfl, ?_⟩) (by assumption) ?_
  rotate_left
  · intro w hSw; (try dsimp only at hSw); have ya := G.cellOf hSw YA.out; have yb := G.cellOf hSw YB.out; have x0 := G.cellOf hSw X0.out; have x1 := G.cellOf hSw X1.out; have x2 := G.cellOf hSw X2.out; have z0 := G.cellOf hSw Z0.out; have z1 := G.cellOf hSw Z1.out; have z2 := G.cellOf hSw Z2.out; go_simp; try with_reducible rfl
  try simp only [List.getElem_toArray, List.getElem_cons_succ, List.getElem_cons_zero, Act.put, List.setIfInBounds_toArray, List.set_cons_zero, List.set_cons_succ]
  refine wpAnyH_take (i := 4) (v := ?_) rfl (by kernel_rfl) (by kernel_rfl) (by kernel_rfl) (fun _ _ _ h => h) (Or.inl ⟨by kernel_rfl, ?_⟩) (by assumption) ?_
  rotate_left
  · intro w hSw; (try dsimp only at hSw); have ya := G.cellOf hSw YA.out; have yb := G.cellOf hSw YB.out; have x0 := G.cellOf hSw X0.out; have x1 := G.cellOf hSw X1.out; have x2 := G.cellOf hSw X2.out; have z0 := G.cellOf hSw Z0.out; have z1 := G.cellOf hSw Z1.out; have z2 := G.cellOf hSw Z2.out; go_simp; try with_reducible rfl
  try simp only [List.getElem_toArray, List.getElem_cons_succ, List.getElem_cons_zero, Act.put, List.setIfInBounds_toArray, List.set_cons_zero, List.set_cons_succ]
  refine wpAnyH_take (i := 5) (v := ?_) rfl (by kernel_rfl) (by kernel_rfl) (by kernel_rfl) (fun _ _ _ h => h) (Or.inl ⟨by kernel_rfl, ?_⟩) (by assumption) ?_
  rotate_left
  · intro w hSw; (try dsimp only at hSw); go_simp; try with_reducible rfl
  try simp only [List.getElem_toArray, List.getElem_cons_succ, List.getElem_cons_zero, Act.put, List.setIfInBounds_toArray, List.set_cons_zero, List.set_cons_succ]
  refine wpAnyH_take (i := 6) (v := ?_) rfl (by kernel_rfl) (by kernel_rfl) (by kernel_rfl) (fun _ _ _ h => h) (Or.inl ⟨by kernel_rfl, ?_⟩) (by assumption) ?_
  rotate_left
  · intro w hSw; (try dsimp only at hSw); go_simp; try with_reducible rfl
  try simp only [List.getElem_toArray, List.getElem_cons_succ, List.getElem_cons_zero, Act.put, List.setIfInBounds_toArray, List.set_cons_zero, List.set_cons_succ]
  refine wpAnyH_take (i := 7) (v := ?_) rfl (by kernel_rfl) (by kernel_rfl) (by kernel_rfl) (fun _ _ _ h => h) (Or.inl ⟨by kernel_rfl, ?_⟩) (by assumption) ?_
  rotate_left
  · intro w hSw; (try dsimp only at hSw); have ya := G.cellOf hSw YA.out; have yb := G.cellOf hSw YB.out; have x0 := G.cellOf hSw X0.out; have x1 := G.cellOf hSw X1.out; have x2 := G.cellOf hSw X2.out; have z0 := G.cellOf hSw Z0.out; have z1 := G.cellOf hSw Z1.out; have z2 := G.cellOf hSw Z2.out; go_simp; try with_reducible rfl
  try simp only [List.getElem_toArray, List.getElem_cons_succ, List.getElem_cons_zero, Act.put, List.setIfInBounds_toArray, List.set_cons_zero, List.set_cons_succ]
  refine wpAnyH_take (i := 8) (v := ?_) rfl (by kernel_rfl) (by kernel_rfl) (by kernel_rfl) (fun _ _ _ h => h) (Or.inl ⟨by kernel_rfl, ?_⟩) (by assumption) ?_
  rotate_left
  · intro w hSw; (try dsimp only at hSw); go_simp; try with_reducible rfl
  try simp only [List.getElem_toArray, List.getElem_cons_succ, List.getElem_cons_zero, Act.put, List.setIfInBounds_toArray, List.set_cons_zero, List.set_cons_succ]
  refine wpAnyH_take (i := 9) (v := ?_) rfl (by kernel_rfl) (by kernel_rfl) (by kernel_rfl) (fun _ _ _ h => h) (Or.inl ⟨by kernel_rfl, ?_⟩) (by assumption) ?_
  rotate_left
  · intro w hSw; (try dsimp only at hSw); go_simp; try with_reducible rfl
  try simp only [List.getElem_toArray, List.getElem_cons_succ, List.getElem_cons_zero, Act.put, List.setIfInBounds_toArray, List.set_cons_zero, List.set_cons_succ]
  refine wpAnyH_done (by kernel_rfl) ?_ _
  refine NoPanic.normal ?_
  have HW := put hHeld
  clear hHeld
  go_wp2_with fail
  go_ret
  exact ⟨by rw [E.out]; rfl, HW.out⟩

set_option maxHeartbeats 8000000 in
set_option maxRecDepth 100000 in
theorem alikeCalls (oka okb okc : Nat → Prop) (A1 A2 A3 : Option Addr) (c1 c2 c3 : Nat) (a b : List Val) (cols : List Int) (w : World) (ha : Row tVal oka w A1 a) (hb : Row tVal okb w A2 b) (hc : Row (tInt .i64) okc w A3 cols) (hin : ∀ i ∈ cols, inC a.length i = true ∧ inC b.length i = true) (hl : cols.length ≤ 1000) :
    Calls Try.prog 123 #[.slice A1 a.length c1, .slice A2 b.length c2, .slice A3 cols.length c3] w fun e w' => e = .returned (.bool (alikeV cols a b)) ∧ G w w' := by
  have hmf : ∀ (fn : Fn) (first cap : Array Value) (w : World), (Instr.makeFunc fn first cap).run Try.prog w = .ok (.func fn first cap) w := fun _ _ _ _ => rfl
  obtain ⟨w1, hw1⟩ : ∃ w1, w1 = (w.alloc (.cells #[.slice A1 a.length c1] 30)).alloc (.cells #[.slice A2 b.length c2] 30) := ⟨_, rfl⟩
  have g1 : G w w1 := by rw [hw1]; exact ((G.refl w).alloc _).alloc _
  have y1 : w1.cell? ⟨w.heap.size, 0, none⟩ = some (.slice A1 a.length c1) := by rw [hw1]; simp
  have y2 : w1.cell? ⟨w.heap.size + 1, 0, none⟩ = some (.slice A2 b.length c2) := by rw [hw1]; simp
  have HC := put (containsInts 141 #[.pointer (some ⟨w.heap.size, 0, none⟩), .pointer (some ⟨w.heap.size + 1, 0, none⟩)] (fun args w => by rfl) okc A3 c3 cols (fun c => !decide (atV a c = atV b c)) w1 (hc.grown g1) (by omega) (fun i W hi hg => alike1Calls oka okb _ _ A1 A2 c1 c2 a b i W ((ha.grown g1).grown hg) ((hb.grown g1).grown hg) (G.cellOf hg y1) (G.cellOf hg y2) (hin i hi).1 (hin i hi).2))
  have HE := put (any_alike cols a b)
  have HG1 := put g1
  clear ha hb hc hin g1 y1 y2
  go_enter Try.func123, Try.ntmps123
  go_wp2_with fail
  rw [← hw1]
  clear hw1
  refine HC.out.mono ?_
  rintro e w5 ⟨rfl, hg5⟩
  have HG5 := put (HG1.out.trans hg5)
  clear hg5
  go_wp2_with fail
  go_ret
  exact ⟨by rw [← HE.out]; rfl, HG5.out⟩

set_option maxHeartbeats 8000000 in
set_option maxRecDepth 100000 in
theorem groups1Calls (p : Addr) (A1 : Option Addr) (c1 : Nat) (r : List Val) (i : Int) (w : World) (y : w.cell? p = some (.slice A1 r.length c1)) :
    Calls Try.prog 120 #[.int .i64 i, .pointer (some p)] w fun e w' => e = .returned (.bool (!inC r.length i)) ∧ G w w' := by
  by_cases h0 : i < 0
  · have E : Kp ((!inC r.length i) = true) := put (by unfold inC; simp; omega)
    go_enter Try.func120, Try.ntmps120
    go_wp2
    go_ret
    exact ⟨by rw [E.out]; rfl, G.refl _⟩
  · have E : Kp ((!inC r.length i) = decide ((r.length : Int) ≤ i)) := put (by unfold inC; rw [Bool.eq_iff_iff]; simp; omega)
    go_enter Try.func120, Try.ntmps120
    go_wp2
    go_ret
    exact ⟨by rw [E.out]; rfl, G.refl _⟩

set_option maxHeartbeats 8000000 in
set_option maxRecDepth 100000 in
theorem groups2Calls (okr okb okc okg : Nat → Prop) (p1 p2 p3 : Addr) (A A2 A3 AG : Option Addr) (c c2 c3 cg : Nat) (rows : List (List Val)) (a b : List Val) (cols : List Int) (q : Nat) (g : List Int) (w : World) (hr : Row tRow okr w A rows) (hg : Row (tInt .i64) okg w AG g) (hq : g[0]? = some (q : Int)) (hqa : rows[q]? = some a)
    (hb : Row tVal okb w A2 b) (hc : Row (tInt .i64) okc w A3 cols) (y1 : w.cell? p1 = some (.slice A rows.length c)) (y2 : w.cell? p2 = some (.slice A2 b.length c2)) (y3 : w.cell? p3 = some (.slice A3 cols.length c3)) (hin : ∀ i ∈ cols, inC a.length i = true ∧ inC b.length i = true) (hl : cols.length ≤ 1000) :
    Calls Try.prog 122 #[.slice AG g.length cg, .pointer (some p1), .pointer (some p2), .pointer (some p3)] w fun e w' => e = .returned (.bool (alikeV cols a b)) ∧ G w w' := by
  have hql := (List.getElem?_eq_some_iff.1 hqa).1
  have hgl := (List.getElem?_eq_some_iff.1 hq).1
  obtain ⟨ad, r, A1, c1, rfl, hx, x0, hs⟩ := rows_get hr q hql
  obtain rfl : a = r := by rw [hqa] at hx; exact Option.some.inj hx
  obtain ⟨gd, gi, rfl, hgi, g0⟩ := ints_get hg 0 hgl
  obtain rfl : gi = q := by rw [hq] at hgi; exact (Option.some.inj hgi).symm
  rw [add_zero] at g0
  have q0 : (0 : Int) ≤ (q : Int) := by omega
  have qz : (q : Int) < (rows.length : Int) := by omega
  have gz : (0 : Int) < (g.length : Int) := by omega
  have gn : 0 < g.length := by omega
  have R0 := put y1
  have R1 := put y2
  have R2 := put y3
  have G0 := put g0
  have X0 := put x0
  have HA := put hs.row.1
  have HB := put hb
  have HC := put hc
  have HIN := put hin
  have HL := put hl
  clear hr hg hq hqa hb hc y1 y2 y3 hin hl hx x0 hs hgi g0 hql hgl
  go_enter Try.func122, Try.ntmps122
  go_wp2_with fail
  refine wp_region_noPanic ?_
  refine wp_region_held_drew (S := (fun w' => G w w')) (by kernel_rfl) (G.refl _).drew (fun hHeld => ?_)
  refine wpAnyH_take (i := 0) (v := ?_) rfl (by kernel_rfl) (by kernel_rfl) (by kernel_rfl) (fun _ _ _ h => h) (Or.inl ⟨by kernel_rfl, ?_⟩) (by assumption) ?_
  rotate_left
  · intro w hSw; (try dsimp only at hSw); have ya := G.cellOf hSw R0.out; have yb := G.cellOf hSw R1.out; have x0 := G.cellOf hSw R2.out; have x1 := G.cellOf hSw G0.out; have x2 := G.cellOf hSw X0.out; go_simp; try with_reducible rfl
  try simp only [List.getElem_toArray, List.getElem_cons_zero, Act.put, List.setIfInBounds_toArray, List.set_cons_zero, List.set_cons_succ]
  refine wpAnyH_take (i := 1) (v := ?_) rfl (by kernel_rfl) (by kernel_rfl) (by kernel_rfl) (fun _ _ _ h => h) (Or.inl ⟨by kernel_rfl, ?_⟩) (by assumption) ?_
  rotate_left
  · intro w hSw; (try dsimp only at hSw); go_simp; try with_reducible rfl
  try simp only [List.getElem_toArray, List.getElem_cons_succ, List.getElem_cons_zero, Act.put, List.setIfInBounds_toArray, List.set_cons_zero, List.set_cons_succ]
  refine wpAnyH_take (i := 2) (v := ?_) rfl (by kernel_rfl) (by kernel_rfl) (by kernel_rfl) (fun _ _ _ h => h) (Or.inl ⟨by kernel_rfl, ?_⟩) (by assumption) ?_
  rotate_left
  · intro w hSw; (try dsimp only at hSw); go_simp; try with_reducible rfl
  try simp only [List.getElem_toArray, List.getElem_cons_succ, List.getElem_cons_zero, Act.put, List.setIfInBounds_toArray, List.set_cons_zero, List.set_cons_succ]
  refine wpAnyH_take (i := 3) (v := ?_) rfl (by kernel_rfl) (by kernel_rfl) (by kernel_rfl) (fun _ _ _ h => h) (Or.inl ⟨by kernel_rfl, ?_⟩) (by assumption) ?_
  rotate_left
  · intro w hSw; (try dsimp only at hSw); have ya := G.cellOf hSw R0.out; have yb := G.cellOf hSw R1.out; have x0 := G.cellOf hSw R2.out; have x1 := G.cellOf hSw G0.out; have x2 := G.cellOf hSw X0.out; go_simp; try with_reducible rfl
  try simp only [List.getElem_toArray, List.getElem_cons_succ, List.getElem_cons_zero, Act.put, List.setIfInBounds_toArray, List.set_cons_zero, List.set_cons_succ]
  refine wpAnyH_take (i := 4) (v := ?_) rfl (by kernel_rfl) (by kernel_rfl) (by kernel_rfl) (fun _ _ _ h => h) (Or.inl ⟨by kernel_rfl, ?_⟩) (by assumption) ?_
  rotate_left
  · intro w hSw; (try dsimp only at hSw); go_simp; try with_reducible rfl
  try simp only [List.getElem_toArray, List.getElem_cons_succ, List.getElem_cons_zero, Act.put, List.setIfInBounds_toArray, List.set_cons_zero, List.set_cons_succ]
  refine wpAnyH_take (i := 5) (v := ?_) rfl (by kernel_rfl) (by kernel_rfl) (by kernel_rfl) (fun _ _ _ h => h) (Or.inl ⟨by kernel_rfl, ?_⟩) (by assumption) ?_
  rotate_left
  · intro w hSw; (try dsimp only at hSw); have ya := G.cellOf hSw R0.out; have yb := G.cellOf hSw R1.out; have x0 := G.cellOf hSw R2.out; have x1 := G.cellOf hSw G0.out; have x2 := G.cellOf hSw X0.out; go_simp; try with_reducible rfl
  try simp only [List.getElem_toArray, List.getElem_cons_succ, List.getElem_cons_zero, Act.put, List.setIfInBounds_toArray, List.set_cons_zero, List.set_cons_succ]
  refine wpAnyH_take (i := 6) (v := ?_) rfl (by kernel_rfl) (by kernel_rfl) (by kernel_rfl) (fun _ _ _ h => h) (Or.inl ⟨by kernel_rfl, ?_⟩) (by assumption) ?_
  rotate_left
  · intro w hSw; (try dsimp only at hSw); have ya := G.cellOf hSw R0.out; have yb := G.cellOf hSw R1.out; have x0 := G.cellOf hSw R2.out; have x1 := G.cellOf hSw G0.out; have x2 := G.cellOf hSw X0.out; go_simp; try with_reducible rfl
  try simp only [List.getElem_toArray, List.getElem_cons_succ, List.getElem_cons_zero, Act.put, List.setIfInBounds_toArray, List.set_cons_zero, List.set_cons_succ]
  refine wpAnyH_take (i := 7) (v := ?_) rfl (by kernel_rfl) (by kernel_rfl) (by kernel_rfl) (fun _ _ _ h => h) (Or.inl ⟨by kernel_rfl, ?_⟩) (by assumption) ?_
  rotate_left
  · intro w hSw; (try dsimp only at hSw); have ya := G.cellOf hSw R0.out; have yb := G.cellOf hSw R1.out; have x0 := G.cellOf hSw R2.out; have x1 := G.cellOf hSw G0.out; have x2 := G.cellOf hSw X0.out; go_simp; try with_reducible rfl
  try simp only [List.getElem_toArray, List.getElem_cons_succ, List.getElem_cons_zero, Act.put, List.setIfInBounds_toArray, List.set_cons_zero, List.set_cons_succ]
  refine wpAnyH_ready (rs := [8]) (by kernel_rfl) (by simp) ?_
  refine AllReadyH.cons rfl (fun JJ hJJ => ?_) AllReadyH.nil
  go_simp
  ((try clear hb); go_at_call 123; refine (alikeCalls _ _ _ A1 A2 A3 c1 c2 c3 a b cols _ (HA.out.grown hHeld) (HB.out.grown hHeld) (HC.out.grown hHeld) HIN.out HL.out).mono ?_; rintro e w5 ⟨rfl, hg⟩; have hb := G.trans hHeld hg; clear hg)
  refine hJJ.out _ _ ?_ (fun hHeld2 => ?_)
  · exact hb
  clear hJJ JJ hHeld
  have hHeld := hHeld2
  clear hHeld2
  try simp only [List.getElem_toArray, List.getElem_cons_succ, List.getElem_cons_zero, Act.put, List.setIfInBounds_toArray, List.set_cons_zero, List.set_cons_succ]
  refine wpAnyH_take (i := 9) (v := ?_) rfl (by kernel_rfl) (by kernel_rfl) (by kernel_rfl) (fun _ _ _ h => h) (Or.inl ⟨by kernel_rfl, ?_⟩) (by assumption) ?_
  rotate_left
  · intro w hSw; (try dsimp only at hSw); go_simp; try with_reducible rfl
  try simp only [List.getElem_toArray, List.getElem_cons_succ, List.getElem_cons_zero, Act.put, List.setIfInBounds_toArray, List.set_cons_zero, List.set_cons_succ]
  refine wpAnyH_done (by kernel_rfl) ?_ _
  refine NoPanic.normal ?_
  have HW := put hHeld
  clear hHeld
  go_wp2_with fail
  go_ret
  exact ⟨rfl, HW.out⟩
end Go.Proofs.Ytkfoknjflpklpaa.P
