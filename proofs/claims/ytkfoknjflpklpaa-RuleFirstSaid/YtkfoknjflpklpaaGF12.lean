/- The method Rules of rule.Agenda. delta.Tracker's Note. -/
import Derived.Test.YtkfoknjflpklpaaGF6
import Derived.Test.YtkfoknjflpklpaaGF9
import Derived.Test.YtkfoknjflpklpaaGF11
import Derived.Test.YtkfoknjflpklpaaGF5

namespace Go.Proofs.Ytkfoknjflpklpaa.D
open Go Go.RowKit Go.Proofs.Ytkfoknjflpklpaa.Mem Go.Sort Go.Proofs.Ytkfoknjflpklpaa.Stab

def zeroRl : Rl := ⟨⟨#[]⟩, ⟨#[]⟩, 0, 0, false⟩
theorem zero_R {d : Nat} {ok : Nat → Prop} {w : World} {x : Rl} {cs : List Value} (h : (tSt d).R ok w x cs) (ok' : Nat → Prop) (w' : World) : (tSt d).R ok' w' zeroRl [.int .i64 0, .string { data := #[] }, .string { data := #[] }, .string { data := #[] }, .slice none 0 0, .slice none 0 0, .slice none 0 0, .slice none 0 0, .slice none 0 0, .slice none 0 0, .int .i64 0, .int .i64 0, .bool false, .bool false, .slice none 0 0] := by
  cases d with
  | zero => exact h.elim
  | succ d =>
    exact ⟨0, ⟨#[]⟩, false, _, _, _, _, _, _, _, [], [], [], [], [], [], rfl, Nat.zero_le _, ⟨none, 0, 0, rfl, by omega, by omega, by omega⟩, ⟨Sl.nil _ _ _, by simp⟩, ⟨Sl.nil _ _ _, by simp⟩, ⟨Sl.nil _ _ _, by simp⟩, ⟨Sl.nil _ _ _, by simp⟩, ⟨Sl.nil _ _ _, by simp⟩, ⟨Sl.nil _ _ _, by simp⟩⟩
theorem infoStA (d : Nat) : (Try.prog.info? 67).map (fun i => (i.zero, i.size, i.bytes)) = some (some (.agg #[.int .i64 0, .string { data := #[] }, .string { data := #[] }, .string { data := #[] }, .slice none 0 0, .slice none 0 0, .slice none 0 0, .slice none 0 0, .slice none 0 0, .slice none 0 0, .int .i64 0, .int .i64 0, .bool false, .bool false, .slice none 0 0]), (tSt d).sz, 248) := by rw [tSt_sz]; kernel_rfl

def marksOf (rs : List Rl) (mk : Int) : ByteArray → Option Int := fun s => if (rs.any fun r => decide (r.name = s)) = true then some mk else none
theorem marksOf_nil (mk : Int) : marksOf [] mk = fun _ => none := by funext s; simp [marksOf]
theorem marksOf_put (rs : List Rl) (x : Rl) (mk : Int) : putM (marksOf rs mk) x.name mk = marksOf (rs ++ [x]) mk := by
  funext s
  unfold putM marksOf
  rw [List.any_append]
  by_cases h : s = x.name
  · subst h; simp
  · rw [if_neg h]
    have : ¬ x.name = s := fun e => h e.symm
    simp [this]
theorem marks_fresh {rs : List Rl} {i : Nat} {x : Rl} (mk : Int) (hnd : rs.Pairwise (fun x y => x.name ≠ y.name)) (hx : rs[i]? = some x) : marksOf (rs.take i) mk x.name = none := by
  unfold marksOf
  rw [if_neg]
  intro h
  obtain ⟨y, hy, he⟩ := List.any_eq_true.1 h
  obtain ⟨j, hj, hjy⟩ := List.mem_iff_getElem.1 hy
  rw [List.length_take] at hj
  rw [List.getElem_take] at hjy
  obtain ⟨hi, hix⟩ := List.getElem?_eq_some_iff.1 hx
  have := List.pairwise_iff_getElem.1 hnd j i (by omega) hi (by omega)
  rw [hjy, hix] at this
  exact this (of_decide_eq_true he)

theorem keepA {w : World} {K : Nat} {x : Obj} (h : w.heap[K]? = some x) (o : Obj) : (w.alloc o).heap[K]? = some x := (Below.heap_alloc _ _ _ (Array.getElem?_eq_some_iff.1 h).1).trans h
theorem rules_keep9 {w : World} {K g o : Nat} {x : Obj} {cs : List Value} (h : w.heap[K]? = some x) (hne : K ≠ g) : (w.setCells g o cs).heap[K]? = some x := (World.heap_setCells_other w g o cs (Array.getElem?_eq_some_iff.1 h).1 hne).trans h
theorem rules_keep12 {w : World} {K a : Nat} {x : Obj} (h : w.heap[K]? = some x) (hne : K ≠ a) (u : Value) : (w.setCell ⟨a, 0, none⟩ u).heap[K]? = some x := (Below.heap_setCell _ ⟨a, 0, none⟩ u K hne).trans h
theorem wp_store_gen {P : Program} {op : Oper} {a : Act} {w : World} {K : Act → World → Prop} {Q : Exit → Act → World → Prop} (ty : TypeId) (x y : Operand) (ho : op.op = .store ty x y)
    (b o : Nat) (cs : List Value) (hx : a.eval x = .pointer (some ⟨b, o, none⟩)) (hy : a.eval y = .agg cs.toArray)
    (ht : w.there b o cs.length) (hi : (P.info? ty).map (·.size) = some cs.length) (h1 : ∀ v ∈ cs, v.oneCell' = true)
    (h : ∀ w8, w8 = w.setCells b o cs → K (a.put op.dst undef) w8) : op.wp P a w K Q :=
  wp_store_mid ty x y ho b o cs.toArray hx hy (by simpa using ht) (by simpa using hi) (all_oneCell_toArray h1) (h _ (by simp))
theorem rules_Kg {v : Value} {g K n c S : Nat} (hat : (Value.slice (some ⟨g, 0, none⟩) n c).ownBlock = v.ownBlock ∨ ∃ b, (Value.slice (some ⟨g, 0, none⟩) n c).ownBlock = some b ∧ S ≤ b) (h1 : some K ≠ v.ownBlock) (h2 : K < S) : K ≠ g := by
  rintro rfl
  rcases hat with h | ⟨b, h3, h4⟩
  · exact h1 h
  · simp only [Value.ownBlock, Option.some.injEq] at h3
    omega
theorem rules_there {w : World} {g o n : Nat} (h : w.there g o n) : w.there g o n := h
theorem rules_there2 {w : World} {g o n a : Nat} {u : Value} (h : w.there g o n) (hne : g ≠ a) : (w.setCell ⟨a, 0, none⟩ u).there g o n := fun j hj => by
  obtain ⟨h1, h2⟩ := h j hj
  have e := Below.heap_setCell w ⟨a, 0, none⟩ u g hne
  refine ⟨?_, ?_⟩
  · rw [World.cell?_of_block (a := ⟨g, o + j, none⟩) e]; exact h1
  · unfold World.frozen? at h2 ⊢
    rw [e]
    exact h2
theorem But.grown7 {a N : Nat} {w w6 w7 : World} {v : Value} (h : But (fun k => k = a) w w6) (hg : w6.grownBy w7 v.ownBlock) (hv : ∀ k, v.ownBlock = some k → N ≤ k) (hN : w.heap.size ≤ N) : But (fun k => k = a) w w7 :=
  ⟨hg.os.trans h.os, hg.tape.trans h.tape, hg.output.trans h.output, Nat.le_trans h.size hg.size, fun k hk hne => (hg.block k (Nat.lt_of_lt_of_le hk h.size) (fun e => by have := hv k e.symm; omega)).trans (h.block k hk hne)⟩
theorem But.set {a o : Nat} {w w7 : World} {u : Value} (h : But (fun k => k = a) w w7) : But (fun k => k = a) w (w7.setCell ⟨a, o, none⟩ u) :=
  ⟨h.os, h.tape, h.output, by simpa [World.setCell] using h.size, fun k hk hne => (Below.heap_setCell w7 ⟨a, o, none⟩ u k hne).trans (h.block k hk hne)⟩
theorem setCells_same (g : Nat) : ∀ (vs : List Value) (o : Nat) (w : World), (w.setCells g o vs).os = w.os ∧ (w.setCells g o vs).tape = w.tape ∧ (w.setCells g o vs).output = w.output ∧ (w.setCells g o vs).heap.size = w.heap.size
  | [], _, _ => ⟨rfl, rfl, rfl, rfl⟩
  | v :: r, o, w => by
    obtain ⟨h1, h2, h3, h4⟩ := setCells_same g r (o + 1) (w.setCell ⟨g, o, none⟩ v)
    exact ⟨h1, h2, h3, by rw [World.setCells, h4]; simp [World.setCell]⟩
theorem But.sets {a g o N : Nat} {w w7 : World} {cs : List Value} (h : But (fun k => k = a) w w7) (hN : w.heap.size ≤ N) (hg : N ≤ g) : But (fun k => k = a) w (w7.setCells g o cs) := by
  obtain ⟨h1, h2, h3, h4⟩ := setCells_same g cs o w7
  exact ⟨h1.trans h.os, h2.trans h.tape, h3.trans h.output, by rw [h4]; exact h.size, fun k hk hne => (World.heap_setCells_other w7 g o cs (Nat.lt_of_lt_of_le hk h.size) (by omega)).trans (h.block k hk hne)⟩

theorem rules_R {d : Nat} {okf : Nat → Prop} {wr w6 w7 : World} {x : Rl} {cs : List Value} {v v1 : Value} {B1 N : Nat} (h : (tSt d).R okf wr x cs) (hw : ∀ k, k < N → w6.heap[k]? = wr.heap[k]? ∧ k < w6.heap.size) (hg : w6.grownBy w7 v.ownBlock) (hv : ∀ k, v.ownBlock = some k → B1 ≤ k) (hv1 : ∀ k, v1.ownBlock = some k → B1 ≤ k) (hok : N ≤ B1 ∧ ∀ k, okf k → k < N) :
    (tSt d).R (fun k => okf k ∧ some k ≠ v1.ownBlock) w7 x cs :=
  (tSt d).mono (fun k hk => ⟨hk, fun e => by have h1 := hv1 k e.symm; have h2 := hok.2 k hk; have h3 := hok.1; omega⟩) ((tSt d).move (fun k hk _ => (hg.block k (hw k (hok.2 k hk)).2 (fun e => by have h1 := hv k e.symm; have h2 := hok.2 k hk; have h3 := hok.1; omega)).trans (hw k (hok.2 k hk)).1) h)

section
variable {d a mb mB n B1 N g : Nat} {okf : Nat → Prop} {w w7 : World} {v0 v1 : Value} {xs : List Rl} {z p : Rl} {cs : List Value} {f f0 : ByteArray → Option Int}
theorem rules_leafA (hA : AgAt w7 a v0 mb) (ho : Own (tSt d) 67 okf w7 B1 v1 (xs ++ [z])) (hr : (tSt d).R (fun k => okf k ∧ some k ≠ v1.ownBlock) w7 p cs) (hv : v1.ownBlock = some g) (hM1 : Marks w7 mB n f) (hM2 : Marks w7 mb 0 f0) (hB : But (fun k => k = a) w w7) (h1 : a < B1) (h2 : mB < B1) (h3 : mb < B1) (h4 : a ≠ mB) (h5 : a ≠ mb) (hok : w.heap.size ≤ B1 ∧ ∀ k, okf k → k < w.heap.size) (hna : ∀ k, okf k → k ≠ a) :
    Kp (AgAt ((w7.setCells g (xs.length * 15) cs).setCell ⟨a, 0, none⟩ v1) a v1 mb) ∧ Kp (Own (tSt d) 67 okf ((w7.setCells g (xs.length * 15) cs).setCell ⟨a, 0, none⟩ v1) B1 v1 (xs ++ [p])) ∧ Kp (Marks ((w7.setCells g (xs.length * 15) cs).setCell ⟨a, 0, none⟩ v1) mB n f) ∧ Kp (Marks ((w7.setCells g (xs.length * 15) cs).setCell ⟨a, 0, none⟩ v1) mb 0 f0) ∧ Kp (But (fun k => k = a) w ((w7.setCells g (xs.length * 15) cs).setCell ⟨a, 0, none⟩ v1)) := by
  obtain ⟨g', c, rfl, hg, hgs, _, how⟩ := ho.over hr
  simp only [Value.ownBlock, Option.some.injEq] at hv
  subst hv
  rw [tSt_sz] at how
  refine ⟨put ((hA.kept (World.heap_setCells_other w7 g' _ cs hA.lt (by omega))).set0 _), put (how.far (p := ⟨a, 0, none⟩) (fun k hk e => by have := (how.lt k hk).1; have e2 : k = a := e; omega) (fun k hk => hna k hk) _), put (hM1.kept ((Below.heap_setCell _ ⟨a, 0, none⟩ _ mB (fun e => h4 e.symm)).trans (World.heap_setCells_other w7 g' _ cs hM1.lt (by omega)))), put (hM2.kept ((Below.heap_setCell _ ⟨a, 0, none⟩ _ mb (fun e => h5 e.symm)).trans (World.heap_setCells_other w7 g' _ cs hM2.lt (by omega)))), put (But.set (hB.sets hok.1 hg))⟩
theorem rules_leafB (hA : AgAt w7 a v0 mb) (ho : Own (tSt d) 67 okf w7 B1 v1 (xs ++ [z])) (hr : (tSt d).R (fun k => okf k ∧ some k ≠ v1.ownBlock) w7 p cs) (hv : v1.ownBlock = some g) (hM1 : Marks w7 mB n f) (hM2 : Marks w7 mb 0 f0) (hB : But (fun k => k = a) w w7) (h1 : a < B1) (h2 : mB < B1) (h3 : mb < B1) (h4 : a ≠ mB) (h5 : a ≠ mb) (hok : w.heap.size ≤ B1 ∧ ∀ k, okf k → k < w.heap.size) (hna : ∀ k, okf k → k ≠ a) :
    Kp (AgAt ((w7.setCell ⟨a, 0, none⟩ v1).setCells g (xs.length * 15) cs) a v1 mb) ∧ Kp (Own (tSt d) 67 okf ((w7.setCell ⟨a, 0, none⟩ v1).setCells g (xs.length * 15) cs) B1 v1 (xs ++ [p])) ∧ Kp (Marks ((w7.setCell ⟨a, 0, none⟩ v1).setCells g (xs.length * 15) cs) mB n f) ∧ Kp (Marks ((w7.setCell ⟨a, 0, none⟩ v1).setCells g (xs.length * 15) cs) mb 0 f0) ∧ Kp (But (fun k => k = a) w ((w7.setCell ⟨a, 0, none⟩ v1).setCells g (xs.length * 15) cs)) := by
  have hof : Own (tSt d) 67 okf (w7.setCell ⟨a, 0, none⟩ v1) B1 v1 (xs ++ [z]) := ho.far (p := ⟨a, 0, none⟩) (fun k hk e => by have := (ho.lt k hk).1; have e2 : k = a := e; omega) (fun k hk => hna k hk) _
  have hrf : (tSt d).R (fun k => okf k ∧ some k ≠ v1.ownBlock) (w7.setCell ⟨a, 0, none⟩ v1) p cs := (tSt d).move (fun k hk _ => Below.heap_setCell _ ⟨a, 0, none⟩ _ k (hna k hk.1)) hr
  have hA' : AgAt (w7.setCell ⟨a, 0, none⟩ v1) a v1 mb := hA.set0 _
  have hM1' : Marks (w7.setCell ⟨a, 0, none⟩ v1) mB n f := hM1.kept (Below.heap_setCell _ ⟨a, 0, none⟩ _ mB (fun e => h4 e.symm))
  have hM2' : Marks (w7.setCell ⟨a, 0, none⟩ v1) mb 0 f0 := hM2.kept (Below.heap_setCell _ ⟨a, 0, none⟩ _ mb (fun e => h5 e.symm))
  obtain ⟨g', c, rfl, hg, hgs, _, how⟩ := hof.over hrf
  simp only [Value.ownBlock, Option.some.injEq] at hv
  subst hv
  rw [tSt_sz] at how
  exact ⟨put (hA'.kept (World.heap_setCells_other _ g' _ cs hA'.lt (by omega))), put how, put (hM1'.kept (World.heap_setCells_other _ g' _ cs hM1'.lt (by omega))), put (hM2'.kept (World.heap_setCells_other _ g' _ cs hM2'.lt (by omega))), put (But.sets (But.set hB) hok.1 hg)⟩
end

set_option maxHeartbeats 16000000 in
set_option maxRecDepth 100000 in
theorem rulesCalls (d : Nat) (ok : Nat → Prop) (w : World) (a mb : Nat) (v0 vl : Value) (rs : List Rl) (mk : Int) (hA : AgAt w a v0 mb) (hM : Marks w mb 0 (fun _ => none)) (hS : Sl (tSt d) ok w vl rs) (hl : rs.length ≤ 10) (hnd : rs.Pairwise (fun x y => x.name ≠ y.name)) (hok : ∀ k, ok k → k ≠ a) (hne : a ≠ mb) :
    Calls Try.prog 35 #[.pointer (some ⟨a, 0, none⟩), vl, .int .i64 mk] w fun e w' => (∃ r, e = .returned r) ∧ ∃ A c m2, AgAt w' a (.slice A rs.length c) m2 ∧ w.heap.size ≤ m2 ∧ Own (tSt d) 67 (fun k => ok k ∧ k < w.heap.size) w' w.heap.size (.slice A rs.length c) (isort (ltOf rlCmp) rs) ∧ Marks w' m2 11 (marksOf rs mk) ∧ But (fun k => k = a) w w' := by
  obtain ⟨A, c, rfl, l1, l2, l3⟩ := hS.shape
  have KS := put hS
  have HOK := put hok
  have HND := put hnd
  obtain ⟨m, hm⟩ : ∃ m, m = rs.length := ⟨_, rfl⟩
  rw [← hm] at l1 l3 KS hl ⊢
  have HM := put (And.intro hm hl)
  obtain ⟨mB, hmB⟩ : ∃ mB, mB = w.heap.size := ⟨_, rfl⟩
  obtain ⟨B1, hB1⟩ : ∃ B1, B1 = w.heap.size + 1 := ⟨_, rfl⟩
  obtain ⟨okf, hokf⟩ : ∃ okf : Nat → Prop, okf = fun k => ok k ∧ k < w.heap.size := ⟨_, rfl⟩
  have halt := hA.lt
  have hmlt := hM.lt
  have HAB : Kp (a < B1) := put (by omega)
  have HMB1 : Kp (mB < B1) := put (by omega)
  have HMB2 : Kp (mb < B1) := put (by omega)
  have HMBW : Kp (mb < w.heap.size) := put hmlt
  have HNE : Kp (a ≠ mB ∧ a ≠ mb) := put ⟨by omega, hne⟩
  have HOKF : Kp (w.heap.size ≤ B1 ∧ ∀ k, okf k → k < w.heap.size) := put ⟨by omega, fun k hk => by rw [hokf] at hk; exact hk.2⟩
  have HNA : Kp (∀ k, okf k → k ≠ a) := put (fun k hk => by rw [hokf] at hk; exact hok k hk.1)
  have hA1 : AgAt ((w.alloc (.map #[] 0)).setCell ⟨a, 0, none⟩ (.slice none 0 0)) a (.slice none 0 0) mb := (hA.below (balloc (Below.refl _ _) _)).set0 _
  have hM1 : Marks ((w.alloc (.map #[] 0)).setCell ⟨a, 0, none⟩ (.slice none 0 0)) mB 0 (marksOf [] mk) := by rw [marksOf_nil, hmB]; exact (Marks.made w).kept (Below.heap_setCell _ ⟨a, 0, none⟩ _ _ (fun e => by have e2 : w.heap.size = a := e; omega))
  have hM2 : Marks ((w.alloc (.map #[] 0)).setCell ⟨a, 0, none⟩ (.slice none 0 0)) mb 0 (fun _ => none) := (hM.below (balloc (Below.refl _ _) _)).kept (Below.heap_setCell _ ⟨a, 0, none⟩ _ _ (fun e => hne e.symm))
  have hBut : But (fun k => k = a) w ((w.alloc (.map #[] 0)).setCell ⟨a, 0, none⟩ (.slice none 0 0)) := But.set (But.of_below (balloc (Below.refl _ _) _))
  have hSK : Kp (∀ W, But (fun k => k = a) w W → Sl (tSt d) okf W (.slice A m c) rs) := ⟨fun W hb => by rw [hokf]; exact (KS.out.bnd).move (fun k hk hlt => hb.block k hlt (fun e => HOK.out k hk.1 e))⟩
  have c0 : ∀ o, (w.alloc o).cell? ⟨a, 0, none⟩ = some v0 := fun o => (hA.below (balloc (Below.refl _ _) o)).c0
  have fr0 : ∀ o, (w.alloc o).frozen? ⟨a, 0, none⟩ = false := fun o => (hA.below (balloc (Below.refl _ _) o)).fr 0
  have HA1 := put hA1
  have HM1 := put hM1
  have HM2 := put hM2
  have HBUT := put hBut
  have HMBE := put (And.intro hmB (And.intro hB1 hokf))
  have hmm := @run_makeMap Try.prog
  clear hA hM hS hl hnd hok hne hm halt hmlt hA1 hM1 hM2 hBut hB1 hokf
  go_enter Try.func35, Try.ntmps35
  go_wp2_with fail
  rw [← hmB]
  clear hmB hmm c0 fr0
  go_loopg [21] m (fun kx s21 wr => ∃ (i : Nat) (A8 : Option Addr) (c8 : Nat), s21 = .int .i64 i ∧ i ≤ m ∧ m - i ≤ kx ∧ Kp (AgAt wr a (.slice A8 i c8) mb) ∧ Kp (Own (tSt d) 67 okf wr B1 (.slice A8 i c8) (rs.take i)) ∧ Kp (Marks wr mB i (marksOf (rs.take i) mk)) ∧ Kp (Marks wr mb 0 (fun _ => none)) ∧ Kp (But (fun k => k = a) w wr))
  case atStart => exact ⟨0, none, 0, rfl, Nat.zero_le _, Nat.le_refl _, HA1, put (Own.nil _ _ _ _ _), HM1, HM2, HBUT⟩
  case round =>
    obtain ⟨i, A8, c8, rfl, hi, hkx, KA, KO, KM1, KM2, KB⟩ := hrel
    by_cases hlt : i < m
    · have hlz : (i : Int) < (m : Int) := by omega
      have hlz1 : (i : Int) < (i : Int) + 1 := by omega
      have i0 : (0 : Int) ≤ (i : Int) := by omega
      obtain ⟨ad, kd', x, col', rl', Ac', nc', cc', A1', n1', c1', A2', n2', c2', A3', n3', c3', A4', n4', c4', A5', n5', c5', A6', n6', c6', rfl, hx, u0, u1, u2, u3, u4, u5, u6, u7, u8, u9, u10, u11, u12, u13, u14, hr⟩ := sts_at (hSK.out wr KB.out).row.1 i (by rw [← HM.out.1]; exact hlt)
      have KR := put hr
      have KX := put hx
      have hsz := st_name hr
      have hfr := marks_fresh mk HND.out hx
      have HLM : Kp (i < rs.length ∧ rs.length ≤ 10) := put ⟨by rw [← HM.out.1]; exact hlt, by rw [← HM.out.1]; exact HM.out.2⟩
      have HMF : Kp (putM (marksOf (rs.take i) mk) x.name mk = marksOf (rs.take (i + 1)) mk) := put (by rw [take_one_more hx, marksOf_put])
      have hl1 : ∀ o, (Instr.lookup 129 (.map (some mB)) (.string x.name) true).run Try.prog (wr.alloc o) = .ok (.tuple #[.int .i64 0, .bool false]) (wr.alloc o) := fun o => by
        have h := (KM1.out.below (balloc (Below.refl _ _) o)).look_ok hsz
        rw [hfr] at h
        exact h
      have hl2 : ∀ o k, (Instr.lookup 129 (.map (some mb)) (.string x.name) true).run Try.prog ((wr.alloc o).drewN k) = .ok (.tuple #[.int .i64 0, .bool false]) ((wr.alloc o).drewN k) := fun o k =>
        ((KM2.out.below (balloc (Below.refl _ _) o)).kept (w' := (wr.alloc o).drewN k) (by simp)).look_ok hsz
      have ca1 : ∀ o, (wr.alloc o).cell? ⟨a, 1, none⟩ = some (.map (some mb)) := fun o => (KA.out.below (balloc (Below.refl _ _) o)).c1
      have HSZ := put hsz
      clear hr hx hsz hfr
      go_wp2_with fail
      go_quiet (fail)
      obtain ⟨w5, hw5⟩ : ∃ w5, w5 = (wr.alloc (.cells #[.int .i64 kd', .string x.name, .string x.table, .string col', .slice Ac' nc' cc', .slice A1' n1' c1', .slice A2' n2' c2', .slice A3' n3' c3', .slice A4' n4' c4', .slice A5' n5' c5', .int .i64 x.prio, .int .i64 x.event, .bool x.deferred, .bool rl', .slice A6' n6' c6'] 67)).drewN nq := ⟨_, rfl⟩
      have hK5 : w5.heap[wr.heap.size]? = some (.cells #[.int .i64 kd', .string x.name, .string x.table, .string col', .slice Ac' nc' cc', .slice A1' n1' c1', .slice A2' n2' c2', .slice A3' n3' c3', .slice A4' n4' c4', .slice A5' n5' c5', .int .i64 x.prio, .int .i64 x.event, .bool x.deferred, .bool rl', .slice A6' n6' c6'] 67 (0, 0)) := by rw [hw5]; simp only [World.heap_drewN]; exact heap_alloc_new _ _
      have hb5 : Below wr.heap.size wr w5 := by rw [hw5]; exact Below.drewn (balloc (Below.refl _ _) _)
      rw [← hw5]
      obtain ⟨K, hKe⟩ : ∃ K, K = wr.heap.size := ⟨_, rfl⟩
      rw [← hKe] at hK5 ⊢
      have k1 := st_c1 hK5
      have HK5 := put hK5
      have HB5 := put hb5
      have HKE := put hKe
      have HM5 := put (KM1.out.below hb5)
      have HIM : Kp (i < maxLen) := put (by show i < 9223372036854775807; have := HLM.out; omega)
      clear hw5 hK5 hb5 hKe hl1 hl2 ca1 u0 u1 u2 u3 u4 u5 u6 u7 u8 u9 u10 u11 u12 u13 u14
      go_wp2_with (refine wpList_mark rfl _ _ _ rfl rfl HM5.out HIM.out rfl rfl HSZ.out ?_; intro w6 hm6 hg6; have HM6 := put hm6; have HG6 := put hg6; clear hm6 hg6)
      have hbk : ∀ k, k ≠ mB → k < wr.heap.size → w6.heap[k]? = wr.heap[k]? := fun k hk hlt => (HG6.out.block k (Nat.lt_of_lt_of_le hlt HB5.out.size) (fun e => hk (Option.some.inj e))).trans (HB5.out.block k hlt)
      have hwle : w.heap.size ≤ wr.heap.size := KB.out.size
      have hwr6 : wr.heap.size ≤ w6.heap.size := Nat.le_trans HB5.out.size HG6.out.size
      have hmlt := KM1.out.lt
      have hKm : K ≠ mB := by have := HKE.out; omega
      have hKa : K ≠ a := by have := HKE.out; have := KA.out.lt; omega
      have hK6 : w6.heap[K]? = some (.cells #[.int .i64 kd', .string x.name, .string x.table, .string col', .slice Ac' nc' cc', .slice A1' n1' c1', .slice A2' n2' c2', .slice A3' n3' c3', .slice A4' n4' c4', .slice A5' n5' c5', .int .i64 x.prio, .int .i64 x.event, .bool x.deferred, .bool rl', .slice A6' n6' c6'] 67 (0, 0)) := (HG6.out.block K (Array.getElem?_eq_some_iff.1 HK5.out).1 (fun e => hKm (Option.some.inj e))).trans HK5.out
      have hA6 : AgAt w6 a (.slice A8 i c8) mb := KA.out.kept (hbk a HNE.out.1 KA.out.lt)
      have hO6 : Own (tSt d) 67 okf w6 B1 (.slice A8 i c8) (rs.take i) := KO.out.move (fun k hk => hbk k (by have h1 := (KO.out.lt k hk).1; have h2 := HMB1.out; omega) (KO.out.lt k hk).2) (fun k hk _ hlt => hbk k (by have h1 := HOKF.out.2 k hk; have h2 := HMBE.out.1; omega) hlt)
      have KO6 := put hO6
      have HM6' : Kp (Marks w6 mb 0 (fun _ => none)) := put (KM2.out.kept (hbk mb (fun e => by have h1 := HMBE.out.1; have h2 := HMBW.out; omega) KM2.out.lt))
      have HB6 : Kp (But (fun k => k = a) w w6) := put ⟨HG6.out.os.trans (HB5.out.os.trans KB.out.os), HG6.out.tape.trans (HB5.out.tape.trans KB.out.tape), HG6.out.output.trans (HB5.out.output.trans KB.out.output), Nat.le_trans hwle hwr6, fun k hk hne => (hbk k (by have h1 := HMBE.out.1; omega) (Nat.lt_of_lt_of_le hk hwle)).trans (KB.out.block k hk hne)⟩
      have HW6 : Kp (∀ k, k < w.heap.size → w6.heap[k]? = wr.heap[k]? ∧ k < w6.heap.size) := put (fun k hk => ⟨hbk k (by have h1 := HMBE.out.1; omega) (by omega), by omega⟩)
      have HKs : Kp (K < w6.heap.size) := put (Array.getElem?_eq_some_iff.1 hK6).1
      have HKN : Kp (some K ≠ (Value.slice A8 i c8).ownBlock) := put (fun e => by have h1 := (KO.out.lt K e.symm).2; have h2 := HKE.out; omega)
      have HB16 : Kp (B1 ≤ w6.heap.size) := put (by have h1 := HMBE.out; have h2 := KM1.out.lt; omega)
      have HWB : Kp (w.heap.size ≤ B1) := put HOKF.out.1
      have t6 := hA6.c0
      have al6 : ∀ o, (w6.drew.alloc o).cell? ⟨a, 0, none⟩ = some (.slice A8 i c8) := fun o => (hA6.below (balloc (Below.refl _ _).drew o)).c0
      have al6' : ∀ o, (w6.alloc o).cell? ⟨a, 0, none⟩ = some (.slice A8 i c8) := fun o => (hA6.below (balloc (Below.refl _ _) o)).c0
      have HA6 := put hA6
      have HK6 := put hK6
      clear hbk hwle hwr6 hmlt hK6 hA6 hO6 k1
      refine wp_region_noPanic ?_
      refine wp_region_held_drew (S := (fun w' => w'.heap[K]? = some (.cells #[.int .i64 kd', .string x.name, .string x.table, .string col', .slice Ac' nc' cc', .slice A1' n1' c1', .slice A2' n2' c2', .slice A3' n3' c3', .slice A4' n4' c4', .slice A5' n5' c5', .int .i64 x.prio, .int .i64 x.event, .bool x.deferred, .bool rl', .slice A6' n6' c6'] 67 (0, 0)))) (by kernel_rfl) HK6.out (fun hHeld => ?_)
      refine wpAnyH_take (i := 0) (v := ?_) rfl (by kernel_rfl) (by kernel_rfl) (by kernel_rfl) (fun _ _ _ h => h) (Or.inl ⟨by kernel_rfl, ?_⟩) (by assumption) ?_
      rotate_left
      · intro w hSw; (try dsimp only at hSw); go_simp; try with_reducible rfl
      try simp only [List.getElem_toArray, List.getElem_cons_zero, Act.put, List.setIfInBounds_toArray, List.set_cons_zero, List.set_cons_succ]
      refine wpAnyH_take (i := 1) (v := ?_) rfl (by kernel_rfl) (by kernel_rfl) (by kernel_rfl) (fun _ _ _ h => h) (Or.inl ⟨by kernel_rfl, ?_⟩) (by assumption) ?_
      rotate_left
      · intro w hSw; (try dsimp only at hSw); go_simp; try with_reducible rfl
      try simp only [List.getElem_toArray, List.getElem_cons_succ, List.getElem_cons_zero, Act.put, List.setIfInBounds_toArray, List.set_cons_zero, List.set_cons_succ]
      refine wpAnyH_take (i := 2) (v := ?_) rfl (by kernel_rfl) (by kernel_rfl) (by kernel_rfl) (fun _ _ _ h => h) (Or.inl ⟨by kernel_rfl, ?_⟩) (by assumption) ?_
      rotate_left
      · intro w hSw; (try dsimp only at hSw); go_simp; try with_reducible rfl
      try simp only [List.getElem_toArray, List.getElem_cons_succ, List.getElem_cons_zero, Act.put, List.setIfInBounds_toArray, List.set_cons_zero, List.set_cons_succ]
      refine wpAnyH_take (i := 4) (v := ?_) rfl (by kernel_rfl) (by kernel_rfl) (by kernel_rfl) (fun _ _ _ h => h) (Or.inl ⟨by kernel_rfl, ?_⟩) (by assumption) ?_
      rotate_left
      · intro w hSw; (try dsimp only at hSw); obtain ⟨k0, k1, k2, k3, k4, k5, k6, k7, k8, k9, k10, k11, k12, k13, k14⟩ := st_all hSw; go_simp; try with_reducible rfl
      try simp only [List.getElem_toArray, List.getElem_cons_succ, List.getElem_cons_zero, Act.put, List.setIfInBounds_toArray, List.set_cons_zero, List.set_cons_succ]
      refine wpAnyH_ready (rs := [3, 6]) (by kernel_rfl) (by simp) ?_
      refine AllReadyH.cons rfl (fun JJ hJJ => ?_) ?_
      · go_simp
        refine hJJ.out _ _ ?_ (fun hHeld2 => ?_)
        · exact hHeld
        clear hJJ JJ hHeld
        have hHeld := hHeld2
        clear hHeld2
        try simp only [List.getElem_toArray, List.getElem_cons_succ, List.getElem_cons_zero, Act.put, List.setIfInBounds_toArray, List.set_cons_zero, List.set_cons_succ]
        refine wpAnyH_take (i := 5) (v := ?_) rfl (by kernel_rfl) (by kernel_rfl) (by kernel_rfl) (fun _ _ _ h => h) (Or.inl ⟨by kernel_rfl, ?_⟩) (by assumption) ?_
        rotate_left
        · intro w hSw; (try dsimp only at hSw); go_simp; try with_reducible rfl
        try simp only [List.getElem_toArray, List.getElem_cons_succ, List.getElem_cons_zero, Act.put, List.setIfInBounds_toArray, List.set_cons_zero, List.set_cons_succ]
        refine wpAnyH_ready (rs := [6]) (by kernel_rfl) (by simp) ?_
        refine AllReadyH.cons rfl (fun JJ hJJ => ?_) AllReadyH.nil
        go_simp
        refine hJJ.out _ _ ?_ (fun hHeld2 => ?_)
        · exact keepA hHeld _
        clear hJJ JJ hHeld
        have hHeld := hHeld2
        clear hHeld2
        try simp only [List.getElem_toArray, List.getElem_cons_succ, List.getElem_cons_zero, Act.put, List.setIfInBounds_toArray, List.set_cons_zero, List.set_cons_succ]
        refine wpAnyH_ready (rs := [7]) (by kernel_rfl) (by simp) ?_
        refine AllReadyH.cons rfl (fun JJ hJJ => ?_) AllReadyH.nil
        (refine step_push1 (tSt d) B1 rfl _ _ 60 67 _ 248 rfl Try.underlying60 (infoStA d) (by rw [tSt_sz]; rfl) (by rw [tSt_sz]; decide) (by decide) (.slice A8 i c8) _ (rs.take i) zeroRl [.int .i64 0, .string { data := #[] }, .string { data := #[] }, .string { data := #[] }, .slice none 0 0, .slice none 0 0, .slice none 0 0, .slice none 0 0, .slice none 0 0, .slice none 0 0, .int .i64 0, .int .i64 0, .bool false, .bool false, .slice none 0 0] okf rfl rfl (heap_alloc_new w6.drew _) (zero_R KR.out _ _) (KO6.out.below (by (repeat (first | with_reducible exact (Below.refl _ _) | with_reducible apply Below.drew | with_reducible refine balloc ?_ _)))) (Nat.le_trans HB16.out (bsize (w := w6) (by (repeat (first | with_reducible exact (Below.refl _ _) | with_reducible apply Below.drew | with_reducible refine balloc ?_ _))))) (by rw [List.length_take]; have := HLM.out; omega) ?_; intro v1 w7 ho hg hat; have hg7 : w6.grownBy w7 (Value.slice A8 i c8).ownBlock := World.grownBy.trans (grown_below (by (repeat (first | with_reducible exact (Below.refl _ _) | with_reducible apply Below.drew | with_reducible refine balloc ?_ _)))) hg; have hr7 : (tSt d).R (fun k => okf k ∧ some k ≠ v1.ownBlock) w7 x [.int .i64 kd', .string x.name, .string x.table, .string col', .slice Ac' nc' cc', .slice A1' n1' c1', .slice A2' n2' c2', .slice A3' n3' c3', .slice A4' n4' c4', .slice A5' n5' c5', .int .i64 x.prio, .int .i64 x.event, .bool x.deferred, .bool rl', .slice A6' n6' c6'] := rules_R KR.out HW6.out hg7 (fun k hk => (KO6.out.lt k hk).1) (fun k hk => (ho.lt k hk).1) HOKF.out; obtain ⟨g, c9, hv, hbg, hgs, hth, _⟩ := ho.over hr7; rw [show (rs.take i).length = i by rw [List.length_take]; have := HLM.out; omega] at hv hth; rw [tSt_sz] at hth; subst hv; have hA7 : AgAt w7 a (.slice A8 i c8) mb := HA6.out.kept (hg7.block a HA6.out.lt (fun e => by have h1 := (KO6.out.lt a e.symm).1; have h2 := HAB.out; omega)); have t7 := hA7.c0; have f7 := hA7.fr 0; have gne1 : g ≠ a := (by have := HAB.out; omega); have gne2 : a ≠ g := gne1.symm; have hK7 := hg7.block K HKs.out HKN.out; have hKg : K ≠ g := rules_Kg hat HKN.out (Nat.lt_of_lt_of_le HKs.out (bsize (w := w6) (by (repeat (first | with_reducible exact (Below.refl _ _) | with_reducible apply Below.drew | with_reducible refine balloc ?_ _))))); have HTH := put hth; have HA7 := put hA7; have HO7 := put ho; have HR7 := put hr7; have HG7 := put hg7; have HBG := put hbg; clear ho hg hat hg7 hr7 hA7 hth hbg)
        refine hJJ.out _ _ ?_ (fun hHeld2 => ?_)
        · exact hK7.trans HK6.out
        clear hJJ JJ hHeld
        have hHeld := hHeld2
        clear hHeld2
        try simp only [List.getElem_toArray, List.getElem_cons_succ, List.getElem_cons_zero, Act.put, List.setIfInBounds_toArray, List.set_cons_zero, List.set_cons_succ]
        refine wpAnyH_take (i := 8) (v := ?_) rfl (by kernel_rfl) (by kernel_rfl) (by kernel_rfl) (fun _ _ _ h => h) (Or.inl ⟨by kernel_rfl, ?_⟩) (by assumption) ?_
        rotate_left
        · intro w hSw; (try dsimp only at hSw); go_simp; try with_reducible rfl
        try simp only [List.getElem_toArray, List.getElem_cons_succ, List.getElem_cons_zero, Act.put, List.setIfInBounds_toArray, List.set_cons_zero, List.set_cons_succ]
        refine wpAnyH_take (i := 10) (v := ?_) rfl (by kernel_rfl) (by kernel_rfl) (by kernel_rfl) (fun _ _ _ h => h) (Or.inl ⟨by kernel_rfl, ?_⟩) (by assumption) ?_
        rotate_left
        · intro w hSw; (try dsimp only at hSw); go_simp; try with_reducible rfl
        try simp only [List.getElem_toArray, List.getElem_cons_succ, List.getElem_cons_zero, Act.put, List.setIfInBounds_toArray, List.set_cons_zero, List.set_cons_succ]
        refine wpAnyH_take (i := 11) (v := ?_) rfl (by kernel_rfl) (by kernel_rfl) (by kernel_rfl) (fun _ _ _ h => h) (Or.inl ⟨by kernel_rfl, ?_⟩) (by assumption) ?_
        rotate_left
        · intro w hSw; (try dsimp only at hSw); go_simp; try with_reducible rfl
        try simp only [List.getElem_toArray, List.getElem_cons_succ, List.getElem_cons_zero, Act.put, List.setIfInBounds_toArray, List.set_cons_zero, List.set_cons_succ]
        refine wpAnyH_ready (rs := [9, 12]) (by kernel_rfl) (by simp) ?_
        refine AllReadyH.cons rfl (fun JJ hJJ => ?_) ?_
        · (rw [if_pos (by rfl)]; refine wp_store_gen _ _ _ rfl g (i * 15) [.int .i64 kd', .string x.name, .string x.table, .string col', .slice Ac' nc' cc', .slice A1' n1' c1', .slice A2' n2' c2', .slice A3' n3' c3', .slice A4' n4' c4', .slice A5' n5' c5', .int .i64 x.prio, .int .i64 x.event, .bool x.deferred, .bool rl', .slice A6' n6' c6'] rfl rfl (HTH.out) (by kernel_rfl) ((tSt d).one HR7.out) ?_; intro w8 hw8; have HW8 := put hw8; clear hw8; have t8 : w8.cell? ⟨a, 0, none⟩ = some (.slice A8 i c8) := (congrArg (fun W => World.cell? W ⟨a, 0, none⟩) HW8.out).trans ((World.cell?_of_block (a := ⟨a, 0, none⟩) (World.heap_setCells_other w7 g _ _ HA7.out.lt gne2)).trans t7); have f8 : w8.frozen? ⟨a, 0, none⟩ = false := (congrArg (fun W => World.frozen? W ⟨a, 0, none⟩) HW8.out).trans ((World.frozen?_setCells g _ _ w7 _).trans f7))
          refine hJJ.out _ _ ?_ (fun hHeld2 => ?_)
          · rw [HW8.out]; exact rules_keep9 hHeld hKg
          clear hJJ JJ hHeld
          have hHeld := hHeld2
          clear hHeld2
          try simp only [List.getElem_toArray, List.getElem_cons_succ, List.getElem_cons_zero, Act.put]
          refine wpAnyH_ready (rs := [12]) (by kernel_rfl) (by simp) ?_
          refine AllReadyH.cons rfl (fun JJ hJJ => ?_) AllReadyH.nil
          go_simp
          refine hJJ.out _ _ ?_ (fun hHeld2 => ?_)
          · exact rules_keep12 hHeld hKa _
          clear hJJ JJ hHeld
          have hHeld := hHeld2
          clear hHeld2
          try simp only [List.getElem_toArray, List.getElem_cons_succ, List.getElem_cons_zero, Act.put, List.setIfInBounds_toArray, List.set_cons_zero, List.set_cons_succ]
          refine wpAnyH_done (by kernel_rfl) ?_ _
          refine NoPanic.normal ?_
          go_wp2_with fail
          go_roundg (m - (i + 1))
          case measure => omega
          case rel =>
            have hfin := rules_leafA HA7.out HO7.out HR7.out rfl (HM6.out.kept (HG7.out.block mB HM6.out.lt (fun e => by have h1 := (KO6.out.lt mB e.symm).1; have h2 := HMB1.out; omega))) (HM6'.out.kept (HG7.out.block mb HM6'.out.lt (fun e => by have h1 := (KO6.out.lt mb e.symm).1; have h2 := HMB2.out; omega))) (HB6.out.grown7 HG7.out (fun k hk => (KO6.out.lt k hk).1) HWB.out) HAB.out HMB1.out HMB2.out HNE.out.1 HNE.out.2 HOKF.out HNA.out
            rw [show (rs.take i).length = i by rw [List.length_take]; have := HLM.out; omega, ← HW8.out, ← take_one_more KX.out, HMF.out] at hfin
            exact ⟨i + 1, _, c9, by go_num, by omega, Nat.le_refl _, hfin⟩
        refine AllReadyH.cons rfl (fun JJ hJJ => ?_) AllReadyH.nil
        go_simp
        refine hJJ.out _ _ ?_ (fun hHeld2 => ?_)
        · exact rules_keep12 hHeld hKa _
        clear hJJ JJ hHeld
        have hHeld := hHeld2
        clear hHeld2
        try simp only [List.getElem_toArray, List.getElem_cons_succ, List.getElem_cons_zero, Act.put, List.setIfInBounds_toArray, List.set_cons_zero, List.set_cons_succ]
        refine wpAnyH_ready (rs := [9]) (by kernel_rfl) (by simp) ?_
        refine AllReadyH.cons rfl (fun JJ hJJ => ?_) AllReadyH.nil
        (rw [if_pos (by rfl)]; refine wp_store_gen _ _ _ rfl g (i * 15) [.int .i64 kd', .string x.name, .string x.table, .string col', .slice Ac' nc' cc', .slice A1' n1' c1', .slice A2' n2' c2', .slice A3' n3' c3', .slice A4' n4' c4', .slice A5' n5' c5', .int .i64 x.prio, .int .i64 x.event, .bool x.deferred, .bool rl', .slice A6' n6' c6'] rfl rfl (rules_there2 HTH.out gne1) (by kernel_rfl) ((tSt d).one HR7.out) ?_; intro w8 hw8; have HW8 := put hw8; clear hw8)
        refine hJJ.out _ _ ?_ (fun hHeld2 => ?_)
        · rw [HW8.out]; exact rules_keep9 hHeld hKg
        clear hJJ JJ hHeld
        have hHeld := hHeld2
        clear hHeld2
        try simp only [List.getElem_toArray, List.getElem_cons_succ, List.getElem_cons_zero, Act.put]
        refine wpAnyH_done (by kernel_rfl) ?_ _
        refine NoPanic.normal ?_
        go_wp2_with fail
        go_roundg (m - (i + 1))
        case measure => omega
        case rel =>
          have hfin := rules_leafB HA7.out HO7.out HR7.out rfl (HM6.out.kept (HG7.out.block mB HM6.out.lt (fun e => by have h1 := (KO6.out.lt mB e.symm).1; have h2 := HMB1.out; omega))) (HM6'.out.kept (HG7.out.block mb HM6'.out.lt (fun e => by have h1 := (KO6.out.lt mb e.symm).1; have h2 := HMB2.out; omega))) (HB6.out.grown7 HG7.out (fun k hk => (KO6.out.lt k hk).1) HWB.out) HAB.out HMB1.out HMB2.out HNE.out.1 HNE.out.2 HOKF.out HNA.out
          rw [show (rs.take i).length = i by rw [List.length_take]; have := HLM.out; omega, ← HW8.out, ← take_one_more KX.out, HMF.out] at hfin
          exact ⟨i + 1, _, c9, by go_num, by omega, Nat.le_refl _, hfin⟩
      refine AllReadyH.cons rfl (fun JJ hJJ => ?_) AllReadyH.nil
      go_simp
      refine hJJ.out _ _ ?_ (fun hHeld2 => ?_)
      · exact keepA hHeld _
      clear hJJ JJ hHeld
      have hHeld := hHeld2
      clear hHeld2
      try simp only [List.getElem_toArray, List.getElem_cons_succ, List.getElem_cons_zero, Act.put, List.setIfInBounds_toArray, List.set_cons_zero, List.set_cons_succ]
      refine wpAnyH_ready (rs := [3]) (by kernel_rfl) (by simp) ?_
      refine AllReadyH.cons rfl (fun JJ hJJ => ?_) AllReadyH.nil
      go_simp
      refine hJJ.out _ _ ?_ (fun hHeld2 => ?_)
      · exact hHeld
      clear hJJ JJ hHeld
      have hHeld := hHeld2
      clear hHeld2
      try simp only [List.getElem_toArray, List.getElem_cons_succ, List.getElem_cons_zero, Act.put, List.setIfInBounds_toArray, List.set_cons_zero, List.set_cons_succ]
      refine wpAnyH_take (i := 5) (v := ?_) rfl (by kernel_rfl) (by kernel_rfl) (by kernel_rfl) (fun _ _ _ h => h) (Or.inl ⟨by kernel_rfl, ?_⟩) (by assumption) ?_
      rotate_left
      · intro w hSw; (try dsimp only at hSw); go_simp; try with_reducible rfl
      try simp only [List.getElem_toArray, List.getElem_cons_succ, List.getElem_cons_zero, Act.put, List.setIfInBounds_toArray, List.set_cons_zero, List.set_cons_succ]
      refine wpAnyH_ready (rs := [7]) (by kernel_rfl) (by simp) ?_
      refine AllReadyH.cons rfl (fun JJ hJJ => ?_) AllReadyH.nil
      (refine step_push1 (tSt d) B1 rfl _ _ 60 67 _ 248 rfl Try.underlying60 (infoStA d) (by rw [tSt_sz]; rfl) (by rw [tSt_sz]; decide) (by decide) (.slice A8 i c8) _ (rs.take i) zeroRl [.int .i64 0, .string { data := #[] }, .string { data := #[] }, .string { data := #[] }, .slice none 0 0, .slice none 0 0, .slice none 0 0, .slice none 0 0, .slice none 0 0, .slice none 0 0, .int .i64 0, .int .i64 0, .bool false, .bool false, .slice none 0 0] okf rfl rfl (heap_alloc_new w6.drew _) (zero_R KR.out _ _) (KO6.out.below (by (repeat (first | with_reducible exact (Below.refl _ _) | with_reducible apply Below.drew | with_reducible refine balloc ?_ _)))) (Nat.le_trans HB16.out (bsize (w := w6) (by (repeat (first | with_reducible exact (Below.refl _ _) | with_reducible apply Below.drew | with_reducible refine balloc ?_ _))))) (by rw [List.length_take]; have := HLM.out; omega) ?_; intro v1 w7 ho hg hat; have hg7 : w6.grownBy w7 (Value.slice A8 i c8).ownBlock := World.grownBy.trans (grown_below (by (repeat (first | with_reducible exact (Below.refl _ _) | with_reducible apply Below.drew | with_reducible refine balloc ?_ _)))) hg; have hr7 : (tSt d).R (fun k => okf k ∧ some k ≠ v1.ownBlock) w7 x [.int .i64 kd', .string x.name, .string x.table, .string col', .slice Ac' nc' cc', .slice A1' n1' c1', .slice A2' n2' c2', .slice A3' n3' c3', .slice A4' n4' c4', .slice A5' n5' c5', .int .i64 x.prio, .int .i64 x.event, .bool x.deferred, .bool rl', .slice A6' n6' c6'] := rules_R KR.out HW6.out hg7 (fun k hk => (KO6.out.lt k hk).1) (fun k hk => (ho.lt k hk).1) HOKF.out; obtain ⟨g, c9, hv, hbg, hgs, hth, _⟩ := ho.over hr7; rw [show (rs.take i).length = i by rw [List.length_take]; have := HLM.out; omega] at hv hth; rw [tSt_sz] at hth; subst hv; have hA7 : AgAt w7 a (.slice A8 i c8) mb := HA6.out.kept (hg7.block a HA6.out.lt (fun e => by have h1 := (KO6.out.lt a e.symm).1; have h2 := HAB.out; omega)); have t7 := hA7.c0; have f7 := hA7.fr 0; have gne1 : g ≠ a := (by have := HAB.out; omega); have gne2 : a ≠ g := gne1.symm; have hK7 := hg7.block K HKs.out HKN.out; have hKg : K ≠ g := rules_Kg hat HKN.out (Nat.lt_of_lt_of_le HKs.out (bsize (w := w6) (by (repeat (first | with_reducible exact (Below.refl _ _) | with_reducible apply Below.drew | with_reducible refine balloc ?_ _))))); have HTH := put hth; have HA7 := put hA7; have HO7 := put ho; have HR7 := put hr7; have HG7 := put hg7; have HBG := put hbg; clear ho hg hat hg7 hr7 hA7 hth hbg)
      refine hJJ.out _ _ ?_ (fun hHeld2 => ?_)
      · exact hK7.trans HK6.out
      clear hJJ JJ hHeld
      have hHeld := hHeld2
      clear hHeld2
      try simp only [List.getElem_toArray, List.getElem_cons_succ, List.getElem_cons_zero, Act.put, List.setIfInBounds_toArray, List.set_cons_zero, List.set_cons_succ]
      refine wpAnyH_take (i := 8) (v := ?_) rfl (by kernel_rfl) (by kernel_rfl) (by kernel_rfl) (fun _ _ _ h => h) (Or.inl ⟨by kernel_rfl, ?_⟩) (by assumption) ?_
      rotate_left
      · intro w hSw; (try dsimp only at hSw); go_simp; try with_reducible rfl
      try simp only [List.getElem_toArray, List.getElem_cons_succ, List.getElem_cons_zero, Act.put, List.setIfInBounds_toArray, List.set_cons_zero, List.set_cons_succ]
      refine wpAnyH_take (i := 10) (v := ?_) rfl (by kernel_rfl) (by kernel_rfl) (by kernel_rfl) (fun _ _ _ h => h) (Or.inl ⟨by kernel_rfl, ?_⟩) (by assumption) ?_
      rotate_left
      · intro w hSw; (try dsimp only at hSw); go_simp; try with_reducible rfl
      try simp only [List.getElem_toArray, List.getElem_cons_succ, List.getElem_cons_zero, Act.put, List.setIfInBounds_toArray, List.set_cons_zero, List.set_cons_succ]
      refine wpAnyH_take (i := 11) (v := ?_) rfl (by kernel_rfl) (by kernel_rfl) (by kernel_rfl) (fun _ _ _ h => h) (Or.inl ⟨by kernel_rfl, ?_⟩) (by assumption) ?_
      rotate_left
      · intro w hSw; (try dsimp only at hSw); go_simp; try with_reducible rfl
      try simp only [List.getElem_toArray, List.getElem_cons_succ, List.getElem_cons_zero, Act.put, List.setIfInBounds_toArray, List.set_cons_zero, List.set_cons_succ]
      refine wpAnyH_ready (rs := [9, 12]) (by kernel_rfl) (by simp) ?_
      refine AllReadyH.cons rfl (fun JJ hJJ => ?_) ?_
      · (rw [if_pos (by rfl)]; refine wp_store_gen _ _ _ rfl g (i * 15) [.int .i64 kd', .string x.name, .string x.table, .string col', .slice Ac' nc' cc', .slice A1' n1' c1', .slice A2' n2' c2', .slice A3' n3' c3', .slice A4' n4' c4', .slice A5' n5' c5', .int .i64 x.prio, .int .i64 x.event, .bool x.deferred, .bool rl', .slice A6' n6' c6'] rfl rfl (HTH.out) (by kernel_rfl) ((tSt d).one HR7.out) ?_; intro w8 hw8; have HW8 := put hw8; clear hw8; have t8 : w8.cell? ⟨a, 0, none⟩ = some (.slice A8 i c8) := (congrArg (fun W => World.cell? W ⟨a, 0, none⟩) HW8.out).trans ((World.cell?_of_block (a := ⟨a, 0, none⟩) (World.heap_setCells_other w7 g _ _ HA7.out.lt gne2)).trans t7); have f8 : w8.frozen? ⟨a, 0, none⟩ = false := (congrArg (fun W => World.frozen? W ⟨a, 0, none⟩) HW8.out).trans ((World.frozen?_setCells g _ _ w7 _).trans f7))
        refine hJJ.out _ _ ?_ (fun hHeld2 => ?_)
        · rw [HW8.out]; exact rules_keep9 hHeld hKg
        clear hJJ JJ hHeld
        have hHeld := hHeld2
        clear hHeld2
        try simp only [List.getElem_toArray, List.getElem_cons_succ, List.getElem_cons_zero, Act.put]
        refine wpAnyH_ready (rs := [12]) (by kernel_rfl) (by simp) ?_
        refine AllReadyH.cons rfl (fun JJ hJJ => ?_) AllReadyH.nil
        go_simp
        refine hJJ.out _ _ ?_ (fun hHeld2 => ?_)
        · exact rules_keep12 hHeld hKa _
        clear hJJ JJ hHeld
        have hHeld := hHeld2
        clear hHeld2
        try simp only [List.getElem_toArray, List.getElem_cons_succ, List.getElem_cons_zero, Act.put, List.setIfInBounds_toArray, List.set_cons_zero, List.set_cons_succ]
        refine wpAnyH_done (by kernel_rfl) ?_ _
        refine NoPanic.normal ?_
        go_wp2_with fail
        go_roundg (m - (i + 1))
        case measure => omega
        case rel =>
          have hfin := rules_leafA HA7.out HO7.out HR7.out rfl (HM6.out.kept (HG7.out.block mB HM6.out.lt (fun e => by have h1 := (KO6.out.lt mB e.symm).1; have h2 := HMB1.out; omega))) (HM6'.out.kept (HG7.out.block mb HM6'.out.lt (fun e => by have h1 := (KO6.out.lt mb e.symm).1; have h2 := HMB2.out; omega))) (HB6.out.grown7 HG7.out (fun k hk => (KO6.out.lt k hk).1) HWB.out) HAB.out HMB1.out HMB2.out HNE.out.1 HNE.out.2 HOKF.out HNA.out
          rw [show (rs.take i).length = i by rw [List.length_take]; have := HLM.out; omega, ← HW8.out, ← take_one_more KX.out, HMF.out] at hfin
          exact ⟨i + 1, _, c9, by go_num, by omega, Nat.le_refl _, hfin⟩
      refine AllReadyH.cons rfl (fun JJ hJJ => ?_) AllReadyH.nil
      go_simp
      refine hJJ.out _ _ ?_ (fun hHeld2 => ?_)
      · exact rules_keep12 hHeld hKa _
      clear hJJ JJ hHeld
      have hHeld := hHeld2
      clear hHeld2
      try simp only [List.getElem_toArray, List.getElem_cons_succ, List.getElem_cons_zero, Act.put, List.setIfInBounds_toArray, List.set_cons_zero, List.set_cons_succ]
      refine wpAnyH_ready (rs := [9]) (by kernel_rfl) (by simp) ?_
      refine AllReadyH.cons rfl (fun JJ hJJ => ?_) AllReadyH.nil
      (rw [if_pos (by rfl)]; refine wp_store_gen _ _ _ rfl g (i * 15) [.int .i64 kd', .string x.name, .string x.table, .string col', .slice Ac' nc' cc', .slice A1' n1' c1', .slice A2' n2' c2', .slice A3' n3' c3', .slice A4' n4' c4', .slice A5' n5' c5', .int .i64 x.prio, .int .i64 x.event, .bool x.deferred, .bool rl', .slice A6' n6' c6'] rfl rfl (rules_there2 HTH.out gne1) (by kernel_rfl) ((tSt d).one HR7.out) ?_; intro w8 hw8; have HW8 := put hw8; clear hw8)
      refine hJJ.out _ _ ?_ (fun hHeld2 => ?_)
      · rw [HW8.out]; exact rules_keep9 hHeld hKg
      clear hJJ JJ hHeld
      have hHeld := hHeld2
      clear hHeld2
      try simp only [List.getElem_toArray, List.getElem_cons_succ, List.getElem_cons_zero, Act.put]
      refine wpAnyH_done (by kernel_rfl) ?_ _
      refine NoPanic.normal ?_
      go_wp2_with fail
      go_roundg (m - (i + 1))
      case measure => omega
      case rel =>
        have hfin := rules_leafB HA7.out HO7.out HR7.out rfl (HM6.out.kept (HG7.out.block mB HM6.out.lt (fun e => by have h1 := (KO6.out.lt mB e.symm).1; have h2 := HMB1.out; omega))) (HM6'.out.kept (HG7.out.block mb HM6'.out.lt (fun e => by have h1 := (KO6.out.lt mb e.symm).1; have h2 := HMB2.out; omega))) (HB6.out.grown7 HG7.out (fun k hk => (KO6.out.lt k hk).1) HWB.out) HAB.out HMB1.out HMB2.out HNE.out.1 HNE.out.2 HOKF.out HNA.out
        rw [show (rs.take i).length = i by rw [List.length_take]; have := HLM.out; omega, ← HW8.out, ← take_one_more KX.out, HMF.out] at hfin
        exact ⟨i + 1, _, c9, by go_num, by omega, Nat.le_refl _, hfin⟩
    · have hlz : ¬ (i : Int) < (m : Int) := by omega
      obtain rfl : m = i := by omega
      have ko := KO.out
      rw [List.take_of_length_le (by rw [HM.out.1]; exact Nat.le_refl _)] at ko
      have km := KM1.out
      rw [List.take_of_length_le (by rw [HM.out.1]; exact Nat.le_refl _)] at km
      have c1 := KA.out.c1
      have f1 := KA.out.fr 1
      have c0 := KA.out.c0
      have HO9 : Kp (Own (tSt d) 67 okf (wr.setCell ⟨a, 1, none⟩ (.map (some mB))) B1 (.slice A8 m c8) rs) := put (ko.far (p := ⟨a, 1, none⟩) (fun k hk e => by have h1 := (ko.lt k hk).1; have h2 := HAB.out; have e2 : k = a := e; omega) (fun k hk => HNA.out k hk) _)
      have HM9 : Kp (Marks (wr.setCell ⟨a, 1, none⟩ (.map (some mB))) mB m (marksOf rs mk)) := put (km.kept (Below.heap_setCell _ ⟨a, 1, none⟩ _ mB (fun e => HNE.out.1 e.symm)))
      have HA9 : Kp (AgAt (wr.setCell ⟨a, 1, none⟩ (.map (some mB))) a (.slice A8 m c8) mB) := put (KA.out.set1 mB)
      have HB9 : Kp (But (fun k => k = a) w (wr.setCell ⟨a, 1, none⟩ (.map (some mB)))) := put (But.set KB.out)
      clear ko km
      go_wp2_with fail
      refine (rlSort d okf _ B1 _ rs HO9.out (by have := HM.out; omega)).mono ?_
      rintro e w9 ⟨rfl, ho9, hg9⟩
      have HO := put ho9
      have HG := put hg9
      clear ho9 hg9
      go_wp2_with fail
      obtain ⟨e1, e2, rfl⟩ := HMBE.out
      refine bodyPost_end (results_none rfl _ _ _) rfl ⟨⟨_, rfl⟩, A8, c8, mB, HA9.out.kept (HG.out.block a HA9.out.lt (fun e => by have h1 := (HO9.out.lt a e.symm).1; have h2 := HAB.out; omega)), by omega, HO.out.lower (by omega), (HM9.out.kept (HG.out.block mB HM9.out.lt (fun e => by have h1 := (HO9.out.lt mB e.symm).1; have h2 := HMB1.out; omega))).mono (by have := HM.out; omega), HB9.out.grown7 HG.out (fun k hk => (HO9.out.lt k hk).1) (by omega)⟩
end Go.Proofs.Ytkfoknjflpklpaa.D

namespace Go.Proofs.Ytkfoknjflpklpaa.D
open Go Go.RowKit Go.Proofs.Ytkfoknjflpklpaa.Mem

theorem grown_of_below' {w w' : World} {row : Option Nat} (h : Below w.heap.size w w') : w.grownBy w' row := ⟨h.os, h.tape, h.output, h.size, fun k hk _ => h.block k hk⟩
theorem note_R {w w1 W : World} {ok : Nat → Prop} {x : Chg} {vo u2 u3 : Value} {base : Nat} (hlt : ∀ k, vo.ownBlock = some k → base ≤ k ∧ k < w.heap.size) (h1 : w.heap.size ≤ w1.heap.size) (h2 : Own tVal 55 (fun _ => False) W w1.heap.size u2 x.old) (h3 : Own tVal 55 (fun _ => False) W w1.heap.size u3 x.new) (hb : x.old.length ≤ 1000 ∧ x.new.length ≤ 1000) :
    tChg.R (fun k => (ok k ∨ w.heap.size ≤ k) ∧ some k ≠ vo.ownBlock) W x [.string x.table, .int .i64 x.id, u2, u3] := by
  have key : ∀ v xs, Own tVal 55 (fun _ => False) W w1.heap.size v xs → xs.length ≤ 1000 → Sl tVal (fun k => (ok k ∨ w.heap.size ≤ k) ∧ some k ≠ vo.ownBlock) W v xs := fun v xs h hn => h.sl (fun k hk => by
    have hk1 := (h.lt k hk).1
    refine ⟨.inr (by omega), fun e => ?_⟩
    have := (hlt k e.symm).2
    omega) (fun k hk => hk.elim) (by omega)
  exact ⟨u2, u3, rfl, key _ _ h2 hb.1, key _ _ h3 hb.2⟩

set_option maxHeartbeats 8000000 in
set_option maxRecDepth 100000 in
theorem noteCalls (ok okx : Nat → Prop) (w : World) (T n c base : Nat) (A A2 A3 : Option Addr) (k2 k3 : Nat) (xs : List Chg) (x : Chg) (hT : w.heap[T]? = some (.cells #[.slice A n c] 116 (0, 0))) (hO : Own tChg 40 ok w base (.slice A n c) xs) (hx : tChg.R okx w x [.string x.table, .int .i64 x.id, .slice A2 x.old.length k2, .slice A3 x.new.length k3])
    (b1 : x.old.length ≤ 1000) (b2 : x.new.length ≤ 1000) (hl : xs.length ≤ 1000) (hn : n = xs.length) (hok : ∀ k, ok k → k ≠ T) (hbase : base ≤ w.heap.size) :
    Calls Try.prog 27 #[.pointer (some ⟨T, 0, none⟩), .agg #[.string x.table, .int .i64 x.id, .slice A2 x.old.length k2, .slice A3 x.new.length k3]] w fun e w' => (∃ r, e = .returned r) ∧ ∃ A' c', w'.heap[T]? = some (.cells #[.slice A' (n + 1) c'] 116 (0, 0)) ∧ Own tChg 40 (fun k => ok k ∨ w.heap.size ≤ k) w' base (.slice A' (n + 1) c') (xs ++ [x]) ∧ But (fun k => k = T ∨ some k = (Value.slice A n c).ownBlock) w w' := by
  have hTs : T < w.heap.size := (Array.getElem?_eq_some_iff.1 hT).1
  have HNT : Kp (some T ≠ (Value.slice A n c).ownBlock) := put (hO.ne_block hT (by decide))
  have HT := put hT
  have HO := put hO
  have HX := put hx
  have HOK := put hok
  have HBX := put (And.intro b1 b2)
  have HLN := put (And.intro hn hl)
  have HBS := put hbase
  clear hT hO hx hok hn hl b1 b2 hbase
  go_enter Try.func27, Try.ntmps27
  go_wp2_with fail
  obtain ⟨w1, hw1⟩ : ∃ w1, w1 = w.alloc (.cells #[.string x.table, .int .i64 x.id, .slice A2 x.old.length k2, .slice A3 x.new.length k3] 40) := ⟨_, rfl⟩
  obtain ⟨B, hB⟩ : ∃ B, B = w.heap.size := ⟨_, rfl⟩
  have hB1 : Below w.heap.size w w1 := by rw [hw1]; exact balloc (Below.refl _ _) _
  have f0 : w1.cell? ⟨B, 0, none⟩ = some (.string x.table) := by rw [hw1, hB]; simp
  have f1 : w1.cell? ⟨B, 1, none⟩ = some (.int .i64 x.id) := by rw [hw1, hB]; simp
  have f2 : w1.cell? ⟨B, 2, none⟩ = some (.slice A2 x.old.length k2) := by rw [hw1, hB]; simp
  have f3 : w1.cell? ⟨B, 3, none⟩ = some (.slice A3 x.new.length k3) := by rw [hw1, hB]; simp
  have s1 : B < w1.heap.size := by rw [hw1, hB]; simp
  rw [← hw1, ← hB]
  have HB1 := put (And.intro hB1 hB)
  have h1 := (hB1.block T hTs).trans HT.out
  have t1 := cell_of_heap h1
  have H1 := put h1
  have hT1 : T < w1.heap.size := Nat.lt_of_lt_of_le hTs hB1.size
  have HO1 := put ((HO.out.below hB1).mono (ok' := fun k => ok k ∨ w.heap.size ≤ k) (fun k hk => .inl hk))
  have HX1 := put (Ty.below HX.out hB1)
  clear hw1 hB hB1 h1
  go_region_law (first | (go_simp; go_at_call 56; refine (cloneCalls okx x [.string x.table, .int .i64 x.id, .slice A2 x.old.length k2, .slice A3 x.new.length k3] w1.drew (Ty.below HX1.out (Below.refl _ _).drew) HBX.out.1 HBX.out.2).mono ?_; rintro e w6 ⟨u2, u3, rfl, ho2, ho3, _, hb6⟩; have hb : Below w1.heap.size w1 w6 := (Below.refl _ _).drew.trans hb6; have h6 := (hb.block T hT1).trans H1.out; have t6 := cell_of_heap h6; have hT6 : T < w6.heap.size := Nat.lt_of_lt_of_le hT1 hb.size; obtain ⟨V2, c2, e2, _, _⟩ := ho2.form; obtain ⟨V3, c3, e3, _, _⟩ := ho3.form; subst e2; subst e3; have HP : Kp (tChg.R (fun k => (ok k ∨ w.heap.size ≤ k) ∧ some k ≠ (Value.slice A n c).ownBlock) w6 x [.string x.table, .int .i64 x.id, .slice V2 x.old.length c2, .slice V3 x.new.length c3]) := put (note_R HO.out.lt (by have := HB1.out.1.size; exact this) ho2 ho3 HBX.out); have HB6 := put hb; have H6 := put h6; have HO6 := put (HO1.out.below hb); clear ho2 ho3 hb6 hb h6; go_wp2_with fail) | (refine step_push1 tChg base rfl _ _ 27 40 _ 72 rfl Try.underlying27 infoChg rfl (by decide) (by decide) (.slice A n c) _ xs x _ (fun k => ok k ∨ w.heap.size ≤ k) rfl rfl (by simp only [heap_alloc_get] <;> simp <;> done) (Ty.below HP.out (by (repeat (first | with_reducible exact (Below.refl _ _) | with_reducible apply Below.drew | with_reducible refine balloc ?_ _)))) (HO6.out.below (by (repeat (first | with_reducible exact (Below.refl _ _) | with_reducible apply Below.drew | with_reducible refine balloc ?_ _)))) (Nat.le_trans HBS.out (Nat.le_trans HB1.out.1.size (Nat.le_trans HB6.out.size (bsize (w := w6) (by (repeat (first | with_reducible exact (Below.refl _ _) | with_reducible apply Below.drew | with_reducible refine balloc ?_ _))))))) (by have := HLN.out; omega) ?_; intro v1 w7 ho hg hat; have HN9 := put (ne_grown hat HNT.out (Nat.lt_of_lt_of_le hT6 (bsize (w := w6) (by (repeat (first | with_reducible exact (Below.refl _ _) | with_reducible apply Below.drew | with_reducible refine balloc ?_ _)))))); clear hat; obtain ⟨V9, c9, e1, _, _⟩ := ho.form; rw [List.length_append, ← HLN.out.1, List.length_singleton] at e1; subst e1; have hg7 : w6.grownBy w7 (Value.slice A n c).ownBlock := World.grownBy.trans (grown_of_below' (by (repeat (first | with_reducible exact (Below.refl _ _) | with_reducible apply Below.drew | with_reducible refine balloc ?_ _)))) hg; have h7 := (hg7.block T hT6 HNT.out).trans H6.out; have t7 := cell_of_heap h7; have f7 := loose_of_heap h7; have H7 := put h7; have OW := put ho; have HG7 := put hg7; clear ho hg hg7 h7))
  all_goals
    go_wp2_with fail
    have z1 := HB1.out.1
    have z2 := HB6.out
    have z3 := HG7.out
    have hsz : w.heap.size ≤ w7.heap.size := Nat.le_trans z1.size (Nat.le_trans z2.size z3.size)
    refine bodyPost_end (results_none rfl _ _ _) rfl ⟨⟨_, rfl⟩, V9, c9, heap_store H7.out _, Own.far OW.out (fun k hk e => ?_) (fun k hk e => ?_) _, z3.os.trans (z2.os.trans z1.os), z3.tape.trans (z2.tape.trans z1.tape), z3.output.trans (z2.output.trans z1.output), ?_, fun k hk hne => ?_⟩
    · have e2 : k = T := e
      rw [e2] at hk
      exact HN9.out hk.symm
    · have e2 : k = T := e
      rcases hk with hk | hk
      · exact HOK.out k hk e2
      · omega
    · simpa [World.setCell] using hsz
    · exact (heap_store_other _ (fun e => hne (.inl e))).trans ((z3.block k (Nat.lt_of_lt_of_le hk (Nat.le_trans z1.size z2.size)) (fun e => hne (.inr e))).trans ((z2.block k (Nat.lt_of_lt_of_le hk z1.size)).trans (z1.block k hk)))
end Go.Proofs.Ytkfoknjflpklpaa.D
