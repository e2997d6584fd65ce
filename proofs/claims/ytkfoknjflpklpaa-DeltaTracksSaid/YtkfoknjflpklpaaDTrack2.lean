/- delta.Tracker's Note. -/
import Derived.Test.YtkfoknjflpklpaaDTrack
namespace Go.Proofs.Ytkfoknjflpklpaa.D
open Go Go.RowKit Go.Proofs.Ytkfoknjflpklpaa.Mem

theorem grown_of_below' {w w' : World} {row : Option Nat} (h : Below w.heap.size w w') : w.grownBy w' row := ⟨h.os, h.tape, h.output, h.size, fun k hk _ => h.block k hk⟩
theorem note_R {w w1 W : World} {ok : Nat → Prop} {x : Chg} {vo u2 u3 : Value} {base : Nat} (hlt : ∀ k, vo.ownBlock = some k → base ≤ k ∧ k < w.heap.size) (h1 : w.heap.size ≤ w1.heap.size) (h2 : Own tVal 55 (fun _ => False) W w1.heap.size u2 x.old) (h3 : Own tVal 55 (fun _ => False) W w1.heap.size u3 x.new) (hb : x.old.length ≤ 1000 ∧ x.new.length ≤ 1000) :
    tChg.R (fun k => (ok k ∨ w.heap.size ≤ k) ∧ some k ≠ vo.ownBlock) W x [.string x.table, .int .i64 x.id, u2, u3] := by
  have key : ∀ v xs, Own tVal 55 (fun _ => False) W w1.heap.size v xs → xs.length ≤ 1000 → Sl tVal (fun k => (ok k ∨ w.heap.size ≤ k) ∧ some k ≠ vo.ownBlock) W v xs := fun v xs h hn => h.sl (fun k hk => by
    have hk1 := (h.lt k hk).1
    refine ⟨.inr (by omega), fun e => ?_⟩
    have := (hlt k e.symm).2
    omega) (fun k hk => hk.elim) (by omega)
  exact ⟨u2, u3, rfl, key _ _ h2 hb.1, key _ _ h3 hb.2⟩

set_option maxHeartbeats 8000000 in
set_option maxRecDepth 100000 in
theorem noteCalls (ok okx : Nat → Prop) (w : World) (T n c base : Nat) (A A2 A3 : Option Addr) (k2 k3 : Nat) (xs : List Chg) (x : Chg) (hT : w.heap[T]? = some (.cells #[.slice A n c] 116 (0, 0))) (hO : Own tChg 40 ok w base (.slice A n c) xs) (hx : tChg.R okx w x [.string x.table, .int .i64 x.id, .slice A2 x.old.length k2, .slice A3 x.new.length k3])
    (b1 : x.old.length ≤ 1000) (b2 : x.new.length ≤ 1000) (hl : xs.length ≤ 1000) (hn : n = xs.length) (hok : ∀ k, ok k → k ≠ T) (hbase : base ≤ w.heap.size) :
    Calls Try.prog 27 #[.pointer (some ⟨T, 0, none⟩), .agg #[.string x.table, .int .i64 x.id, .slice A2 x.old.length k2, .slice A3 x.new.length k3]] w fun e w' => (∃ r, e = .returned r) ∧ ∃ A' c', w'.heap[T]? = some (.cells #[.slice A' (n + 1) c'] 116 (0, 0)) ∧ Own tChg 40 (fun k => ok k ∨ w.heap.size ≤ k) w' base (.slice A' (n + 1) c') (xs ++ [x]) ∧ But (fun k => k = T ∨ some k = (Value.slice A n c).ownBlock) w w' := by
  have hTs : T < w.heap.size := (Array.getElem?_eq_some_iff.1 hT).1
  have HNT : Kp (some T ≠ (Value.slice A n c).ownBlock) := put (hO.ne_block hT (by decide))
  have HT := put hT
  have HO := put hO
  have HX := put hx
  have HOK := put hok
  have HBX := put (And.intro b1 b2)
  have HLN := put (And.intro hn hl)
  have HBS := put hbase
  clear hT hO hx hok hn hl b1 b2 hbase
  go_enter Try.func27, Try.ntmps27
  go_wp2_with fail
  obtain ⟨w1, hw1⟩ : ∃ w1, w1 = w.alloc (.cells #[.string x.table, .int .i64 x.id, .slice A2 x.old.length k2, .slice A3 x.new.length k3] 40) := ⟨_, rfl⟩
  obtain ⟨B, hB⟩ : ∃ B, B = w.heap.size := ⟨_, rfl⟩
  have hB1 : Below w.heap.size w w1 := by rw [hw1]; exact balloc (Below.refl _ _) _
  have f0 : w1.cell? ⟨B, 0, none⟩ = some (.string x.table) := by rw [hw1, hB]; simp
  have f1 : w1.cell? ⟨B, 1, none⟩ = some (.int .i64 x.id) := by rw [hw1, hB]; simp
  have f2 : w1.cell? ⟨B, 2, none⟩ = some (.slice A2 x.old.length k2) := by rw [hw1, hB]; simp
  have f3 : w1.cell? ⟨B, 3, none⟩ = some (.slice A3 x.new.length k3) := by rw [hw1, hB]; simp
  have s1 : B < w1.heap.size := by rw [hw1, hB]; simp
  rw [← hw1, ← hB]
  have HB1 := put (And.intro hB1 hB)
  have h1 := (hB1.block T hTs).trans HT.out
  have t1 := cell_of_heap h1
  have H1 := put h1
  have hT1 : T < w1.heap.size := Nat.lt_of_lt_of_le hTs hB1.size
  have HO1 := put ((HO.out.below hB1).mono (ok' := fun k => ok k ∨ w.heap.size ≤ k) (fun k hk => .inl hk))
  have HX1 := put (Ty.below HX.out hB1)
  clear hw1 hB hB1 h1
  go_region_law (first | (go_simp; go_at_call 56; refine (cloneCalls okx x [.string x.table, .int .i64 x.id, .slice A2 x.old.length k2, .slice A3 x.new.length k3] w1.drew (Ty.below HX1.out (Below.refl _ _).drew) HBX.out.1 HBX.out.2).mono ?_; rintro e w6 ⟨u2, u3, rfl, ho2, ho3, _, hb6⟩; have hb : Below w1.heap.size w1 w6 := (Below.refl _ _).drew.trans hb6; have h6 := (hb.block T hT1).trans H1.out; have t6 := cell_of_heap h6; have hT6 : T < w6.heap.size := Nat.lt_of_lt_of_le hT1 hb.size; obtain ⟨V2, c2, e2, _, _⟩ := ho2.form; obtain ⟨V3, c3, e3, _, _⟩ := ho3.form; subst e2; subst e3; have HP : Kp (tChg.R (fun k => (ok k ∨ w.heap.size ≤ k) ∧ some k ≠ (Value.slice A n c).ownBlock) w6 x [.string x.table, .int .i64 x.id, .slice V2 x.old.length c2, .slice V3 x.new.length c3]) := put (note_R HO.out.lt (by have := HB1.out.1.size; exact this) ho2 ho3 HBX.out); have HB6 := put hb; have H6 := put h6; have HO6 := put (HO1.out.below hb); clear ho2 ho3 hb6 hb h6; go_wp2_with fail) | (refine step_push1 tChg base rfl _ _ 27 40 _ 72 rfl Try.underlying27 infoChg rfl (by decide) (by decide) (.slice A n c) _ xs x _ (fun k => ok k ∨ w.heap.size ≤ k) rfl rfl (by simp only [heap_alloc_get] <;> simp <;> done) (Ty.below HP.out (by (repeat (first | with_reducible exact (Below.refl _ _) | with_reducible apply Below.drew | with_reducible refine balloc ?_ _)))) (HO6.out.below (by (repeat (first | with_reducible exact (Below.refl _ _) | with_reducible apply Below.drew | with_reducible refine balloc ?_ _)))) (Nat.le_trans HBS.out (Nat.le_trans HB1.out.1.size (Nat.le_trans HB6.out.size (bsize (w := w6) (by (repeat (first | with_reducible exact (Below.refl _ _) | with_reducible apply Below.drew | with_reducible refine balloc ?_ _))))))) (by have := HLN.out; omega) ?_; intro v1 w7 ho hg hat; have HN9 := put (ne_grown hat HNT.out (Nat.lt_of_lt_of_le hT6 (bsize (w := w6) (by (repeat (first | with_reducible exact (Below.refl _ _) | with_reducible apply Below.drew | with_reducible refine balloc ?_ _)))))); clear hat; obtain ⟨V9, c9, e1, _, _⟩ := ho.form; rw [List.length_append, ← HLN.out.1, List.length_singleton] at e1; subst e1; have hg7 : w6.grownBy w7 (Value.slice A n c).ownBlock := World.grownBy.trans (grown_of_below' (by (repeat (first | with_reducible exact (Below.refl _ _) | with_reducible apply Below.drew | with_reducible refine balloc ?_ _)))) hg; have h7 := (hg7.block T hT6 HNT.out).trans H6.out; have t7 := cell_of_heap h7; have f7 := loose_of_heap h7; have H7 := put h7; have OW := put ho; have HG7 := put hg7; clear ho hg hg7 h7))
  all_goals
    go_wp2_with fail
    have z1 := HB1.out.1
    have z2 := HB6.out
    have z3 := HG7.out
    have hsz : w.heap.size ≤ w7.heap.size := Nat.le_trans z1.size (Nat.le_trans z2.size z3.size)
    refine bodyPost_end (results_none rfl _ _ _) rfl ⟨⟨_, rfl⟩, V9, c9, heap_store H7.out _, Own.far OW.out (fun k hk e => ?_) (fun k hk e => ?_) _, z3.os.trans (z2.os.trans z1.os), z3.tape.trans (z2.tape.trans z1.tape), z3.output.trans (z2.output.trans z1.output), ?_, fun k hk hne => ?_⟩
    · have e2 : k = T := e
      rw [e2] at hk
      exact HN9.out hk.symm
    · have e2 : k = T := e
      rcases hk with hk | hk
      · exact HOK.out k hk e2
      · omega
    · simpa [World.setCell] using hsz
    · exact (heap_store_other _ (fun e => hne (.inl e))).trans ((z3.block k (Nat.lt_of_lt_of_le hk (Nat.le_trans z1.size z2.size)) (fun e => hne (.inr e))).trans ((z2.block k (Nat.lt_of_lt_of_le hk z1.size)).trans (z1.block k hk)))
end Go.Proofs.Ytkfoknjflpklpaa.D
